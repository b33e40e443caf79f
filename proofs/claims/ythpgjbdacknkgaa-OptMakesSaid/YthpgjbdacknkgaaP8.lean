/- What the program makes is what the document makes. Plain. No statement of the seat in it. -/
import Derived.Test.YthpgjbdacknkgaaQ13
import Derived.Test.YthpgjbdacknkgaaK2
set_option linter.unusedVariables false
set_option linter.unusedSimpArgs false
namespace Go.Proofs.Ythpgjbdacknkgaa
open Go

theorem outN_congr {code : List E.Ins} {g g' : Nat → E.Ins → List E.Ins} (h : ∀ k (h : k < code.length), g k code[k] = g' k code[k]) : ∀ n, outN code g n = outN code g' n
  | 0 => rfl
  | n + 1 => by
    unfold outN
    rw [outN_congr h n]
    by_cases hn : n < code.length
    · rw [List.getElem?_eq_getElem hn]; simp only [h n hn]
    · rw [List.getElem?_eq_none (by omega)]
theorem moved_congr {code : List E.Ins} {g g' : Nat → E.Ins → List E.Ins} (h : ∀ k (h : k < code.length), g k code[k] = g' k code[k]) : movedS code g = movedS code g' := by
  have hf : fixN code g = fixN code g' := by
    funext x
    unfold fixN placeN
    simp only [outN_congr h]
  unfold movedS
  rw [hf, outN_congr h]
theorem reck_congr {R : Nat} {i : E.Ins} (hr : readsIn R i) {V V' : Int → Vl} (h : ∀ r : Int, 0 ≤ r → r < R → V r = V' r) : reck i V = reck i V' := by
  unfold reck
  split
  · rfl
  · split
    · rename_i h2
      obtain ⟨a, b⟩ := hr.1 h2
      rw [h _ a b]
    · split
      · rename_i h3
        obtain ⟨⟨a, b⟩, c, d⟩ := hr.2 h3
        rw [h _ a b, h _ c d]
      · rfl
theorem become_congr {R : Nat} {code : List E.Ins} (hc : CodeOk R code) {St St' : StE} (h1 : LeastS R code St) (h2 : LeastS R code St') (k : Nat) (hk : k < code.length) : becomeS St k code[k] = becomeS St' k code[k] := by
  have hin := hc.ins k hk
  rcases h1.eq h2 k with ⟨a, b⟩ | ⟨V, V', a, b, c⟩
  · unfold becomeS; rw [a, b]
  · unfold becomeS
    rw [a, b]
    simp only [reck_congr hin.reads c]
    by_cases h15 : code[k].op = 15
    · have hz := hin.zero h15
      rw [c _ hz.1 hz.2]
    · rw [if_neg (fun h : code[k].op = 15 ∧ (V code[k].a).st = 1 => h15 h.1), if_neg (fun h : code[k].op = 15 ∧ (V' code[k].a).st = 1 => h15 h.1)]
theorem prg_eq {a q : Prg} (h1 : a.code = q.code) (h2 : a.words = q.words) (h3 : a.locks = q.locks) (h4 : a.regs = q.regs) : a = q := by
  obtain ⟨c, w, l, r⟩ := a
  obtain ⟨c', w', l', r'⟩ := q
  simp only at h1 h2 h3 h4
  subst h1; subst h2; subst h3; subst h4; rfl
theorem const_eq {p a q : Prg} (hpo : PrgOk p) (h : ConstOf p a) (h' : RConstOf p q) : a = q := by
  have hrg := hpo.regs
  refine prg_eq ?_ (h.words.trans h'.words.symm) (h.locks.trans h'.locks.symm) (h.regs.trans h'.regs.symm)
  apply List.ext_getElem (h.len.trans h'.len.symm)
  intro t h1 h2
  have ht : t < p.code.length := by rw [← h.len]; exact h1
  obtain ⟨St, hF, e1⟩ := h.thr t ht h1
  obtain ⟨St', hF', e2⟩ := h'.thr t ht h2
  have hc := codeOk_of (hpo.thr _ (List.getElem_mem ht)).2 (by omega)
  rw [e1, e2]
  exact moved_congr fun k hk => become_congr hc (hF.leastS hc) hF' k hk
/-- the sets that the program found, thread by thread -/
theorem dead_sets {p b : Prg} (h : DeadOf p b) : ∃ Y : Nat → List Bits, (∀ t (h : t < p.code.length), LiveOf p.code[t] (Y t)) ∧ ∀ t (h1 : t < p.code.length) (h2 : t < b.code.length), b.code[t] = deadT (Y t) p.code[t] := by
  have hex : ∀ t, ∃ ys : List Bits, ∀ (h1 : t < p.code.length) (h2 : t < b.code.length), LiveOf p.code[t] ys ∧ b.code[t] = deadT ys p.code[t] := by
    intro t
    by_cases h1 : t < p.code.length
    · obtain ⟨ys, a, c⟩ := h.thr t h1 (by rw [h.len]; exact h1)
      exact ⟨ys, fun _ _ => ⟨a, c⟩⟩
    · exact ⟨[], fun h => absurd h h1⟩
  exact ⟨fun t => Classical.choose (hex t), fun t h1 => (Classical.choose_spec (hex t) h1 (by rw [h.len]; exact h1)).1, fun t h1 h2 => (Classical.choose_spec (hex t) h1 h2).2⟩
theorem dead_eq {p b q : Prg} {Y : Nat → List Bits} (h : DeadOf p b) (hY : ∀ t (h1 : t < p.code.length) (h2 : t < b.code.length), b.code[t] = deadT (Y t) p.code[t]) (h' : RDeadOf Y p q) : b = q := by
  refine prg_eq ?_ (h.words.trans h'.words.symm) (h.locks.trans h'.locks.symm) (h.regs.trans h'.regs.symm)
  apply List.ext_getElem (h.len.trans h'.len.symm)
  intro t h1 h2
  have ht : t < p.code.length := by rw [← h.len]; exact h1
  rw [hY t ht h1, h'.thr t ht h2]
end Go.Proofs.Ythpgjbdacknkgaa
