/- What Const makes stays when it is made again. Plain. No statement of the seat in it. -/
import Derived.Test.YthpgjbdacknkgaaP3
set_option linter.unusedVariables false
set_option linter.unusedSimpArgs false
namespace Go.Proofs.Ythpgjbdacknkgaa
open Go

theorem flow_id {i : E.Ins} (h : i.op = 14 ∨ i.op = 15) (V : Int → Vl) : flowV i V = V := by
  have h1 : reck i V = none := by
    unfold reck
    rw [if_neg (by omega), if_neg (by omega), if_neg (by omega)]
  have h2 : insWrites i = -1 := by
    unfold insWrites
    rw [if_neg (by omega), if_neg (by omega)]
  unfold flowV
  rw [h1, h2]; simp
theorem reck_op {i : E.Ins} {V : Int → Vl} {v : Vl} (h : reck i V = some v) : i.op = 1 ∨ i.op = 2 ∨ i.op = 3 ∨ i.op = 4 ∨ i.op = 5 ∨ i.op = 6 ∨ i.op = 7 := by
  unfold reck at h
  split at h
  · omega
  · split at h
    · omega
    · split at h
      · omega
      · cases h
theorem goes_next {k : Int} {i : E.Ins} (h14 : i.op ≠ 14) (h15 : i.op ≠ 15) (V : Int → Vl) : goesV k i V = [k + 1] := by
  unfold goesV insNexts
  rw [if_pos h15, if_neg h14, if_neg h15]
theorem goes_jump {k : Int} {i : E.Ins} (h14 : i.op = 14) (V : Int → Vl) : goesV k i V = [i.a] := by
  unfold goesV insNexts
  rw [if_pos (by omega), if_pos h14]
theorem fixN_not {code : List E.Ins} {g : Nat → E.Ins → List E.Ins} {k : Nat} {o : E.Ins} (h14 : o.op ≠ 14) (h15 : o.op ≠ 15) : fixN code g (k, o) = o := by
  unfold fixN
  simp only
  rw [if_neg (fun e => h14 e.1), if_neg (fun e => h15 e.1)]
theorem fixN_jump {code : List E.Ins} {g : Nat → E.Ins → List E.Ins} {k : Nat} (hk : k < code.length) {o : E.Ins} (h14 : o.op = 14) (hw : code[k].op = 14 ∨ code[k].op = 15) : fixN code g (k, o) = { o with a := placeN code g o.a.toNat } := by
  unfold fixN
  have hwas : (code[k]?.map (·.op)).getD 0 = code[k].op := by rw [List.getElem?_eq_getElem hk]; rfl
  simp only [hwas]
  rw [if_pos ⟨h14, hw⟩]
theorem fixN_zero {code : List E.Ins} {g : Nat → E.Ins → List E.Ins} {k : Nat} (hk : k < code.length) {o : E.Ins} (h15 : o.op = 15) (hw : code[k].op = 15) : fixN code g (k, o) = { o with b := placeN code g o.b.toNat } := by
  unfold fixN
  have hwas : (code[k]?.map (·.op)).getD 0 = code[k].op := by rw [List.getElem?_eq_getElem hk]; rfl
  simp only [hwas]
  rw [if_neg (by omega), if_pos ⟨h15, hw⟩]
theorem placeN_keep {code : List E.Ins} {g : Nat → E.Ins → List E.Ins} {k : Nat} (hk : k < code.length) {o : E.Ins} (h : g k code[k] = [o]) : placeN code g (k + 1) = placeN code g k + 1 := by
  rw [placeN_succ hk, h]; rfl
theorem placeN_drop {code : List E.Ins} {g : Nat → E.Ins → List E.Ins} {k : Nat} (hk : k < code.length) (h : g k code[k] = []) : placeN code g (k + 1) = placeN code g k := by
  rw [placeN_succ hk, h]; simp

section twice
variable {p : Prg} {code : List E.Ins} {St St' : StE}
theorem twice_step (hb : ∀ i ∈ code, badIns p code.length i = none) (hR : 0 ≤ p.regs) (hF : Found p.regs.toNat code St) (hF' : Found p.regs.toNat (constS St code) St') :
    ∀ (k : Nat) (h : k < code.length) (U X V : Int → Vl), nrmE p.regs.toNat V → St k = some U → St' (placeN code (fun k i => becomeS St k i) k) = some X → leE p.regs.toNat V U → leE p.regs.toNat V X →
      ∀ x ∈ goesV k code[k] V, leO p.regs.toNat (some (flowV code[k] V)) (St' (placeN code (fun k i => becomeS St k i) x.toNat)) := by
  intro k hk U X V hnV hU hX hVU hVX x hx
  have hc := codeOk_of hb hR
  have hc' := codeOk_of (constS_bad (St := St) hb hR) hR
  have hin := hc.ins k hk
  have hnU := (hF.inv hc).nrm k U hU
  have hnX := (hF'.inv hc').nrm _ X hX
  have tn : ((k : Int) + 1).toNat = k + 1 := by omega
  -- an order that is put at its place
  have put : ∀ o, becomeS St k code[k] = [o] → ∀ y ∈ goesV (placeN code (fun k i => becomeS St k i) k) (fixN code (fun k i => becomeS St k i) (k, o)) X,
      leO p.regs.toNat (some (flowV (fixN code (fun k i => becomeS St k i) (k, o)) X)) (St' y) := fun o ho y hy => by
    have h1 := moved_at (g := fun k i => becomeS St k i) hk ho
    obtain ⟨hl, hg⟩ := List.getElem?_eq_some_iff.1 h1
    have hcl := hF'.closed hc' (outN code (fun k i => becomeS St k i) k).length hl X hX
    have hg' : (constS St code)[(outN code (fun k i => becomeS St k i) k).length] = fixN code (fun k i => becomeS St k i) (k, o) := hg
    rw [hg'] at hcl
    exact hcl y hy
  have up : ∀ {F : Int → Vl} {y : Int}, leE p.regs.toNat (flowV code[k] V) F → leO p.regs.toNat (some F) (St' y) → leO p.regs.toNat (some (flowV code[k] V)) (St' y) := fun {F y} h1 h2 => by
    refine leO.trans (b := some F) (fun W hW => ?_) h2
    cases hW
    exact ⟨F, rfl, h1⟩
  rcases become_cases (St := St) k code[k] with ⟨h, _⟩ | ⟨U', hU', h⟩
  · rw [hU] at h; cases h
  rw [hU] at hU'
  cases hU'
  rcases h with ⟨h1, v, hv, hv1, h'⟩ | ⟨h15, h1, hn, h'⟩ | ⟨h15, h1, hn, h'⟩ | ⟨hnr, hz, h'⟩
  · have hop := reck_op hv
    rw [goes_next (by omega) (by omega)] at hx
    simp only [List.mem_singleton] at hx
    subst hx
    rw [tn, placeN_keep hk h']
    have hf := put _ h'
    rw [fixN_not (by simp) (by simp)] at hf
    refine up ?_ (hf _ (by rw [goes_next (by simp) (by simp)]; simp))
    obtain ⟨v', hv'⟩ := Option.isSome_iff_exists.1 ((reck_some code[k] V U).trans (by rw [hv]; rfl))
    have e := nrm_one (reck_mono hin.reads hnV hnU hVU hv' hv) hv1
    subst e
    have e1 : flowV code[k] V = updE V code[k].a v' := by unfold flowV; rw [hv']
    have e2 : flowV ⟨1, code[k].a, v'.n, 0⟩ X = updE X code[k].a ⟨1, v'.n⟩ := by unfold flowV reck; simp
    rw [e1, e2]
    refine leE_upd hVX (.inl ?_)
    obtain ⟨a, b⟩ := v'
    simp only at hv1
    subst hv1; rfl
  · have hz := hin.zero h15
    have e := nrm_one (hVU _ hz.1 hz.2) h1
    unfold goesV at hx
    rw [if_neg (by omega), e] at hx
    have h2 : ¬ (U code[k].a).st = 2 := by omega
    simp [h1, hn, h2] at hx
    subst hx
    rw [tn, placeN_drop hk h', flow_id (.inr h15), hX]
    intro W hW
    cases hW
    exact ⟨X, rfl, hVX⟩
  · have hz := hin.zero h15
    have e := nrm_one (hVU _ hz.1 hz.2) h1
    unfold goesV at hx
    rw [if_neg (by omega), e] at hx
    have h2 : ¬ (U code[k].a).st = 2 := by omega
    simp [h1, hn, h2] at hx
    subst hx
    have hf := put _ h'
    rw [fixN_jump hk rfl (.inr h15)] at hf
    refine up ?_ (hf _ (by rw [goes_jump rfl]; simp))
    rw [flow_id (.inr h15), flow_id (.inl rfl)]
    exact hVX
  · have hf := put _ h'
    have hm := goes_mono hin hnV hnX hVX hx
    have hfm := flow_mono hin hnV hnX hVX
    by_cases h14 : code[k].op = 14
    · rw [goes_jump h14] at hx
      simp only [List.mem_singleton] at hx
      subst hx
      rw [fixN_jump hk h14 (.inl h14)] at hf
      have h14' : ({ code[k] with a := placeN code (fun k i => becomeS St k i) code[k].a.toNat } : E.Ins).op = 14 := h14
      refine up ?_ (hf _ (by rw [goes_jump h14']; simp))
      rw [flow_id (.inl h14), flow_id (.inl h14')]
      exact hVX
    · by_cases h15 : code[k].op = 15
      · rw [fixN_zero hk h15 h15] at hf
        refine up (F := X) (by rw [flow_id (.inr h15)]; exact hVX) ?_
        have h15' : ({ code[k] with b := placeN code (fun k i => becomeS St k i) code[k].b.toNat } : E.Ins).op = 15 := h15
        rw [flow_id (.inr h15')] at hf
        apply hf
        unfold goesV at hm ⊢
        rw [if_neg (by omega)] at hm
        simp only
        rw [if_neg (by omega)]
        rcases List.mem_append.1 hm with h1 | h1
        · split at h1
          · rename_i h2
            simp only [List.mem_singleton] at h1
            subst h1
            rw [tn, placeN_keep hk h', if_pos h2]; simp
          · cases h1
        · split at h1
          · rename_i h2
            simp only [List.mem_singleton] at h1
            subst h1
            rw [if_pos h2]; simp
          · cases h1
      · rw [goes_next h14 h15] at hx
        simp only [List.mem_singleton] at hx
        subst hx
        rw [fixN_not h14 h15] at hf
        rw [tn, placeN_keep hk h']
        exact up hfm (hf _ (by rw [goes_next h14 h15]; simp))
theorem twice_le (hb : ∀ i ∈ code, badIns p code.length i = none) (hR : 0 ≤ p.regs) (hF : Found p.regs.toNat code St) (hF' : Found p.regs.toNat (constS St code) St') (k : Nat) :
    leO p.regs.toNat (St k) (St' (placeN code (fun k i => becomeS St k i) k)) := by
  have := hF.least (codeOk_of hb hR) (W := fun k => St' (placeN code (fun k i => becomeS St k i) k.toNat)) (hF'.zero (codeOk_of (constS_bad (St := St) hb hR) hR)) (twice_step hb hR hF hF') k
  simpa using this
end twice
theorem become_keep {St : StE} {k : Int} {i : E.Ins} {V : Int → Vl} (h : St k = some V) (h1 : i.op = 1 ∨ ∀ v, reck i V = some v → v.st ≠ 1) (h2 : i.op = 15 → (V i.a).st ≠ 1) : becomeS St k i = [i] := by
  rcases become_cases (St := St) k i with ⟨h', _⟩ | ⟨V', hV', ⟨h3, v, hv, h4, _⟩ | ⟨h3, h4, _, _⟩ | ⟨h3, h4, _, _⟩ | ⟨_, _, h⟩⟩
  · rw [h] at h'; cases h'
  · rw [h] at hV'; cases hV'
    rcases h1 with h1 | h1
    · exact absurd h1 h3
    · exact absurd h4 (h1 v hv)
  · rw [h] at hV'; cases hV'; exact absurd h4 (h2 h3)
  · rw [h] at hV'; cases hV'; exact absurd h4 (h2 h3)
  · exact h
theorem moved_id {code : List E.Ins} {g : Nat → E.Ins → List E.Ins} {R : Nat} (hc : CodeOk R code) (h : ∀ k (hk : k < code.length), g k code[k] = [code[k]]) : movedS code g = code := by
  have hl : ∀ n, n ≤ code.length → (outN code g n).length = n := by
    intro n
    induction n with
    | zero => intro _; rfl
    | succ n ih =>
      intro hn
      rw [outN_succ code g (by omega), List.length_append, List.length_map, ih (by omega), h n (by omega)]; rfl
  apply List.ext_getElem?
  intro j
  by_cases hj : j < code.length
  · have h1 := moved_at (g := g) hj (h j hj)
    rw [hl j (by omega)] at h1
    rw [h1, List.getElem?_eq_getElem hj]
    congr 1
    by_cases h14 : code[j].op = 14
    · rw [fixN_jump hj h14 (.inl h14)]
      have hr := hc.jump j hj h14
      have : placeN code g code[j].a.toNat = code[j].a := by
        unfold placeN; rw [hl _ (by omega)]; omega
      rw [this]
    · by_cases h15 : code[j].op = 15
      · rw [fixN_zero hj h15 h15]
        have hr := hc.zero j hj h15
        have : placeN code g code[j].b.toNat = code[j].b := by
          unfold placeN; rw [hl _ (by omega)]; omega
        rw [this]
      · exact fixN_not h14 h15
  · rw [List.getElem?_eq_none (by unfold movedS; rw [List.length_map, hl _ (Nat.le_refl _)]; omega), List.getElem?_eq_none (by omega)]
/-- a second time nothing changes -/
theorem constS_twice {p : Prg} {code : List E.Ins} {St St' : StE} (hb : ∀ i ∈ code, badIns p code.length i = none) (hR : 0 ≤ p.regs) (hF : Found p.regs.toNat code St) (hF' : Found p.regs.toNat (constS St code) St') :
    constS St' (constS St code) = constS St code := by
  have hc := codeOk_of hb hR
  have hc' := codeOk_of (constS_bad (St := St) hb hR) hR
  refine moved_id hc' fun j hj => ?_
  have hjl : j < (outN code (fun k i => becomeS St k i) code.length).length := by
    have : (constS St code).length = (outN code (fun k i => becomeS St k i) code.length).length := by unfold constS movedS; rw [List.length_map]
    omega
  obtain ⟨k, hk, o, _, ho, hkj⟩ := place_of (g := fun k i => becomeS St k i) (fun k h => become_small _ _) code.length (Nat.le_refl _) j hjl
  have hat : (constS St code)[j] = fixN code (fun k i => becomeS St k i) (k, o) := by
    have := moved_at (g := fun k i => becomeS St k i) hk ho
    rw [hkj] at this
    exact (List.getElem?_eq_some_iff.1 this).2
  have hpl : placeN code (fun k i => becomeS St k i) k = j := by unfold placeN; rw [hkj]
  have hle := twice_le hb hR hF hF' k
  rw [hpl] at hle
  have hin := hc.ins k hk
  rw [hat]
  rcases become_cases (St := St) k code[k] with ⟨_, h'⟩ | ⟨U, hU, h⟩
  · rw [h'] at ho; cases ho
  obtain ⟨X, hX, hUX⟩ := hle U hU
  have hnU := (hF.inv hc).nrm k U hU
  have hnX := (hF'.inv hc').nrm _ X hX
  rcases h with ⟨h1, v, hv, hv1, h'⟩ | ⟨h15, h1, hn, h'⟩ | ⟨h15, h1, hn, h'⟩ | ⟨hnr, hz, h'⟩ <;> rw [h'] at ho
  · cases ho
    rw [fixN_not (by simp) (by simp)]
    exact become_keep hX (.inl rfl) (by simp)
  · cases ho
  · cases ho
    rw [fixN_jump hk rfl (.inr h15)]
    exact become_keep hX (.inr fun v hv => by have := reck_op hv; simp at this) (by simp)
  · cases ho
    by_cases h14 : code[k].op = 14
    · rw [fixN_jump hk h14 (.inl h14)]
      exact become_keep hX (.inr fun v hv => by have := reck_op hv; simp only at this; omega) (fun e => by simp only at e; omega)
    · by_cases h15 : code[k].op = 15
      · rw [fixN_zero hk h15 h15]
        refine become_keep hX (.inr fun v hv => by have := reck_op hv; simp only at this; omega) (fun _ => ?_)
        simp only
        have hzz := hin.zero h15
        have h2 : (U code[k].a).st = 2 := by
          rcases hnU _ hzz.1 hzz.2 with h | h
          · exact absurd h (hz h15)
          · rw [h]
        rw [nrm_two (hnX _ hzz.1 hzz.2) (hUX _ hzz.1 hzz.2) h2]; decide
      · rw [fixN_not h14 h15]
        refine become_keep hX ?_ (fun e => absurd e h15)
        rcases hnr with h | h
        · exact .inl h
        · refine .inr fun w hw => ?_
          obtain ⟨v, hv⟩ := Option.isSome_iff_exists.1 ((reck_some code[k] U X).trans (by rw [hw]; rfl))
          have h2 : v.st = 2 := by
            rcases nrm_reck hin.reads hnU hv with h3 | h3
            · exact absurd h3 (h v hv)
            · rw [h3]
          rw [nrm_two (nrm_reck hin.reads hnX hw) (reck_mono hin.reads hnU hnX hUX hv hw) h2]; decide
end Go.Proofs.Ythpgjbdacknkgaa
