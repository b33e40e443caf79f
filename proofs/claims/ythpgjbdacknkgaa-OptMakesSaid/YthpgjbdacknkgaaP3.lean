/- A program that Check lets go has orders that opt can go through; what Const makes is one again, and stays. Plain. No statement of the seat in it. -/
import Derived.Test.YthpgjbdacknkgaaP2
import Derived.Test.YthpgjbdacknkgaaO8
set_option linter.unusedVariables false
set_option linter.unusedSimpArgs false
namespace Go.Proofs.Ythpgjbdacknkgaa
open Go

theorem shpOf_mem {op : Int} {x : List UInt8 × List UInt8} (h : shpOf op = some x) : (op, x.1, x.2) ∈ shp := by
  unfold shpOf at h
  cases hf : shp.find? fun p => p.1 == op with
  | none => rw [hf] at h; cases h
  | some y =>
    rw [hf] at h
    have h1 := List.mem_of_find?_eq_some hf
    have h2 := List.find?_some hf
    simp only [Option.map_some, Option.some.injEq] at h
    have h3 : y.1 = op := by simpa using h2
    rw [← h, ← h3]; exact h1
theorem badIns_none {p : Prg} {size : Nat} {i : E.Ins} (h : badIns p size i = none) : ∃ x, shpOf i.op = some x ∧ okNum p size x.2 0 i.a = true ∧ okNum p size x.2 1 i.b = true ∧ okNum p size x.2 2 i.c = true := by
  unfold badIns at h
  split at h
  · cases h
  · rename_i x hx
    split at h
    · rename_i hb
      simp only [Bool.and_eq_true] at hb
      exact ⟨x, hx, hb.1.1, hb.1.2, hb.2⟩
    · cases h
/-- an order's numbers, kind by kind -/
theorem badIns_kinds {p : Prg} {size : Nat} {i : E.Ins} (h : badIns p size i = none) (hR : 0 ≤ p.regs) :
    (i.op = 1 ∧ (0 ≤ i.a ∧ i.a < p.regs) ∧ i.c = 0) ∨ (i.op = 2 ∧ (0 ≤ i.a ∧ i.a < p.regs) ∧ (0 ≤ i.b ∧ i.b < p.regs) ∧ i.c = 0) ∨
    ((i.op = 3 ∨ i.op = 4 ∨ i.op = 5 ∨ i.op = 6 ∨ i.op = 7) ∧ (0 ≤ i.a ∧ i.a < p.regs) ∧ (0 ≤ i.b ∧ i.b < p.regs) ∧ (0 ≤ i.c ∧ i.c < p.regs)) ∨
    ((i.op = 8 ∨ i.op = 10) ∧ (0 ≤ i.a ∧ i.a < p.regs)) ∨ (i.op = 9 ∨ i.op = 11 ∨ i.op = 12 ∨ i.op = 16 ∨ i.op = 17 ∨ i.op = 18) ∨ (i.op = 13 ∧ (0 ≤ i.b ∧ i.b < p.regs)) ∨
    (i.op = 14 ∧ (0 ≤ i.a ∧ i.a ≤ size) ∧ i.b = 0 ∧ i.c = 0) ∨ (i.op = 15 ∧ (0 ≤ i.a ∧ i.a < p.regs) ∧ (0 ≤ i.b ∧ i.b ≤ size) ∧ i.c = 0) := by
  obtain ⟨x, hx, h0, h1, h2⟩ := badIns_none h
  have hm := shpOf_mem hx
  obtain ⟨n, ks⟩ := x
  obtain ⟨op, a, b, c⟩ := i
  simp only at hm h0 h1 h2 ⊢
  simp only [shp, List.mem_cons, List.not_mem_nil, or_false, Prod.mk.injEq] at hm
  rcases hm with ⟨rfl, _, rfl⟩ | ⟨rfl, _, rfl⟩ | ⟨rfl, _, rfl⟩ | ⟨rfl, _, rfl⟩ | ⟨rfl, _, rfl⟩ | ⟨rfl, _, rfl⟩ | ⟨rfl, _, rfl⟩ | ⟨rfl, _, rfl⟩ | ⟨rfl, _, rfl⟩ | ⟨rfl, _, rfl⟩ | ⟨rfl, _, rfl⟩ | ⟨rfl, _, rfl⟩ | ⟨rfl, _, rfl⟩ | ⟨rfl, _, rfl⟩ | ⟨rfl, _, rfl⟩ | ⟨rfl, _, rfl⟩ | ⟨rfl, _, rfl⟩ | ⟨rfl, _, rfl⟩ <;>
    simp [okNum, fitB] at h0 h1 h2 <;> simp <;> omega
theorem insIn_of {p : Prg} {size : Nat} {i : E.Ins} (h : badIns p size i = none) (hR : 0 ≤ p.regs) : InsIn p.regs.toNat i := by
  have hk := badIns_kinds h hR
  have hr : ((p.regs.toNat : Nat) : Int) = p.regs := Int.toNat_of_nonneg hR
  refine ⟨⟨fun e => ?_, fun e => ?_⟩, fun e => ?_, fun e => ?_, fun e => ?_⟩
  · omega
  · omega
  · unfold reck at e
    split at e
    · omega
    · split at e
      · omega
      · split at e
        · omega
        · cases e
  · unfold insWrites at e ⊢
    split at e
    · rename_i h; rw [if_pos h]; omega
    · rename_i h; rw [if_neg h]
      split at e
      · rename_i h; rw [if_pos h]; omega
      · rename_i h; rw [if_neg h]; omega
  · omega
theorem codeOk_of {p : Prg} {code : List E.Ins} (h : ∀ i ∈ code, badIns p code.length i = none) (hR : 0 ≤ p.regs) : CodeOk p.regs.toNat code :=
  ⟨fun k hk => insIn_of (h _ (List.getElem_mem hk)) hR, fun k hk e => by have := badIns_kinds (h _ (List.getElem_mem hk)) hR; omega, fun k hk e => by have := badIns_kinds (h _ (List.getElem_mem hk)) hR; omega⟩

/-! Check's answer -/
theorem chkIns_none {p : Prg} {size t : Nat} : ∀ (l : List E.Ins) (j : Nat), chkIns p size t j l = none ↔ ∀ i ∈ l, badIns p size i = none
  | [], j => by simp [chkIns]
  | i :: l, j => by
    unfold chkIns
    cases h : badIns p size i with
    | some c => simp [h]
    | none => simp [h, chkIns_none l (j + 1)]
theorem badIns_pos {p : Prg} {size : Nat} {i : E.Ins} {c : Int} (h : badIns p size i = some c) : c ≠ 0 := by
  unfold badIns at h
  split at h
  · cases h; decide
  · split at h
    · cases h
    · cases h; decide
theorem chkIns_pos {p : Prg} {size t : Nat} : ∀ (l : List E.Ins) (j : Nat) (f : Flt), chkIns p size t j l = some f → f.code ≠ 0
  | [], j, f, h => by simp [chkIns] at h
  | i :: l, j, f, h => by
    unfold chkIns at h
    split at h
    · rename_i c hc; cases h; exact badIns_pos hc
    · exact chkIns_pos l (j + 1) f h
def ThrOk (p : Prg) (c : List E.Ins) : Prop := c.length ≤ 400 ∧ ∀ i ∈ c, badIns p c.length i = none
theorem chkThr_ok {p : Prg} : ∀ (l : List (List E.Ins)) (t : Nat), (chkThr p t l).code = 0 ↔ ∀ c ∈ l, ThrOk p c
  | [], t => by simp [chkThr]
  | c :: l, t => by
    unfold chkThr
    by_cases h : c.length > 400
    · rw [if_pos h]; simp [ThrOk]; omega
    · rw [if_neg h]
      cases hc : chkIns p c.length t 0 c with
      | some f =>
        simp only [List.mem_cons, forall_eq_or_imp]
        refine ⟨fun e => absurd e (chkIns_pos _ _ _ hc), fun e => ?_⟩
        have := (chkIns_none (p := p) (size := c.length) (t := t) c 0).2 e.1.2
        rw [this] at hc; cases hc
      | none =>
        simp only [List.mem_cons, forall_eq_or_imp]
        rw [chkThr_ok l (t + 1)]
        exact ⟨fun e => ⟨⟨by omega, (chkIns_none c 0).1 hc⟩, e⟩, fun e => e.2⟩
theorem chkThr_zero {p : Prg} : ∀ (l : List (List E.Ins)) (t : Nat), (chkThr p t l).code = 0 → chkThr p t l = ⟨0, 0, 0⟩
  | [], t, _ => rfl
  | c :: l, t, h => by
    unfold chkThr at h ⊢
    by_cases h1 : c.length > 400
    · rw [if_pos h1] at h; simp at h
    · rw [if_neg h1] at h ⊢
      cases hc : chkIns p c.length t 0 c with
      | some f => rw [hc] at h; exact absurd h (chkIns_pos _ _ _ hc)
      | none => rw [hc] at h; exact chkThr_zero l (t + 1) h
structure PrgOk (p : Prg) : Prop where
  one : 1 ≤ p.code.length
  four : p.code.length ≤ 4
  words : p.words.length ≤ 64
  locks : 0 ≤ p.locks ∧ p.locks ≤ 4
  regs : 1 ≤ p.regs ∧ p.regs ≤ 200
  thr : ∀ c ∈ p.code, ThrOk p c
theorem chk_ok {p : Prg} : (chk p).code = 0 ↔ PrgOk p := by
  unfold chk
  constructor
  · intro h
    split at h
    · simp at h
    · split at h
      · simp at h
      · exact ⟨by omega, by omega, by omega, by omega, by omega, (chkThr_ok _ _).1 h⟩
  · intro h
    obtain ⟨a, b, c, d, e, f⟩ := h
    rw [if_neg (by omega), if_neg (by omega)]
    exact (chkThr_ok _ _).2 f
theorem chk_zero {p : Prg} (h : (chk p).code = 0) : chk p = ⟨0, 0, 0⟩ := by
  unfold chk at h ⊢
  split at h
  · simp at h
  · rename_i h1
    split at h
    · simp at h
    · rename_i h2; rw [if_neg h1, if_neg h2]; exact chkThr_zero _ _ h
theorem badIns_same {p : Prg} {s s' : Nat} {i : E.Ins} (h : badIns p s i = none) (h14 : i.op ≠ 14) (h15 : i.op ≠ 15) : badIns p s' i = none := by
  obtain ⟨x, hx, h0, h1, h2⟩ := badIns_none h
  rw [badIns_some hx]
  have hm := shpOf_mem hx
  have key : ∀ k n, okNum p s' x.2 k n = okNum p s x.2 k n := fun k n => by
    unfold okNum
    cases hk : x.2[k]? with
    | none => rfl
    | some c =>
      have hc : c ≠ 99 := by
        have hc := List.mem_of_getElem? hk
        obtain ⟨n', ks⟩ := x
        simp only at hm hc
        simp only [shp, List.mem_cons, List.not_mem_nil, or_false, Prod.mk.injEq] at hm
        rcases hm with ⟨e, _, rfl⟩ | ⟨e, _, rfl⟩ | ⟨e, _, rfl⟩ | ⟨e, _, rfl⟩ | ⟨e, _, rfl⟩ | ⟨e, _, rfl⟩ | ⟨e, _, rfl⟩ | ⟨e, _, rfl⟩ | ⟨e, _, rfl⟩ | ⟨e, _, rfl⟩ | ⟨e, _, rfl⟩ | ⟨e, _, rfl⟩ | ⟨e, _, rfl⟩ | ⟨e, _, rfl⟩ | ⟨e, _, rfl⟩ | ⟨e, _, rfl⟩ | ⟨e, _, rfl⟩ | ⟨e, _, rfl⟩ <;>
          first
          | exact absurd e h14
          | exact absurd e h15
          | (simp at hc; done)
          | (simp at hc; rcases hc with rfl | rfl | rfl <;> decide)
          | (simp at hc; rcases hc with rfl | rfl <;> decide)
          | (simp at hc; subst hc; decide)
      have hc' : ((c.toNat : Nat) : Int) ≠ 99 := fun e => hc (UInt8.toNat_inj.1 (by
        show c.toNat = 99
        omega))
      simp only [fitB]
      rw [if_neg hc', if_neg hc']
  rw [key, key, key, h0, h1, h2]; rfl
theorem bad_const {p : Prg} {s : Nat} {a n : Int} (h : 0 ≤ a ∧ a < p.regs) : badIns p s ⟨1, a, n, 0⟩ = none := by
  rw [badIns_some (x := ([99, 111, 110, 115, 116], [114, 110])) rfl]
  simp [okNum, fitB, h.1, h.2]
theorem bad_jump {p : Prg} {s : Nat} {a : Int} (h : 0 ≤ a ∧ a ≤ s) : badIns p s ⟨14, a, 0, 0⟩ = none := by
  rw [badIns_some (x := ([106, 117, 109, 112], [99])) rfl]
  have : a < s + 1 := by omega
  simp [okNum, fitB, h.1, this]
theorem bad_zero {p : Prg} {s : Nat} {a b : Int} (h : 0 ≤ a ∧ a < p.regs) (hb : 0 ≤ b ∧ b ≤ s) : badIns p s ⟨15, a, b, 0⟩ = none := by
  rw [badIns_some (x := ([122, 101, 114, 111], [114, 99])) rfl]
  have : b < s + 1 := by omega
  simp [okNum, fitB, h.1, h.2, hb.1, this]

/-! where orders are put -/
section moved
variable {code : List E.Ins} {g : Nat → E.Ins → List E.Ins}
theorem outN_pre : ∀ {m n : Nat}, m ≤ n → ∃ l, outN code g n = outN code g m ++ l
  | m, 0, h => ⟨[], by have : m = 0 := by omega
                       subst this; simp⟩
  | m, n + 1, h => by
    by_cases e : m = n + 1
    · subst e; exact ⟨[], by simp⟩
    · obtain ⟨l, hl⟩ := outN_pre (m := m) (n := n) (by omega)
      rw [outN, hl]
      exact ⟨_, List.append_assoc _ _ _⟩
theorem placeN_le {m n : Nat} (h : m ≤ n) : placeN code g m ≤ placeN code g n := by
  obtain ⟨l, hl⟩ := outN_pre (code := code) (g := g) h
  unfold placeN; rw [hl, List.length_append]; omega
theorem placeN_nonneg (n : Nat) : 0 ≤ placeN code g n := Int.natCast_nonneg _
theorem placeN_succ {n : Nat} (h : n < code.length) : placeN code g (n + 1) = placeN code g n + (g n code[n]).length := by
  unfold placeN; rw [outN_succ code g h, List.length_append, List.length_map]; omega
theorem moved_len : ((movedS code g).length : Int) = placeN code g code.length := by unfold movedS placeN; rw [List.length_map]
theorem moved_at {k : Nat} (h : k < code.length) {o : E.Ins} (ho : g k code[k] = [o]) : (movedS code g)[(outN code g k).length]? = some (fixN code g (k, o)) := by
  obtain ⟨l, hl⟩ := outN_pre (code := code) (g := g) (m := k + 1) (n := code.length) (by omega)
  unfold movedS
  rw [hl, outN_succ code g h, ho, List.getElem?_map]
  simp
theorem moved_mem {x : E.Ins} (h : x ∈ movedS code g) : ∃ k, ∃ hk : k < code.length, ∃ o ∈ g k code[k], x = fixN code g (k, o) := by
  unfold movedS at h
  obtain ⟨y, hy, rfl⟩ := List.mem_map.1 h
  obtain ⟨hk, ho⟩ := outN_mem _ (Nat.le_refl _) y hy
  exact ⟨y.1, hk, y.2, ho, rfl⟩
/-- each place is some kept order's -/
theorem place_of (hg : ∀ k (h : k < code.length), (g k code[k]).length ≤ 1) : ∀ n, n ≤ code.length → ∀ j, j < (outN code g n).length → ∃ k, ∃ hk : k < code.length, ∃ o, k < n ∧ g k code[k] = [o] ∧ (outN code g k).length = j
  | 0, _, j, hj => by simp [outN] at hj
  | n + 1, hn, j, hj => by
    by_cases h : j < (outN code g n).length
    · obtain ⟨k, hk, o, h1, h2, h3⟩ := place_of hg n (by omega) j h
      exact ⟨k, hk, o, by omega, h2, h3⟩
    · rw [outN_succ code g (by omega), List.length_append, List.length_map] at hj
      have hl := hg n (by omega)
      match hh : g n code[n], hl, hj with
      | [], _, hj => simp at hj; omega
      | [o], _, hj => exact ⟨n, by omega, o, by omega, hh, by simp at hj; omega⟩
      | _ :: _ :: _, hl, _ => simp at hl
end moved

/-! what Const makes of a thread -/
section become
variable {St : StE}
theorem become_cases (k : Int) (i : E.Ins) : (St k = none ∧ becomeS St k i = []) ∨ ∃ V, St k = some V ∧
    ((i.op ≠ 1 ∧ ∃ v, reck i V = some v ∧ v.st = 1 ∧ becomeS St k i = [⟨1, i.a, v.n, 0⟩]) ∨ (i.op = 15 ∧ (V i.a).st = 1 ∧ (V i.a).n ≠ 0 ∧ becomeS St k i = []) ∨
      (i.op = 15 ∧ (V i.a).st = 1 ∧ (V i.a).n = 0 ∧ becomeS St k i = [⟨14, i.b, 0, 0⟩]) ∨ ((i.op = 1 ∨ ∀ v, reck i V = some v → v.st ≠ 1) ∧ (i.op = 15 → (V i.a).st ≠ 1) ∧ becomeS St k i = [i])) := by
  unfold becomeS
  cases h : St k with
  | none => exact .inl ⟨rfl, rfl⟩
  | some V =>
    refine .inr ⟨V, rfl, ?_⟩
    simp only
    by_cases h1 : i.op ≠ 1 ∧ (reck i V).isSome = true ∧ ((reck i V).getD ⟨0, 0⟩).st = 1
    · left
      rw [if_pos h1]
      obtain ⟨a, b, c⟩ := h1
      cases hr : reck i V with
      | none => rw [hr] at b; cases b
      | some v => rw [hr] at c; exact ⟨a, v, rfl, c, rfl⟩
    · right
      rw [if_neg h1]
      by_cases h2 : i.op = 15 ∧ (V i.a).st = 1
      · rw [if_pos h2]
        by_cases h3 : (V i.a).n ≠ 0
        · rw [if_pos h3]; exact .inl ⟨h2.1, h2.2, h3, rfl⟩
        · rw [if_neg h3]; exact .inr (.inl ⟨h2.1, h2.2, Classical.not_not.1 h3, rfl⟩)
      · rw [if_neg h2]
        refine .inr (.inr ⟨?_, fun e h => h2 ⟨e, h⟩, rfl⟩)
        by_cases e : i.op = 1
        · exact .inl e
        · refine .inr fun v hv hs => h1 ⟨e, by rw [hv]; rfl, by rw [hv]; exact hs⟩
theorem become_small (k : Int) (i : E.Ins) : (becomeS St k i).length ≤ 1 := by
  rcases become_cases (St := St) k i with ⟨_, h⟩ | ⟨V, _, ⟨_, v, _, _, h⟩ | ⟨_, _, _, h⟩ | ⟨_, _, _, h⟩ | ⟨_, _, h⟩⟩ <;> rw [h] <;> simp
theorem become_good {R : Nat} {code : List E.Ins} (hc : CodeOk R code) : GoodG code (fun k i => becomeS St k i) := by
  refine ⟨fun k h => Nat.le_trans (become_small _ _) (by decide), fun k h o ho h1 h2 => ?_, fun k h o ho h1 h2 => ?_⟩
  · rcases become_cases (St := St) k code[k] with ⟨_, h'⟩ | ⟨V, _, ⟨_, v, _, _, h'⟩ | ⟨_, _, _, h'⟩ | ⟨h3, _, _, h'⟩ | ⟨_, _, h'⟩⟩ <;> rw [h'] at ho <;> simp only [List.mem_singleton, List.not_mem_nil] at ho
    · subst ho; simp at h1
    · subst ho; exact hc.zero k h h3
    · subst ho; exact hc.jump k h h1
  · rcases become_cases (St := St) k code[k] with ⟨_, h'⟩ | ⟨V, _, ⟨_, v, _, _, h'⟩ | ⟨_, _, _, h'⟩ | ⟨h3, _, _, h'⟩ | ⟨_, _, h'⟩⟩ <;> rw [h'] at ho <;> simp only [List.mem_singleton, List.not_mem_nil] at ho
    · subst ho; simp at h1
    · subst ho; simp at h1
    · subst ho; exact hc.zero k h h1
end become
/-- the orders that are made of some -/
def constS (St : StE) (code : List E.Ins) : List E.Ins := movedS code (fun k i => becomeS St k i)
theorem outN_short {code : List E.Ins} {g : Nat → E.Ins → List E.Ins} (hg : ∀ k (h : k < code.length), (g k code[k]).length ≤ 1) : ∀ n, n ≤ code.length → (outN code g n).length ≤ n
  | 0, _ => Nat.le_refl _
  | n + 1, h => by
    have h1 := outN_short hg n (by omega)
    have h2 := hg n (by omega)
    rw [outN_succ code g (by omega), List.length_append, List.length_map]; omega
theorem moved_short {code : List E.Ins} {g : Nat → E.Ins → List E.Ins} (hg : ∀ k (h : k < code.length), (g k code[k]).length ≤ 1) : (movedS code g).length ≤ code.length := by
  unfold movedS; rw [List.length_map]; exact outN_short hg _ (Nat.le_refl _)
theorem constS_short (St : StE) (code : List E.Ins) : (constS St code).length ≤ code.length := moved_short fun k h => become_small _ _
theorem constS_bad {p : Prg} {code : List E.Ins} {St : StE} (h : ∀ i ∈ code, badIns p code.length i = none) (hR : 0 ≤ p.regs) : ∀ i ∈ constS St code, badIns p (constS St code).length i = none := by
  intro x hx
  have hlen : ((constS St code).length : Int) = placeN code (fun k i => becomeS St k i) code.length := moved_len
  obtain ⟨k, hk, o, ho, rfl⟩ := moved_mem hx
  have hi := h _ (List.getElem_mem hk)
  have hin := insIn_of hi hR
  have hkk := badIns_kinds hi hR
  have hr : ((p.regs.toNat : Nat) : Int) = p.regs := Int.toNat_of_nonneg hR
  have hpl : ∀ b : Int, 0 ≤ b → b ≤ code.length → 0 ≤ placeN code (fun k i => becomeS St k i) b.toNat ∧ placeN code (fun k i => becomeS St k i) b.toNat ≤ (constS St code).length := fun b h0 h1 =>
    ⟨placeN_nonneg _, by rw [hlen]; exact placeN_le (by omega)⟩
  have hwas : (code[k]?.map (·.op)).getD 0 = code[k].op := by rw [List.getElem?_eq_getElem hk]; rfl
  rcases become_cases (St := St) k code[k] with ⟨_, h'⟩ | ⟨V, _, ⟨h1, v, hv, _, h'⟩ | ⟨_, _, _, h'⟩ | ⟨h3, _, _, h'⟩ | ⟨_, _, h'⟩⟩ <;> rw [h'] at ho <;> simp only [List.mem_singleton, List.not_mem_nil] at ho
  · subst ho
    unfold fixN
    simp only [hwas]
    rw [if_neg (by simp), if_neg (by simp)]
    have := hin.writes (by rw [← reck_some code[k] V]; rw [hv]; rfl)
    exact bad_const (by omega)
  · subst ho
    unfold fixN
    simp only [hwas]
    rw [if_pos ⟨trivial, .inr h3⟩]
    exact bad_jump (hpl _ (by omega) (by omega))
  · subst ho
    unfold fixN
    simp only [hwas]
    by_cases h14 : code[k].op = 14
    · rw [if_pos ⟨h14, .inl h14⟩]
      rw [show ({ code[k] with a := placeN code (fun k i => becomeS St k i) code[k].a.toNat } : E.Ins) = ⟨14, placeN code (fun k i => becomeS St k i) code[k].a.toNat, 0, 0⟩ from by
        have h1 : code[k].b = 0 := by omega
        have h2 : code[k].c = 0 := by omega
        simp only [h14, h1, h2]]
      exact bad_jump (hpl _ (by omega) (by omega))
    · rw [if_neg (fun e => h14 e.1)]
      by_cases h15 : code[k].op = 15
      · rw [if_pos ⟨h15, h15⟩]
        rw [show ({ code[k] with b := placeN code (fun k i => becomeS St k i) code[k].b.toNat } : E.Ins) = ⟨15, code[k].a, placeN code (fun k i => becomeS St k i) code[k].b.toNat, 0⟩ from by
          have h2 : code[k].c = 0 := by omega
          simp only [h15, h2]]
        exact bad_zero (by omega) (hpl _ (by omega) (by omega))
      · rw [if_neg (fun e => h15 e.1)]
        exact badIns_same hi h14 h15
end Go.Proofs.Ythpgjbdacknkgaa
