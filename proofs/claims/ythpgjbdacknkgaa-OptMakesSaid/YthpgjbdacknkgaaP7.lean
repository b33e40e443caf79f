/- LookAt's steps, in plain Lean. No statement of the seat in it. -/
import Derived.Test.YthpgjbdacknkgaaP6
set_option linter.unusedVariables false
set_option linter.unusedSimpArgs false
namespace Go.Proofs.Ythpgjbdacknkgaa
open Go

theorem rowE_set {es : List Vl} {a : Int} {v : Vl} (h0 : 0 ≤ a) (h1 : a < es.length) {r : Int} (hr : 0 ≤ r) : rowE (es.set a.toNat v) r = updE (rowE es) a v r := by
  show (es.set a.toNat v).getD r.toNat vl0 = if r = a then v else es.getD r.toNat vl0
  rw [List.getD_eq_getElem?_getD, List.getD_eq_getElem?_getD, List.getElem?_set]
  by_cases e : a.toNat = r.toNat
  · rw [if_pos e, if_pos (by omega), if_pos (by omega)]; rfl
  · rw [if_neg e, if_neg (by omega)]
theorem reck_isSome {i : E.Ins} {V : Int → Vl} (h : 1 ≤ i.op ∧ i.op ≤ 7) : ∃ v, reck i V = some v := by
  unfold reck
  split
  · exact ⟨_, rfl⟩
  · split
    · exact ⟨_, rfl⟩
    · rw [if_pos (by omega)]
      split
      · exact ⟨_, rfl⟩
      · split
        · exact ⟨_, rfl⟩
        · exact ⟨_, rfl⟩
/-- what an order makes of a row -/
def esOf (i : E.Ins) (vs : List Vl) : List Vl := if 1 ≤ i.op ∧ i.op ≤ 7 then vs.set i.a.toNat ((reck i (rowE vs)).getD ⟨0, 0⟩) else if insWrites i ≥ 0 then vs.set (insWrites i).toNat ⟨2, 0⟩ else vs
theorem esOf_len (i : E.Ins) (vs : List Vl) : (esOf i vs).length = vs.length := by unfold esOf; (repeat' split) <;> simp
theorem esOf_flow {R : Nat} {i : E.Ins} (hin : InsIn R i) {vs : List Vl} (hl : vs.length = R) : ∀ r : Int, 0 ≤ r → r < R → rowE (esOf i vs) r = flowV i (rowE vs) r := by
  intro r r0 r1
  unfold esOf flowV
  by_cases h : 1 ≤ i.op ∧ i.op ≤ 7
  · rw [if_pos h]
    obtain ⟨v, hv⟩ := reck_isSome (V := rowE vs) h
    rw [hv]
    have ha := hin.writes (by rw [← reck_some i (rowE vs), hv]; rfl)
    exact rowE_set ha.1 (by omega) r0
  · rw [if_neg h]
    cases hv : reck i (rowE vs) with
    | some v => have := reck_op hv; omega
    | none =>
      simp only
      split
      · rename_i hw
        have := hin.writes' hw
        exact rowE_set hw (by omega) r0
      · rfl
theorem esOf_nrm {R : Nat} {i : E.Ins} (hin : InsIn R i) {vs : List Vl} (hl : vs.length = R) (hn : ∀ v ∈ vs, nrm v) : ∀ v ∈ esOf i vs, nrm v := by
  intro v hv
  obtain ⟨r, hr, rfl⟩ := List.getElem_of_mem hv
  have hr' : r < R := by rw [esOf_len] at hr; omega
  rw [← rowE_nat hr, esOf_flow hin hl r (by omega) (by omega)]
  exact nrm_flow hin (fun q q0 q1 => by
    obtain ⟨j, rfl⟩ := Int.eq_ofNat_of_zero_le q0
    rw [rowE_nat (by omega)]
    exact hn _ (List.getElem_mem _)) r (by omega) (by omega)
/-- what is asked of OpZero -/
def vzOf (i : E.Ins) (es : List Vl) : Vl := if i.op = 15 then rowE es i.a else ⟨2, 0⟩
def condJ (vz : Vl) (j : Nat) : Prop := vz.st = 2 ∨ (vz.st = 1 ∧ (vz.n = 0 ↔ j = 1))
theorem goes_cond {k : Nat} {i : E.Ins} {vs : List Vl} {x : Int} : x ∈ goesV k i (rowE vs) ↔ ∃ j, ∃ h : j < (insNexts k i).length, (insNexts k i)[j] = x ∧ condJ (vzOf i (esOf i vs)) j := by
  by_cases h15 : i.op = 15
  · have hes : esOf i vs = vs := by
      unfold esOf insWrites
      rw [if_neg (by omega), if_neg (by rw [if_neg (by omega), if_neg (by omega)]; decide)]
    have hnx : insNexts k i = [(k : Int) + 1, i.b] := by unfold insNexts; rw [if_neg (by omega), if_pos h15]
    rw [hnx, hes]
    unfold goesV vzOf condJ
    rw [if_neg (by omega), if_pos h15]
    generalize rowE vs i.a = v
    constructor
    · intro hx
      rcases List.mem_append.1 hx with h | h
      · split at h
        · rename_i hc
          simp only [List.mem_singleton] at h
          subst h
          exact ⟨0, by simp, rfl, hc.elim (fun hc => .inl hc) (fun hc => .inr ⟨hc.1, by simp [hc.2]⟩)⟩
        · cases h
      · split at h
        · rename_i hc
          simp only [List.mem_singleton] at h
          subst h
          exact ⟨1, by simp, rfl, hc.elim (fun hc => .inl hc) (fun hc => .inr ⟨hc.1, by simp [hc.2]⟩)⟩
        · cases h
    · rintro ⟨j, hj, hx, hc⟩
      match j, hj with
      | 0, _ =>
        simp only [List.getElem_cons_zero] at hx
        subst hx
        refine List.mem_append_left _ ?_
        rw [if_pos (hc.elim (fun hc => .inl hc) (fun hc => .inr ⟨hc.1, by simpa using hc.2⟩))]
        simp
      | 1, _ =>
        simp only [List.getElem_cons_succ, List.getElem_cons_zero] at hx
        subst hx
        refine List.mem_append_right _ ?_
        rw [if_pos (hc.elim (fun hc => .inl hc) (fun hc => .inr ⟨hc.1, by simpa using hc.2⟩))]
        simp
  · unfold goesV vzOf condJ
    rw [if_pos h15, if_neg h15]
    constructor
    · intro hx
      obtain ⟨j, hj, rfl⟩ := List.getElem_of_mem hx
      exact ⟨j, hj, rfl, .inl rfl⟩
    · rintro ⟨j, hj, rfl, _⟩
      exact List.getElem_mem hj
def absR (gs : List Bool) (rows : List (Nat × List Vl)) : StE := abs gs (rows.map (·.2))
structure LInv (R : Nat) (code : List E.Ins) (gs : List Bool) (rows : List (Nat × List Vl)) : Prop where
  tab : TabOk R code.length gs (rows.map (·.2))
  low : ∀ T : StE, (∀ k V, T k = some V → nrmE R V) → leO R (some zeroE) (T 0) → (∀ k, Closed R code T k) → leS R (absR gs rows) T
  zero : leO R (some zeroE) (absR gs rows 0)
def potR (R n : Nat) (gs : List Bool) (rows : List (Nat × List Vl)) : Nat := pot R n (absR gs rows)
theorem LInv.rl {R : Nat} {code : List E.Ins} {gs : List Bool} {rows : List (Nat × List Vl)} (H : LInv R code gs rows) : rows.length = code.length + 1 := by have := H.tab.lv; rwa [List.length_map] at this
theorem LInv.rr {R : Nat} {code : List E.Ins} {gs : List Bool} {rows : List (Nat × List Vl)} (H : LInv R code gs rows) : ∀ x ∈ rows, x.2.length = R := fun x hx => H.tab.lr _ (List.mem_map.2 ⟨x, hx, rfl⟩)
theorem LInv.lead {R : Nat} {code : List E.Ins} {gs : List Bool} {rows : List (Nat × List Vl)} (H : LInv R code gs rows) {to' : Nat} (ht : to' < rows.length) {es : List Vl} (hes : es.length = R) (hen : ∀ v ∈ es, nrm v)
    (hsrc : ∀ T : StE, (∀ k V, T k = some V → nrmE R V) → leO R (some zeroE) (T 0) → (∀ k, Closed R code T k) → leO R (some (rowE es)) (T to')) :
    LInv R code (gs.set to' true) (rows.set to' (rows[to'].1, meetR rows[to'].2 es)) ∧ leS R (absR gs rows) (absR (gs.set to' true) (rows.set to' (rows[to'].1, meetR rows[to'].2 es))) ∧
    leO R (some (rowE es)) (absR (gs.set to' true) (rows.set to' (rows[to'].1, meetR rows[to'].2 es)) to') ∧
    (¬ (gs[to']? = some true ∧ meetR rows[to'].2 es = rows[to'].2) → potR R code.length (gs.set to' true) (rows.set to' (rows[to'].1, meetR rows[to'].2 es)) < potR R code.length gs rows) ∧
    ((gs[to']? = some true ∧ meetR rows[to'].2 es = rows[to'].2) → gs.set to' true = gs ∧ rows.set to' (rows[to'].1, meetR rows[to'].2 es) = rows) := by
  have ht' : to' < (rows.map (·.2)).length := by rw [List.length_map]; exact ht
  have hm : (rows.set to' (rows[to'].1, meetR rows[to'].2 es)).map (·.2) = (rows.map (·.2)).set to' (meetR ((rows.map (·.2))[to']'ht') es) := by
    rw [List.map_set, List.getElem_map]
  obtain ⟨a, b, c, d, e⟩ := lead_tab H.tab ht' hes hen
  unfold absR potR absR
  rw [hm]
  refine ⟨⟨by rw [hm]; exact a, fun T h1 h2 h3 => ?_, ?_⟩, b, c, fun h => e (by rw [List.getElem_map]; exact h), fun ⟨h1, h2⟩ => ⟨?_, ?_⟩⟩
  · unfold absR; rw [hm]; exact d T (H.low T h1 h2 h3) (hsrc T h1 h2 h3)
  · unfold absR; rw [hm]; exact H.zero.trans (b 0)
  · obtain ⟨hlt, hg⟩ := List.getElem?_eq_some_iff.1 h1
    rw [← hg]; exact List.set_getElem_self hlt
  · rw [h2]
    exact List.set_getElem_self ht
end Go.Proofs.Ythpgjbdacknkgaa
