/- What the document's LookAt goes through, in plain Lean: the same as opt.of finds. No statement of the seat in it. -/
import Derived.Test.YthpgjbdacknkgaaQ10
set_option linter.unusedVariables false
set_option linter.unusedSimpArgs false
namespace Go.Proofs.Ythpgjbdacknkgaa
open Go

def vl0 : Vl := ⟨0, 0⟩
def rowE (es : List Vl) : Int → Vl := fun r => es.getD r.toNat vl0
theorem rowE_nat {es : List Vl} {r : Nat} (h : r < es.length) : rowE es r = es[r] := by
  unfold rowE; rw [Int.toNat_natCast, List.getD_eq_getElem?_getD, List.getElem?_eq_getElem h]; rfl
theorem rmeet_nrm {a b : Vl} (ha : nrm a) (hb : nrm b) : rmeet a b = meetV a b := by
  rw [meetV_nrm ha hb]
  unfold rmeet
  have h1 : a.st ≠ 0 := by rcases ha with h | h <;> simp [h]
  have h2 : b.st ≠ 0 := by rcases hb with h | h <;> simp [h]
  rw [if_neg h1, if_neg h2]
  by_cases h : a = b
  · subst h
    rw [if_pos rfl]
    rcases ha with h | h
    · rw [if_pos ⟨h, h, rfl⟩]
    · rw [h]; simp
  · rw [if_neg h, if_neg]
    rintro ⟨h3, h4, h5⟩
    obtain ⟨x, y⟩ := a
    obtain ⟨z, w⟩ := b
    simp only at h3 h4 h5
    subst h3; subst h4; subst h5
    exact h rfl
theorem rmeet_zero (b : Vl) : rmeet vl0 b = b := by unfold rmeet vl0; rw [if_pos rfl]

/-- what LookAt's tables say -/
def abs (gs : List Bool) (vs : List (List Vl)) : StE := fun k => if 0 ≤ k ∧ gs.getD k.toNat false = true then some (rowE (vs.getD k.toNat [])) else none
structure TabOk (R n : Nat) (gs : List Bool) (vs : List (List Vl)) : Prop where
  lg : gs.length = n + 1
  lv : vs.length = n + 1
  lr : ∀ x ∈ vs, x.length = R
  nr : ∀ k (h : k < vs.length), gs.getD k false = true → ∀ v ∈ vs[k], nrm v
  zr : ∀ k (h : k < vs.length), gs.getD k false = false → vs[k] = List.replicate R vl0
theorem abs_nat {gs : List Bool} {vs : List (List Vl)} {k : Nat} (h : k < vs.length) : abs gs vs k = if gs.getD k false = true then some (rowE vs[k]) else none := by
  unfold abs
  rw [Int.toNat_natCast, List.getD_eq_getElem?_getD (l := vs), List.getElem?_eq_getElem h]
  by_cases hg : gs.getD k false = true
  · rw [if_pos ⟨by omega, hg⟩, if_pos hg]; rfl
  · rw [if_neg (fun h => hg h.2), if_neg hg]
section
variable {R n : Nat} {gs : List Bool} {vs : List (List Vl)}
theorem TabOk.dom (H : TabOk R n gs vs) {k : Int} {V : Int → Vl} (h : abs gs vs k = some V) : ∃ j : Nat, k = j ∧ ∃ hj : j < vs.length, gs.getD j false = true ∧ V = rowE vs[j] := by
  unfold abs at h
  split at h
  · rename_i hk
    obtain ⟨j, rfl⟩ := Int.eq_ofNat_of_zero_le hk.1
    rw [Int.toNat_natCast] at hk h
    have hj : j < gs.length := by
      apply Classical.byContradiction
      intro h'
      rw [List.getD_eq_getElem?_getD, List.getElem?_eq_none (by omega)] at hk
      simp at hk
    have hjv : j < vs.length := by rw [H.lv]; rw [H.lg] at hj; exact hj
    refine ⟨j, rfl, hjv, hk.2, ?_⟩
    rw [List.getD_eq_getElem?_getD, List.getElem?_eq_getElem hjv] at h
    exact (Option.some.inj h).symm
  · cases h
theorem TabOk.nrmE (H : TabOk R n gs vs) {k : Int} {V : Int → Vl} (h : abs gs vs k = some V) : nrmE R V := by
  obtain ⟨j, rfl, hj, hg, rfl⟩ := H.dom h
  intro r r0 r1
  obtain ⟨q, rfl⟩ := Int.eq_ofNat_of_zero_le r0
  have hl := H.lr _ (List.getElem_mem hj)
  rw [rowE_nat (by omega)]
  exact H.nr j hj hg _ (List.getElem_mem _)
/-- one lead -/
theorem lead_tab (H : TabOk R n gs vs) {to' : Nat} (ht : to' < vs.length) {es : List Vl} (hes : es.length = R) (hen : ∀ v ∈ es, nrm v) :
    TabOk R n (gs.set to' true) (vs.set to' (meetR vs[to'] es)) ∧ leS R (abs gs vs) (abs (gs.set to' true) (vs.set to' (meetR vs[to'] es))) ∧ leO R (some (rowE es)) (abs (gs.set to' true) (vs.set to' (meetR vs[to'] es)) to') ∧
    (∀ W : StE, leS R (abs gs vs) W → leO R (some (rowE es)) (W to') → leS R (abs (gs.set to' true) (vs.set to' (meetR vs[to'] es))) W) ∧
    (¬ (gs[to']? = some true ∧ meetR vs[to'] es = vs[to']) → pot R n (abs (gs.set to' true) (vs.set to' (meetR vs[to'] es))) < pot R n (abs gs vs)) := by
  have hlt := H.lr _ (List.getElem_mem ht)
  have htg : to' < gs.length := by rw [H.lg]; rw [H.lv] at ht; exact ht
  have hml : (meetR vs[to'] es).length = R := by unfold meetR; rw [List.length_zipWith]; omega
  have hgd : ∀ k, (gs.set to' true).getD k false = if k = to' then true else gs.getD k false := fun k => by
    rw [List.getD_eq_getElem?_getD, List.getD_eq_getElem?_getD, List.getElem?_set]
    by_cases e : to' = k
    · subst e; simp [htg]
    · rw [if_neg e, if_neg (fun h => e h.symm)]
  have hg? : gs[to']? = some (gs.getD to' false) := by rw [List.getD_eq_getElem?_getD, List.getElem?_eq_getElem htg]; rfl
  -- the row, element by element
  have hrow : ∀ r : Nat, (hr : r < R) → ∃ (h1 : r < vs[to'].length) (h2 : r < es.length), (meetR vs[to'] es)[r]'(by omega) = rmeet vs[to'][r] es[r] := fun r hr => ⟨by omega, by omega, by
    have := meetR_at (vs := vs[to']) (es := es) (j := r) (by omega) (by omega)
    rw [List.getElem?_eq_getElem (by omega)] at this
    exact Option.some.inj this⟩
  have hcase : (gs.getD to' false = true ∧ ∀ r : Nat, (hr : r < R) → rowE (meetR vs[to'] es) r = meetV (rowE es r) (rowE vs[to'] r) ∧ nrm (rowE vs[to'] r) ∧ nrm (rowE es r)) ∨ (gs.getD to' false = false ∧ ∀ r : Nat, (hr : r < R) → rowE (meetR vs[to'] es) r = rowE es r ∧ nrm (rowE es r)) := by
    cases hg : gs.getD to' false with
    | true =>
      refine .inl ⟨rfl, fun r hr => ?_⟩
      obtain ⟨h1, h2, h3⟩ := hrow r hr
      have n1 := H.nr to' ht hg _ (List.getElem_mem h1)
      have n2 := hen _ (List.getElem_mem h2)
      rw [rowE_nat (by omega), rowE_nat h1, rowE_nat h2, h3, rmeet_nrm n1 n2]
      refine ⟨?_, n1, n2⟩
      rw [meetV_nrm n1 n2, meetV_nrm n2 n1]
      by_cases e : vs[to'][r] = es[r]
      · rw [if_pos e, if_pos e.symm, e]
      · rw [if_neg e, if_neg (fun h => e h.symm)]
    | false =>
      refine .inr ⟨rfl, fun r hr => ?_⟩
      obtain ⟨h1, h2, h3⟩ := hrow r hr
      have hz := H.zr to' ht hg
      rw [rowE_nat (by omega), rowE_nat h2, h3]
      have : vs[to'][r] = vl0 := by
        have : vs[to'][r]? = some vl0 := by rw [hz, List.getElem?_replicate, if_pos hr]
        rw [List.getElem?_eq_getElem h1] at this
        exact Option.some.inj this
      rw [this, rmeet_zero]
      exact ⟨rfl, hen _ (List.getElem_mem h2)⟩
  have habs' : ∀ k : Int, abs (gs.set to' true) (vs.set to' (meetR vs[to'] es)) k = if k = to' then some (rowE (meetR vs[to'] es)) else abs gs vs k := fun k => by
    by_cases e : k = to'
    · subst e
      rw [abs_nat (by rw [List.length_set]; exact ht), if_pos rfl, hgd, if_pos rfl, if_pos rfl, List.getElem_set_self]
    · rw [if_neg e]
      unfold abs
      by_cases h0 : 0 ≤ k
      · obtain ⟨j, rfl⟩ := Int.eq_ofNat_of_zero_le h0
        rw [Int.toNat_natCast, hgd, if_neg (show ¬ j = to' from fun h => e (by rw [h])), List.getD_eq_getElem?_getD (l := vs.set _ _), List.getElem?_set_ne (by omega), List.getD_eq_getElem?_getD (l := vs)]
      · rw [if_neg (fun h => h0 h.1), if_neg (fun h => h0 h.1)]
  have hto : abs gs vs (to' : Int) = if gs.getD to' false = true then some (rowE vs[to']) else none := abs_nat ht
  refine ⟨⟨by rw [List.length_set]; exact H.lg, by rw [List.length_set]; exact H.lv, fun x hx => ?_, fun k hk hg v hv => ?_, fun k hk hg => ?_⟩, fun k U hU => ?_, fun U hU => ?_, fun W h1 h2 k U hU => ?_, fun hne => ?_⟩
  · rcases List.mem_or_eq_of_mem_set hx with h | h
    · exact H.lr x h
    · rw [h]; exact hml
  · rw [List.length_set] at hk
    rw [List.getElem_set] at hv
    split at hv
    · rename_i e; subst e
      obtain ⟨r, hr, rfl⟩ := List.getElem_of_mem hv
      have hr' : r < R := by omega
      rw [← rowE_nat hr]
      rcases hcase with ⟨_, h⟩ | ⟨_, h⟩
      · obtain ⟨a, b, c⟩ := h r hr'; rw [a]; exact nrm_meet c b
      · obtain ⟨a, b⟩ := h r hr'; rw [a]; exact b
    · rename_i e
      rw [hgd, if_neg (fun h => e h.symm)] at hg
      exact H.nr k hk hg v hv
  · rw [List.length_set] at hk
    rw [hgd] at hg
    split at hg
    · cases hg
    · rename_i e
      rw [List.getElem_set_ne (fun h => e h.symm)]
      exact H.zr k hk hg
  · rw [habs']
    by_cases e : k = to'
    · subst e
      rw [if_pos rfl]
      rw [hto] at hU
      refine ⟨_, rfl, fun r r0 r1 => ?_⟩
      obtain ⟨q, rfl⟩ := Int.eq_ofNat_of_zero_le r0
      rcases hcase with ⟨hg, h⟩ | ⟨hg, h⟩
      · rw [if_pos hg] at hU; cases hU
        obtain ⟨a, b, c⟩ := h q (by omega)
        rw [a]; exact leV_join_r c b
      · rw [hg] at hU; cases hU
    · rw [if_neg e]; exact ⟨U, hU, leE.rfl'⟩
  · cases hU
    rw [habs', if_pos rfl]
    refine ⟨_, rfl, fun r r0 r1 => ?_⟩
    obtain ⟨q, rfl⟩ := Int.eq_ofNat_of_zero_le r0
    rcases hcase with ⟨hg, h⟩ | ⟨hg, h⟩
    · obtain ⟨a, b, c⟩ := h q (by omega)
      rw [a]; exact leV_join_l c b
    · obtain ⟨a, b⟩ := h q (by omega)
      rw [a]; exact .inl rfl
  · rw [habs'] at hU
    by_cases e : k = to'
    · subst e
      rw [if_pos rfl] at hU
      cases hU
      obtain ⟨Z, hZ, h4⟩ := h2 _ rfl
      refine ⟨Z, hZ, fun r r0 r1 => ?_⟩
      obtain ⟨q, rfl⟩ := Int.eq_ofNat_of_zero_le r0
      rcases hcase with ⟨hg, h⟩ | ⟨hg, h⟩
      · obtain ⟨a, b, c⟩ := h q (by omega)
        obtain ⟨Y, hY, h3⟩ := h1 to' _ (by rw [hto, if_pos hg])
        rw [hY] at hZ; cases hZ
        rw [a]; exact leV_join c b (h4 q r0 r1) (h3 q r0 r1)
      · obtain ⟨a, b⟩ := h q (by omega)
        rw [a]; exact h4 q r0 r1
    · rw [if_neg e] at hU; exact h1 k U hU
  · unfold pot
    refine sumN_lt (fun k hk => ?_) to' (by rw [H.lv] at ht; omega) ?_
    · rw [habs']
      by_cases e : (k : Int) = to'
      · rw [if_pos e, e, hto]
        rcases hcase with ⟨hg, h⟩ | ⟨hg, h⟩
        · rw [if_pos hg]
          refine sumN_le fun r hr => ?_
          obtain ⟨a, b, c⟩ := h r hr
          rw [a, meetV_nrm c b]
          split
          · exact Nat.le_refl _
          · unfold htV; simp
        · rw [hg]; simp only [Bool.false_eq_true, if_false]; exact Nat.le_trans (potE_some R _) (by unfold potE; simp)
      · rw [if_neg e]; exact Nat.le_refl _
    · rw [habs', if_pos rfl, hto]
      rcases hcase with ⟨hg, h⟩ | ⟨hg, h⟩
      · rw [if_pos hg]
        have hne' : meetR vs[to'] es ≠ vs[to'] := fun h' => hne ⟨by rw [hg?, hg], h'⟩
        obtain ⟨r, hr, hd⟩ : ∃ r : Nat, r < R ∧ rowE (meetR vs[to'] es) r ≠ rowE vs[to'] r := by
          apply Classical.byContradiction
          intro hno
          apply hne'
          apply List.ext_getElem (by omega)
          intro j h1 h2
          rw [← rowE_nat h1, ← rowE_nat h2]
          apply Classical.byContradiction
          intro h3
          exact hno ⟨j, by omega, h3⟩
        refine sumN_lt (fun s hs => ?_) r hr ?_
        · obtain ⟨a, b, c⟩ := h s hs
          rw [a, meetV_nrm c b]
          split
          · exact Nat.le_refl _
          · unfold htV; simp
        · obtain ⟨a, b, c⟩ := h r hr
          rw [a, meetV_nrm c b] at hd ⊢
          split at hd
          · exact absurd rfl hd
          · rename_i e
            rw [if_neg e]
            rcases b with b | b
            · unfold htV; rw [b]; simp
            · exact absurd b.symm hd
      · rw [hg]
        simp only [Bool.false_eq_true, if_false]
        have := potE_some R (rowE (meetR vs[to'] es))
        show potE R (some _) < potE R none
        have h2 : potE R none = R + 1 := rfl
        omega
end
/-- the least that holds -/
structure LeastS (R : Nat) (code : List E.Ins) (St : StE) : Prop where
  nrm : ∀ k V, St k = some V → nrmE R V
  zero : leO R (some zeroE) (St 0)
  closed : ∀ k, Closed R code St k
  low : ∀ T : StE, (∀ k V, T k = some V → nrmE R V) → leO R (some zeroE) (T 0) → (∀ k, Closed R code T k) → leS R St T
theorem leastClosed {R : Nat} {code : List E.Ins} (hc : CodeOk R code) {St T : StE} (hF : Found R code St) (hT : ∀ k V, T k = some V → nrmE R V) (h0 : leO R (some zeroE) (T 0)) (hcl : ∀ k, Closed R code T k) : leS R St T :=
  hF.least hc (T := St) h0 fun k hk U X V hV hU hX h1 h2 x hx =>
    leO.trans (b := some (flowV code[k] X)) (fun Y hY => by cases hY; exact ⟨_, rfl, flow_mono (hc.ins k hk) hV (hT k X hX) h2⟩) (hcl k hk X hX x (goes_mono (hc.ins k hk) hV (hT k X hX) h2 hx))
theorem Found.leastS {R : Nat} {code : List E.Ins} (hc : CodeOk R code) {St : StE} (hF : Found R code St) : LeastS R code St :=
  ⟨(hF.inv hc).nrm, hF.zero hc, hF.closed hc, fun T hT h0 hcl => leastClosed hc hF hT h0 hcl⟩
theorem leV_anti {a b : Vl} (ha : nrm a) (hb : nrm b) (h : leV a b) (h' : leV b a) : a = b := by
  rcases h with h | h
  · exact h
  · rcases h' with h' | h'
    · exact h'.symm
    · rw [h, h']
/-- two that are least are one -/
theorem LeastS.eq {R : Nat} {code : List E.Ins} {St St' : StE} (h : LeastS R code St) (h' : LeastS R code St') (k : Int) : (St k = none ∧ St' k = none) ∨ ∃ V V', St k = some V ∧ St' k = some V' ∧ ∀ r : Int, 0 ≤ r → r < R → V r = V' r := by
  have a := h.low St' h'.nrm h'.zero h'.closed k
  have b := h'.low St h.nrm h.zero h.closed k
  cases e : St k with
  | none =>
    cases e' : St' k with
    | none => exact .inl ⟨rfl, rfl⟩
    | some V' => obtain ⟨W, hW, _⟩ := b V' e'; rw [e] at hW; cases hW
  | some V =>
    obtain ⟨V', e', h1⟩ := a V e
    obtain ⟨W, hW, h2⟩ := b V' e'
    rw [e] at hW; cases hW
    exact .inr ⟨V, V', rfl, e', fun r r0 r1 => leV_anti (h.nrm k V e r r0 r1) (h'.nrm k V' e' r r0 r1) (h1 r r0 r1) (h2 r r0 r1)⟩
end Go.Proofs.Ythpgjbdacknkgaa
