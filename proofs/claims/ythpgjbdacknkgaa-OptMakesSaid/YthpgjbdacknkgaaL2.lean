/- Which registers are still needed, in plain Lean: the sets grow, and the least that holds is found. No statement of the seat in it. -/
import Derived.Test.YthpgjbdacknkgaaL1
set_option linter.unusedVariables false
set_option linter.unusedSimpArgs false
namespace Go.Proofs.Ythpgjbdacknkgaa
open Go

abbrev Bits := Nat → Bool
def unionS (T : Int → Bits) (l : List Int) : Bits := fun r => l.any fun to' => T to' r
def clrS (s : Bits) (w : Int) : Bits := if w ≥ 0 then E.updB s w.toNat false else s
def setAll (s : Bits) (l : List Int) : Bits := l.foldl (fun s x => E.updB s x.toNat true) s
/-- what is needed ahead of order i at k, when T is needed ahead of the others -/
def nowF (i : E.Ins) (k : Nat) (T : Int → Bits) : Bits := setAll (clrS (unionS T (insNexts k i)) (insWrites i)) (insReads i)
def leB (s t : Bits) : Prop := ∀ r, r < 200 → s r = true → t r = true
theorem leB.trans {a b c : Bits} (h : leB a b) (h' : leB b c) : leB a c := fun r hr hs => h' r hr (h r hr hs)
theorem setAll_iff (l : List Int) : ∀ (s : Bits) (r : Nat), setAll s l r = true ↔ s r = true ∨ ∃ x ∈ l, x.toNat = r := by
  induction l with
  | nil => intro s r; simp [setAll]
  | cons x l ih =>
    intro s r
    have : setAll s (x :: l) = setAll (E.updB s x.toNat true) l := rfl
    rw [this, ih]
    unfold E.updB
    by_cases h : r = x.toNat
    · subst h; simp
    · rw [if_neg h]
      constructor
      · rintro (h1 | ⟨y, hy, hr⟩)
        · exact .inl h1
        · exact .inr ⟨y, by simp [hy], hr⟩
      · rintro (h1 | ⟨y, hy, hr⟩)
        · exact .inl h1
        · rcases List.mem_cons.1 hy with rfl | hy
          · exact absurd hr.symm h
          · exact .inr ⟨y, hy, hr⟩
theorem nowF_iff (i : E.Ins) (k : Nat) (T : Int → Bits) (r : Nat) : nowF i k T r = true ↔ (¬(insWrites i ≥ 0 ∧ r = (insWrites i).toNat) ∧ ∃ to' ∈ insNexts k i, T to' r = true) ∨ ∃ x ∈ insReads i, x.toNat = r := by
  unfold nowF
  rw [setAll_iff]
  have : clrS (unionS T (insNexts k i)) (insWrites i) r = true ↔ ¬(insWrites i ≥ 0 ∧ r = (insWrites i).toNat) ∧ ∃ to' ∈ insNexts k i, T to' r = true := by
    unfold clrS
    split
    · rename_i h
      unfold E.updB
      split
      · rename_i h'; simp [h, h']
      · rename_i h'; simp [h', unionS]
    · rename_i h; simp [h, unionS]
  rw [this]
theorem nowF_mono {i : E.Ins} {k : Nat} {T T' : Int → Bits} (h : ∀ to' ∈ insNexts k i, leB (T to') (T' to')) : leB (nowF i k T) (nowF i k T') := fun r hr hs => by
  rw [nowF_iff] at hs ⊢
  rcases hs with ⟨h1, to', ht, h2⟩ | h1
  · exact .inl ⟨h1, to', ht, h to' ht r hr h2⟩
  · exact .inr h1
/-- the sets as they stand -/
def atS (ys : List Bits) (k : Int) : Bits := ys.getD k.toNat (fun _ => false)
def LClosed (code : List E.Ins) (T : Int → Bits) : Prop := ∀ k (h : k < code.length), leB (nowF code[k] k T) (T k)
structure InvL (code : List E.Ins) (ys : List Bits) : Prop where
  len : ys.length = code.length + 1
  pre : ∀ k (h : k < code.length), leB (atS ys k) (nowF code[k] k (atS ys))
  low : ∀ T, LClosed code T → ∀ k : Nat, k ≤ code.length → leB (atS ys k) (T k)
  last : ∀ r, r < 200 → atS ys code.length r = false
def falses (ys : List Bits) : Nat := sumN (fun k => sumN (fun r => if atS ys k r then 0 else 1) 200) ys.length
theorem atS_nat (ys : List Bits) {k : Nat} (h : k < ys.length) : atS ys k = ys[k] := by
  unfold atS
  rw [Int.toNat_natCast, List.getD_eq_getElem?_getD, List.getElem?_eq_getElem h]; rfl
theorem atS_set {ys : List Bits} {k : Nat} (h : k < ys.length) (s : Bits) (j : Int) : atS (ys.set k s) j = if j.toNat = k then s else atS ys j := by
  unfold atS
  rw [List.getD_eq_getElem?_getD, List.getD_eq_getElem?_getD, List.getElem?_set]
  by_cases e : k = j.toNat
  · subst e; simp [h]
  · rw [if_neg e, if_neg (fun h => e h.symm)]
theorem InvL.start (code : List E.Ins) : InvL code (List.replicate (code.length + 1) (fun _ => false)) := by
  have h : ∀ k, atS (List.replicate (code.length + 1) (fun _ => false)) k = fun _ => false := fun k => by
    unfold atS
    rw [List.getD_eq_getElem?_getD, List.getElem?_replicate]
    split <;> rfl
  exact ⟨by simp, (fun k hk r hr hs => by rw [h] at hs; cases hs), (fun T hT k hk r hr hs => by rw [h] at hs; cases hs), fun r hr => by rw [h]⟩
/-- orders' places are there -/
def NextsIn (code : List E.Ins) : Prop := ∀ k (h : k < code.length), ∀ to' ∈ insNexts k code[k], 0 ≤ to' ∧ to' ≤ code.length
theorem InvL.set {code : List E.Ins} {ys : List Bits} (H : InvL code ys) (hn : NextsIn code) {k : Nat} (hk : k < code.length) {s : Bits} (hs : ∀ r, r < 200 → s r = nowF code[k] k (atS ys) r) : InvL code (ys.set k s) := by
  have hkl : k < ys.length := by rw [H.len]; omega
  have hup : ∀ j : Int, leB (atS ys j) (atS (ys.set k s) j) := fun j => by
    rw [atS_set hkl]
    by_cases e : j.toNat = k
    · rw [if_pos e]
      intro r hr h
      rw [hs r hr]
      refine H.pre k hk r hr ?_
      have : atS ys j = atS ys k := by unfold atS; rw [e]; rfl
      rw [← this]; exact h
    · rw [if_neg e]; exact fun _ _ h => h
  refine ⟨by rw [List.length_set]; exact H.len, fun j hj => ?_, fun T hT j hj => ?_, fun r hr => ?_⟩
  · have hmono : leB (nowF code[j] j (atS ys)) (nowF code[j] j (atS (ys.set k s))) := nowF_mono fun to' _ => hup to'
    by_cases e : j = k
    · subst e
      rw [atS_set hkl, Int.toNat_natCast, if_pos rfl]
      intro r hr h
      exact hmono r hr (by rw [← hs r hr]; exact h)
    · rw [atS_set hkl, Int.toNat_natCast, if_neg e]
      exact (H.pre j hj).trans hmono
  · by_cases e : j = k
    · subst e
      rw [atS_set hkl, Int.toNat_natCast, if_pos rfl]
      intro r hr h
      rw [hs r hr] at h
      refine hT j hk r hr (nowF_mono (T := atS ys) (T' := T) (fun to' ht => ?_) r hr h)
      obtain ⟨a, b⟩ := hn j hk to' ht
      have := H.low T hT to'.toNat (by omega)
      rw [Int.toNat_of_nonneg a] at this
      exact this
    · rw [atS_set hkl, Int.toNat_natCast, if_neg e]; exact H.low T hT j hj
  · rw [atS_set hkl, Int.toNat_natCast, if_neg (by omega)]; exact H.last r hr
theorem falses_set {code : List E.Ins} {ys : List Bits} (H : InvL code ys) {k : Nat} (hk : k < code.length) {s : Bits} (hs : ∀ r, r < 200 → s r = nowF code[k] k (atS ys) r) (hne : E.eqS s (atS ys k) = false) : falses (ys.set k s) < falses ys := by
  have hkl : k < ys.length := by rw [H.len]; omega
  have hle : leB (atS ys k) s := fun r hr h => by rw [hs r hr]; exact H.pre k hk r hr h
  obtain ⟨r, hr, hd⟩ : ∃ r, r < 200 ∧ s r ≠ atS ys k r := by
    apply Classical.byContradiction
    intro h
    have : E.eqS s (atS ys k) = true := E.eqS_iff.2 fun r hr => Classical.byContradiction fun h' => h ⟨r, hr, h'⟩
    rw [this] at hne; cases hne
  unfold falses
  rw [List.length_set]
  refine sumN_lt (fun j hj => ?_) k hkl ?_
  · rw [atS_set hkl, Int.toNat_natCast]
    by_cases e : j = k
    · subst e
      rw [if_pos rfl]
      refine sumN_le fun r hr => ?_
      cases h : atS ys j r with
      | false => simp; split <;> omega
      | true => rw [hle r hr h]; simp
    · rw [if_neg e]; exact Nat.le_refl _
  · rw [atS_set hkl, Int.toNat_natCast, if_pos rfl]
    refine sumN_lt (fun r hr => ?_) r hr ?_
    · cases h : atS ys k r with
      | false => simp; split <;> omega
      | true => rw [hle r hr h]; simp
    · cases h : atS ys k r with
      | true => rw [hle r hr h, h] at hd; exact absurd rfl hd
      | false =>
        rw [h] at hd
        have : s r = true := by simpa using hd
        rw [this]; simp
/-- what Sets finds -/
structure LiveOf (code : List E.Ins) (ys : List Bits) : Prop where
  len : ys.length = code.length + 1
  fix : ∀ k (h : k < code.length), ∀ r, r < 200 → atS ys k r = nowF code[k] k (atS ys) r
  low : ∀ T, LClosed code T → ∀ k : Nat, k ≤ code.length → leB (atS ys k) (T k)
  last : ∀ r, r < 200 → atS ys code.length r = false
theorem InvL.live {code : List E.Ins} {ys : List Bits} (H : InvL code ys) (h : ∀ k (h : k < code.length), leB (nowF code[k] k (atS ys)) (atS ys k)) : LiveOf code ys :=
  ⟨H.len, (fun k hk r hr => by
    cases h1 : atS ys k r with
    | true => exact (H.pre k hk r hr h1).symm
    | false =>
      cases h2 : nowF code[k] k (atS ys) r with
      | false => rfl
      | true => rw [h k hk r hr h2] at h1; cases h1), H.low, H.last⟩
end Go.Proofs.Ythpgjbdacknkgaa
