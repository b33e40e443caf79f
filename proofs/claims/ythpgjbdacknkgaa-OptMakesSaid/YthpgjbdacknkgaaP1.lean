/- What 'of' goes through, in plain Lean: it ends. No statement of the seat in it. -/
import Derived.Test.YthpgjbdacknkgaaO5
set_option linter.unusedVariables false
set_option linter.unusedSimpArgs false
namespace Go.Proofs.Ythpgjbdacknkgaa
open Go

/-- a value that is always one, or may be any -/
def nrm (v : Vl) : Prop := v.st = 1 ∨ v = ⟨2, 0⟩
def nrmE (R : Nat) (V : Int → Vl) : Prop := ∀ r : Int, 0 ≤ r → r < R → nrm (V r)
structure CodeOk (R : Nat) (code : List E.Ins) : Prop where
  ins : ∀ k (h : k < code.length), InsIn R code[k]
  jump : ∀ k (h : k < code.length), code[k].op = 14 → 0 ≤ code[k].a ∧ code[k].a ≤ code.length
  zero : ∀ k (h : k < code.length), code[k].op = 15 → 0 ≤ code[k].b ∧ code[k].b ≤ code.length

theorem meetV_nrm {a b : Vl} (ha : nrm a) (hb : nrm b) : meetV a b = if a = b then b else ⟨2, 0⟩ := by
  unfold meetV
  have h1 : a.st ≠ 0 := by rcases ha with h | h <;> simp [h]
  have h2 : b.st ≠ 0 := by rcases hb with h | h <;> simp [h]
  by_cases h : a = b
  · rw [if_pos (.inr h), if_pos h]
  · rw [if_neg (by rintro (h3 | h3); exact h1 h3; exact h h3), if_neg h2, if_neg h]
theorem nrm_meet {a b : Vl} (ha : nrm a) (hb : nrm b) : nrm (meetV a b) := by
  rw [meetV_nrm ha hb]
  split
  · exact hb
  · exact .inr rfl
theorem nrm_join {R : Nat} {V W : Int → Vl} (hV : nrmE R V) (hW : nrmE R W) : nrmE R (joinE V W) := fun r h0 h1 => nrm_meet (hV r h0 h1) (hW r h0 h1)
theorem nrm_reck {R : Nat} {i : E.Ins} {V : Int → Vl} {v : Vl} (hr : readsIn R i) (hV : nrmE R V) (h : reck i V = some v) : nrm v := by
  unfold reck at h
  split at h
  · cases h; exact .inl rfl
  · split at h
    · rename_i h2
      obtain ⟨a, b⟩ := hr.1 h2
      cases h; exact hV _ a b
    · split at h
      · rename_i h3
        obtain ⟨⟨a1, a2⟩, b1, b2⟩ := hr.2 h3
        have hb := hV _ a1 a2
        have hc := hV _ b1 b2
        split at h
        · rename_i h4
          rcases h4 with h4 | h4
          · rcases hb with h5 | h5 <;> simp [h5] at h4
          · rcases hc with h5 | h5 <;> simp [h5] at h4
        · split at h
          · cases h; exact .inr rfl
          · cases h; exact .inl rfl
      · cases h
theorem nrm_upd {R : Nat} {V : Int → Vl} {k : Int} {v : Vl} (hV : nrmE R V) (hv : nrm v) : nrmE R (updE V k v) := fun r h0 h1 => by
  unfold updE
  split
  · exact hv
  · exact hV r h0 h1
theorem nrm_flow {R : Nat} {i : E.Ins} {V : Int → Vl} (hi : InsIn R i) (hV : nrmE R V) : nrmE R (flowV i V) := by
  unfold flowV
  split
  · rename_i v h
    exact nrm_upd hV (nrm_reck hi.reads hV h)
  · split
    · exact nrm_upd hV (.inr rfl)
    · exact hV

/-! a measure -/
def sumN (f : Nat → Nat) : Nat → Nat
  | 0 => 0
  | n + 1 => sumN f n + f n
theorem sumN_le {f g : Nat → Nat} : ∀ {n : Nat}, (∀ i, i < n → f i ≤ g i) → sumN f n ≤ sumN g n
  | 0, _ => Nat.le_refl _
  | n + 1, h => Nat.add_le_add (sumN_le fun i hi => h i (by omega)) (h n (by omega))
theorem sumN_lt {f g : Nat → Nat} : ∀ {n : Nat}, (∀ i, i < n → f i ≤ g i) → ∀ j, j < n → f j < g j → sumN f n < sumN g n
  | 0, _, j, hj, _ => by omega
  | n + 1, h, j, hj, hl => by
    unfold sumN
    by_cases e : j = n
    · subst e
      have := sumN_le (f := f) (g := g) (n := j) fun i hi => h i (by omega)
      omega
    · have := sumN_lt (f := f) (g := g) (n := n) (fun i hi => h i (by omega)) j (by omega) hl
      have := h n (by omega)
      omega
theorem sumN_const (c : Nat) : ∀ n, sumN (fun _ => c) n = n * c
  | 0 => by simp [sumN]
  | n + 1 => by unfold sumN; rw [sumN_const c n, Nat.succ_mul]
def htV (v : Vl) : Nat := if v.st = 2 then 0 else 1
def potE (R : Nat) : Option (Int → Vl) → Nat
  | none => R + 1
  | some V => sumN (fun r => htV (V r)) R
theorem potE_le (R : Nat) (o : Option (Int → Vl)) : potE R o ≤ R + 1 := by
  cases o with
  | none => exact Nat.le_refl _
  | some V =>
    have := sumN_le (f := fun r => htV (V r)) (g := fun _ => 1) (n := R) fun i _ => by unfold htV; split <;> omega
    rw [sumN_const] at this
    show sumN (fun r => htV (V r)) R ≤ R + 1
    omega
theorem potE_some (R : Nat) (V : Int → Vl) : potE R (some V) ≤ R := by
  have := sumN_le (f := fun r => htV (V r)) (g := fun _ => 1) (n := R) fun i _ => by unfold htV; split <;> omega
  rw [sumN_const] at this
  show sumN (fun r => htV (V r)) R ≤ R
  omega
def pot (R n : Nat) (St : StE) : Nat := sumN (fun k => potE R (St k)) (n + 1)
def muS (R n : Nat) (s : StE × List Int) : Nat := 2 * pot R n s.1 + s.2.length

structure InvS (R n : Nat) (s : StE × List Int) : Prop where
  dom : ∀ k V, s.1 k = some V → 0 ≤ k ∧ k ≤ n
  nrm : ∀ k V, s.1 k = some V → nrmE R V
  work : ∀ k ∈ s.2, (s.1 k).isSome = true

theorem pot_upd {R n : Nat} {St : StE} {to' : Int} {V : Int → Vl} (h0 : 0 ≤ to') (h1 : to' ≤ n) (hlt : potE R (some V) < potE R (St to')) : pot R n (updS St to' V) < pot R n St := by
  unfold pot
  refine sumN_lt (fun i hi => ?_) to'.toNat (by omega) ?_
  · unfold updS
    split
    · rename_i e; rw [e]; omega
    · exact Nat.le_refl _
  · unfold updS
    rw [Int.toNat_of_nonneg h0, if_pos rfl]; exact hlt
theorem leadS_inv {R n : Nat} {s : StE × List Int} {to' : Int} {V : Int → Vl} (hs : InvS R n s) (h0 : 0 ≤ to') (h1 : to' ≤ n) (hV : nrmE R V) :
    InvS R n (leadS R s to' V) ∧ muS R n (leadS R s to' V) ≤ muS R n s := by
  have upd : ∀ W : Int → Vl, nrmE R W → potE R (some W) < potE R (s.1 to') → InvS R n (updS s.1 to' W, s.2 ++ [to']) ∧ muS R n (updS s.1 to' W, s.2 ++ [to']) ≤ muS R n s := fun W hW hlt => by
    refine ⟨⟨fun k V' hk => ?_, fun k V' hk => ?_, fun k hk => ?_⟩, ?_⟩
    · simp only [updS] at hk
      split at hk
      · rename_i e; rw [e]; exact ⟨h0, h1⟩
      · exact hs.dom k V' hk
    · simp only [updS] at hk
      split at hk
      · cases hk; exact hW
      · exact hs.nrm k V' hk
    · simp only [updS]
      split
      · rfl
      · rename_i e
        rcases List.mem_append.1 hk with h | h
        · exact hs.work k h
        · exact absurd (List.mem_singleton.1 h) e
    · have := pot_upd h0 h1 hlt
      unfold muS
      simp only [List.length_append, List.length_cons, List.length_nil]
      omega
  unfold leadS
  cases hst : s.1 to' with
  | none =>
    have := potE_some R V
    exact upd V hV (by rw [hst]; unfold potE; exact Nat.lt_succ_of_le this)
  | some W =>
    simp only
    split
    · exact ⟨hs, Nat.le_refl _⟩
    · rename_i hne
      have hW := hs.nrm to' W hst
      refine upd (joinE V W) (nrm_join hV hW) ?_
      rw [hst]
      have hex : ∃ r : Int, 0 ≤ r ∧ r < R ∧ joinE V W r ≠ W r := by
        apply Classical.byContradiction
        intro h
        apply hne
        rw [eqE_iff]
        intro k k0 k1
        apply Classical.byContradiction
        intro h2
        exact h ⟨k, k0, k1, h2⟩
      obtain ⟨r, r0, r1, hr⟩ := hex
      unfold potE
      have key : ∀ q : Int, 0 ≤ q → q < R → joinE V W q = W q ∨ (joinE V W q = ⟨2, 0⟩ ∧ htV (W q) = 1) := fun q q0 q1 => by
        have hj : joinE V W q = meetV (V q) (W q) := rfl
        rw [hj, meetV_nrm (hV q q0 q1) (hW q q0 q1)]
        split
        · exact .inl rfl
        · rcases hW q q0 q1 with h | h
          · exact .inr ⟨rfl, by unfold htV; rw [h]; rfl⟩
          · exact .inl h.symm
      refine sumN_lt (fun i hi => ?_) r.toNat (by omega) ?_
      · rcases key i (by omega) (by omega) with h | ⟨h, h'⟩
        · rw [h]; exact Nat.le_refl _
        · rw [h]; simp [htV]
      · rw [Int.toNat_of_nonneg r0]
        rcases key r r0 r1 with h | ⟨h, h'⟩
        · exact absurd h hr
        · rw [h, h']; simp [htV]
theorem leadsS_inv {R n : Nat} {V : Int → Vl} (hV : nrmE R V) : ∀ (l : List Int) (s : StE × List Int), InvS R n s → (∀ x ∈ l, 0 ≤ x ∧ x ≤ n) → InvS R n (leadsS R V s l) ∧ muS R n (leadsS R V s l) ≤ muS R n s
  | [], s, hs, _ => ⟨hs, Nat.le_refl _⟩
  | x :: l, s, hs, hl => by
    obtain ⟨h0, h1⟩ := hl x (by simp)
    obtain ⟨a, b⟩ := leadS_inv hs h0 h1 hV
    obtain ⟨c, d⟩ := leadsS_inv hV l _ a fun y hy => hl y (by simp [hy])
    exact ⟨c, Nat.le_trans d b⟩
theorem goesV_in {R : Nat} {code : List E.Ins} (hc : CodeOk R code) {k : Nat} (hk : k < code.length) (V : Int → Vl) : ∀ x ∈ goesV k code[k] V, 0 ≤ x ∧ x ≤ (code.length : Int) := by
  intro x hx
  unfold goesV at hx
  split at hx
  · unfold insNexts at hx
    split at hx
    · rename_i h; simp only [List.mem_singleton] at hx; subst hx; exact hc.jump k hk h
    · simp only [List.mem_singleton] at hx; omega
  · rename_i h
    have h15 : code[k].op = 15 := Classical.not_not.1 h
    rcases List.mem_append.1 hx with h | h
    · split at h
      · simp only [List.mem_singleton] at h; omega
      · cases h
    · split at h
      · simp only [List.mem_singleton] at h; rw [h]; exact hc.zero k hk h15
      · cases h

/-- one order of those that are to be gone through -/
def stepS (R : Nat) (code : List E.Ins) (St : StE) (l : List Int) (x : Int) : StE × List Int :=
  match code[x.toNat]?, St x with
  | some i, some V => leadsS R (flowV i V) (St, l) (goesV x i V)
  | _, _ => (St, l)
theorem stepS_inv {R : Nat} {code : List E.Ins} (hc : CodeOk R code) {St : StE} {l : List Int} {x : Int} (hs : InvS R code.length (St, l ++ [x])) :
    InvS R code.length (stepS R code St l x) ∧ muS R code.length (stepS R code St l x) < muS R code.length (St, l ++ [x]) := by
  have hs' : InvS R code.length (St, l) := ⟨hs.dom, hs.nrm, fun k hk => hs.work k (by simp only; exact List.mem_append_left _ hk)⟩
  have hmu : muS R code.length (St, l) < muS R code.length (St, l ++ [x]) := by unfold muS; simp
  unfold stepS
  split
  · rename_i i V h1 h2
    have hx := hs.dom x V h2
    have hlt : x.toNat < code.length := (List.getElem?_eq_some_iff.1 h1).1
    have hi : code[x.toNat] = i := (List.getElem?_eq_some_iff.1 h1).2
    have hin := hc.ins x.toNat hlt
    have hgo := goesV_in hc hlt V
    rw [hi] at hin hgo
    rw [Int.toNat_of_nonneg hx.1] at hgo
    obtain ⟨a, b⟩ := leadsS_inv (nrm_flow hin (hs.nrm x V h2)) (goesV x i V) (St, l) hs' hgo
    exact ⟨a, Nat.lt_of_le_of_lt b hmu⟩
  · exact ⟨hs', hmu⟩
/-- from one state to another -/
inductive Goes (R : Nat) (code : List E.Ins) : StE × List Int → StE × List Int → Prop where
  | refl (s : StE × List Int) : Goes R code s s
  | step {s : StE × List Int} {St : StE} {l : List Int} {x : Int} (h : Goes R code s (St, l ++ [x])) : Goes R code s (stepS R code St l x)
def zeroE : Int → Vl := fun _ => ⟨1, 0⟩
def start (R : Nat) : StE × List Int := leadS R (fun _ => none, []) 0 zeroE
/-- what 'of' finds -/
def Found (R : Nat) (code : List E.Ins) (St : StE) : Prop := Goes R code (start R) (St, [])
theorem start_inv (R n : Nat) : InvS R n (start R) ∧ muS R n (start R) ≤ 2 * ((n + 1) * (R + 1)) := by
  have h0 : InvS R n ((fun _ => none, []) : StE × List Int) := ⟨fun k V h => (by cases h), fun k V h => (by cases h), fun k h => (by cases h)⟩
  obtain ⟨a, b⟩ := leadS_inv (V := zeroE) h0 (Int.le_refl 0) (by omega) (fun _ _ _ => .inl rfl)
  refine ⟨a, Nat.le_trans b ?_⟩
  unfold muS pot potE
  rw [sumN_const]; simp
end Go.Proofs.Ythpgjbdacknkgaa
