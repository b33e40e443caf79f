/- What 'of' finds is the least that holds; in plain Lean. No statement of the seat in it. -/
import Derived.Test.YthpgjbdacknkgaaP1
set_option linter.unusedVariables false
set_option linter.unusedSimpArgs false
namespace Go.Proofs.Ythpgjbdacknkgaa
open Go

def leV (v w : Vl) : Prop := v = w ∨ w = ⟨2, 0⟩
def leE (R : Nat) (V W : Int → Vl) : Prop := ∀ r : Int, 0 ≤ r → r < R → leV (V r) (W r)
def leO (R : Nat) (o : Option (Int → Vl)) (o' : Option (Int → Vl)) : Prop := ∀ V, o = some V → ∃ W, o' = some W ∧ leE R V W
def leS (R : Nat) (S T : StE) : Prop := ∀ k, leO R (S k) (T k)
theorem leV.rfl' {v : Vl} : leV v v := .inl rfl
theorem leV.trans {u v w : Vl} (h1 : leV u v) (h2 : leV v w) : leV u w := by
  rcases h2 with rfl | rfl
  · exact h1
  · exact .inr rfl
theorem leE.rfl' {R : Nat} {V : Int → Vl} : leE R V V := fun _ _ _ => .inl rfl
theorem leE.trans {R : Nat} {U V W : Int → Vl} (h1 : leE R U V) (h2 : leE R V W) : leE R U W := fun r a b => (h1 r a b).trans (h2 r a b)
theorem leO.rfl' {R : Nat} {o : Option (Int → Vl)} : leO R o o := fun V h => ⟨V, h, leE.rfl'⟩
theorem leO.trans {R : Nat} {a b c : Option (Int → Vl)} (h1 : leO R a b) (h2 : leO R b c) : leO R a c := fun V h => by
  obtain ⟨W, hW, h3⟩ := h1 V h
  obtain ⟨U, hU, h4⟩ := h2 W hW
  exact ⟨U, hU, h3.trans h4⟩
theorem leS.rfl' {R : Nat} {S : StE} : leS R S S := fun _ => leO.rfl'
theorem leS.trans {R : Nat} {a b c : StE} (h1 : leS R a b) (h2 : leS R b c) : leS R a c := fun k => (h1 k).trans (h2 k)
theorem leV_join_l {a b : Vl} (ha : nrm a) (hb : nrm b) : leV a (meetV a b) := by
  rw [meetV_nrm ha hb]; split
  · rename_i h; exact .inl h
  · exact .inr rfl
theorem leV_join_r {a b : Vl} (ha : nrm a) (hb : nrm b) : leV b (meetV a b) := by
  rw [meetV_nrm ha hb]; split
  · exact .inl rfl
  · exact .inr rfl
theorem leV_join {a b c : Vl} (ha : nrm a) (hb : nrm b) (h1 : leV a c) (h2 : leV b c) : leV (meetV a b) c := by
  rw [meetV_nrm ha hb]; split
  · exact h2
  · rename_i h
    rcases h1 with rfl | rfl
    · rcases h2 with rfl | h2
      · exact absurd rfl h
      · exact .inl h2.symm
    · exact .inl rfl

section lead
variable {R n : Nat} {s : StE × List Int} {to' : Int} {V : Int → Vl}
theorem leadS_up (hs : InvS R n s) (hV : nrmE R V) : leS R s.1 (leadS R s to' V).1 := by
  intro k U hU
  unfold leadS
  cases hst : s.1 to' with
  | none =>
    simp only [updS]
    by_cases e : k = to'
    · subst e; rw [hst] at hU; cases hU
    · rw [if_neg e]; exact ⟨U, hU, leE.rfl'⟩
  | some W =>
    simp only
    split
    · exact ⟨U, hU, leE.rfl'⟩
    · simp only [updS]
      by_cases e : k = to'
      · subst e
        rw [hst] at hU; cases hU
        rw [if_pos rfl]
        exact ⟨_, rfl, fun r a b => leV_join_r (hV r a b) (hs.nrm _ _ hst r a b)⟩
      · rw [if_neg e]; exact ⟨U, hU, leE.rfl'⟩
theorem leadS_at (hs : InvS R n s) (hV : nrmE R V) : leO R (some V) ((leadS R s to' V).1 to') := by
  intro U hU
  cases hU
  unfold leadS
  cases hst : s.1 to' with
  | none => simp only [updS, if_pos]; exact ⟨V, rfl, leE.rfl'⟩
  | some W =>
    have hW := hs.nrm _ _ hst
    simp only
    split
    · rename_i he
      refine ⟨W, hst, fun r a b => ?_⟩
      have h1 := (eqE_iff.1 he) r a b
      have h2 := leV_join_l (hV r a b) (hW r a b)
      unfold joinE at h1
      rw [h1] at h2; exact h2
    · simp only [updS, if_pos]
      exact ⟨_, rfl, fun r a b => leV_join_l (hV r a b) (hW r a b)⟩
theorem leadS_least (hs : InvS R n s) (hV : nrmE R V) {W : StE} (h1 : leS R s.1 W) (h2 : leO R (some V) (W to')) : leS R (leadS R s to' V).1 W := by
  intro k U hU
  unfold leadS at hU
  cases hst : s.1 to' with
  | none =>
    rw [hst] at hU
    simp only [updS] at hU
    by_cases e : k = to'
    · subst e; rw [if_pos rfl] at hU; exact h2 U hU
    · rw [if_neg e] at hU; exact h1 k U hU
  | some X =>
    rw [hst] at hU
    simp only at hU
    split at hU
    · exact h1 k U hU
    · simp only [updS] at hU
      by_cases e : k = to'
      · subst e
        rw [if_pos rfl] at hU
        cases hU
        obtain ⟨Y, hY, h3⟩ := h1 k X hst
        obtain ⟨Z, hZ, h4⟩ := h2 V rfl
        rw [hY] at hZ; cases hZ
        exact ⟨Y, hY, fun r a b => leV_join (hV r a b) (hs.nrm _ _ hst r a b) (h4 r a b) (h3 r a b)⟩
      · rw [if_neg e] at hU; exact h1 k U hU
theorem leadS_same (k : Int) : (leadS R s to' V).1 k = s.1 k ∨ k ∈ (leadS R s to' V).2 := by
  unfold leadS
  cases hst : s.1 to' with
  | none =>
    simp only [updS]
    by_cases e : k = to'
    · subst e; exact .inr (by simp)
    · rw [if_neg e]; exact .inl rfl
  | some X =>
    simp only
    split
    · exact .inl rfl
    · simp only [updS]
      by_cases e : k = to'
      · subst e; exact .inr (by simp)
      · rw [if_neg e]; exact .inl rfl
theorem leadS_sub {x : Int} (h : x ∈ s.2) : x ∈ (leadS R s to' V).2 := by
  unfold leadS
  split
  · simp [h]
  · split
    · exact h
    · simp [h]
end lead

theorem leadsS_all {R n : Nat} {V : Int → Vl} (hV : nrmE R V) : ∀ (l : List Int) (s : StE × List Int), InvS R n s → (∀ x ∈ l, 0 ≤ x ∧ x ≤ n) →
    leS R s.1 (leadsS R V s l).1 ∧ (∀ x ∈ l, leO R (some V) ((leadsS R V s l).1 x)) ∧ (∀ W : StE, leS R s.1 W → (∀ x ∈ l, leO R (some V) (W x)) → leS R (leadsS R V s l).1 W) ∧
    (∀ k, (leadsS R V s l).1 k = s.1 k ∨ k ∈ (leadsS R V s l).2) ∧ (∀ x ∈ s.2, x ∈ (leadsS R V s l).2)
  | [], s, hs, _ => ⟨leS.rfl', (fun x hx => by cases hx), (fun W h _ => h), (fun k => .inl rfl), (fun x h => h)⟩
  | y :: l, s, hs, hl => by
    obtain ⟨y0, y1⟩ := hl y (by simp)
    have hi := (leadS_inv (to' := y) hs y0 y1 hV).1
    obtain ⟨a, b, c, d, e⟩ := leadsS_all hV l (leadS R s y V) hi fun z hz => hl z (by simp [hz])
    have heq : leadsS R V s (y :: l) = leadsS R V (leadS R s y V) l := rfl
    rw [heq]
    refine ⟨(leadS_up hs hV).trans a, fun x hx => ?_, fun W h1 h2 => ?_, fun k => ?_, fun x hx => e x (leadS_sub hx)⟩
    · rcases List.mem_cons.1 hx with h | h
      · subst h; exact (leadS_at hs hV).trans (a _)
      · exact b x h
    · exact c W (leadS_least hs hV h1 (h2 y (by simp))) fun x hx => h2 x (by simp [hx])
    · rcases d k with h | h
      · rw [h]
        rcases leadS_same (R := R) (s := s) (to' := y) (V := V) k with h' | h'
        · exact .inl h'
        · exact .inr (e k h')
      · exact .inr h

/-- all that is led to from k holds -/
def Closed (R : Nat) (code : List E.Ins) (St : StE) (k : Nat) : Prop := ∀ (h : k < code.length) (V : Int → Vl), St k = some V → ∀ x ∈ goesV k code[k] V, leO R (some (flowV code[k] V)) (St x)
theorem Closed.mono {R : Nat} {code : List E.Ins} {S T : StE} {k : Nat} (hc : Closed R code S k) (h1 : T k = S k) (h2 : leS R S T) : Closed R code T k := fun h V hV x hx =>
  (hc h V (by rw [← h1]; exact hV) x hx).trans (h2 x)

theorem goes_inv {R : Nat} {code : List E.Ins} (hc : CodeOk R code) {s s' : StE × List Int} (h : Goes R code s s') (hs : InvS R code.length s) (hcl : ∀ k : Nat, (k : Int) ∈ s.2 ∨ Closed R code s.1 k) :
    InvS R code.length s' ∧ (∀ k : Nat, (k : Int) ∈ s'.2 ∨ Closed R code s'.1 k) ∧ leS R s.1 s'.1 := by
  induction h with
  | refl => exact ⟨hs, hcl, leS.rfl'⟩
  | @step St l x hg ih =>
    obtain ⟨i1, i2, i3⟩ := ih
    have hst := (stepS_inv hc i1).1
    refine ⟨hst, ?_⟩
    have i1' : InvS R code.length (St, l) := ⟨i1.dom, i1.nrm, fun k hk => i1.work k (by simp only; exact List.mem_append_left _ hk)⟩
    unfold stepS
    split
    · rename_i i V e1 e2
      have hx := i1.dom x V e2
      have hlt : x.toNat < code.length := (List.getElem?_eq_some_iff.1 e1).1
      have hi : code[x.toNat] = i := (List.getElem?_eq_some_iff.1 e1).2
      have hin := hc.ins x.toNat hlt
      have hgo := goesV_in hc hlt V
      rw [hi] at hin hgo
      rw [Int.toNat_of_nonneg hx.1] at hgo
      obtain ⟨a, b, c, d, e⟩ := leadsS_all (nrm_flow hin (i1.nrm x V e2)) (goesV x i V) (St, l) i1' hgo
      refine ⟨fun k => ?_, i3.trans a⟩
      rcases d k with h1 | h1
      · by_cases hk : (k : Int) = x
        · right
          intro hkl U hU y hy
          simp only at h1
          rw [h1, hk, e2] at hU
          cases hU
          have : x.toNat = k := by omega
          subst this
          rw [hi] at hy ⊢
          rw [Int.toNat_of_nonneg hx.1] at hy
          exact b y hy
        · rcases i2 k with h2 | h2
          · simp only [List.mem_append, List.mem_singleton] at h2
            rcases h2 with h2 | h2
            · exact .inl (e k h2)
            · exact absurd h2 hk
          · exact .inr (h2.mono h1 a)
      · exact .inl h1
    · rename_i hno
      refine ⟨fun k => ?_, i3⟩
      rcases i2 k with h2 | h2
      · simp only [List.mem_append, List.mem_singleton] at h2
        rcases h2 with h2 | h2
        · exact .inl h2
        · right
          intro hkl V hV y hy
          exact absurd hV (by
            intro hV
            subst h2
            exact hno code[k] V (by rw [Int.toNat_natCast]; exact List.getElem?_eq_getElem hkl) hV)
      · exact .inr h2
theorem start_closed {R : Nat} {code : List E.Ins} (k : Nat) : (k : Int) ∈ (start R).2 ∨ Closed R code (start R).1 k := by
  by_cases h : (k : Int) = 0
  · left; rw [h]; simp [start, leadS]
  · right
    intro _ V hV
    simp only [start, leadS, updS, if_neg h] at hV
    cases hV
theorem Found.inv {R : Nat} {code : List E.Ins} (hc : CodeOk R code) {St : StE} (h : Found R code St) : InvS R code.length (St, []) := (goes_inv hc h (start_inv R _).1 start_closed).1
theorem Found.closed {R : Nat} {code : List E.Ins} (hc : CodeOk R code) {St : StE} (h : Found R code St) (k : Nat) : Closed R code St k := by
  rcases (goes_inv hc h (start_inv R _).1 start_closed).2.1 k with h | h
  · cases h
  · exact h
theorem Found.zero {R : Nat} {code : List E.Ins} (hc : CodeOk R code) {St : StE} (h : Found R code St) : leO R (some zeroE) (St 0) := by
  have := (goes_inv hc h (start_inv R _).1 start_closed).2.2 0
  simp only [start, leadS, updS, if_pos] at this
  exact this
/-- what is found is less than all that holds below it -/
theorem goes_least {R : Nat} {code : List E.Ins} (hc : CodeOk R code) {T W : StE} (hW : ∀ (k : Nat) (h : k < code.length) (U X V : Int → Vl), nrmE R V → T k = some U → W k = some X → leE R V U → leE R V X → ∀ x ∈ goesV k code[k] V, leO R (some (flowV code[k] V)) (W x))
    {s s' : StE × List Int} (h : Goes R code s s') (hs : InvS R code.length s) (hcl : ∀ k : Nat, (k : Int) ∈ s.2 ∨ Closed R code s.1 k) (h0 : leS R s.1 W) : leS R s'.1 T → leS R s'.1 W := by
  induction h with
  | refl => exact fun _ => h0
  | @step St l x hg ih =>
    obtain ⟨i1, i2, i3⟩ := goes_inv hc hg hs hcl
    have i1' : InvS R code.length (St, l) := ⟨i1.dom, i1.nrm, fun k hk => i1.work k (by simp only; exact List.mem_append_left _ hk)⟩
    have ih := ih
    unfold stepS
    split
    · rename_i i V e1 e2
      have hx := i1.dom x V e2
      have hlt : x.toNat < code.length := (List.getElem?_eq_some_iff.1 e1).1
      have hi : code[x.toNat] = i := (List.getElem?_eq_some_iff.1 e1).2
      have hin := hc.ins x.toNat hlt
      have hgo := goesV_in hc hlt V
      rw [hi] at hin hgo
      rw [Int.toNat_of_nonneg hx.1] at hgo
      obtain ⟨a, b, c, d, e⟩ := leadsS_all (nrm_flow hin (i1.nrm x V e2)) (goesV x i V) (St, l) i1' hgo
      intro hT
      have h1 : leS R St T := leS.trans a hT
      have h2 := ih h1
      refine c W h2 fun y hy => ?_
      obtain ⟨U, hU, h3⟩ := h1 x V e2
      obtain ⟨X, hX, h4⟩ := h2 x V e2
      have hx' : ((x.toNat : Nat) : Int) = x := Int.toNat_of_nonneg hx.1
      have := hW x.toNat hlt U X V (i1.nrm x V e2) (by rw [hx']; exact hU) (by rw [hx']; exact hX) h3 h4
      rw [hi, hx'] at this
      exact this y hy
    · exact ih
theorem Found.least {R : Nat} {code : List E.Ins} (hc : CodeOk R code) {T W : StE} (h : Found R code T) (h0 : leO R (some zeroE) (W 0))
    (hW : ∀ (k : Nat) (h : k < code.length) (U X V : Int → Vl), nrmE R V → T k = some U → W k = some X → leE R V U → leE R V X → ∀ x ∈ goesV k code[k] V, leO R (some (flowV code[k] V)) (W x)) : leS R T W := by
  refine goes_least hc hW h (start_inv R _).1 start_closed (fun k U hU => ?_) leS.rfl'
  simp only [start, leadS, updS] at hU
  split at hU
  · rename_i e; cases hU; rw [e]; exact h0 zeroE rfl
  · cases hU

/-! what is known grows with what is known -/
theorem nrm_one {v w : Vl} (h : leV v w) (h1 : w.st = 1) : v = w := by
  rcases h with h | h
  · exact h
  · rw [h] at h1; simp at h1
theorem nrm_two {v w : Vl} (hw : nrm w) (h : leV v w) (h1 : v.st = 2) : w.st = 2 := by
  rcases h with rfl | rfl
  · exact h1
  · rfl
theorem reck_mono {R : Nat} {i : E.Ins} (hr : readsIn R i) {V W : Int → Vl} (hV : nrmE R V) (hW : nrmE R W) (h : leE R V W) {v w : Vl} (h1 : reck i V = some v) (h2 : reck i W = some w) : leV v w := by
  unfold reck at h1 h2
  split at h1
  · rename_i e; rw [if_pos e] at h2; cases h1; cases h2; exact .inl rfl
  · rename_i e1
    rw [if_neg e1] at h2
    split at h1
    · rename_i e2
      rw [if_pos e2] at h2
      obtain ⟨a, b⟩ := hr.1 e2
      cases h1; cases h2; exact h _ a b
    · rename_i e2
      rw [if_neg e2] at h2
      split at h1
      · rename_i e3
        rw [if_pos e3] at h2
        obtain ⟨⟨a1, a2⟩, b1, b2⟩ := hr.2 e3
        have hVb := hV _ a1 a2
        have hVc := hV _ b1 b2
        have hWb := hW _ a1 a2
        have hWc := hW _ b1 b2
        have z : ∀ {v : Vl}, nrm v → v.st ≠ 0 := fun {v} h => by rcases h with h | h <;> simp [h]
        rw [if_neg (by rintro (h | h); exact z hVb h; exact z hVc h)] at h1
        rw [if_neg (by rintro (h | h); exact z hWb h; exact z hWc h)] at h2
        split at h2
        · cases h2; exact .inr rfl
        · rename_i e4
          have o : ∀ {v : Vl}, nrm v → v.st ≠ 2 → v.st = 1 := fun {v} h h' => by
            rcases h with h | h
            · exact h
            · rw [h] at h'; exact absurd rfl h'
          have eb := nrm_one (h _ a1 a2) (o hWb fun h => e4 (.inl h))
          have ec := nrm_one (h _ b1 b2) (o hWc fun h => e4 (.inr h))
          rw [eb, ec, if_neg e4] at h1
          rw [h1] at h2; cases h2; exact .inl rfl
      · cases h1
theorem leE_upd {R : Nat} {V W : Int → Vl} {k : Int} {v w : Vl} (h : leE R V W) (h' : leV v w) : leE R (updE V k v) (updE W k w) := fun r a b => by
  unfold updE
  split
  · exact h'
  · exact h r a b
theorem flow_mono {R : Nat} {i : E.Ins} (hi : InsIn R i) {V W : Int → Vl} (hV : nrmE R V) (hW : nrmE R W) (h : leE R V W) : leE R (flowV i V) (flowV i W) := by
  have hs := reck_some i V W
  unfold flowV
  cases h1 : reck i V with
  | some v =>
    cases h2 : reck i W with
    | some w => exact leE_upd h (reck_mono hi.reads hV hW h h1 h2)
    | none => rw [h1, h2] at hs; cases hs
  | none =>
    cases h2 : reck i W with
    | some w => rw [h1, h2] at hs; cases hs
    | none =>
      simp only
      split
      · exact leE_upd h (.inl rfl)
      · exact h
theorem goes_mono {R : Nat} {i : E.Ins} (hi : InsIn R i) {k : Int} {V W : Int → Vl} (hV : nrmE R V) (hW : nrmE R W) (h : leE R V W) {x : Int} (hx : x ∈ goesV k i V) : x ∈ goesV k i W := by
  unfold goesV at hx ⊢
  split at hx
  · rename_i e; rw [if_pos e]; exact hx
  · rename_i e
    rw [if_neg e]
    have hz := hi.zero (Classical.not_not.1 e)
    rcases h _ hz.1 hz.2 with h' | h'
    · rw [← h']; exact hx
    · rw [h']
      simp only [true_or, if_pos]
      rcases List.mem_append.1 hx with h1 | h1
      · split at h1
        · exact List.mem_append_left _ h1
        · cases h1
      · split at h1
        · exact List.mem_append_right _ h1
        · cases h1
end Go.Proofs.Ythpgjbdacknkgaa
