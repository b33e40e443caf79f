/- What is read: slices whose elements stay. No statement of the seat in it. -/
import Derived.Test.YthpgjbdacknkgaaMem
import Derived.Great.Walk
namespace Go.Proofs.Ythpgjbdacknkgaa
namespace E
open Go

theorem add_add (a : Addr) (m k : Nat) : (a.add m).add k = a.add (m + k) := by
  unfold Addr.add
  by_cases h1 : m = 0
  · subst h1; simp
  · by_cases h2 : k = 0
    · subst h2; simp [h1]
    · have : ¬ m + k = 0 := by omega
      simp [h1, h2, this, Nat.add_assoc]

/-- a slice whose elements are these; R: what an element's cells say -/
def RdS {α : Type} (h : Hl) (sz : Nat) (R : α → List Value → Prop) (A : Option Addr) (xs : List α) : Prop :=
  ∀ i x, xs[i]? = some x → ∃ ad cs, A = some ad ∧ R x cs ∧ cs.length = sz ∧ ∀ j u, cs[j]? = some u → cellOf h (ad.add (i * sz + j)) = some u

theorem RdS.at {α : Type} {h : Hl} {sz : Nat} {R : α → List Value → Prop} {A : Option Addr} {xs : List α} (H : RdS h sz R A xs) {i : Nat} (hi : i < xs.length) :
    ∃ ad, A = some ad ∧ ∀ i x, xs[i]? = some x → ∃ cs, R x cs ∧ cs.length = sz ∧ ∀ j u, cs[j]? = some u → cellOf h ((ad.add (i * sz)).add j) = some u := by
  obtain ⟨ad, _, rfl, _⟩ := H i _ (List.getElem?_eq_getElem hi)
  refine ⟨ad, rfl, fun k x hx => ?_⟩
  obtain ⟨ad', cs, e, h1, h2, h3⟩ := H k x hx
  cases e
  exact ⟨cs, h1, h2, fun j u hu => by rw [add_add]; exact h3 j u hu⟩

theorem RdS.nil {α : Type} (h : Hl) (sz : Nat) (R : α → List Value → Prop) (A : Option Addr) : RdS h sz R A [] := fun i x hx => by simp at hx

/-- of elements that are told by their cells alone -/
def RdF {α : Type} (h : Hl) (enc : α → List Value) (sz : Nat) (A : Option Addr) (xs : List α) : Prop := RdS h sz (fun x cs => cs = enc x) A xs
theorem RdF.at {α : Type} {h : Hl} {sz : Nat} {enc : α → List Value} {A : Option Addr} {xs : List α} (H : RdF h enc sz A xs) {i : Nat} (hi : i < xs.length) :
    ∃ ad, A = some ad ∧ (enc xs[i]).length = sz ∧ ∀ j u, (enc xs[i])[j]? = some u → cellOf h ((ad.add (i * sz)).add j) = some u := by
  obtain ⟨ad, rfl, hh⟩ := RdS.at H hi
  obtain ⟨cs, rfl, h2, h3⟩ := hh i _ (List.getElem?_eq_getElem hi)
  exact ⟨ad, rfl, h2, h3⟩

def encI (x : Int) : List Value := [.int .i64 x]
def encB (x : Bool) : List Value := [.bool x]

/-- an order -/
structure Ins where
  op : Int
  a : Int
  b : Int
  c : Int
  deriving DecidableEq, Inhabited
def encIns (i : Ins) : List Value := [.int .i64 i.op, .int .i64 i.a, .int .i64 i.b, .int .i64 i.c]

/-! ### literals -/
section
variable {P : Program} {L : Env} {ρ : Ro} {M : List Asr} {o : Oper} {K : Value → Ro → List Asr → Prop}
def evParts (L : Env) : List (Nat × Operand) → Option (List (Nat × Value))
  | [] => some []
  | (i, x) :: r => match ev L x, evParts L r with
    | some v, some vs => some ((i, v) :: vs)
    | _, _ => none
theorem evParts_spec {n : Nat} {a : Act} (ha : Agr n a L) : ∀ (ps : List (Nat × Operand)) (vs : List (Nat × Value)), evParts L ps = some vs → ps.map (fun (i, x) => (i, a.eval x)) = vs
  | [], vs, h => by simp [evParts] at h; subst h; rfl
  | (i, x) :: r, vs, h => by
    unfold evParts at h
    cases hx : ev L x with
    | none => rw [hx] at h; cases h
    | some v =>
      rw [hx] at h
      cases hr : evParts L r with
      | none => rw [hr] at h; cases h
      | some us =>
        rw [hr] at h
        cases h
        simp [ha.ev hx, evParts_spec ha r us hr]

theorem q_build {t : TypeId} {ps : Array (Nat × Operand)} {vs : List (Nat × Value)} {cells : Array Value} (ho : o.op = .build t ps) (hv : evParts L ps.toList = some vs) (hb : P.built t vs = some cells) : QOp P L ρ M o (.agg cells) := fun n a w ha _ => by
  have h1 := evParts_spec ha _ _ hv
  have h2 : (ps.map fun (i, x) => (i, a.eval x)).toList = vs := by simpa using h1
  simp [execOp, ho, run_build w t _ cells (by rw [h2]; exact hb)]

theorem l_buildSlice {t T : TypeId} {len : Nat} {ps : Array (Nat × Operand)} {vs : List (Nat × Value)} {cells : Array Value} {sz : Nat} (ho : o.op = .buildSlice t len ps) (hv : evParts L ps.toList = some vs) (ht : P.underlying t = some (.slice T))
    (hb : P.builtSlice T len vs = some cells) (hT : (P.info? T).map (·.size) = some sz) (hs : cells.size = len * sz) (hl : len ≤ 16777216)
    (h : ∀ g, K (.slice (some ⟨g, 0, none⟩) len len) ρ (arr T sz (some ⟨g, 0, none⟩) len len cells.toList :: M)) : LOp P L ρ M o K :=
  LOp.val fun n a w ha H => by
    have h1 := evParts_spec ha _ _ hv
    have h2 : (ps.map fun (i, x) => (i, a.eval x)).toList = vs := by simpa using h1
    unfold Program.builtSlice at hb
    cases hie : P.info? T with
    | none => rw [hie] at hb; cases hb
    | some ie =>
      rw [hie] at hb
      simp only at hb
      cases hz : ie.zero with
      | none => rw [hz] at hb; cases hb
      | some z =>
        rw [hz] at hb
        simp only at hb
        split at hb
        · cases hb
        · rename_i hc
          have hc1 : ¬ len * ie.size > 2 ^ 24 := fun e => hc (.inl e)
          have hc2 : ¬ len * ie.size = 0 := fun e => hc (.inr e)
          have hsz : ie.size = sz := by rw [hie] at hT; simpa using hT
          refine ⟨_, ρ, _, w.alloc (.cells cells T), ?_, H.alloc _ (arr_new (cur := cells) (by rw [Array.length_toList]; exact hs) (Nat.le_refl _) (by simp only [maxLen]; omega) hs (List.take_of_length_le (by rw [Array.length_toList]; omega))), h w.heap.size⟩
          have h3 : (ps.map fun (x : Nat × Operand) => (x.fst, a.eval x.snd)).toList = vs := h2
          simp only [execOp, ho, Instr.buildSlice, Sem.run_bind, run_underlying ht, Result.andThen_ok, sizeOf, run_typeInfo hie, Sem.run_pure, Sem.run_ite, if_neg hc1, if_neg hc2, zeroValue, hz, h3, hb, newRow, run_newObj]
          rfl
end

/-! ### literals, their cells reckoned -/
theorem foldl_set (vs : List Value) : ∀ (off k : Nat) (cs : Array Value), off + k + vs.length ≤ cs.size →
    ((vs.zipIdx k).foldl (fun cs (x : Value × Nat) => cs.setIfInBounds (off + x.2) x.1) cs).toList = putAt cs.toList (off + k) vs := by
  induction vs with
  | nil => intro off k cs _; simp [putAt]
  | cons v vs ih =>
    intro off k cs h
    simp only [List.length_cons] at h
    rw [List.zipIdx_cons, List.foldl_cons, ih off (k + 1) _ (by simp; omega)]
    simp only [putAt, Array.toList_setIfInBounds, List.length_cons]
    apply List.ext_getElem?
    intro j
    simp only [List.getElem?_append, List.length_append, List.length_take, List.length_set, Array.length_toList, List.getElem?_take, List.getElem?_set, List.getElem?_drop, List.length_cons]
    have e1 : min (off + (k + 1)) cs.size = off + k + 1 := by omega
    have e2 : min (off + k) cs.size = off + k := by omega
    rw [e1, e2]
    by_cases h1 : j < off + k
    · simp [h1, show j < off + k + 1 + vs.length by omega, show j < off + k + 1 by omega, show j < off + (k + 1) by omega, show ¬ off + k = j by omega, show j < off + k + (vs.length + 1) by omega]
    · by_cases h2 : j = off + k
      · subst h2
        simp [show off + k < cs.size by omega, show off + k < off + (k + 1) by omega]
        intro hh
        omega
      · by_cases h3 : j < off + k + 1 + vs.length
        · have e3 : j - (off + k) = (j - (off + k + 1)) + 1 := by omega
          simp [h1, h3, show ¬ j < off + k + 1 by omega, show j < off + k + (vs.length + 1) by omega, e3]
        · simp [h3, show ¬ j < off + k + (vs.length + 1) by omega, show ¬ off + k = off + (k + 1) + vs.length + (j - (off + k + 1 + vs.length)) by omega]
          congr 1
          omega

def fillL (pl : Nat → Option (Nat × Nat)) : List Value → List (Nat × Value) → List Value
  | cs, [] => cs
  | cs, (i, v) :: r => match pl i with
    | some (off, _) => fillL pl (putAt cs off v.cells.toList) r
    | none => cs
def fillOk (pl : Nat → Option (Nat × Nat)) (n : Nat) : List (Nat × Value) → Bool
  | [] => true
  | (i, v) :: r => match pl i with
    | some (off, sz) => Nat.beq v.cells.toList.length sz && Nat.ble (off + sz) n && fillOk pl n r
    | none => false
theorem putAt_length (cs : List Value) (off : Nat) (vs : List Value) (h : off + vs.length ≤ cs.length) : (putAt cs off vs).length = cs.length := by
  simp only [putAt, List.length_append, List.length_take, List.length_drop]; omega
theorem fill_eq (pl : Nat → Option (Nat × Nat)) : ∀ (vs : List (Nat × Value)) (cs : Array Value), fillOk pl cs.size vs = true → ∃ ds, Instr.fill pl cs vs = some ds ∧ ds.toList = fillL pl cs.toList vs
  | [], cs, _ => ⟨cs, by simp [Instr.fill, fillL]⟩
  | (i, v) :: r, cs, h => by
    unfold fillOk at h
    unfold Instr.fill fillL
    cases hp : pl i with
    | none => rw [hp] at h; cases h
    | some p =>
      obtain ⟨off, sz⟩ := p
      rw [hp] at h
      simp only [Bool.and_eq_true, Nat.beq_eq, Nat.ble_eq] at h
      obtain ⟨⟨h1, h2⟩, h3⟩ := h
      have h1' : v.cells.size = sz := by simpa using h1
      have hc : ¬ (v.cells.size ≠ sz ∨ off + v.cells.size > cs.size) := by omega
      simp only [Bool.or_eq_true, decide_eq_true_eq]
      rw [if_neg hc]
      have e1 : ((v.cells.zipIdx.foldl (fun cs (x : Value × Nat) => cs.setIfInBounds (off + x.2) x.1) cs)).toList = putAt cs.toList off v.cells.toList := by
        rw [← Array.foldl_toList]
        have := foldl_set v.cells.toList off 0 cs (by simp; omega)
        simpa using this
      have e2 : ((v.cells.zipIdx.foldl (fun cs (x : Value × Nat) => cs.setIfInBounds (off + x.2) x.1) cs)).size = cs.size := by
        rw [← Array.length_toList, e1, putAt_length _ _ _ (by simp; omega)]; simp
      obtain ⟨ds, h4, h5⟩ := fill_eq pl r _ (by rw [e2]; exact h3)
      exact ⟨ds, h4, by rw [h5, e1]⟩

def placesOf (P : Program) (t : TypeId) : Option (List Value × List (Nat × Nat)) :=
  match P.info? t, P.underlying t with
  | some it, some (.struct fields) => match it.zero, fields.toList.mapM (fun f => (P.info? f.type).map fun i => (f.offset, i.size)) with
    | some z, some places => some (z.cells.toList, places)
    | _, _ => none
  | _, _ => none

section
variable {P : Program} {L : Env} {ρ : Ro} {M : List Asr} {o : Oper} {K : Value → Ro → List Asr → Prop}
theorem q_struct {t : TypeId} {ps : Array (Nat × Operand)} {vs : List (Nat × Value)} {zs : List Value} {pls : List (Nat × Nat)} (ho : o.op = .build t ps) (hv : evParts L ps.toList = some vs) (hp : placesOf P t = some (zs, pls))
    (hok : fillOk (fun i => pls[i]?) zs.length vs = true) : QOp P L ρ M o (.agg (fillL (fun i => pls[i]?) zs vs).toArray) := by
  unfold placesOf at hp
  cases hit : P.info? t with
  | none => rw [hit] at hp; cases hp
  | some it =>
    cases hu : P.underlying t with
    | none => rw [hit, hu] at hp; cases hp
    | some d =>
      rw [hit, hu] at hp
      cases d <;> simp only at hp <;> try (cases hp; done)
      rename_i fields
      cases hz : it.zero with
      | none => rw [hz] at hp; cases hp
      | some z =>
        cases hm : fields.toList.mapM (fun f => (P.info? f.type).map fun i => (f.offset, i.size)) with
        | none => rw [hz, hm] at hp; cases hp
        | some places =>
          rw [hz, hm] at hp
          simp only [Option.some.injEq, Prod.mk.injEq] at hp
          obtain ⟨rfl, rfl⟩ := hp
          obtain ⟨ds, h1, h2⟩ := fill_eq (fun i => places[i]?) vs z.cells (by simpa using hok)
          have hb : P.built t vs = some ds := by
            unfold Program.built
            simp only [hit, hu, hz, hm]
            have : (fun (x : Nat) => places.toArray[x]?) = (fun (i : Nat) => places[i]?) := by funext i; simp
            rw [this]; exact h1
          have := q_build (ρ := ρ) (M := M) ho hv hb
          rw [← h2, Array.toArray_toList]
          exact this

def arrPl (P : Program) (t : TypeId) : Option (List Value × Nat) :=
  match P.info? t, P.underlying t with
  | some it, some (.array _ e) => match it.zero, P.info? e with
    | some z, some ie => some (z.cells.toList, ie.size)
    | _, _ => none
  | _, _ => none
theorem q_array {t : TypeId} {ps : Array (Nat × Operand)} {vs : List (Nat × Value)} {zs : List Value} {sz : Nat} (ho : o.op = .build t ps) (hv : evParts L ps.toList = some vs) (hp : arrPl P t = some (zs, sz))
    (hok : fillOk (fun i => some (i * sz, sz)) zs.length vs = true) : QOp P L ρ M o (.agg (fillL (fun i => some (i * sz, sz)) zs vs).toArray) := by
  unfold arrPl at hp
  cases hit : P.info? t with
  | none => rw [hit] at hp; cases hp
  | some it =>
    cases hu : P.underlying t with
    | none => rw [hit, hu] at hp; cases hp
    | some d =>
      rw [hit, hu] at hp
      cases d <;> simp only at hp <;> try (cases hp; done)
      rename_i n e
      cases hz : it.zero with
      | none => rw [hz] at hp; cases hp
      | some z =>
        cases hm : P.info? e with
        | none => rw [hz, hm] at hp; cases hp
        | some ie =>
          rw [hz, hm] at hp
          simp only [Option.some.injEq, Prod.mk.injEq] at hp
          obtain ⟨rfl, rfl⟩ := hp
          obtain ⟨ds, h1, h2⟩ := fill_eq (fun i => some (i * ie.size, ie.size)) vs z.cells (by simpa using hok)
          have hb : P.built t vs = some ds := by
            unfold Program.built
            simp only [hit, hu, hz, hm]
            exact h1
          have := q_build (ρ := ρ) (M := M) ho hv hb
          rw [← h2, Array.toArray_toList]
          exact this

/-- parts 0, 1, .. in line -/
def inLine : Nat → List (Nat × Value) → Bool
  | _, [] => true
  | i, (j, _) :: r => Nat.beq i j && inLine (i + 1) r
def allSize (sz : Nat) : List (Nat × Value) → Bool
  | [] => true
  | (_, v) :: r => Nat.beq v.cells.toList.length sz && allSize sz r
theorem fillL_line (sz : Nat) : ∀ (vs : List (Nat × Value)) (i : Nat) (cs : List Value), inLine i vs = true → allSize sz vs = true → cs.length = (i + vs.length) * sz →
    fillL (fun i => some (i * sz, sz)) cs vs = cs.take (i * sz) ++ (vs.map fun p => p.2.cells.toList).flatten ∧ fillOk (fun i => some (i * sz, sz)) cs.length vs = true
  | [], i, cs, _, _, hl => by
    simp only [List.length_nil, Nat.add_zero] at hl
    simp [fillL, fillOk, List.take_of_length_le (Nat.le_of_eq hl)]
  | (j, v) :: r, i, cs, h1, h2, hl => by
    simp only [inLine, Bool.and_eq_true, Nat.beq_eq] at h1
    obtain ⟨rfl, h1⟩ := h1
    simp only [allSize, Bool.and_eq_true, Nat.beq_eq] at h2
    simp only [List.length_cons] at hl
    have hle : i * sz + sz ≤ cs.length := by
      rw [hl, Nat.add_mul, Nat.add_mul]; omega
    have hpl : (putAt cs (i * sz) v.cells.toList).length = cs.length := putAt_length _ _ _ (by rw [h2.1]; exact hle)
    obtain ⟨e1, e2⟩ := fillL_line sz r (i + 1) (putAt cs (i * sz) v.cells.toList) h1 h2.2 (by rw [hpl, hl]; congr 1; omega)
    constructor
    · simp only [fillL]
      rw [e1]
      simp only [List.map_cons, List.flatten_cons, ← List.append_assoc]
      congr 1
      simp only [putAt]
      have : (i + 1) * sz = i * sz + sz := by rw [Nat.add_mul, Nat.one_mul]
      rw [this, List.take_append_of_le_length (by simp only [List.length_append, List.length_take, h2.1]; omega)]
      apply List.take_of_length_le
      simp only [List.length_append, List.length_take, h2.1]; omega
    · simp only [fillOk, Bool.and_eq_true, Nat.beq_eq, Nat.ble_eq]
      refine ⟨⟨h2.1, hle⟩, ?_⟩
      rw [hpl] at e2
      exact e2

theorem l_slice {t T : TypeId} {len : Nat} {ps : Array (Nat × Operand)} {vs : List (Nat × Value)} {z : Value} {sz by' : Nat} (ho : o.op = .buildSlice t len ps) (hv : evParts L ps.toList = some vs) (ht : P.underlying t = some (.slice T))
    (hT : tyOf P T = some (some z, sz, by')) (hsz : Nat.blt 0 sz = true) (hlen : vs.length = len) (h0 : Nat.blt 0 len = true) (hbig : Nat.ble (len * sz) 16777216 = true) (hline : inLine 0 vs = true) (hall : allSize sz vs = true)
    (h : ∀ g, K (.slice (some ⟨g, 0, none⟩) len len) ρ (arr T sz (some ⟨g, 0, none⟩) len len ((vs.map fun p => p.2.cells.toList).flatten) :: M)) : LOp P L ρ M o K := by
  obtain ⟨i, hi, hz, rfl, _⟩ := tyOf_spec hT
  have hpos : 0 < i.size := by rw [Nat.blt_eq] at hsz; exact hsz
  have hlp : 0 < len := by rw [Nat.blt_eq] at h0; exact h0
  have hble := Nat.le_of_ble_eq_true hbig
  have hsize : ((Array.range (len * i.size)).map (fun x => z.cells[x % z.cells.size]!)).size = len * i.size := by simp
  obtain ⟨e1, e2⟩ := fillL_line i.size vs 0 ((Array.range (len * i.size)).map (fun x => z.cells[x % z.cells.size]!)).toList hline hall (by rw [Array.length_toList, hsize, hlen, Nat.zero_add])
  obtain ⟨ds, h1, h2⟩ := fill_eq (fun j => some (j * i.size, i.size)) vs ((Array.range (len * i.size)).map (fun x => z.cells[x % z.cells.size]!)) (by rw [← Array.length_toList]; exact e2)
  rw [e1] at h2
  simp only [Nat.zero_mul, List.take_zero, List.nil_append] at h2
  have hb : P.builtSlice T len vs = some ds := by
    unfold Program.builtSlice
    have hne : ¬ (len * i.size > 2 ^ 24 ∨ len * i.size = 0) := by
      have : 0 < len * i.size := Nat.mul_pos hlp hpos
      omega
    simp only [hi, hz, if_neg hne]
    exact h1
  have hds : ds.size = len * i.size := by
    rw [← Array.length_toList, h2]
    have : ∀ (vs : List (Nat × Value)), allSize i.size vs = true → ((vs.map fun p => p.2.cells.toList).flatten).length = vs.length * i.size := by
      intro vs
      induction vs with
      | nil => intro _; simp
      | cons p r ih =>
        obtain ⟨j, v⟩ := p
        intro ha
        simp only [allSize, Bool.and_eq_true, Nat.beq_eq] at ha
        rw [List.map_cons, List.flatten_cons, List.length_append, ih ha.2, ha.1, List.length_cons, Nat.add_mul]; omega
    rw [this vs hall, hlen]
  refine l_buildSlice ho hv ht hb (by rw [hi]; rfl) hds (by have := Nat.le_mul_of_pos_right len hpos; omega) (fun g => ?_)
  rw [h2]
  exact h g
end
end E
end Go.Proofs.Ythpgjbdacknkgaa
