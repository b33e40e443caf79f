/- Maps by whole numbers: made, asked, written. No statement of the seat in it. -/
import Derived.Test.YthpgjbdacknkgaaRd
import Derived.Carry
namespace Go.Proofs.Ythpgjbdacknkgaa
namespace E
open Go

/-- a map of one's own, its keys whole numbers, as it was filled -/
def mpI (b : Nat) (kvs : List (Int × Value)) : Asr := fun h => ∃ (es : Array MapEntry) (clock : Nat), h = one b (.map es clock) ∧ es.toList.map (fun e => (e.key, e.val)) = kvs.map fun p => (Value.int .i64 p.1, p.2)

def getI (kvs : List (Int × Value)) (k : Int) : Option Value := (kvs.find? fun p => p.1 == k).map (·.2)
def putI (kvs : List (Int × Value)) (k : Int) (v : Value) : List (Int × Value) :=
  match kvs with
  | [] => [(k, v)]
  | p :: r => if p.1 = k then (k, v) :: r else p :: putI r k v

theorem getI_nil (k : Int) : getI [] k = none := rfl
theorem getI_cons (p : Int × Value) (r : List (Int × Value)) (k : Int) : getI (p :: r) k = if p.1 = k then some p.2 else getI r k := by
  unfold getI
  rw [List.find?_cons]
  by_cases h : p.1 = k
  · simp [h]
  · have : (p.1 == k) = false := by simpa using h
    simp [h, this]
theorem getI_putI (kvs : List (Int × Value)) (k : Int) (v : Value) (j : Int) : getI (putI kvs k v) j = if j = k then some v else getI kvs j := by
  induction kvs with
  | nil => simp only [putI, getI_cons, getI_nil]; by_cases h : k = j <;> simp [h, eq_comm]
  | cons p r ih =>
    unfold putI
    by_cases hp : p.1 = k
    · rw [if_pos hp, getI_cons, getI_cons]
      by_cases hj : j = k
      · subst hj; simp
      · rw [if_neg hj]; simp only
        rw [if_neg (fun e => hj e.symm), if_neg (fun e => hj (by rw [← e, hp]))]
    · rw [if_neg hp, getI_cons, ih, getI_cons]
      by_cases hj : p.1 = j
      · rw [if_pos hj, if_neg (fun e => hp (hj.trans e)), if_pos hj]
      · rw [if_neg hj, if_neg hj]

def isIntKey (P : Program) (t : TypeId) : Option TypeId := match P.underlying t with
  | some (.map k e) => match P.underlying k with
    | some (.int .i64) => some e
    | _ => none
  | _ => none
theorem isIntKey_spec {P : Program} {t e : TypeId} (h : isIntKey P t = some e) : ∃ k, P.underlying t = some (.map k e) ∧ P.underlying k = some (.int .i64) := by
  unfold isIntKey at h
  cases hu : P.underlying t with
  | none => rw [hu] at h; cases h
  | some d =>
    rw [hu] at h
    cases d <;> simp only at h <;> try (cases h; done)
    rename_i k e'
    cases hk : P.underlying k with
    | none => rw [hk] at h; cases h
    | some d' =>
      rw [hk] at h
      cases d' <;> (try simp only at h) <;> try (cases h; done)
      rename_i q
      cases q <;> first
        | (cases h; done)
        | (simp only [Option.some.injEq] at h; subst h; exact ⟨k, rfl, hk⟩)

theorem findNow_int (k : Int) : ∀ (es : List MapEntry) (kvs : List (Int × Value)) (i : Nat), es.map (fun e => (e.key, e.val)) = kvs.map (fun p => (Value.int .i64 p.1, p.2)) →
    (getI kvs k = none ∧ Instr.findNow (.int .i64) (.int .i64 k) es i = some none) ∨
    ∃ j v, getI kvs k = some v ∧ Instr.findNow (.int .i64) (.int .i64 k) es i = some (some (i + j, v)) ∧ j < es.length ∧ (∃ e, es[j]? = some e ∧ e.key = .int .i64 k) ∧
      (es.modify j fun e => { e with key := .int .i64 k, val := v }).map (fun e => (e.key, e.val)) = (putI kvs k v).map (fun p => (Value.int .i64 p.1, p.2)) ∧
      ∀ u : Value, (es.modify j fun e => { e with key := .int .i64 k, val := u }).map (fun e => (e.key, e.val)) = (putI kvs k u).map (fun p => (Value.int .i64 p.1, p.2))
  | [], kvs, i, h => by
    have : kvs = [] := by cases kvs <;> simp_all
    subst this
    exact .inl ⟨rfl, rfl⟩
  | e :: es, [], i, h => by simp at h
  | e :: es, p :: kvs, i, h => by
    simp only [List.map_cons, List.cons.injEq, Prod.mk.injEq] at h
    obtain ⟨⟨hk, hv⟩, hr⟩ := h
    unfold Instr.findNow
    rw [hk]
    have hsn : Instr.sameNow (.int .i64) (.int .i64 k) (.int .i64 p.1) = some (k == p.1) := by simp [Instr.sameNow]
    rw [hsn]
    rw [getI_cons]
    by_cases hp : p.1 = k
    · right
      have : (k == p.1) = true := by simp [hp]
      rw [if_pos hp, this]
      refine ⟨0, p.2, rfl, by simp [hv], by simp, ⟨e, rfl, by rw [hk, hp]⟩, ?_, fun u => ?_⟩
      · simp [List.modify_cons, putI, hp, hr]
      · simp [List.modify_cons, putI, hp, hr]
    · have : (k == p.1) = false := by simp; exact fun e => hp e.symm
      rw [if_neg hp, this]
      rcases findNow_int k es kvs (i + 1) hr with ⟨h1, h2⟩ | ⟨j, v, h1, h2, h3, ⟨e', h4, h5⟩, h6, h7⟩
      · exact .inl ⟨h1, h2⟩
      · right
        refine ⟨j + 1, v, h1, ?_, by simp; omega, ⟨e', by simpa using h4, h5⟩, ?_, fun u => ?_⟩
        · simp only; rw [h2]; congr 3; omega
        · simp only [List.modify_succ_cons, List.map_cons, putI, if_neg hp, h6, hk, hv]
        · simp only [List.modify_succ_cons, List.map_cons, putI, if_neg hp, h7 u, hk, hv]

theorem putI_new {kvs : List (Int × Value)} {k : Int} {v : Value} (h : getI kvs k = none) : putI kvs k v = kvs ++ [(k, v)] := by
  induction kvs with
  | nil => rfl
  | cons p r ih =>
    rw [getI_cons] at h
    by_cases hp : p.1 = k
    · rw [if_pos hp] at h; cases h
    · rw [if_neg hp] at h
      unfold putI
      rw [if_neg hp, ih h]; rfl

section
variable {P : Program} {L : Env} {ρ : Ro} {M : List Asr} {o : Oper} {K : Value → Ro → List Asr → Prop}
theorem run_checkKey_int {k : TypeId} {q : IntKind} {i : Int} (b : Bool) (hk : P.underlying k = some (.int .i64)) (w : World) : (Instr.checkKey b 10000 k (.int q i)).run P w = .ok () w := by
  unfold Instr.checkKey
  simp [run_underlying hk]

theorem l_makeMap {t : TypeId} (ho : o.op = .makeMap t none) (h : ∀ b, K (.map (some b)) ρ (mpI b [] :: M)) : LOp P L ρ M o K :=
  LOp.val fun n a w ha H => ⟨_, ρ, _, w.alloc (.map #[] 0), by simp [execOp, ho, Instr.makeMap], H.alloc _ ⟨#[], 0, rfl, rfl⟩, h w.heap.size⟩

theorem setObj_ext {w : World} {b : Nat} {o o' : Obj} : Ext w { w with heap := w.heap.setIfInBounds b o } (one b o') :=
  ⟨rfl, rfl, rfl, fun x y hx hw => by
    have : x ≠ b := fun e => by subst e; rw [one_self] at hx; cases hx
    simp only
    rw [Array.getElem?_setIfInBounds_ne (Ne.symm this)]; exact hw⟩

theorem l_mapUpdate {t e : TypeId} {m x y : Operand} {b : Nat} {kvs : List (Int × Value)} {k : Int} {v : Value} {f : Asr → List Asr} (ho : o.op = .mapUpdate t m x y ∨ o.op = .insert t m x y) (hm : ev L m = some (.map (some b))) (hx : ev L x = some (.int .i64 k)) (hy : ev L y = some v)
    (hk : Ix M (mpI b kvs) f) (ht : isIntKey P t = some e) (h : K undef ρ (f (mpI b (putI kvs k v)))) : LOp P L ρ M o K :=
  LOp.unit fun n a w ha H => by
    obtain ⟨kt, h1, h2⟩ := isIntKey_spec ht
    obtain ⟨hh, ⟨es, clock, rfl, hes⟩, a2, a3⟩ := H.at hk
    have hb : w.heap[b]? = some (.map es clock) := a2 b _ (one_self _ _)
    have hlt : b < w.heap.size := (Array.getElem?_eq_some_iff.1 hb).1
    have hget : (getObj b).run P w = .ok (.map es clock) w := by simp [getObj, Sem.run, hb]
    have hset : ∀ o' : Obj, (setObj b o').run P w = .ok () { w with heap := w.heap.setIfInBounds b o' } := fun o' => by simp [setObj, Sem.run, hb]
    have fin : ∀ (es' : Array MapEntry) (c' : Nat), es'.toList.map (fun e => (e.key, e.val)) = (putI kvs k v).map (fun p => (Value.int .i64 p.1, p.2)) →
        Heap ρ { w with heap := w.heap.setIfInBounds b (.map es' c') } (f (mpI b (putI kvs k v))) := fun es' c' he =>
      a3 _ _ (one b (.map es' c')) setObj_ext ⟨es', c', rfl, he⟩ (fun x y hxy => by
        have := one_ne _ (by rw [hxy]; simp : one b (.map es' c') x ≠ none)
        subst this
        rw [one_self] at hxy
        cases hxy
        simp [Array.getElem?_setIfInBounds_self_of_lt hlt]) (fun x hx => .inl (by
        have := one_ne _ hx
        subst this
        rw [one_self]; simp))
    have hexec : (execOp a.eval o).run P w = ((Instr.mapUpdate t (.map (some b)) (.int .i64 k) v).run P w).andThen fun _ w' => .ok .skip w' := by
      rcases ho with ho | ho <;> simp [execOp, ho, ha.ev hm, ha.ev hx, ha.ev hy]
    rcases findNow_int k es.toList kvs 0 hes with ⟨g1, g2⟩ | ⟨j, u, g1, g2, g3, ⟨e', g4, g5⟩, _, g7⟩
    · refine ⟨ρ, _, _, ?_, fin (es.push { key := .int .i64 k, val := v, born := clock }) (clock + 1) ?_, h⟩
      · rw [hexec]
        have : (Instr.findKey kt (.int .i64 k) es.toList).run P w = .ok none w := by
          unfold Instr.findKey; simp [run_underlying h2, g2]
        simp [Instr.mapUpdate, run_underlying h1, hget, run_checkKey_int _ h2, this, hset]
      · rw [Array.toList_push, List.map_append, hes, putI_new g1, List.map_append]; rfl
    · rw [Nat.zero_add] at g2
      have hkey : ((es[j]?).map (·.key)).getD (.int .i64 k) = .int .i64 k := by
        have : es[j]? = some e' := by simpa using g4
        rw [this]; simp [g5]
      have hst : (Instr.keyThatStays (.int .i64 k) (.int .i64 k)).run P w = .ok (.int .i64 k) w := by
        simp [Instr.keyThatStays, Instr.sameBits]
      refine ⟨ρ, _, _, ?_, fin (es.modify j fun e => { e with key := .int .i64 k, val := v }) clock ?_, h⟩
      · rw [hexec]
        have : (Instr.findKey kt (.int .i64 k) es.toList).run P w = .ok (some (j, u)) w := by
          unfold Instr.findKey; simp [run_underlying h2, g2]
        simp only [Instr.mapUpdate, Sem.run_bind, run_underlying h1, Result.andThen_ok, hget, run_checkKey_int _ h2, this, hkey, hst, hset]
      · rw [Array.toList_modify]; exact g7 v

/-- what a map holds: one's own, or one that stays -/
def MapIs (ρ : Ro) (M : List Asr) (b : Nat) (kvs : List (Int × Value)) : Prop := ∀ w, Heap ρ w M → ∃ (es : Array MapEntry) (clock : Nat), w.heap[b]? = some (.map es clock) ∧ es.toList.map (fun e => (e.key, e.val)) = kvs.map fun p => (Value.int .i64 p.1, p.2)
theorem MapIs.own {b : Nat} {kvs : List (Int × Value)} {f : Asr → List Asr} (hk : Ix M (mpI b kvs) f) : MapIs ρ M b kvs := fun w H => by
  obtain ⟨hh, ⟨es, clock, rfl, hes⟩, a2, _⟩ := H.at hk
  exact ⟨es, clock, a2 b _ (one_self _ _), hes⟩

theorem q_lookup {t e : TypeId} {m x : Operand} {b : Nat} {kvs : List (Int × Value)} {k : Int} {z : Value} {sz by' : Nat} (ho : o.op = .lookup t m x false) (hm : ev L m = some (.map (some b))) (hx : ev L x = some (.int .i64 k))
    (hk : MapIs ρ M b kvs) (ht : isIntKey P t = some e) (hz : tyOf P e = some (some z, sz, by')) : QOp P L ρ M o ((getI kvs k).getD z) := fun n a w ha H => by
  obtain ⟨kt, h1, h2⟩ := isIntKey_spec ht
  obtain ⟨i, hi, hz0, _⟩ := tyOf_spec hz
  obtain ⟨es, clock, hb, hes⟩ := hk w H
  have hget : (getObj b).run P w = .ok (.map es clock) w := by simp [getObj, Sem.run, hb]
  rcases findNow_int k es.toList kvs 0 hes with ⟨g1, g2⟩ | ⟨j, u, g1, g2, _⟩
  · have : (Instr.findKey kt (.int .i64 k) es.toList).run P w = .ok none w := by unfold Instr.findKey; simp [run_underlying h2, g2]
    simp [execOp, ho, ha.ev hm, ha.ev hx, Instr.lookup, run_underlying h1, hget, run_checkKey_int _ h2, this, zeroValue, run_typeInfo hi, hz0, g1]
  · have : (Instr.findKey kt (.int .i64 k) es.toList).run P w = .ok (some (0 + j, u)) w := by unfold Instr.findKey; simp [run_underlying h2, g2]
    simp [execOp, ho, ha.ev hm, ha.ev hx, Instr.lookup, run_underlying h1, hget, run_checkKey_int _ h2, this, g1]
theorem q_lookupOk {t e : TypeId} {m x : Operand} {b : Nat} {kvs : List (Int × Value)} {k : Int} {z : Value} {sz by' : Nat} (ho : o.op = .lookup t m x true) (hm : ev L m = some (.map (some b))) (hx : ev L x = some (.int .i64 k))
    (hk : MapIs ρ M b kvs) (ht : isIntKey P t = some e) (hz : tyOf P e = some (some z, sz, by')) : QOp P L ρ M o (.tuple #[(getI kvs k).getD z, .bool (getI kvs k).isSome]) := fun n a w ha H => by
  obtain ⟨kt, h1, h2⟩ := isIntKey_spec ht
  obtain ⟨i, hi, hz0, _⟩ := tyOf_spec hz
  obtain ⟨es, clock, hb, hes⟩ := hk w H
  have hget : (getObj b).run P w = .ok (.map es clock) w := by simp [getObj, Sem.run, hb]
  rcases findNow_int k es.toList kvs 0 hes with ⟨g1, g2⟩ | ⟨j, u, g1, g2, _⟩
  · have : (Instr.findKey kt (.int .i64 k) es.toList).run P w = .ok none w := by unfold Instr.findKey; simp [run_underlying h2, g2]
    simp [execOp, ho, ha.ev hm, ha.ev hx, Instr.lookup, run_underlying h1, hget, run_checkKey_int _ h2, this, zeroValue, run_typeInfo hi, hz0, g1]
  · have : (Instr.findKey kt (.int .i64 k) es.toList).run P w = .ok (some (0 + j, u)) w := by unfold Instr.findKey; simp [run_underlying h2, g2]
    simp [execOp, ho, ha.ev hm, ha.ev hx, Instr.lookup, run_underlying h1, hget, run_checkKey_int _ h2, this, g1]
end
/-! ### parts of values -/
section
variable {P : Program} {L : Env} {ρ : Ro} {M : List Asr} {o : Oper}
theorem q_indexVal {t e : TypeId} {len : Nat} {x y : Operand} {cs : Array Value} {k : IntKind} {i : Nat} {v : Value} (ho : o.op = .index t x y) (hx : ev L x = some (.agg cs)) (hy : ev L y = some (.int k (i : Int)))
    (ht : arrayOf P t = some (len, e, 1)) (hs : isScal P e = true) (h1 : i < len) (hv : cs[i]? = some v) : QOp P L ρ M o v := fun n a w ha _ => by
  obtain ⟨h2, h3⟩ := arrayOf_spec ht
  simp [execOp, ho, ha.ev hx, ha.ev hy, Instr.index, asIntOf, run_underlying h2, run_sizeOf h3, part, run_isAgg_scal hs, h1, hv]
end
end E
end Go.Proofs.Ythpgjbdacknkgaa
