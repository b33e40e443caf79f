/- The engine's laws, an operation each. No statement of the seat in it. -/
import Derived.Test.YthpgjbdacknkgaaEng
import Derived.Laws.Sem
import Derived.Laws.Cells
import Derived.Laws.World
import Derived.IntWalk
namespace Go.Proofs.Ythpgjbdacknkgaa
namespace E
open Go

/-! ### entering a function, leaving it -/
def envOf : Nat → List Value → Env
  | _, [] => []
  | i, v :: r => (i, v) :: envOf (i + 1) r

theorem look_envOf : ∀ (l : List Value) (i t : Nat) (v : Value), look (envOf i l) t = some v → i ≤ t ∧ l[t - i]? = some v
  | [], _, _, _, h => by simp [envOf, look] at h
  | u :: l, i, t, v, h => by
    simp only [envOf, look_cons] at h
    by_cases e : i = t
    · subst e; simpa using h
    · rw [if_neg e] at h
      obtain ⟨h1, h2⟩ := look_envOf l (i + 1) t v h
      refine ⟨by omega, ?_⟩
      have : t - i = (t - (i + 1)) + 1 := by omega
      rw [this, List.getElem?_cons_succ]; exact h2

def ResOk (P : Program) (fn : Func) (L : Env) (ρ : Ro) (M : List Asr) (v : Value) : Prop :=
  ∀ n a w, Agr n a L → Heap ρ w M → (results fn a.tmps).run P w = .ok v w

def fnQ (P : Program) (fn : Func) (R : Value → Ro → List Asr → Prop) : QP
  | .ret, L, ρ, M | .normal, L, ρ, M => ∃ v ρ' M', ResOk P fn L ρ M v ∧ Ent ρ M ρ' M' ∧ R v ρ' M'
  | _, _, _, _ => False

theorem Hoa.enter {P : Program} {f : FuncId} {args : Array Value} {ρ : Ro} {M : List Asr} {R : Value → Ro → List Asr → Prop} {fn : Func} {c : Code} (n : Nat)
    (hf : P.funcs[f]? = some fn) (hb : fn.body = some c) (hn : fn.ntmps = n) (hs0 : Nat.ble args.size n = true) (h : Run P n c (envOf 0 args.toList) ρ M (fnQ P fn R)) : Hoa P f args ρ M R := by
  intro w H
  have hs : args.size ≤ n := Nat.le_of_ble_eq_true hs0
  refine calls_of_wp hf hb (wp_mono (h _ w ⟨?_, rfl, ?_⟩ H) ?_)
  · simp [hn]; omega
  · intro t v hv
    obtain ⟨_, h2⟩ := look_envOf _ _ _ _ hv
    rw [Nat.sub_zero] at h2
    have h3 : args[t]? = some v := by simpa using h2
    have hlt : t < args.size := (Array.getElem?_eq_some_iff.1 h3).1
    simp only [Array.getElem?_append, hlt, if_true]
    exact h3
  · intro e a' w' hp
    cases e with
    | ret =>
      obtain ⟨L', ρ', M', ha, H', v, ρ2, M2, hv, he, hr⟩ := hp
      exact ⟨ha.defers, v, hv n a' w' ha H', v, ρ2, M2, rfl, he w' H', hr⟩
    | normal =>
      obtain ⟨L', ρ', M', ha, H', v, ρ2, M2, hv, he, hr⟩ := hp
      exact ⟨ha.defers, v, hv n a' w' ha H', v, ρ2, M2, rfl, he w' H', hr⟩
    | exit _ => obtain ⟨_, _, _, _, _, h⟩ := hp; exact h.elim
    | goto _ => obtain ⟨_, _, _, _, _, h⟩ := hp; exact h.elim
    | panic _ => obtain ⟨_, _, _, _, h⟩ := hp; exact h.elim
    | outgrown => obtain ⟨_, _, _, _, _, h⟩ := hp; exact h.elim

/-- a value that a result yields -/
def ResVal (P : Program) (L : Env) (ρ : Ro) (M : List Asr) (r : ResultVar) (v : Value) : Prop :=
  match r with
  | .tmp t => look L t = some v
  | .cell a t => ∃ ad, look L a = some (.pointer (some ad)) ∧ ∀ w, Heap ρ w M → (loadVar t ad).run P w = .ok v w

theorem run_underlying {P : Program} {t : TypeId} {d : TypeDesc} (h : P.underlying t = some d) (w : World) : (underlying t).run P w = .ok d w := by
  simp [underlying, h]
theorem run_typeInfo {P : Program} {t : TypeId} {d : TypeInfo} (h : P.info? t = some d) (w : World) : (typeInfo t).run P w = .ok d w := by
  simp [typeInfo, h]

theorem ResOk.one {P : Program} {fn : Func} {L : Env} {ρ : Ro} {M : List Asr} {r : ResultVar} {v : Value} (hr : fn.results = #[r]) (h : ResVal P L ρ M r v) : ResOk P fn L ρ M v := by
  intro n a w ha H
  cases r with
  | tmp t => simp only [ResVal] at h; simp [results, hr, ha.val t v h]
  | cell b t =>
    obtain ⟨ad, h1, h2⟩ := h
    simp [results, hr, ha.val b _ h1, asAddr, h2 w H]
theorem ResOk.two {P : Program} {fn : Func} {L : Env} {ρ : Ro} {M : List Asr} {r r' : ResultVar} {v v' : Value} (hr : fn.results = #[r, r']) (h : ResVal P L ρ M r v) (h' : ResVal P L ρ M r' v') :
    ResOk P fn L ρ M (.tuple #[v, v']) := by
  intro n a w ha H
  cases r with
  | tmp t =>
    simp only [ResVal] at h
    cases r' with
    | tmp t' => simp only [ResVal] at h'; simp [results, hr, ha.val t v h, ha.val t' v' h']
    | cell b t =>
      obtain ⟨ad, h1, h2⟩ := h'
      simp [results, hr, ha.val _ v h, ha.val b _ h1, asAddr, h2 w H]
  | cell b t =>
    obtain ⟨ad, h1, h2⟩ := h
    cases r' with
    | tmp t' => simp only [ResVal] at h'; simp [results, hr, ha.val t' v' h', ha.val b _ h1, asAddr, h2 w H]
    | cell b' t' =>
      obtain ⟨ad', h1', h2'⟩ := h'
      simp [results, hr, ha.val b _ h1, ha.val b' _ h1', asAddr, h2 w H, h2' w H]
theorem ResOk.none {P : Program} {fn : Func} {L : Env} {ρ : Ro} {M : List Asr} (hr : fn.results = #[]) : ResOk P fn L ρ M (.tuple #[]) := by
  intro n a w ha H
  simp [results, hr]

/-! ### cells -/
def cellOf (h : Hl) (a : Addr) : Option Value :=
  match h a.block with
  | some (.cells c _ _) => if a.spot.isSome then none else c[a.off]?
  | _ => none
theorem cellOf_world {h : Hl} {w : World} (hs : SubH h w) {a : Addr} {v : Value} (hc : cellOf h a = some v) : w.cell? a = some v := by
  unfold cellOf at hc
  unfold World.cell?
  cases hb : h a.block with
  | none => rw [hb] at hc; cases hc
  | some o => rw [hs _ _ hb]; rw [hb] at hc; cases o <;> first | exact hc | cases hc
theorem Heap.ro {ρ : Ro} {w : World} {M : List Asr} (H : Heap ρ w M) : SubH ρ.blk w := H.1.blk

/-- is the type one of one cell that is no struct, no array? -/
def isScal (P : Program) (t : TypeId) : Bool := match P.underlying t with | some (.struct _) | some (.array _ _) | none => false | _ => true
/-- a struct or an array of n cells -/
def isAggOf (P : Program) (t : TypeId) (n : Nat) : Bool := (match P.underlying t with | some (.struct _) | some (.array _ _) => true | _ => false) && (P.info? t).map (·.size) == some n

theorem run_isAgg_scal {P : Program} {t : TypeId} (h : isScal P t = true) (w : World) : (isAgg t).run P w = .ok false w := by
  unfold isScal at h
  cases hu : P.underlying t with
  | none => rw [hu] at h; cases h
  | some d => rw [hu] at h; simp only [isAgg, Sem.run_bind, run_underlying hu, Result.andThen_ok]; cases d <;> first | rfl | cases h
theorem run_isAgg_agg {P : Program} {t : TypeId} {n : Nat} (h : isAggOf P t n = true) (w : World) : (isAgg t).run P w = .ok true w := by
  unfold isAggOf at h
  rw [Bool.and_eq_true] at h
  cases hu : P.underlying t with
  | none => rw [hu] at h; cases h.1
  | some d => rw [hu] at h; simp only [isAgg, Sem.run_bind, run_underlying hu, Result.andThen_ok]; cases d <;> first | rfl | cases h.1
theorem run_sizeOf {P : Program} {t : TypeId} {n : Nat} (h : (P.info? t).map (·.size) = some n) (w : World) : (sizeOf t).run P w = .ok n w := by
  obtain ⟨i, hi, rfl⟩ := Option.map_eq_some_iff.1 h
  simp [sizeOf, run_typeInfo hi]
theorem agg_size {P : Program} {t : TypeId} {n : Nat} (h : isAggOf P t n = true) : (P.info? t).map (·.size) = some n := by
  unfold isAggOf at h
  rw [Bool.and_eq_true, beq_iff_eq] at h
  exact h.2

theorem run_loadVar_scal {P : Program} {t : TypeId} {w : World} {a : Addr} {v : Value} (ht : isScal P t = true) (h : w.cell? a = some v) : (loadVar t a).run P w = .ok v w := by
  simp [loadVar, run_isAgg_scal ht, h]
theorem run_loadVar_agg {P : Program} {t : TypeId} {w : World} {a : Addr} {cs : List Value} (ht : isAggOf P t cs.length = true) (h : ∀ j v, cs[j]? = some v → w.cell? (a.add j) = some v) : (loadVar t a).run P w = .ok (.agg cs.toArray) w := by
  simp [loadVar, run_isAgg_agg ht, run_sizeOf (agg_size ht), run_loadCells_list w a cs h]

/-- what a variable holds -/
def LoadAt (P : Program) (ρ : Ro) (M : List Asr) (t : TypeId) (a : Addr) (v : Value) : Prop := ∀ w, Heap ρ w M → (loadVar t a).run P w = .ok v w

/-- a block of cells of one's own -/
def one (b : Nat) (o : Obj) : Hl := fun x => if x = b then some o else none
def pt (b : Nat) (t : TypeId) (cs : List Value) : Asr := fun h => h = one b (.cells cs.toArray t (0, 0))
theorem one_self (b : Nat) (o : Obj) : one b o b = some o := if_pos rfl
theorem one_ne {b x : Nat} (o : Obj) (h : one b o x ≠ none) : x = b := by
  unfold one at h
  by_cases e : x = b
  · exact e
  · rw [if_neg e] at h; exact absurd rfl h

theorem cellOf_one (b : Nat) (cs : List Value) (t : TypeId) (off : Nat) : cellOf (one b (.cells cs.toArray t (0, 0))) ⟨b, off, none⟩ = cs[off]? := by
  simp [cellOf, one]

theorem add_none (b off j : Nat) : (⟨b, off, none⟩ : Addr).add j = ⟨b, off + j, none⟩ := by
  unfold Addr.add; split <;> simp_all

section
variable {P : Program} {ρ : Ro} {M : List Asr} {t T : TypeId} {v : Value} {a : Addr}
theorem LoadAt.ro (ht : isScal P t = true) (h : cellOf ρ.blk a = some v) : LoadAt P ρ M t a v := fun _ H => run_loadVar_scal ht (cellOf_world H.ro h)
theorem LoadAt.roAgg {cs : List Value} {n : Nat} (ht : isAggOf P t n = true) (h : ∀ j v, cs[j]? = some v → cellOf ρ.blk (a.add j) = some v) (hl : cs.length = n) : LoadAt P ρ M t a (.agg cs.toArray) :=
  fun _ H => run_loadVar_agg (by rw [hl]; exact ht) fun j v hv => cellOf_world H.ro (h j v hv)
theorem LoadAt.own {b off : Nat} {cs : List Value} {f : Asr → List Asr} (hk : Ix M (pt b T cs) f) (ht : isScal P t = true) (h : cs[off]? = some v) : LoadAt P ρ M t ⟨b, off, none⟩ v := fun w H => by
  obtain ⟨g, rfl, h2, _⟩ := H.at hk
  exact run_loadVar_scal ht (cellOf_world h2 (by rw [cellOf_one]; exact h))
theorem LoadAt.ownAgg {b off : Nat} {cs ds : List Value} {f : Asr → List Asr} (hk : Ix M (pt b T cs) f) (n : Nat) (ht : isAggOf P t n = true) (hd : ds = (cs.drop off).take n) (hl : ds.length = n) : LoadAt P ρ M t ⟨b, off, none⟩ (.agg ds.toArray) := fun w H => by
  obtain ⟨g, rfl, h2, _⟩ := H.at hk
  refine run_loadVar_agg (by rw [hl]; exact ht) fun j v hv => cellOf_world h2 ?_
  rw [add_none, cellOf_one]
  subst hd
  rw [List.getElem?_take] at hv
  split at hv
  · rw [List.getElem?_drop] at hv; exact hv
  · cases hv
end

/-! ### quiet operations -/
section
variable {P : Program} {L : Env} {ρ : Ro} {M : List Asr} {o : Oper}

theorem q_mv {x : Operand} {v : Value} (ho : o.op = .assign x) (hx : ev L x = some v) : QOp P L ρ M o v := fun n a w ha _ => by
  simp [execOp, ho, ha.ev hx]
theorem q_move {x : Operand} {v : Value} (ho : o.op = .move x) (hx : ev L x = some v) : QOp P L ρ M o v := fun n a w ha _ => by
  simp [execOp, ho, ha.ev hx]
theorem q_load {t : TypeId} {x : Operand} {ad : Addr} {v : Value} (ho : o.op = .load t x) (hx : ev L x = some (.pointer (some ad))) (hl : LoadAt P ρ M t ad v) : QOp P L ρ M o v := fun n a w ha H => by
  simp [execOp, ho, ha.ev hx, Instr.loadAt, Instr.sureAddr, hl w H]
theorem q_nilCheck {x : Operand} {ad : Addr} (ho : o.op = .nilCheck x) (hx : ev L x = some (.pointer (some ad))) : QOp P L ρ M o (.pointer (some ad)) := fun n a w ha _ => by
  simp [execOp, ho, ha.ev hx]
theorem q_extract {x : Operand} {i : Nat} {vs : Array Value} {v : Value} (ho : o.op = .extract x i) (hx : ev L x = some (.tuple vs)) (hv : vs[i]? = some v) : QOp P L ρ M o v := fun n a w ha _ => by
  simp [execOp, ho, ha.ev hx, Instr.extract, hv]
theorem q_pickT {c x y : Operand} {v : Value} (ho : o.op = .pick c x y) (hc : ev L c = some (.bool true)) (hx : ev L x = some v) : QOp P L ρ M o v := fun n a w ha _ => by
  simp [execOp, ho, ha.ev hc, ha.ev hx, asBool]
theorem q_pickF {c x y : Operand} {v : Value} (ho : o.op = .pick c x y) (hc : ev L c = some (.bool false)) (hx : ev L y = some v) : QOp P L ρ M o v := fun n a w ha _ => by
  simp [execOp, ho, ha.ev hc, ha.ev hx, asBool]
theorem q_not {t : TypeId} {x : Operand} {b : Bool} (ho : o.op = .unOp .not t x) (hx : ev L x = some (.bool b)) : QOp P L ρ M o (.bool !b) := fun n a w ha _ => by
  simp [execOp, ho, ha.ev hx, Op.unary]
def evArgs (L : Env) : List Operand → Option (List Value)
  | [] => some []
  | x :: r => match ev L x, evArgs L r with
    | some v, some vs => some (v :: vs)
    | _, _ => none
theorem evArgs_map {n : Nat} {a : Act} {L : Env} (ha : Agr n a L) {xs : Array Operand} {vs : List Value} (h : evArgs L xs.toList = some vs) : xs.map a.eval = vs.toArray := by
  apply Array.ext'
  rw [Array.toList_map]
  generalize xs.toList = l at h ⊢
  induction l generalizing vs with
  | nil => simp only [evArgs, Option.some.injEq] at h; subst h; rfl
  | cons x r ih =>
    unfold evArgs at h
    cases h1 : ev L x with
    | none => rw [h1] at h; cases h
    | some v =>
      cases h2 : evArgs L r with
      | none => rw [h1, h2] at h; cases h
      | some us =>
        rw [h1, h2] at h
        simp only [Option.some.injEq] at h
        subst h
        simp only [List.map_cons, List.cons.injEq]
        exact ⟨ha.ev h1, ih h2⟩
theorem q_makeFunc {fn : _root_.Go.Fn} {fs cs : Array Operand} {vs ws : List Value} (ho : o.op = .makeFunc fn fs cs) (hf : evArgs L fs.toList = some vs) (hc : evArgs L cs.toList = some ws) : QOp P L ρ M o (.func fn vs.toArray ws.toArray) := fun n a w ha _ => by
  simp [execOp, ho, Instr.makeFunc, evArgs_map ha hf, evArgs_map ha hc]

/-- the address of a field -/
def fieldOff (P : Program) (s : TypeId) (f : Nat) : Option Nat := match P.underlying s with
  | some (.struct fs) => match fs[f]? with
    | some d => if ((P.info? d.type).map (·.size)).getD 0 = 0 then none else some d.offset
    | none => none
  | _ => none
theorem run_fieldAt {P : Program} {s : TypeId} {f off : Nat} (h : fieldOff P s f = some off) (a : Addr) (w : World) : (Instr.fieldAt s (.pointer (some a)) f).run P w = .ok (.pointer (some (a.add off))) w := by
  unfold fieldOff at h
  cases hu : P.underlying s with
  | none => rw [hu] at h; cases h
  | some d =>
    rw [hu] at h
    cases d <;> simp only at h <;> try (cases h; done)
    rename_i fs
    cases hf : fs[f]? with
    | none => rw [hf] at h; cases h
    | some d =>
      rw [hf] at h
      simp only at h
      split at h
      · cases h
      · rename_i h0
        cases hi : P.info? d.type with
        | none => rw [hi] at h0; simp at h0
        | some i =>
          rw [hi] at h0
          simp only [Option.map_some, Option.getD_some] at h0
          cases h
          simp [Instr.fieldAt, run_underlying hu, hf, Instr.sureAddr, fieldPlace, sizeOf, run_typeInfo hi, h0]
theorem q_fieldAddr {s : TypeId} {x : Operand} {f off : Nat} {ad : Addr} (ho : o.op = .fieldAddr s x f) (hx : ev L x = some (.pointer (some ad))) (hf : fieldOff P s f = some off) : QOp P L ρ M o (.pointer (some (ad.add off))) := fun n a w ha _ => by
  simp [execOp, ho, ha.ev hx, run_fieldAt hf]
theorem q_fieldAddr' {s : TypeId} {x : Operand} {f off b k : Nat} (ho : o.op = .fieldAddr s x f) (hx : ev L x = some (.pointer (some ⟨b, k, none⟩))) (hf : fieldOff P s f = some off) : QOp P L ρ M o (.pointer (some ⟨b, k + off, none⟩)) := by
  rw [← add_none]; exact q_fieldAddr ho hx hf

/-- a slice type's element and its size -/
def sliceOf (P : Program) (t : TypeId) : Option (TypeId × Nat) := match P.underlying t with
  | some (.slice e) => (P.info? e).map fun i => (e, i.size)
  | _ => none
theorem sliceOf_spec {P : Program} {t e : TypeId} {sz : Nat} (h : sliceOf P t = some (e, sz)) : P.underlying t = some (.slice e) ∧ (P.info? e).map (·.size) = some sz := by
  unfold sliceOf at h
  cases hu : P.underlying t with
  | none => rw [hu] at h; cases h
  | some d =>
    rw [hu] at h
    cases d <;> simp only at h <;> try (cases h; done)
    rename_i e'
    obtain ⟨i, hi, he⟩ := Option.map_eq_some_iff.1 h
    simp only [Prod.mk.injEq] at he
    obtain ⟨rfl, rfl⟩ := he
    exact ⟨rfl, by rw [hi]; rfl⟩
theorem q_indexAddr {t e : TypeId} {sz : Nat} {x y : Operand} {ad : Addr} {len cap : Nat} {k : IntKind} {i : Int} (ho : o.op = .indexAddr t x y) (hx : ev L x = some (.slice (some ad) len cap)) (hy : ev L y = some (.int k i))
    (ht : sliceOf P t = some (e, sz)) (h0 : 0 ≤ i) (h1 : i < len) : QOp P L ρ M o (.pointer (some (ad.add (i.toNat * sz)))) := fun n a w ha _ => by
  obtain ⟨h2, h3⟩ := sliceOf_spec ht
  simp [execOp, ho, ha.ev hx, ha.ev hy, Instr.indexAt, asIntOf, run_underlying h2, run_sizeOf h3, h0, h1]
theorem q_indexNat {t e : TypeId} {sz : Nat} {x y : Operand} {ad : Addr} {len cap : Nat} {k : IntKind} {i : Nat} (ho : o.op = .indexAddr t x y) (hx : ev L x = some (.slice (some ad) len cap)) (hy : ev L y = some (.int k (i : Int)))
    (ht : sliceOf P t = some (e, sz)) (h1 : i < len) : QOp P L ρ M o (.pointer (some (ad.add (i * sz)))) := q_indexAddr ho hx hy ht (by omega) (by omega)
/-- .. of an array behind a pointer -/
def arrayOf (P : Program) (t : TypeId) : Option (Nat × TypeId × Nat) := match P.underlying t with
  | some (.array n e) => (P.info? e).map fun i => (n, e, i.size)
  | _ => none
theorem arrayOf_spec {P : Program} {t e : TypeId} {sz n : Nat} (h : arrayOf P t = some (n, e, sz)) : P.underlying t = some (.array n e) ∧ (P.info? e).map (·.size) = some sz := by
  unfold arrayOf at h
  cases hu : P.underlying t with
  | none => rw [hu] at h; cases h
  | some d =>
    rw [hu] at h
    cases d <;> simp only at h <;> try (cases h; done)
    rename_i m e'
    obtain ⟨i, hi, he⟩ := Option.map_eq_some_iff.1 h
    simp only [Prod.mk.injEq] at he
    obtain ⟨rfl, rfl, rfl⟩ := he
    exact ⟨rfl, by rw [hi]; rfl⟩
theorem q_indexArr {t e : TypeId} {sz len : Nat} {x y : Operand} {ad : Addr} {k : IntKind} {i : Int} (ho : o.op = .indexAddr t x y) (hx : ev L x = some (.pointer (some ad))) (hy : ev L y = some (.int k i))
    (ht : arrayOf P t = some (len, e, sz)) (h0 : 0 ≤ i) (h1 : i < len) : QOp P L ρ M o (.pointer (some (ad.add (i.toNat * sz)))) := fun n a w ha _ => by
  obtain ⟨h2, h3⟩ := arrayOf_spec ht
  simp [execOp, ho, ha.ev hx, ha.ev hy, Instr.indexAt, asIntOf, run_underlying h2, run_sizeOf h3, Instr.sureAddr, h0, h1]
theorem q_indexStr {t : TypeId} {x y : Operand} {s : ByteArray} {k : IntKind} {i : Int} (ho : o.op = .index t x y) (hx : ev L x = some (.string s)) (hy : ev L y = some (.int k i)) (ht : P.underlying t = some .string) (h0 : 0 ≤ i) (h1 : i.toNat < s.size) :
    QOp P L ρ M o (.int .u8 ((s[i.toNat]'h1).toNat : Int)) := fun n a w ha _ => by
  simp [execOp, ho, ha.ev hx, ha.ev hy, Instr.index, asIntOf, run_underlying ht, h0, getElem?_pos, h1]

theorem q_lenSlice {t e : TypeId} {x : Operand} {ad : Option Addr} {len cap : Nat} {ty : TypeId} {po : String} {af : Array Edge} {g : Option (Nat × Bool)} {d : Option Tmp}
    (hx : ev L x = some (.slice ad len cap)) (ht : P.underlying t = some (.slice e)) :
    QOp P L ρ M ⟨d, .call { callee := .builtin .len, args := #[x], argTypes := #[t] }, ty, po, af, g⟩ (.int .i64 len) := fun n a w ha _ => by
  simp [execOp, resolve, invoke, builtin, Builtin.len_, ha.ev hx, run_underlying ht, goInt]
theorem q_lenStr {t : TypeId} {x : Operand} {s : ByteArray} {ty : TypeId} {po : String} {af : Array Edge} {g : Option (Nat × Bool)} {d : Option Tmp}
    (hx : ev L x = some (.string s)) (ht : P.underlying t = some .string) :
    QOp P L ρ M ⟨d, .call { callee := .builtin .len, args := #[x], argTypes := #[t] }, ty, po, af, g⟩ (.int .i64 s.size) := fun n a w ha _ => by
  simp [execOp, resolve, invoke, builtin, Builtin.len_, ha.ev hx, run_underlying ht, goInt]

/-! whole numbers -/
theorem run_bin {t u : TypeId} {op : BinOp} {x y : Operand} {k : IntKind} {i j : Int} (ho : o.op = .binOp op t x y u) (hx : ev L x = some (.int k i)) (hy : ev L y = some (.int k j)) {v : Value}
    (h : ∀ w, (binOp op t (.int k i) (.int k j)).run P w = .ok v w) : QOp P L ρ M o v := fun n a w ha _ => by
  have hg : (eqGuard op t x y (.int k i) (.int k j)).run P w = .ok () w := by unfold eqGuard; cases op <;> rfl
  simp [execOp, ho, ha.ev hx, ha.ev hy, hg, h w]
section
variable {t u : TypeId} {x y : Operand} {k : IntKind} {i j : Int}
theorem q_add (ho : o.op = .binOp .add t x y u) (hx : ev L x = some (.int k i)) (hy : ev L y = some (.int k j)) : QOp P L ρ M o (.int k (k.wrap (i + j))) := run_bin ho hx hy fun w => by simp [binOp, Op.intArith]
theorem q_sub (ho : o.op = .binOp .sub t x y u) (hx : ev L x = some (.int k i)) (hy : ev L y = some (.int k j)) : QOp P L ρ M o (.int k (k.wrap (i - j))) := run_bin ho hx hy fun w => by simp [binOp, Op.intArith]
theorem q_mul (ho : o.op = .binOp .mul t x y u) (hx : ev L x = some (.int k i)) (hy : ev L y = some (.int k j)) : QOp P L ρ M o (.int k (k.wrap (i * j))) := run_bin ho hx hy fun w => by simp [binOp, Op.intArith]
theorem q_eql (ho : o.op = .binOp .eql t x y u) (hx : ev L x = some (.int k i)) (hy : ev L y = some (.int k j)) : QOp P L ρ M o (.bool (decide (i = j))) := run_bin ho hx hy fun w => by simp [binOp, Op.intCmp, BEq.beq]
theorem q_neq (ho : o.op = .binOp .neq t x y u) (hx : ev L x = some (.int k i)) (hy : ev L y = some (.int k j)) : QOp P L ρ M o (.bool (decide (i ≠ j))) := run_bin ho hx hy fun w => by simp [binOp, Op.intCmp, bne, BEq.beq]
theorem q_lss (ho : o.op = .binOp .lss t x y u) (hx : ev L x = some (.int k i)) (hy : ev L y = some (.int k j)) : QOp P L ρ M o (.bool (decide (i < j))) := run_bin ho hx hy fun w => by simp [binOp, Op.intCmp]
theorem q_leq (ho : o.op = .binOp .leq t x y u) (hx : ev L x = some (.int k i)) (hy : ev L y = some (.int k j)) : QOp P L ρ M o (.bool (decide (i ≤ j))) := run_bin ho hx hy fun w => by simp [binOp, Op.intCmp]
theorem q_gtr (ho : o.op = .binOp .gtr t x y u) (hx : ev L x = some (.int k i)) (hy : ev L y = some (.int k j)) : QOp P L ρ M o (.bool (decide (i > j))) := run_bin ho hx hy fun w => by simp [binOp, Op.intCmp]
theorem q_geq (ho : o.op = .binOp .geq t x y u) (hx : ev L x = some (.int k i)) (hy : ev L y = some (.int k j)) : QOp P L ρ M o (.bool (decide (i ≥ j))) := run_bin ho hx hy fun w => by simp [binOp, Op.intCmp]
end
end

/-! tests whose outcome is known, or is parted on -/
theorem QOp.isT {P : Program} {L : Env} {ρ : Ro} {M : List Asr} {o : Oper} {p : Prop} [Decidable p] (h : QOp P L ρ M o (.bool (decide p))) (hp : p) : QOp P L ρ M o (.bool true) := by
  rw [decide_eq_true hp] at h; exact h
theorem QOp.isF {P : Program} {L : Env} {ρ : Ro} {M : List Asr} {o : Oper} {p : Prop} [Decidable p] (h : QOp P L ρ M o (.bool (decide p))) (hp : ¬ p) : QOp P L ρ M o (.bool false) := by
  rw [decide_eq_false hp] at h; exact h
theorem Ops.part {P : Program} {n : Nat} {all : Array Oper} {l : List Oper} {o : Oper} {L : Env} {ρ : Ro} {M : List Asr} {K : KP} {p : Prop} [Decidable p] (hq : QOp P L ρ M o (.bool (decide p))) (hg : guardIs all L o = some true) (hd : dstOk n o = true)
    (h : p → Ops P n all l (envPut o.dst (.bool true) L) ρ M K) (h' : ¬ p → Ops P n all l (envPut o.dst (.bool false) L) ρ M K) : Ops P n all (o :: l) L ρ M K := by
  by_cases hp : p
  · exact Ops.q _ (hq.isT hp) hg hd (h hp)
  · exact Ops.q _ (hq.isF hp) hg hd (h' hp)
theorem Plan.part {P : Program} {n : Nat} {all : List Oper} {p : Pl} {L : Env} {ρ ρS : Ro} {M S : List Asr} {K : KP} {i : Nat} {q : Prop} [Decidable q] (o : Oper) (hi : nth all i = some o) (hq : QOp P L ρS S o (.bool (decide q))) (hg : guardIs all.toArray L o = some true) (hd : dstOk n o = true)
    (h : q → Plan P n all.toArray ρS S p (envPut o.dst (.bool true) L) ρ M K) (h' : ¬ q → Plan P n all.toArray ρS S p (envPut o.dst (.bool false) L) ρ M K) : Plan P n all.toArray ρS S (.q i p) L ρ M K := by
  by_cases hp : q
  · exact Plan.q o hi _ (hq.isT hp) hg hd (h hp)
  · exact Plan.q o hi _ (hq.isF hp) hg hd (h' hp)
theorem PlanQ.part {P : Program} {n : Nat} {all : List Oper} {p : Pl} {L : Env} {ρ ρS : Ro} {M S : List Asr} {K : KP} {i : Nat} {ds r : List Nat} {q : Prop} [Decidable q] (o : Oper) (hi : nth all i = some o) (hq : QOp P L ρ M o (.bool (decide q))) (hg : guardIs all.toArray L o = some true) (hd : dstOk n o = true)
    (h : q → PlanQ P n all.toArray ρS S ds p r (envPut o.dst (.bool true) L) ρ M K) (h' : ¬ q → PlanQ P n all.toArray ρS S ds p r (envPut o.dst (.bool false) L) ρ M K) : PlanQ P n all.toArray ρS S ds p (i :: r) L ρ M K := by
  by_cases hp : q
  · exact PlanQ.q o hi _ (hq.isT hp) hg hd (h hp)
  · exact PlanQ.q o hi _ (hq.isF hp) hg hd (h' hp)
theorem Run.condD {P : Program} {n : Nat} {c c' : Code} {L : Env} {ρ : Ro} {M : List Asr} {Q : QP} {x : Operand} {p : Prop} [Decidable p] (hx : ev L x = some (.bool (decide p))) (h : p → Run P n c L ρ M Q) (h' : ¬ p → Run P n c' L ρ M Q) : Run P n (.cond x c c') L ρ M Q := by
  by_cases hp : p
  · rw [decide_eq_true hp] at hx; exact Run.condT hx (h hp)
  · rw [decide_eq_false hp] at hx; exact Run.condF hx (h' hp)

theorem thenQ_normal (k : KP) (Q : QP) : thenQ k Q .normal = k := rfl
theorem thenQ_exit (k : KP) (Q : QP) (i : Nat) : thenQ k Q (.exit i) = Q (.exit i) := rfl
theorem thenQ_ret (k : KP) (Q : QP) : thenQ k Q .ret = Q .ret := rfl
theorem blockQ_normal (i : Nat) (Q : QP) : blockQ i Q .normal = Q .normal := rfl
theorem blockQ_ret (i : Nat) (Q : QP) : blockQ i Q .ret = Q .ret := rfl
theorem blockQ_same (i : Nat) (Q : QP) : blockQ i Q (.exit i) = Q .normal := by funext L ρ M; simp [blockQ]
theorem blockQ_other (i j : Nat) (Q : QP) (h : Nat.beq j i = false) : blockQ i Q (.exit j) = Q (.exit j) := by funext L ρ M; simp [blockQ]; intro e; subst e; simp at h

/-- i + 1, i a number of rounds -/
theorem q_incr {P : Program} {L : Env} {ρ : Ro} {M : List Asr} {o : Oper} {t u : TypeId} {x : Operand} {i : Nat} (ho : o.op = .binOp .add t x (.const (.int .i64 1)) u) (hx : ev L x = some (.int .i64 (i : Int))) (h : i < 4611686018427387904) : QOp P L ρ M o (.int .i64 ((i + 1 : Nat) : Int)) := by
  have := q_add (P := P) (ρ := ρ) (M := M) ho hx rfl
  have e : IntKind.i64.wrap ((i : Int) + 1) = ((i + 1 : Nat) : Int) := by rw [IntKind.wrap_i64]; omega
  rwa [e] at this
theorem q_addFit {P : Program} {L : Env} {ρ : Ro} {M : List Asr} {o : Oper} {t u : TypeId} {x y : Operand} {i j : Int} (ho : o.op = .binOp .add t x y u) (hx : ev L x = some (.int .i64 i)) (hy : ev L y = some (.int .i64 j)) (h : -9223372036854775808 ≤ i + j ∧ i + j ≤ 9223372036854775807) : QOp P L ρ M o (.int .i64 (i + j)) := by
  have := q_add (P := P) (ρ := ρ) (M := M) ho hx hy
  have e : IntKind.i64.wrap (i + j) = i + j := by rw [IntKind.wrap_i64]; omega
  rwa [e] at this
theorem q_subFit {P : Program} {L : Env} {ρ : Ro} {M : List Asr} {o : Oper} {t u : TypeId} {x y : Operand} {i j : Int} (ho : o.op = .binOp .sub t x y u) (hx : ev L x = some (.int .i64 i)) (hy : ev L y = some (.int .i64 j)) (h : -9223372036854775808 ≤ i - j ∧ i - j ≤ 9223372036854775807) : QOp P L ρ M o (.int .i64 (i - j)) := by
  have := q_sub (P := P) (ρ := ρ) (M := M) ho hx hy
  have e : IntKind.i64.wrap (i - j) = i - j := by rw [IntKind.wrap_i64]; omega
  rwa [e] at this

/-! short names for the walks' texts -/
theorem tn (k : KP) (Q : QP) : thenQ k Q .normal = k := rfl
theorem tx (k : KP) (Q : QP) (i : Nat) : thenQ k Q (.exit i) = Q (.exit i) := rfl
theorem tr (k : KP) (Q : QP) : thenQ k Q .ret = Q .ret := rfl
theorem bn (i : Nat) (Q : QP) : blockQ i Q .normal = Q .normal := rfl
theorem br (i : Nat) (Q : QP) : blockQ i Q .ret = Q .ret := rfl
theorem bs (i : Nat) (Q : QP) : blockQ i Q (.exit i) = Q .normal := blockQ_same i Q
theorem ixA {M : List Asr} {A : Asr} {f : Asr → List Asr} (h : Ix M A f := by repeat (first | with_reducible exact E.Ix.here | with_reducible apply E.Ix.there)) : Ix M A f := h
end E
end Go.Proofs.Ythpgjbdacknkgaa
