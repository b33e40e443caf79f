/- The engine's laws for operations that make memory or write it. No statement of the seat in it. -/
import Derived.Test.YthpgjbdacknkgaaOps
import Derived.Laws.AppendOwn
import Derived.Laws.MakeOwn
import Derived.Laws.Tables
import Derived.Laws.IdiomCopy
import Derived.ArgAppend
namespace Go.Proofs.Ythpgjbdacknkgaa
namespace E
open Go

/-! ### entries of memory -/
/-- a slice of one's own: type of the elements, cells an element; address, length, capacity; the cells of its elements -/
def arr (T : TypeId) (sz : Nat) (A : Option Addr) (n c : Nat) (xs : List Value) : Asr := fun h =>
  xs.length = n * sz ∧ ((A = none ∧ n = 0 ∧ c = 0 ∧ h = fun _ => none) ∨
    ∃ g cur, A = some ⟨g, 0, none⟩ ∧ h = one g (.cells cur T (0, 0)) ∧ n ≤ c ∧ c ≤ maxLen ∧ cur.size = c * sz ∧ cur.toList.take (n * sz) = xs)

theorem arr_len {T : TypeId} {sz : Nat} {A : Option Addr} {n c : Nat} {xs : List Value} {h : Hl} (H : arr T sz A n c xs h) : xs.length = n * sz := H.1
theorem arr_cap {T : TypeId} {sz : Nat} {A : Option Addr} {n c : Nat} {xs : List Value} {h : Hl} (H : arr T sz A n c xs h) : n ≤ c ∧ c ≤ maxLen := by
  rcases H.2 with ⟨_, rfl, rfl, _⟩ | ⟨_, _, _, _, h1, h2, _⟩
  · exact ⟨Nat.le_refl _, Nat.zero_le _⟩
  · exact ⟨h1, h2⟩
theorem arr_nil (T : TypeId) (sz : Nat) : arr T sz none 0 0 [] (fun _ => none) := ⟨by simp, .inl ⟨rfl, rfl, rfl, rfl⟩⟩
theorem arr_cells {T : TypeId} {sz : Nat} {A : Option Addr} {n c : Nat} {xs : List Value} {h : Hl} (H : arr T sz A n c xs h) (hn : 0 < n) :
    ∃ g, A = some ⟨g, 0, none⟩ ∧ ∀ j u, xs[j]? = some u → cellOf h ⟨g, j, none⟩ = some u := by
  rcases H.2 with ⟨_, rfl, _, _⟩ | ⟨g, cur, rfl, rfl, _, _, _, ht⟩
  · omega
  · refine ⟨g, rfl, fun j u hu => ?_⟩
    simp only [cellOf, one, if_true]
    rw [← ht, List.getElem?_take] at hu
    split at hu
    · simpa using hu
    · cases hu

/-- what a stretch of memory holds -/
def Cells (ρ : Ro) (M : List Asr) (ad : Addr) (xs : List Value) : Prop := ∀ w, Heap ρ w M → ∀ j u, xs[j]? = some u → w.cell? (ad.add j) = some u
theorem Cells.ro {ρ : Ro} {M : List Asr} {ad : Addr} {xs : List Value} (h : ∀ j u, xs[j]? = some u → cellOf ρ.blk (ad.add j) = some u) : Cells ρ M ad xs := fun _ H j u hu => cellOf_world H.ro (h j u hu)
theorem Cells.pt {ρ : Ro} {M : List Asr} {b : Nat} {T : TypeId} {xs : List Value} {f : Asr → List Asr} (hk : Ix M (pt b T xs) f) : Cells ρ M ⟨b, 0, none⟩ xs := fun w H j u hu => by
  obtain ⟨g, rfl, h2, _⟩ := H.at hk
  rw [add_none, Nat.zero_add]
  exact cellOf_world h2 (by rw [cellOf_one]; exact hu)
/-- a slice whose elements' cells are these -/
def SrcOf (ρ : Ro) (M : List Asr) (sz : Nat) (A : Option Addr) (n : Nat) (xs : List Value) : Prop :=
  ∀ w, Heap ρ w M → xs.length = n * sz ∧ (n = 0 ∨ ∃ ad, A = some ad ∧ ∀ j u, xs[j]? = some u → w.cell? (ad.add j) = some u)
/-- a slice of one's own: its cells are there -/
theorem arr_load {ρ : Ro} {w : World} {M : List Asr} {T : TypeId} {sz n c : Nat} {A : Option Addr} {xs : List Value} {f : Asr → List Asr} (H : Heap ρ w M) (hk : Ix M (arr T sz A n c xs) f) :
    xs.length = n * sz ∧ n ≤ c ∧ c ≤ maxLen ∧ (0 < n → ∃ g, A = some ⟨g, 0, none⟩ ∧ ∀ j u, xs[j]? = some u → w.cell? ⟨g, j, none⟩ = some u) := by
  obtain ⟨h, h1, h2, _⟩ := H.at hk
  refine ⟨h1.1, (arr_cap h1).1, (arr_cap h1).2, fun hn => ?_⟩
  obtain ⟨g, e, hc⟩ := arr_cells h1 hn
  exact ⟨g, e, fun j u hu => cellOf_world h2 (hc j u hu)⟩

theorem SrcOf.arr {ρ : Ro} {M : List Asr} {T : TypeId} {sz n c : Nat} {A : Option Addr} {xs : List Value} {f : Asr → List Asr} (hk : Ix M (arr T sz A n c xs) f) : SrcOf ρ M sz A n xs := fun w H => by
  obtain ⟨h1, _, _, h2⟩ := arr_load H hk
  refine ⟨h1, ?_⟩
  rcases Nat.eq_zero_or_pos n with h0 | h0
  · exact .inl h0
  · obtain ⟨g, rfl, hc⟩ := h2 h0
    exact .inr ⟨_, rfl, fun j u hu => by rw [add_none, Nat.zero_add]; exact hc j u hu⟩

/-! ### new blocks -/
theorem heap_new {w : World} {o : Obj} : (w.alloc o).heap[w.heap.size]? = some o := heap_alloc_new w o
theorem ext_alloc (w : World) (o : Obj) (h : Hl) : Ext w (w.alloc o) h := ⟨rfl, rfl, rfl, fun b x _ hb => by
  rw [heap_alloc_old w o b (Array.getElem?_eq_some_iff.1 hb).1]; exact hb⟩
theorem Heap.alloc {ρ : Ro} {w : World} {M : List Asr} (H : Heap ρ w M) {P : Asr} (o : Obj) (hp : P (one w.heap.size o)) : Heap ρ (w.alloc o) (P :: M) :=
  H.fresh P (one w.heap.size o) (ext_alloc w o _) hp (fun b x hb => by
    have := one_ne o (by rw [hb]; simp : one w.heap.size o b ≠ none)
    subst this
    rw [one_self] at hb
    cases hb
    exact heap_new) (fun b hb => by
    have := one_ne o hb
    subst this
    simp)

/-- a type's zero, its cells, its bytes -/
def tyOf (P : Program) (t : TypeId) : Option (Option Value × Nat × Nat) := (P.info? t).map fun i => (i.zero, i.size, i.bytes)
theorem tyOf_spec {P : Program} {t : TypeId} {z : Value} {sz by' : Nat} (h : tyOf P t = some (some z, sz, by')) : ∃ i, P.info? t = some i ∧ i.zero = some z ∧ i.size = sz ∧ i.bytes = by' := by
  obtain ⟨i, hi, he⟩ := Option.map_eq_some_iff.1 h
  simp only [Prod.mk.injEq] at he
  exact ⟨i, hi, he.1, he.2.1, he.2.2⟩

section
variable {P : Program} {L : Env} {ρ : Ro} {M : List Asr} {o : Oper} {K : Value → Ro → List Asr → Prop}

theorem LOp.mono {K' : Value → Ro → List Asr → Prop} (h : LOp P L ρ M o K) (hk : ∀ v ρ M, K v ρ M → K' v ρ M) : LOp P L ρ M o K' :=
  fun n a w ha H next Q hn => h n a w ha H next Q fun v ρ' M' w' H' r => hn v ρ' M' w' H' (hk _ _ _ r)

theorem LOp.val (h : ∀ n a w, Agr n a L → Heap ρ w M → ∃ v ρ' M' w', (execOp a.eval o).run P w = .ok (.value v) w' ∧ Heap ρ' w' M' ∧ K v ρ' M') : LOp P L ρ M o K :=
  fun n a w ha H next Q hn => by
    obtain ⟨v, ρ', M', w', hr, H', hk⟩ := h n a w ha H
    unfold Oper.wp
    rw [hr]
    exact hn v ρ' M' w' H' hk
theorem LOp.unit (h : ∀ n a w, Agr n a L → Heap ρ w M → ∃ ρ' M' w', (execOp a.eval o).run P w = .ok .skip w' ∧ Heap ρ' w' M' ∧ K undef ρ' M') : LOp P L ρ M o K :=
  fun n a w ha H next Q hn => by
    obtain ⟨ρ', M', w', hr, H', hk⟩ := h n a w ha H
    unfold Oper.wp
    rw [hr]
    exact hn undef ρ' M' w' H' hk

theorem l_alloc {t : TypeId} {z : Value} {sz by' : Nat} (ho : o.op = .alloc t) (ht : tyOf P t = some (some z, sz, by')) (h : ∀ b, K (.pointer (some ⟨b, 0, none⟩)) ρ (pt b t z.cells.toList :: M)) : LOp P L ρ M o K :=
  LOp.val fun n a w ha H => by
    obtain ⟨i, hi, hz, _⟩ := tyOf_spec ht
    refine ⟨_, ρ, _, w.alloc (.cells z.cells t), by simp [execOp, ho, Instr.alloc, zeroValue, run_typeInfo hi, hz, newVar, newRow], H.alloc _ ?_, h w.heap.size⟩
    show one _ _ = one _ _
    simp
theorem l_box {t : TypeId} {x : Operand} {v : Value} (ho : o.op = .box t x) (hx : ev L x = some v) (h : ∀ b, K (.pointer (some ⟨b, 0, none⟩)) ρ (pt b t v.cells.toList :: M)) : LOp P L ρ M o K :=
  LOp.val fun n a w ha H => by
    refine ⟨_, ρ, _, w.alloc (.cells v.cells t), by simp [execOp, ho, ha.ev hx, Instr.box, newVar, newRow], H.alloc _ ?_, h w.heap.size⟩
    show one _ _ = one _ _
    simp

/-! ### stores -/
/-- the cells behind a store of several at a place -/
def putAt (cs : List Value) (off : Nat) (vs : List Value) : List Value := cs.take off ++ vs ++ cs.drop (off + vs.length)

theorem setRow_ext {w : World} {g : Nat} {cs cur : Array Value} {t : TypeId} : Ext w (w.setRow g cs) (one g (.cells cur t (0, 0))) :=
  ⟨rfl, rfl, rfl, fun b x hb hw => by
    have : b ≠ g := fun e => by subst e; rw [one_self] at hb; cases hb
    rw [setRow_other w g b _ this]; exact hw⟩
theorem Heap.setRow {ρ : Ro} {w : World} {M : List Asr} {g : Nat} {T : TypeId} {cur cs : Array Value} {P' : Asr} {P : Asr} {f : Asr → List Asr} (H : Heap ρ w M) (hk : Ix M P f) (hP : ∀ h, P h → h = one g (.cells cur T (0, 0)))
    (hp : P' (one g (.cells cs T (0, 0)))) : Heap ρ (w.setRow g cs) (f P') := by
  obtain ⟨h, h1, h2, h3⟩ := H.at hk
  obtain rfl := hP h h1
  have hg : w.heap[g]? = some (.cells cur T (0, 0)) := h2 g _ (one_self _ _)
  refine h3 _ P' (one g (.cells cs T (0, 0))) setRow_ext hp (fun b x hb => ?_) (fun b hb => .inl ?_)
  · have := one_ne _ (by rw [hb]; simp : one g (.cells cs T (0, 0)) b ≠ none)
    subst this
    rw [one_self] at hb
    cases hb
    exact setRow_heap w b cur cs T (0, 0) hg
  · have := one_ne _ hb
    subst this
    rw [one_self]; simp

theorem run_storeVar {w : World} {g off : Nat} {t T : TypeId} {cur : Array Value} {v : Value} (hg : w.heap[g]? = some (.cells cur T (0, 0))) (ht : (P.info? t).map (·.size) = some v.cells.size)
    (hl : off + v.cells.size ≤ cur.size) (h1 : ∀ u ∈ v.cells.toList, u.oneCell' = true) : (storeVar t ⟨g, off, none⟩ v).run P w = .ok () (w.setRow g (putAt cur.toList off v.cells.toList).toArray) := by
  have := run_storeCells_at P g off T v.cells.toList 0 cur w hg (by simpa using hl) h1
  simp only [Nat.add_zero] at this
  simp [storeVar, run_sizeOf ht, this, putAt]

theorem l_store {t T : TypeId} {x y : Operand} {b off : Nat} {cs cs' : List Value} {v : Value} {f : Asr → List Asr} (ho : o.op = .store t x y) (hx : ev L x = some (.pointer (some ⟨b, off, none⟩))) (hy : ev L y = some v)
    (hk : Ix M (pt b T cs) f) (sz : Nat) (ht : (P.info? t).map (·.size) = some sz) (hs : v.cells.size = sz) (hl0 : Nat.ble (off + sz) cs.length = true) (h1 : v.cells.toList.all (·.oneCell') = true) (hc : putAt cs off v.cells.toList = cs')
    (h : K undef ρ (f (pt b T cs'))) : LOp P L ρ M o K :=
  LOp.unit fun n a w ha H => by
    have hl := Nat.le_of_ble_eq_true hl0
    subst hc
    subst hs
    obtain ⟨g, rfl, h2, _⟩ := H.at hk
    have hg : w.heap[b]? = some (.cells cs.toArray T (0, 0)) := h2 b _ (one_self _ _)
    have hr := run_storeVar (P := P) (off := off) hg ht (by simpa using hl) (fun u hu => List.all_eq_true.1 h1 u hu)
    refine ⟨ρ, _, w.setRow b (putAt cs off v.cells.toList).toArray, by simp [execOp, ho, ha.ev hx, ha.ev hy, Instr.storeAt, Instr.sureAddr, hr], H.setRow hk (fun h hh => hh) ?_, h⟩
    show one _ _ = one _ _
    simp

/-- into an element of a slice of one's own -/
theorem l_storeElem {t T : TypeId} {x y : Operand} {g off : Nat} {sz n c i : Nat} {xs xs' : List Value} {v : Value} {f : Asr → List Asr} (ho : o.op = .store t x y) (hx : ev L x = some (.pointer (some ⟨g, off, none⟩))) (hy : ev L y = some v)
    (hk : Ix M (arr T sz (some ⟨g, 0, none⟩) n c xs) f) (m : Nat) (ht : (P.info? t).map (·.size) = some m) (hs : v.cells.size = m) (hl : off + m ≤ n * sz) (h1 : v.cells.toList.all (·.oneCell') = true) (hc : putAt xs off v.cells.toList = xs')
    (h : K undef ρ (f (arr T sz (some ⟨g, 0, none⟩) n c xs'))) : LOp P L ρ M o K :=
  LOp.unit fun nn a w ha H => by
    subst hc
    subst hs
    obtain ⟨h0, ha1, h2, _⟩ := H.at hk
    rcases ha1.2 with ⟨e, _⟩ | ⟨g', cur, e, rfl, hn, hm, hcs, htk⟩
    · cases e
    · cases e
      have hg : w.heap[g]? = some (.cells cur T (0, 0)) := h2 g _ (one_self _ _)
      have hle : n * sz ≤ cur.size := by rw [hcs]; exact Nat.mul_le_mul_right _ hn
      have hr := run_storeVar (P := P) (off := off) hg ht (by omega) (fun u hu => List.all_eq_true.1 h1 u hu)
      obtain ⟨h0', hb1, hb2, hb3⟩ := H.at hk
      have hlen : xs.length = n * sz := ha1.1
      refine ⟨ρ, _, w.setRow g (putAt cur.toList off v.cells.toList).toArray, by simp [execOp, ho, ha.ev hx, ha.ev hy, Instr.storeAt, Instr.sureAddr, hr], hb3 _ _ (one g (.cells (putAt cur.toList off v.cells.toList).toArray T (0, 0))) ?_ ?_ ?_ ?_, h⟩
      · rcases hb1.2 with ⟨e, _⟩ | ⟨g', cur', e, rfl, _⟩
        · cases e
        · cases e; exact setRow_ext
      · refine ⟨by simp only [putAt, List.length_append, List.length_take, List.length_drop, Array.length_toList]; omega, .inr ⟨g, _, rfl, rfl, hn, hm, ?_, ?_⟩⟩
        · simp only [putAt, List.size_toArray, List.length_append, List.length_take, List.length_drop, Array.length_toList]; omega
        · have e1 : xs.take off = (cur.toList.take off) := by rw [← htk, List.take_take]; congr 1; omega
          have e2 : xs.drop (off + v.cells.toList.length) = (cur.toList.drop (off + v.cells.toList.length)).take (n * sz - (off + v.cells.toList.length)) := by rw [← htk, List.drop_take]
          simp only [putAt]
          rw [e1, e2, List.take_append, List.take_append]
          simp only [List.length_append, List.length_take, Array.length_toList]
          congr 1
          · congr 1
            · rw [List.take_take]; congr 1; omega
            · apply List.take_of_length_le; simp only [Array.length_toList]; omega
          · congr 1; omega
      · intro b' x' hb'
        have := one_ne _ (by rw [hb']; simp : one g (.cells (putAt cur.toList off v.cells.toList).toArray T (0, 0)) b' ≠ none)
        subst this
        rw [one_self] at hb'
        cases hb'
        exact setRow_heap w b' cur _ T (0, 0) hg
      · intro b' hb'
        have := one_ne _ hb'
        subst this
        left
        rcases hb1.2 with ⟨e, _⟩ | ⟨g', cur', e, rfl, _⟩
        · cases e
        · cases e; rw [one_self]; simp

/-! ### calls -/
theorem l_call {f : FuncId} {args : Array Operand} {tys : Array TypeId} {vs : List Value} {fn : Func} {ty : TypeId} {po : String} {af : Array Edge} {g : Option (Nat × Bool)} {d : Option Tmp}
    (hf : P.funcs[f]? = some fn) (hn : (fn.name == "runtime.NumGoroutine") = false) (hb : fn.body.isNone = false)
    (hv : evArgs L args.toList = some vs) (h : Hoa P f vs.toArray ρ M K) : LOp P L ρ M ⟨d, .call { callee := .value (.func f), args := args, argTypes := tys }, ty, po, af, g⟩ K := by
  intro n a w ha H next Q hnx
  have hargs : args.map a.eval = vs.toArray := evArgs_map ha hv
  unfold Oper.wp
  have hn' : ¬ fn.name = "runtime.NumGoroutine" := by simpa using hn
  have hb' : ¬ fn.body = none := by intro e; rw [e] at hb; simp at hb
  have hr : (execOp a.eval (⟨d, .call { callee := .value (.func f), args := args, argTypes := tys }, ty, po, af, g⟩ : Oper)).run P w = .ok (.enter f vs.toArray) w := by
    simp [execOp, resolve, Deferred.ofValue, invoke, callFunc, hargs, Act.eval, hf, hn', hb']
  rw [hr]
  refine (h w H).mono ?_
  rintro e w' ⟨v, ρ', M', rfl, H', hk⟩
  exact hnx v ρ' M' w' H' hk
/-- a call of a function value -/
theorem l_callVal {x : Operand} {f : FuncId} {first cap : List Value} {args : Array Operand} {tys : Array TypeId} {vs : List Value} {fn : Func} {ty : TypeId} {po : String} {af : Array Edge} {g : Option (Nat × Bool)} {d : Option Tmp}
    (hx : ev L x = some (.func (.func f) first.toArray cap.toArray)) (hf : P.funcs[f]? = some fn) (hn : (fn.name == "runtime.NumGoroutine") = false) (hb : fn.body.isNone = false)
    (hv : evArgs L args.toList = some vs) (h : Hoa P f (first ++ vs ++ cap).toArray ρ M K) : LOp P L ρ M ⟨d, .call { callee := .value x, args := args, argTypes := tys }, ty, po, af, g⟩ K := by
  intro n a w ha H next Q hnx
  have hargs : args.map a.eval = vs.toArray := evArgs_map ha hv
  unfold Oper.wp
  have hn' : ¬ fn.name = "runtime.NumGoroutine" := by simpa using hn
  have hb' : ¬ fn.body = none := by intro e; rw [e] at hb; simp at hb
  have hr : (execOp a.eval (⟨d, .call { callee := .value x, args := args, argTypes := tys }, ty, po, af, g⟩ : Oper)).run P w = .ok (.enter f (first ++ vs ++ cap).toArray) w := by
    simp [execOp, resolve, Deferred.ofValue, invoke, callFunc, hargs, ha.ev hx, hf, hn', hb']
  rw [hr]
  refine (h w H).mono ?_
  rintro e w' ⟨v, ρ', M', rfl, H', hk⟩
  exact hnx v ρ' M' w' H' hk
end

/-! ### append, make, literals -/
section
variable {P : Program} {L : Env} {ρ : Ro} {M : List Asr} {K : Value → Ro → List Asr → Prop}
theorem run_append_zero {t e ty : TypeId} {i : TypeInfo} {A B : Option Addr} {n c c' : Nat} (w : World) (ht : P.underlying t = some (.slice e)) (hi : P.info? e = some i) (hn : n ≤ c) :
    (Builtin.append_ #[t, t] ty #[.slice A n c, .slice B 0 c']).run P w = .ok (.slice A n c) w := by
  have hf : (Builtin.firstCells i.size 0 (.slice B 0 c')).run P w = .ok #[] w := by
    cases B <;> simp [Builtin.firstCells, loadCells, loadCellsFrom]
  cases A <;> simp [Builtin.append_, run_underlying ht, sizeOf, run_typeInfo hi, Builtin.lenOf, hn, hf, storeCells]

theorem arr_new {T : TypeId} {sz n c g : Nat} {cur : Array Value} {xs : List Value} (hl : xs.length = n * sz) (h1 : n ≤ c) (h2 : c ≤ maxLen) (h3 : cur.size = c * sz) (h4 : cur.toList.take (n * sz) = xs) : arr T sz (some ⟨g, 0, none⟩) n c xs (one g (.cells cur T (0, 0))) :=
  ⟨hl, .inr ⟨g, cur, rfl, rfl, h1, h2, h3, h4⟩⟩

theorem run_append_any {t T ty : TypeId} {z : Value} {sz by' : Nat} {A B : Option Addr} {n c m c' : Nat} {xs news : List Value} {w : World} {f : Asr → List Asr} (H : Heap ρ w M) (hk : Ix M (arr T sz A n c xs) f)
    (ht : P.underlying t = some (.slice T)) (hT : tyOf P T = some (some z, sz, by')) (hz : z.cells.size = sz) (hsz : 0 < sz) (hs : SrcOf ρ M sz B m news) (h1 : ∀ u ∈ news, u.oneCell' = true)
    (hb : (n + m) * by' ≤ 140737488355328) (hm : n + m ≤ 140737488355328) :
    ∃ A' c₁ w', (Builtin.append_ #[t, t] ty #[.slice A n c, .slice B m c']).run P w = .ok (.slice A' (n + m) c₁) w' ∧ Heap ρ w' (f (arr T sz A' (n + m) c₁ (xs ++ news))) := by
  obtain ⟨i, hi, hz0, rfl, rfl⟩ := tyOf_spec hT
  obtain ⟨hxl, hnc, hcm, _⟩ := arr_load H hk
  have hs := hs w H
  rcases Nat.eq_zero_or_pos m with rfl | hm0
  · have hn0 : news = [] := List.eq_nil_of_length_eq_zero (by simpa using hs.1)
    subst hn0
    refine ⟨A, c, w, run_append_zero w ht hi hnc, ?_⟩
    rw [List.append_nil, Nat.add_zero]
    obtain ⟨k, hk1, hk2⟩ := hk.idx
    rw [hk2]
    have : M.set k (arr T i.size A n c xs) = M := by
      apply List.ext_getElem?
      intro j
      rw [List.getElem?_set]
      split
      · rename_i e
        subst e
        split
        · exact hk1.symm
        · rename_i hlt; rw [List.getElem?_eq_none (Nat.le_of_not_lt hlt)]
      · rfl
    rw [this]
    exact H
  · obtain ⟨hnl, hsrc⟩ := hs
    obtain ⟨ad, rfl, hcells⟩ := hsrc.resolve_left (by omega)
    have hnews := hcells
    have hlen : (xs ++ news).length = (n + m) * i.size := by rw [List.length_append, hxl, hnl, Nat.add_mul]
    have hmax : n + m ≤ maxLen := by simp only [maxLen]; omega
    obtain ⟨h, ha1, h2, h3⟩ := H.at hk
    -- a new block
    have grown : ∀ (cur : Array Value) (cp : Nat), n + m ≤ cp → cp ≤ maxLen → cur.size = cp * i.size → cur.toList.take ((n + m) * i.size) = xs ++ news →
        Heap ρ (w.drew.alloc (.cells cur T)) (f (arr T i.size (some ⟨w.heap.size, 0, none⟩) (n + m) cp (xs ++ news))) := by
      intro cur cp e1 e2 e3 e4
      have e0 : Ext w (w.drew.alloc (.cells cur T)) h := by
        have e1 := ext_alloc w.drew (.cells cur T) h
        exact ⟨e1.os, e1.tape, e1.output, e1.blk⟩
      refine h3 _ _ (one w.heap.size (.cells cur T (0, 0))) e0 (arr_new hlen e1 e2 e3 e4) (fun b x hb' => ?_) (fun b hb' => .inr ?_)
      · have := one_ne _ (by rw [hb']; simp : one w.heap.size (.cells cur T (0, 0)) b ≠ none)
        subst this
        rw [one_self] at hb'
        cases hb'
        exact heap_alloc_new w.drew _
      · have := one_ne _ hb'
        subst this
        simp
    have zsize : ∀ q, (Builtin.zeroCells z.cells q).size = q * i.size := fun q => by rw [size_zeroCells, hz]
    rcases ha1.2 with ⟨rfl, rfl, rfl, rfl⟩ | ⟨g, cur, rfl, rfl, hn, hcm, hcs, htk⟩
    · have hx0 : xs = [] := List.eq_nil_of_length_eq_zero (by simpa using hxl)
      subst hx0
      rw [Nat.zero_add] at hb hmax
      have hr := run_append_nil (P := P) w t ty T i z ht hi hz0 ad m c' news hnl hnews hm0 (by omega) (by omega)
      refine ⟨_, _, _, by rw [Nat.zero_add]; exact hr, ?_⟩
      have hge := grownCap_ge w m 0 T
      refine grown _ _ (by omega) (grownCap_le_maxLen w m 0 T hmax) ?_ ?_
      · rw [Array.size_append, zsize, List.size_toArray, hnl, ← Nat.add_mul]; congr 1; omega
      · rw [Array.toList_append, List.nil_append, Nat.zero_add, ← hnl]; exact List.take_left
    · have hg : w.heap[g]? = some (.cells cur T (0, 0)) := h2 g _ (one_self _ _)
      by_cases hroom : n + m ≤ c
      · have hfit : n * i.size + news.length ≤ cur.size := by rw [hnl, hcs, ← Nat.add_mul]; exact Nat.mul_le_mul_right _ hroom
        have hr := run_append_room (P := P) w t ty T i ht hi g n c cur hg ad m c' news hnl hnews h1 hroom hfit
        have d1 : (cur.toList.take (n * i.size) ++ news ++ cur.toList.drop (n * i.size + news.length)).toArray.size = c * i.size := by
          simp only [List.size_toArray, List.length_append, List.length_take, List.length_drop, Array.length_toList]; omega
        have d2 : (cur.toList.take (n * i.size) ++ news ++ cur.toList.drop (n * i.size + news.length)).toArray.toList.take ((n + m) * i.size) = xs ++ news := by
          rw [htk, ← hlen]; exact List.take_left
        generalize (cur.toList.take (n * i.size) ++ news ++ cur.toList.drop (n * i.size + news.length)).toArray = cur' at hr d1 d2
        refine ⟨_, _, _, hr, h3 _ _ (one g (.cells cur' T (0, 0))) setRow_ext (arr_new hlen hroom hcm d1 d2) (fun b x hb' => ?_) (fun b hb' => .inl ?_)⟩
        · have := one_ne _ (by rw [hb']; simp : one g (.cells cur' T (0, 0)) b ≠ none)
          subst this
          rw [one_self] at hb'
          cases hb'
          exact setRow_heap w b cur cur' T (0, 0) hg
        · have := one_ne _ hb'
          subst this
          rw [one_self]; simp
      · have holds : ∀ j u, xs[j]? = some u → w.cell? ((⟨g, 0, none⟩ : Addr).add j) = some u := fun j u hu => by
          rw [add_none, Nat.zero_add, cell_of_row w g j cur T (0, 0) hg]
          rw [← htk, List.getElem?_take] at hu
          split at hu
          · simpa using hu
          · cases hu
        have hr := run_append_grow (P := P) w t ty T i z ht hi hz0 ⟨g, 0, none⟩ n c xs hxl holds ad m c' news hnl hnews (by omega) (by omega) (growslice_fits (by omega) hb)
        refine ⟨_, _, _, hr, ?_⟩
        have hge := grownCap_ge w (n + m) c T
        refine grown _ _ hge (grownCap_le_maxLen w (n + m) c T hmax) ?_ ?_
        · rw [Array.size_append, Array.size_append, zsize, List.size_toArray, List.size_toArray, hnl, hxl, ← Nat.add_mul, ← Nat.add_mul]; congr 1; omega
        · rw [Array.toList_append, Array.toList_append, ← hlen]; exact List.take_left

theorem l_append {s x : Operand} {t T : TypeId} {z : Value} {sz by' : Nat} {A B : Option Addr} {n c m c' : Nat} {xs news : List Value} {ty : TypeId} {po : String} {af : Array Edge} {g : Option (Nat × Bool)} {d : Option Tmp} {f : Asr → List Asr}
    (hs : ev L s = some (.slice A n c)) (hx : ev L x = some (.slice B m c')) (hk : Ix M (arr T sz A n c xs) f)
    (ht : P.underlying t = some (.slice T)) (hT : tyOf P T = some (some z, sz, by')) (hz : z.cells.size = sz) (hsz : 0 < sz) (hsrc : SrcOf ρ M sz B m news) (h1 : ∀ u ∈ news, u.oneCell' = true)
    (hb : (n + m) * by' ≤ 140737488355328) (hm : n + m ≤ 140737488355328) (h : ∀ A' c', K (.slice A' (n + m) c') ρ (f (arr T sz A' (n + m) c' (xs ++ news)))) :
    LOp P L ρ M ⟨d, .call { callee := .builtin .append, args := #[s, x], argTypes := #[t, t] }, ty, po, af, g⟩ K :=
  LOp.val fun nn a w ha H => by
    obtain ⟨A', c'', w', hr, H'⟩ := run_append_any (c' := c') (ty := ty) H hk ht hT hz hsz hsrc h1 hb hm
    refine ⟨_, ρ, _, w', ?_, H', h A' c''⟩
    simp [execOp, resolve, invoke, builtin, ha.ev hs, ha.ev hx, hr]

theorem l_make {t T : TypeId} {z : Value} {sz by' : Nat} {x y : Operand} {k k' : IntKind} {l : Nat} {o : Oper} (ho : o.op = .makeSlice t x y) (hx : ev L x = some (.int k l)) (hy : ev L y = some (.int k' l))
    (ht : P.underlying t = some (.slice T)) (hT : tyOf P T = some (some z, sz, by')) (hz : z.cells.size = sz) (hb : by' * l ≤ 281474976710656) (hl : l ≤ 140737488355328)
    (h : ∀ g, K (.slice (some ⟨g, 0, none⟩) l l) ρ (arr T sz (some ⟨g, 0, none⟩) l l ((List.replicate l z.cells.toList).flatten) :: M)) : LOp P L ρ M o K :=
  LOp.val fun nn a w ha H => by
    obtain ⟨i, hi, hz0, rfl, rfl⟩ := tyOf_spec hT
    have hb' : (i.bytes : Int) * (l : Int) ≤ 281474976710656 := by
      have h : ((i.bytes * l : Nat) : Int) ≤ 281474976710656 := by omega
      rwa [Int.natCast_mul] at h
    have hr := run_make (P := P) w t T i z ht hi hz0 k k' l l (by omega) (Int.le_refl _) hb' (by omega)
    simp only [Int.toNat_natCast] at hr
    have hcells : (madeCells z.cells (l * i.size)).toList = (List.replicate l z.cells.toList).flatten := by
      apply List.ext_getElem?
      intro j
      unfold madeCells
      have key : ∀ (l : Nat) (zs : List Value) (j : Nat), zs ≠ [] → ((List.replicate l zs).flatten)[j]? = if j < l * zs.length then zs[j % zs.length]? else none := by
        intro l zs j hne
        have hp : 0 < zs.length := List.length_pos_iff.2 hne
        induction l generalizing j with
        | zero => simp
        | succ l ih =>
          rw [List.replicate_succ, List.flatten_cons, List.getElem?_append]
          by_cases hj : j < zs.length
          · rw [if_pos hj, Nat.mod_eq_of_lt hj, if_pos (by rw [Nat.add_mul, Nat.one_mul]; omega)]
          · rw [if_neg hj, ih]
            have e1 : (j - zs.length) % zs.length = j % zs.length := by
              rw [Nat.mod_eq_sub_mod (Nat.le_of_not_lt hj)]
            rw [e1]
            by_cases h2 : j - zs.length < l * zs.length
            · rw [if_pos h2, if_pos (by rw [Nat.add_mul, Nat.one_mul]; omega)]
            · rw [if_neg h2, if_neg (by rw [Nat.add_mul, Nat.one_mul]; omega)]
      rcases Nat.eq_zero_or_pos i.size with h0 | h0
      · rw [h0]
        have : z.cells.toList = [] := List.eq_nil_of_length_eq_zero (by rw [Array.length_toList]; omega)
        rw [this]
        simp
      · have hne : z.cells.toList ≠ [] := by
          intro e
          have := congrArg List.length e
          rw [Array.length_toList] at this
          simp at this
          simp [this] at hz
          omega
        rw [key l _ j hne]
        simp only [Array.toList_map, Array.toList_range, List.getElem?_map, Array.length_toList, hz]
        by_cases hj : j < l * i.size
        · rw [if_pos hj]
          have hm : j % i.size < z.cells.size := by rw [hz]; exact Nat.mod_lt _ h0
          simp only [List.getElem?_range hj, Option.map_some, Array.getElem?_toList, hz]
          rw [getElem!_pos z.cells (j % i.size) hm, getElem?_pos z.cells (j % i.size) hm]
        · rw [if_neg hj]
          simp [List.getElem?_eq_none, hj]
    refine ⟨_, ρ, _, w.alloc (.cells (madeCells z.cells (l * i.size)) T), by simp [execOp, ho, ha.ev hx, ha.ev hy, hr], H.alloc _ (arr_new (cur := madeCells z.cells (l * i.size)) ?_ (Nat.le_refl _) (by simp only [maxLen]; omega) (by simp [madeCells]) ?_), h w.heap.size⟩
    · rw [← hcells]; simp [madeCells]
    · rw [← hcells]; apply List.take_of_length_le; simp [madeCells]
end

/-- entry k is wanted next -/
theorem SEnt.dropAt : ∀ {M : List Asr} (k : Nat), SEnt M (M.eraseIdx k)
  | [], _ => SEnt.refl _
  | _ :: _, 0 => SEnt.drop (SEnt.refl _)
  | _ :: _, k + 1 => SEnt.keep (SEnt.dropAt k)
theorem SEnt.take {M M' : List Asr} {P : Asr} (k : Nat) (hk : M[k]? = some P) (h : SEnt (M.eraseIdx k) M') : SEnt M (P :: M') := (SEnt.front k hk).trans (SEnt.keep h)

theorem Run.seqCut {P : Program} {n : Nat} {c c' : Code} {L : Env} {ρ : Ro} {M : List Asr} {Q : QP} (J : KP) (h1 : Run P n c L ρ M (thenQ J Q)) (h2 : ∀ L ρ M, J L ρ M → Run P n c' L ρ M Q) : Run P n (.seq c c') L ρ M Q :=
  Run.seq (h1.mono fun e L ρ M h => by
    cases e with
    | normal => exact h2 L ρ M h
    | _ => exact h)
theorem Run.cut {P : Program} {n : Nat} {c : Code} {L : Env} {ρ : Ro} {M : List Asr} {Q : QP} (J : KP) (h1 : Run P n c L ρ M (thenQ J Q)) (h2 : ∀ L ρ M, J L ρ M → Q .normal L ρ M) : Run P n c L ρ M Q :=
  h1.mono fun e L ρ M h => by
    cases e with
    | normal => exact h2 L ρ M h
    | _ => exact h
theorem fnQ_of {P : Program} {fn : Func} {R : Value → Ro → List Asr → Prop} {L L' : Env} {ρ ρ' : Ro} {M M' : List Asr} (hs : SubEnv L' L) (he : Ent ρ M ρ' M') (h : fnQ P fn R .ret L' ρ' M') : fnQ P fn R .ret L ρ M := by
  obtain ⟨v, ρ'', M'', h1, h2, h3⟩ := h
  exact ⟨v, ρ'', M'', fun n a w ha H => h1 n a w (ha.sub hs) (he w H), he.trans h2, h3⟩
theorem wpAnyH_weaken {P : Program} {md : Region.Mode} {ops : Array Oper} {Q : Exit → Act → World → Prop} {S S' : World → Prop} (hs : ∀ w, S' w → S w) :
    ∀ (fuel : Nat) (listed : Array Bool) (a : Act) (w : World), wpAnyH P md ops Q S' fuel listed a w → wpAnyH P md ops Q S fuel listed a w
  | 0, _, _, _, h => h
  | fuel + 1, _, _, _, h => ⟨h.1, fun i hi => wpOp_mono (fun a' w' h' => ⟨hs _ h'.1, wpAnyH_weaken hs fuel _ a' w' h'.2⟩) (h.2 i hi)⟩
/-- from here on quiet operations may lean on more -/
theorem Plan.re {P : Program} {n : Nat} {all : Array Oper} {ρS ρS' : Ro} {S S' : List Asr} {p : Pl} {L : Env} {ρ : Ro} {M : List Asr} {K : KP}
    (h1 : Ent ρ M ρS' S') (h2 : Ent ρS' S' ρS S) (h : Plan P n all ρS' S' p L ρ M K) : Plan P n all ρS S p L ρ M K :=
  fun fuel listed hp hs a w ha H _ Q hn hQ => wpAnyH_weaken (S' := fun w => Heap ρS' w S') (fun w => h2 w) fuel listed a w (h fuel listed hp hs a w ha H (h1 w H) Q hn hQ)
theorem Plan.bool {P : Program} {n : Nat} {all : Array Oper} {ρS : Ro} {S : List Asr} {p : Pl} {d : Option Tmp} {b : Bool} {L : Env} {ρ : Ro} {M : List Asr} {K : KP}
    (h : b = true → Plan P n all ρS S p (envPut d (.bool true) L) ρ M K) (h' : b = false → Plan P n all ρS S p (envPut d (.bool false) L) ρ M K) : Plan P n all ρS S p (envPut d (.bool b) L) ρ M K := by
  cases b
  · exact h' rfl
  · exact h rfl
theorem Ops.bool {P : Program} {n : Nat} {all : Array Oper} {l : List Oper} {d : Option Tmp} {b : Bool} {L : Env} {ρ : Ro} {M : List Asr} {K : KP}
    (h : b = true → Ops P n all l (envPut d (.bool true) L) ρ M K) (h' : b = false → Ops P n all l (envPut d (.bool false) L) ρ M K) : Ops P n all l (envPut d (.bool b) L) ρ M K := by
  cases b
  · exact h' rfl
  · exact h rfl
/-! ### loops, by a ghost that says registers and memory -/
section
variable {P : Program} {n : Nat} {c : Code} {L : Env} {ρ : Ro} {M : List Asr} {Q : QP}
theorem Run.loopS {α : Type} (Le : α → Env) (ρ0 : Ro) (Me : α → List Asr) (inv : α → Prop) (μ : α → Nat) (x : α) (h0 : inv x) (hL : SubEnv (Le x) L) (hM : Ent ρ M ρ0 (Me x))
    (round : ∀ x, inv x → Run P n c (Le x) ρ0 (Me x) (thenQ (fun L ρ M => ∃ y, inv y ∧ μ y < μ x ∧ SubEnv (Le y) L ∧ Ent ρ M ρ0 (Me y)) Q)) : Run P n (.loop c) L ρ M Q :=
  Run.loop (fun x L ρ M => inv x ∧ SubEnv (Le x) L ∧ Ent ρ M ρ0 (Me x)) μ x ⟨h0, hL, hM⟩ fun x _ _ _ ⟨h1, h2, h3⟩ =>
    Run.sub h2 (Run.ent h3 ((round x h1).mono fun e L ρ M h => by
      cases e with
      | normal => obtain ⟨y, a1, a2, a3, a4⟩ := h; exact ⟨y, ⟨a1, a3, a4⟩, a2⟩
      | _ => exact h))
theorem Run.loopR {α : Type} (Le : α → Env) (Re : α → Ro) (Me : α → List Asr) (inv : α → Prop) (μ : α → Nat) (x : α) (h0 : inv x) (hL : SubEnv (Le x) L) (hM : Ent ρ M (Re x) (Me x))
    (round : ∀ x, inv x → Run P n c (Le x) (Re x) (Me x) (thenQ (fun L ρ M => ∃ y, inv y ∧ μ y < μ x ∧ SubEnv (Le y) L ∧ Ent ρ M (Re y) (Me y)) Q)) : Run P n (.loop c) L ρ M Q :=
  Run.loop (fun x L ρ M => inv x ∧ SubEnv (Le x) L ∧ Ent ρ M (Re x) (Me x)) μ x ⟨h0, hL, hM⟩ fun x _ _ _ ⟨h1, h2, h3⟩ =>
    Run.sub h2 (Run.ent h3 ((round x h1).mono fun e L ρ M h => by
      cases e with
      | normal => obtain ⟨y, a1, a2, a3, a4⟩ := h; exact ⟨y, ⟨a1, a3, a4⟩, a2⟩
      | _ => exact h))
end
theorem entA {M N : List Asr} (h : SEnt M N := by (repeat (first | exact E.SEnt.refl _ | exact E.SEnt.nil _ | (with_reducible refine E.SEnt.keep ?_) | refine E.SEnt.take 0 rfl ?_ | refine E.SEnt.take 1 rfl ?_ | refine E.SEnt.take 2 rfl ?_ | refine E.SEnt.take 3 rfl ?_ | refine E.SEnt.take 4 rfl ?_ | refine E.SEnt.drop ?_))) : SEnt M N := h
end E
end Go.Proofs.Ythpgjbdacknkgaa
