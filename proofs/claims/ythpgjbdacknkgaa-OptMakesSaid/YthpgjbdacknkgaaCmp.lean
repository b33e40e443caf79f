/- '==' of structs of whole numbers, of maps and slices against nil; values in interfaces; maps.clone. No statement of the seat in it. -/
import Derived.Test.YthpgjbdacknkgaaGm
import Derived.Laws.StructEq
import Derived.Laws.Cover3
namespace Go.Proofs.Ythpgjbdacknkgaa
namespace E
open Go

section
variable {P : Program} {L : Env} {ρ : Ro} {M : List Asr} {o : Oper} {K : Value → Ro → List Asr → Prop}

def isIntT (P : Program) (t : TypeId) : Bool := match P.underlying t with | some (.int _) => true | _ => false
theorem isIntT_spec {t : TypeId} (h : isIntT P t = true) : ∃ k, P.underlying t = some (.int k) := by
  unfold isIntT at h
  cases hu : P.underlying t with
  | none => rw [hu] at h; cases h
  | some d => rw [hu] at h; cases d <;> simp only at h <;> first | exact ⟨_, rfl⟩ | cases h
def fieldsInts (P : Program) : Nat → List Field → Bool
  | _, [] => true
  | j, f :: r => (decide (f.name ≠ "_") && (Nat.beq f.offset j && isIntT P f.type)) && fieldsInts P (j + 1) r
/-- a struct of whole numbers alone, n of them -/
def intStruct (P : Program) (t : TypeId) : Option Nat := match P.underlying t with
  | some (.struct fs) => bif (fieldsInts P 0 fs.toList && !P.stoodInHeld t) && !P.eqGuardType P.depth t then some fs.size else none
  | _ => none
theorem run_part_int {t : TypeId} (h : isIntT P t = true) (cs : Array Value) (off : Nat) (v : Value) (hv : cs[off]? = some v) (w : World) : (part t cs off).run P w = .ok v w := by
  obtain ⟨k, hk⟩ := isIntT_spec h
  have : isScal P t = true := by unfold isScal; rw [hk]
  simp [part, run_isAgg_scal this, hv]
theorem run_eqFields_ints (d : Nat) (cs ds : Array Value) (w : World) : ∀ (fs : List Field) (j : Nat) (xs ys : List Int), fieldsInts P j fs = true → xs.length = fs.length → ys.length = fs.length →
    (∀ i x, xs[i]? = some x → cs[j + i]? = some (.int .i64 x)) → (∀ i y, ys[i]? = some y → ds[j + i]? = some (.int .i64 y)) →
    (Op.eqFields (d + 1) cs ds fs).run P w = .ok (decide (xs = ys)) w
  | [], j, xs, ys, _, hx, hy, _, _ => by
    have h1 : xs = [] := List.length_eq_zero_iff.1 hx
    have h2 : ys = [] := List.length_eq_zero_iff.1 hy
    subst h1; subst h2
    simp [Op.eqFields]
  | f :: fs, j, x :: xs, y :: ys, hf, hx, hy, hcx, hcy => by
    simp only [fieldsInts, Bool.and_eq_true, decide_eq_true_eq] at hf
    obtain ⟨⟨h1, h2, h3⟩, h4⟩ := hf
    have h2' : f.offset = j := Nat.eq_of_beq_eq_true h2
    obtain ⟨k, hk⟩ := isIntT_spec h3
    unfold Op.eqFields
    rw [if_pos h1]
    simp only [Sem.run_bind, h2', run_part_int h3 cs j _ (by simpa using hcx 0 x rfl), run_part_int h3 ds j _ (by simpa using hcy 0 y rfl), Result.andThen_ok, run_equalIn_int w d f.type .i64 k x y hk]
    by_cases hxy : x = y
    · subst hxy
      simp only [beq_self_eq_true, Bool.not_true, Bool.false_eq_true, if_false]
      rw [run_eqFields_ints d cs ds w fs (j + 1) xs ys h4 (by simpa using hx) (by simpa using hy) (fun i u hu => by
        have := hcx (i + 1) u (by simpa using hu); rw [show j + 1 + i = j + (i + 1) from by omega]; exact this) (fun i u hu => by
        have := hcy (i + 1) u (by simpa using hu); rw [show j + 1 + i = j + (i + 1) from by omega]; exact this)]
      simp
    · have : (x == y) = false := by simpa using hxy
      simp [this, hxy]
def intsV (xs : List Int) : Value := .agg (xs.map (Value.int .i64 ·)).toArray
theorem run_eqlInts {t : TypeId} {n : Nat} {xs ys : List Int} (ht : intStruct P t = some n) (hx : xs.length = n) (hy : ys.length = n) (w : World) :
    (binOp .eql t (intsV xs) (intsV ys)).run P w = .ok (.bool (decide (xs = ys))) w ∧ (binOp .neq t (intsV xs) (intsV ys)).run P w = .ok (.bool (decide (xs ≠ ys))) w ∧
    ∀ op x y, (eqGuard op t x y (intsV xs) (intsV ys)).run P w = .ok () w := by
  unfold intStruct at ht
  cases hu : P.underlying t with
  | none => rw [hu] at ht; cases ht
  | some dd =>
    rw [hu] at ht
    cases dd <;> simp only at ht <;> try (cases ht; done)
    rename_i fs
    cases hb : (fieldsInts P 0 fs.toList && !P.stoodInHeld t) && !P.eqGuardType P.depth t with
    | false => rw [hb] at ht; cases ht
    | true =>
      rw [hb] at ht
      simp only [cond_true, Option.some.injEq] at ht
      simp only [Bool.and_eq_true, Bool.not_eq_true'] at hb
      obtain ⟨⟨h1, h2⟩, h3⟩ := hb
      have hfs : P.fieldsOf t = fs := by unfold Program.fieldsOf; rw [hu]
      have key : (Op.equalIn 10000 t (intsV xs) (intsV ys)).run P w = .ok (decide (xs = ys)) w := by
        unfold intsV
        rw [show (10000 : Nat) = 9998 + 1 + 1 from rfl, run_equalIn_struct w (9998 + 1) t _ _ (by rw [hfs]; exact hu) h2, hfs]
        refine run_eqFields_ints 9998 _ _ w fs.toList 0 xs ys h1 (by simpa using hx.trans ht.symm) (by simpa using hy.trans ht.symm) (fun i x hi => ?_) (fun i x hi => ?_)
        · simp [hi]
        · simp [hi]
      refine ⟨?_, ?_, fun op x y => ?_⟩
      · unfold intsV at key ⊢
        rw [run_eql_struct, key]; rfl
      · unfold intsV at key ⊢
        rw [run_neq_struct, key]
        simp
      · exact run_eqGuard_agg w op t x y _ _ h3
theorem q_eqlInts {t u : TypeId} {x y : Operand} {n : Nat} {xs ys : List Int} (ho : o.op = .binOp .eql t x y u) (hx : ev L x = some (intsV xs)) (hy : ev L y = some (intsV ys)) (ht : intStruct P t = some n) (h1 : xs.length = n) (h2 : ys.length = n) :
    QOp P L ρ M o (.bool (decide (xs = ys))) := fun m a w ha _ => by
  obtain ⟨a1, a2, a3⟩ := run_eqlInts (P := P) ht h1 h2 w
  simp [execOp, ho, ha.ev hx, ha.ev hy, a1, a3]
theorem q_neqInts {t u : TypeId} {x y : Operand} {n : Nat} {xs ys : List Int} (ho : o.op = .binOp .neq t x y u) (hx : ev L x = some (intsV xs)) (hy : ev L y = some (intsV ys)) (ht : intStruct P t = some n) (h1 : xs.length = n) (h2 : ys.length = n) :
    QOp P L ρ M o (.bool (decide (xs ≠ ys))) := fun m a w ha _ => by
  obtain ⟨a1, a2, a3⟩ := run_eqlInts (P := P) ht h1 h2 w
  simp [execOp, ho, ha.ev hx, ha.ev hy, a2, a3]

theorem q_eqlNilMap {t u k e : TypeId} {x y : Operand} {m : Option Nat} (ho : o.op = .binOp .eql t x y u) (hx : ev L x = some (.map m)) (hy : ev L y = some (.map none)) (ht : P.underlying t = some (.map k e)) :
    QOp P L ρ M o (.bool m.isNone) := fun n a w ha _ => by
  have h1 : (binOp .eql t (.map m) (.map none)).run P w = .ok (.bool m.isNone) w := by simp only [binOp]; simp [run_equal_map_nil w t k e m ht]
  have h2 : (eqGuard .eql t x y (.map m) (.map none)).run P w = .ok () w := by simp [eqGuard]
  simp [execOp, ho, ha.ev hx, ha.ev hy, h1, h2]
theorem q_eqlNilSlice {t u e : TypeId} {x y : Operand} {A : Option Addr} {n c : Nat} (ho : o.op = .binOp .eql t x y u) (hx : ev L x = some (.slice A n c)) (hy : ev L y = some (.slice none 0 0)) (ht : P.underlying t = some (.slice e)) :
    QOp P L ρ M o (.bool A.isNone) := fun m a w ha _ => by
  have h1 : (binOp .eql t (.slice A n c) (.slice none 0 0)).run P w = .ok (.bool A.isNone) w := by simp only [binOp]; simp [run_equal_slice_nil w t e A n c ht]
  have h2 : (eqGuard .eql t x y (.slice A n c) (.slice none 0 0)).run P w = .ok () w := by simp [eqGuard]
  simp [execOp, ho, ha.ev hx, ha.ev hy, h1, h2]
theorem q_makeIface {t k e : TypeId} {x : Operand} {v : Value} (ho : o.op = .makeInterface t x) (hx : ev L x = some v) (ht : P.underlying t = some (.map k e)) : QOp P L ρ M o (.iface t v) := fun n a w ha _ => by
  simp [execOp, ho, ha.ev hx, Instr.makeInterface, run_underlying ht]
theorem q_assertMap {t xT k e : TypeId} {x : Operand} {v : Value} (ho : o.op = .typeAssert x xT t false) (hx : ev L x = some (.iface t v)) (ht : P.underlying t = some (.map k e)) : QOp P L ρ M o v := fun n a w ha _ => by
  simp [execOp, ho, ha.ev hx, Instr.typeAssert, run_underlying ht]
/-- maps.clone -/
theorem l_mapsClone {f : FuncId} {args : Array Operand} {tys : Array TypeId} {fn : Func} {ty t : TypeId} {po : String} {af : Array Edge} {gd : Option (Nat × Bool)} {d : Option Tmp} {b m : Nat} {g : Int → Option Value}
    (hf : P.funcs[f]? = some fn) (hn : (fn.name == "runtime.NumGoroutine") = false) (hb : fn.body.isNone = true) (hx : Extern.findNext fn = none) (he : Extern.find fn = some Extern.MapsClone.clone)
    (hv : evArgs L args.toList = some [.iface t (.map (some b))]) (hg : RoG ρ b m g) (h : ∀ b', K (.iface t (.map (some b'))) ρ (mpG b' m g :: M)) :
    LOp P L ρ M ⟨d, .call { callee := .value (.func f), args := args, argTypes := tys }, ty, po, af, gd⟩ K :=
  LOp.val fun n a w ha H => by
    obtain ⟨es, clock, h1, h2, h3⟩ := hg
    have hb' : w.heap[b]? = some (.map es clock) := H.1.blk _ _ h1
    have hget : (getObj b).run P w = .ok (.map es clock) w := by simp [getObj, Sem.run, hb']
    have hargs := evArgs_map ha hv
    have hc : (Extern.MapsClone.clone #[.iface t (.map (some b))]).run P w = .ok (.iface t (.map (some w.heap.size))) (w.alloc (.map es clock)) := by
      have e : Extern.MapsClone.clone #[.iface t (.map (some b))] = (getObj b >>= fun o => match o with
          | .map entries clock => (newObj (.map entries clock) >>= fun n => pure (.iface t (.map (some n))))
          | _ => stuck "maps.clone: a map expected") := rfl
      rw [e]
      simp [hget]
    have hr := run_callFunc_extern (P := P) hf hn hb hx he #[.iface t (.map (some b))] w
    refine ⟨_, ρ, _, w.alloc (.map es clock), ?_, H.alloc (P := mpG w.heap.size m g) _ ⟨es, clock, rfl, h2, h3⟩, h w.heap.size⟩
    have hargs' : args.map a.eval = #[.iface t (.map (some b))] := hargs
    simp [execOp, resolve, Deferred.ofValue, invoke, hargs', Act.eval, hr, hc]
/-! ### parts of slices -/
theorem q_sliceTo {t e : TypeId} {sz : Nat} {x y : Operand} {A : Option Addr} {n c : Nat} {k : IntKind} {i : Int} (ho : o.op = .slice t x none (some y) none) (hx : ev L x = some (.slice A n c)) (hy : ev L y = some (.int k i))
    (ht : sliceOf P t = some (e, sz)) (h0 : 0 ≤ i) (h1 : i ≤ c) : QOp P L ρ M o (.slice A i.toNat c) := fun m a w ha _ => by
  obtain ⟨h2, h3⟩ := sliceOf_spec ht
  have hA : A.map (·.add (0 * sz)) = A := by cases A <;> simp [Addr.add]
  simp [execOp, ho, ha.ev hx, ha.ev hy, Instr.sliceAt, Instr.slice, run_underlying h2, run_sizeOf h3, Instr.sliceBounds, run_sliceBound _ _ _ _ _ h0 h1, Addr.add]
theorem q_sliceFrom {t e : TypeId} {sz : Nat} {x y : Operand} {A : Option Addr} {n c : Nat} {k : IntKind} {i : Int} (ho : o.op = .slice t x (some y) none none) (hx : ev L x = some (.slice A n c)) (hy : ev L y = some (.int k i))
    (ht : sliceOf P t = some (e, sz)) (h0 : 0 ≤ i) (h1 : i ≤ n) : QOp P L ρ M o (.slice (if c = i.toNat then A else A.map (·.add (i.toNat * sz))) (n - i.toNat) (c - i.toNat)) := fun m a w ha _ => by
  obtain ⟨h2, h3⟩ := sliceOf_spec ht
  simp [execOp, ho, ha.ev hx, ha.ev hy, Instr.sliceAt, Instr.slice, run_underlying h2, run_sizeOf h3, Instr.sliceBounds, run_sliceBound _ _ _ _ _ h0 h1]
end
end E
end Go.Proofs.Ythpgjbdacknkgaa
