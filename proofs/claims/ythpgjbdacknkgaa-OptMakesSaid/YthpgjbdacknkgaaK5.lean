/- OptMakes answers true for every program; the program reads as it did. No condition. -/
import Derived.Test.YthpgjbdacknkgaaRows
import Derived.Test.YthpgjbdacknkgaaChecked
import Derived.Test.YthpgjbdacknkgaaK4
import Derived.WalkKit
import Derived.ProofKit
import Derived.OpenShut
import Derived.Below
import Derived.Carry
import Derived.SizedLaws
import Derived.JoinedOf
import Derived.RowKit
set_option linter.unusedVariables false
set_option linter.unusedSimpArgs false
namespace Go.Proofs.Ythpgjbdacknkgaa
open Go Go.ChangeShapes Go.WideShapes Go.ChangeAt Go.RowKit

def roW (W : World) : E.Ro := ⟨W.os, W.tape, W.output, hlW W⟩
theorem heapW (W : World) : E.Heap (roW W) W [] := ⟨⟨rfl, rfl, rfl, fun b o h => h⟩, trivial⟩
theorem below_of {W w' : World} {ρ' : E.Ro} {M : List E.Asr} (hle : E.Ro.le (roW W) ρ') (H : E.Heap ρ' w' M) : Below W.heap.size W w' := by
  have hb : ∀ k o, W.heap[k]? = some o → w'.heap[k]? = some o := fun k o h => H.1.blk k o (hle.blk k o h)
  refine ⟨H.1.os.trans hle.os, H.1.tape.trans hle.tape, H.1.output.trans hle.output, ?_, fun k hk => ?_⟩
  · apply Classical.byContradiction
    intro h
    have h1 : w'.heap.size < W.heap.size := by omega
    have h2 := hb w'.heap.size _ (Array.getElem?_eq_getElem h1)
    have := (Array.getElem?_eq_some_iff.1 h2).1
    omega
  · rw [Array.getElem?_eq_getElem hk]
    exact hb k _ (Array.getElem?_eq_getElem hk)
/-- a walk that answers true, as the row wants it -/
theorem calls_true {P : Program} {f : FuncId} {args : Array Value} {W : World} (h : E.Hoa P f args (roW W) [] (fun v ρ' M' => v = .bool true ∧ E.Ro.le (roW W) ρ')) :
    Calls P f args W fun e w' => e = .returned (.bool true) ∧ Below W.heap.size W w' := (h W (heapW W)).mono fun e w' ⟨v, ρ', M', e1, H, e2, hle⟩ => ⟨by rw [e1, e2], below_of hle H⟩

namespace optMakes
theorem own : ownKnob Try.prog.godebug = none := by kernel_rfl
theorem laidOut : laidOutB Try.prog = true := by kernel_rfl
set_option maxRecDepth 100000 in
theorem lifted (os : Os) (started : os.Started) (H : Type) (enc : TypeId × Value → H) :
    ReturnsInHanded {} Try.checked os 3 .any (Rows.optMakesSpec.pre6 enc Try.prog Try.f3 Rows.optMakesRow.domain false) (Rows.optMakesSpec.post enc Try.prog Try.f3 false true false false) := by
  refine returnsInHanded_of_change_sized (C := Try.checked) own started (by kernel_rfl) Try.func3
    (ChangeSpec.witness6 (enc := enc) (C := Try.checked) false ⟨#[], #[.agg #[.slice none 0 0, .slice none 0 0, .int .i64 0, .int .i64 0]], []⟩ 8 (by kernel_rfl) (by kernel_rfl) (by kernel_rfl) (by kernel_rfl)) ?_
  intro W base args ds gs before hval0 hW hcnd hsz0 _
  have hsz : (DataW.weightsEach Try.prog (Try.f3.params.toList ++ Rows.optMakesSpec.plain.varTypes Try.prog) (ds ++ gs)).all (· ≤ reachBytes) = true := hsz0
  have hval : ∀ (j : Nat) t v, Try.f3.params[j]? = some t → args[j]? = some v → Value.okWide Try.prog W .any base t v := hval0
  have hW' := hW
  obtain ⟨p, q, hA0, hV, rfl, hfz, hnd⟩ := hW
  have hA : DataW.TrodAll enc Try.prog W 0 (fun _ => true) true Try.f3.params.toList args.toList ds p := hA0
  rw [Try.params3] at hA hval hsz
  obtain ⟨v0, vs0, d0, ds0, p0, q0, hargs, rfl, rfl, h0, r0⟩ := trodAll_cons hA
  obtain ⟨rfl, rfl, rfl⟩ := trodAll_nil r0
  obtain rfl : args = #[v0] := by cases args; simp_all
  obtain ⟨rfl, rfl⟩ := trodVars_none hV
  have k0 := h0
  have lt0 : ∀ x ∈ p0, x.block < W.heap.size := by obtain ⟨m, hm⟩ := k0; exact DataW.trod_lt m _ _ _ hm
  have hw0 : (d0.weights Try.prog 25).all (· ≤ reachBytes) = true := by
    rw [List.all_eq_true] at hsz ⊢
    intro n hn
    exact hsz n (DataW.weights_mem_each (j := 0) rfl rfl n hn)
  obtain ⟨A, c, A', c', pr, rfl, hpr⟩ := read_prg (hval 0 25 v0 rfl rfl) h0 hw0
  clear hA0 hval0 hsz0 hsz
  refine (calls_true (lawMakes A A' c c' pr hpr (fun ρ' hle => ⟨rfl, hle⟩))).mono fun e W' ⟨he, bel⟩ => ?_
  subst he
  exact ⟨_, rfl, _, _, _, [], _, [], hW', trodAll_mk1 (shut_bool Try.underlying4 _), trodAll_cons_mk (Below.trod laidOut (by kernel_rfl) (of_decide_eq_true (by kernel_rfl)) k0 bel lt0) trodAll_mk0, rfl, bel.frame _, fun h => by cases h⟩
theorem over : Rows.optMakesRow.holds Try.pinned (OpenSpec.ofChange Rows.optMakesSpec) :=
  OpenClaim.holds_of_wide 3 Try.f3 rfl rfl rfl rfl rfl rfl rfl ⟨rfl, rfl, rfl, rfl, rfl⟩ rfl rfl rfl rfl rfl (by kernel_rfl) Try.func3 (by kernel_rfl)
    (of_decide_eq_true (by kernel_rfl)) (by unfold Func.isWrapper; first | (rw [if_pos (by decide +kernel)]; kernel_rfl) | (rw [if_neg (by decide +kernel)]; exact ⟨rfl, rfl⟩))
    (fun os started H enc _ => lifted os started H enc)
end optMakes
/-- the statement -/
theorem optMakes_holds : Rows.OptMakesSaid := optMakes.over
#print axioms optMakes_holds
end Go.Proofs.Ythpgjbdacknkgaa
