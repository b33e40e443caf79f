/- slices.Clone of whole numbers, walked. No statement of the seat in it. -/
import Derived.Test.YthpgjbdacknkgaaO8
set_option linter.unusedVariables false
set_option linter.unusedSimpArgs false
namespace Go.Proofs.Ythpgjbdacknkgaa
open Go
private theorem ty_3 : E.tyOf Try.prog 3 = some (some (.int .i64 0), 1, 8) := by kernel_rfl

set_option maxRecDepth 100000 in
theorem slicesClone {ρ : E.Ro} {M : List E.Asr} {K : Value → E.Ro → List E.Asr → Prop} (A : Option Addr) (c : Nat) (ys : List Int) (hr : E.RdF ρ.blk E.encI 1 A ys) (hs : ys.length ≤ 4398046511104)
    (hK : ∀ A' c', K (.slice A' ys.length c') ρ (E.arr 3 1 A' ys.length c' (ys.flatMap E.encI) :: M)) :
    E.Hoa Try.prog 74 #[.slice A ys.length c] ρ M K := by
  refine E.Hoa.enter 8 Try.func74 rfl rfl rfl ?_
  (repeat refine E.Run.seq ?_)
  refine E.Run.region ?_
  refine E.Ops.q _ (E.q_mv rfl rfl) rfl rfl ?_
  refine E.Ops.nil ?_
  try simp only [E.tn, E.tx, E.tr, E.bn, E.br, E.bs]
  cases A with
  | none =>
    have : ys = [] := by
      cases ys with
      | nil => rfl
      | cons y ys => obtain ⟨ad, _, h, _⟩ := hr 0 y rfl; cases h
    subst this
    (repeat refine E.Run.seq ?_)
    refine E.Run.region ?_
    refine E.Ops.q _ (E.q_move rfl rfl) rfl rfl ?_
    refine E.Ops.q _ (E.q_eqlNilSlice rfl rfl rfl Try.underlying23) rfl rfl ?_
    refine E.Ops.nil ?_
    try simp only [E.tn, E.tx, E.tr, E.bn, E.br, E.bs]
    (repeat refine E.Run.seq ?_); refine E.Run.condT rfl ?_
    (repeat refine E.Run.seq ?_)
    refine E.Run.region ?_
    refine E.Ops.q _ (E.q_mv rfl rfl) rfl rfl ?_
    refine E.Ops.nil ?_
    try simp only [E.tn, E.tx, E.tr, E.bn, E.br, E.bs]
    refine E.Run.ret ?_
    try simp only [E.tn, E.tx, E.tr, E.bn, E.br, E.bs]
    exact ⟨_, _, _, E.ResOk.one rfl rfl, E.Ent.of (E.SEnt.addNil E.entA), hK none 0⟩
  | some ad =>
    (repeat refine E.Run.seq ?_)
    refine E.Run.region ?_
    refine E.Ops.q _ (E.q_move rfl rfl) rfl rfl ?_
    refine E.Ops.q _ (E.q_eqlNilSlice rfl rfl rfl Try.underlying23) rfl rfl ?_
    refine E.Ops.nil ?_
    try simp only [E.tn, E.tx, E.tr, E.bn, E.br, E.bs]
    (repeat refine E.Run.seq ?_); refine E.Run.condF rfl ?_
    refine E.Run.skip ?_
    try simp only [E.tn, E.tx, E.tr, E.bn, E.br, E.bs]
    (repeat refine E.Run.seq ?_)
    refine E.Run.region ?_
    refine E.Ops.loud rfl rfl ?_
    refine E.l_slice0 rfl rfl Try.underlying23 ty_3 (fun g3_0 => ?_)
    refine E.Ops.q _ (E.q_move rfl rfl) rfl rfl ?_
    refine E.Ops.loud rfl rfl ?_
    refine E.l_append rfl rfl E.ixA Try.underlying23 ty_3 rfl (by decide) (E.SrcOf.ro (fun _ => rfl) hr) (by intro u hu; obtain ⟨y, hy, hu⟩ := List.mem_flatMap.1 hu; simp only [E.encI, List.mem_cons, List.not_mem_nil, or_false] at hu; subst hu; rfl) (by omega) (by omega) (fun A3_2 c3_2 => ?_)
    refine E.Ops.q _ (E.q_mv rfl rfl) rfl rfl ?_
    refine E.Ops.nil ?_
    try simp only [E.tn, E.tx, E.tr, E.bn, E.br, E.bs]
    simp only [Nat.zero_add, List.nil_append]
    refine E.Run.ret ?_
    try simp only [E.tn, E.tx, E.tr, E.bn, E.br, E.bs]
    exact ⟨_, _, _, E.ResOk.one rfl rfl, E.Ent.of E.entA, hK _ _⟩
end Go.Proofs.Ythpgjbdacknkgaa
