/- asm.Check, walked. No statement of the seat in it. -/
import Derived.Test.YthpgjbdacknkgaaA1
import Derived.Test.YthpgjbdacknkgaaProg
set_option linter.unusedVariables false
set_option linter.unusedSimpArgs false
namespace Go.Proofs.Ythpgjbdacknkgaa
open Go
private theorem ag_164 : E.isAggOf Try.prog 164 3 = true := by kernel_rfl
private theorem apl_164 : E.arrPl Try.prog 164 = some ([.int .i64 0, .int .i64 0, .int .i64 0], 1) := by kernel_rfl
private theorem fo_25_1 : E.fieldOff Try.prog 25 1 = some 1 := by kernel_rfl
private theorem fo_25_2 : E.fieldOff Try.prog 25 2 = some 2 := by kernel_rfl
private theorem fo_25_3 : E.fieldOff Try.prog 25 3 = some 3 := by kernel_rfl
private theorem fo_44_1 : E.fieldOff Try.prog 44 1 = some 1 := by kernel_rfl
private theorem fo_44_2 : E.fieldOff Try.prog 44 2 = some 2 := by kernel_rfl
private theorem fo_44_3 : E.fieldOff Try.prog 44 3 = some 3 := by kernel_rfl
private theorem ik_162 : E.isIntKey Try.prog 162 = some 160 := by kernel_rfl
private theorem pl_160 : E.placesOf Try.prog 160 = some ([.string ⟨#[]⟩, .string ⟨#[]⟩], [(0, 1), (1, 1)]) := by kernel_rfl
private theorem sc_23 : E.isScal Try.prog 23 = true := by kernel_rfl
private theorem sc_3 : E.isScal Try.prog 3 = true := by kernel_rfl
private theorem sz_164 : (Try.prog.info? 164).map (·.size) = some 3 := by kernel_rfl
private theorem ty_164 : E.tyOf Try.prog 164 = some (some (.agg #[.int .i64 0, .int .i64 0, .int .i64 0]), 3, 24) := by kernel_rfl
theorem Try.mixed : Try.prog.follows .mixedOrders = true := by kernel_rfl

set_option maxRecDepth 100000 in
theorem asmShapes {ρ : E.Ro} {M : List E.Asr} {K : Value → E.Ro → List E.Asr → Prop} (hK : ∀ b, K (.map (some b)) ρ (E.mpI b shpKvs :: M)) :
    E.Hoa Try.prog 87 #[] ρ M K := by
  refine E.Hoa.enter 21 Try.func87 rfl rfl rfl ?_
  (repeat refine E.Run.seq ?_)
  refine E.Run.region ?_
  refine E.Ops.q _ (E.q_mv rfl rfl) rfl rfl ?_
  refine E.Ops.nil ?_
  try simp only [E.tn, E.tx, E.tr, E.bn, E.br, E.bs]
  (repeat refine E.Run.seq ?_)
  refine E.Run.region ?_
  refine E.Ops.loud rfl rfl ?_
  refine E.l_makeMap rfl (fun m1_0 => ?_)
  refine E.Ops.q _ (E.q_struct rfl rfl pl_160 rfl) rfl rfl ?_
  refine E.Ops.loud rfl rfl ?_
  refine E.l_mapUpdate (.inr rfl) rfl rfl rfl E.ixA ik_162 ?_
  refine E.Ops.q _ (E.q_struct rfl rfl pl_160 rfl) rfl rfl ?_
  refine E.Ops.loud rfl rfl ?_
  refine E.l_mapUpdate (.inr rfl) rfl rfl rfl E.ixA ik_162 ?_
  refine E.Ops.q _ (E.q_struct rfl rfl pl_160 rfl) rfl rfl ?_
  refine E.Ops.loud rfl rfl ?_
  refine E.l_mapUpdate (.inr rfl) rfl rfl rfl E.ixA ik_162 ?_
  refine E.Ops.q _ (E.q_struct rfl rfl pl_160 rfl) rfl rfl ?_
  refine E.Ops.loud rfl rfl ?_
  refine E.l_mapUpdate (.inr rfl) rfl rfl rfl E.ixA ik_162 ?_
  refine E.Ops.q _ (E.q_struct rfl rfl pl_160 rfl) rfl rfl ?_
  refine E.Ops.loud rfl rfl ?_
  refine E.l_mapUpdate (.inr rfl) rfl rfl rfl E.ixA ik_162 ?_
  refine E.Ops.q _ (E.q_struct rfl rfl pl_160 rfl) rfl rfl ?_
  refine E.Ops.loud rfl rfl ?_
  refine E.l_mapUpdate (.inr rfl) rfl rfl rfl E.ixA ik_162 ?_
  refine E.Ops.q _ (E.q_struct rfl rfl pl_160 rfl) rfl rfl ?_
  refine E.Ops.loud rfl rfl ?_
  refine E.l_mapUpdate (.inr rfl) rfl rfl rfl E.ixA ik_162 ?_
  refine E.Ops.q _ (E.q_struct rfl rfl pl_160 rfl) rfl rfl ?_
  refine E.Ops.loud rfl rfl ?_
  refine E.l_mapUpdate (.inr rfl) rfl rfl rfl E.ixA ik_162 ?_
  refine E.Ops.q _ (E.q_struct rfl rfl pl_160 rfl) rfl rfl ?_
  refine E.Ops.loud rfl rfl ?_
  refine E.l_mapUpdate (.inr rfl) rfl rfl rfl E.ixA ik_162 ?_
  refine E.Ops.q _ (E.q_struct rfl rfl pl_160 rfl) rfl rfl ?_
  refine E.Ops.loud rfl rfl ?_
  refine E.l_mapUpdate (.inr rfl) rfl rfl rfl E.ixA ik_162 ?_
  refine E.Ops.q _ (E.q_struct rfl rfl pl_160 rfl) rfl rfl ?_
  refine E.Ops.loud rfl rfl ?_
  refine E.l_mapUpdate (.inr rfl) rfl rfl rfl E.ixA ik_162 ?_
  refine E.Ops.q _ (E.q_struct rfl rfl pl_160 rfl) rfl rfl ?_
  refine E.Ops.loud rfl rfl ?_
  refine E.l_mapUpdate (.inr rfl) rfl rfl rfl E.ixA ik_162 ?_
  refine E.Ops.q _ (E.q_struct rfl rfl pl_160 rfl) rfl rfl ?_
  refine E.Ops.loud rfl rfl ?_
  refine E.l_mapUpdate (.inr rfl) rfl rfl rfl E.ixA ik_162 ?_
  refine E.Ops.q _ (E.q_struct rfl rfl pl_160 rfl) rfl rfl ?_
  refine E.Ops.loud rfl rfl ?_
  refine E.l_mapUpdate (.inr rfl) rfl rfl rfl E.ixA ik_162 ?_
  refine E.Ops.q _ (E.q_struct rfl rfl pl_160 rfl) rfl rfl ?_
  refine E.Ops.loud rfl rfl ?_
  refine E.l_mapUpdate (.inr rfl) rfl rfl rfl E.ixA ik_162 ?_
  refine E.Ops.q _ (E.q_struct rfl rfl pl_160 rfl) rfl rfl ?_
  refine E.Ops.loud rfl rfl ?_
  refine E.l_mapUpdate (.inr rfl) rfl rfl rfl E.ixA ik_162 ?_
  refine E.Ops.q _ (E.q_struct rfl rfl pl_160 rfl) rfl rfl ?_
  refine E.Ops.loud rfl rfl ?_
  refine E.l_mapUpdate (.inr rfl) rfl rfl rfl E.ixA ik_162 ?_
  refine E.Ops.q _ (E.q_struct rfl rfl pl_160 rfl) rfl rfl ?_
  refine E.Ops.loud rfl rfl ?_
  refine E.l_mapUpdate (.inr rfl) rfl rfl rfl E.ixA ik_162 ?_
  refine E.Ops.q _ (E.q_move rfl rfl) rfl rfl ?_
  refine E.Ops.q _ (E.q_mv rfl rfl) rfl rfl ?_
  refine E.Ops.nil ?_
  try simp only [E.tn, E.tx, E.tr, E.bn, E.br, E.bs]
  refine E.Run.ret ?_
  try simp only [E.tn, E.tx, E.tr, E.bn, E.br, E.bs]
  exact ⟨_, _, _, E.ResOk.one rfl rfl, E.Ent.of E.entA, hK _⟩

set_option maxRecDepth 100000 in
theorem asmNumbers {ρ : E.Ro} {M : List E.Asr} {K : Value → E.Ro → List E.Asr → Prop} (i : E.Ins) (hK : K (.agg #[.int .i64 i.a, .int .i64 i.b, .int .i64 i.c]) ρ M) :
    E.Hoa Try.prog 88 #[.agg (E.encIns i).toArray] ρ M K := by
  refine E.Hoa.enter 10 Try.func88 rfl rfl rfl ?_
  (repeat refine E.Run.seq ?_)
  refine E.Run.region ?_
  refine E.Ops.loud rfl rfl ?_
  refine E.l_box rfl rfl (fun b0_0 => ?_)
  refine E.Ops.loud rfl rfl ?_
  refine E.l_alloc rfl ty_164 (fun b0_1 => ?_)
  refine E.Ops.nil ?_
  try simp only [E.tn, E.tx, E.tr, E.bn, E.br, E.bs]
  (repeat refine E.Run.seq ?_)
  refine E.Run.region ?_
  first | refine E.Ops.q _ (E.q_fieldAddr' rfl rfl fo_44_1) rfl rfl ?_ | refine E.Ops.q _ (E.q_fieldAddr rfl rfl fo_44_1) rfl rfl ?_
  refine E.Ops.q _ (E.q_load rfl rfl (by first | refine E.LoadAt.own E.ixA sc_3 (by rfl) | exact E.LoadAt.ro sc_3 (by assumption) | exact E.LoadAt.arr E.ixA sc_3 (by assumption))) rfl rfl ?_
  first | refine E.Ops.q _ (E.q_fieldAddr' rfl rfl fo_44_2) rfl rfl ?_ | refine E.Ops.q _ (E.q_fieldAddr rfl rfl fo_44_2) rfl rfl ?_
  refine E.Ops.q _ (E.q_load rfl rfl (by first | refine E.LoadAt.own E.ixA sc_3 (by rfl) | exact E.LoadAt.ro sc_3 (by assumption) | exact E.LoadAt.arr E.ixA sc_3 (by assumption))) rfl rfl ?_
  first | refine E.Ops.q _ (E.q_fieldAddr' rfl rfl fo_44_3) rfl rfl ?_ | refine E.Ops.q _ (E.q_fieldAddr rfl rfl fo_44_3) rfl rfl ?_
  refine E.Ops.q _ (E.q_load rfl rfl (by first | refine E.LoadAt.own E.ixA sc_3 (by rfl) | exact E.LoadAt.ro sc_3 (by assumption) | exact E.LoadAt.arr E.ixA sc_3 (by assumption))) rfl rfl ?_
  refine E.Ops.q _ (E.q_array rfl rfl apl_164 rfl) rfl rfl ?_
  refine E.Ops.loud rfl rfl ?_
  refine E.l_store rfl rfl rfl E.ixA 3 sz_164 (by rfl) (by rfl) (by rfl) (by rfl) ?_
  refine E.Ops.nil ?_
  try simp only [E.tn, E.tx, E.tr, E.bn, E.br, E.bs]
  refine E.Run.ret ?_
  try simp only [E.tn, E.tx, E.tr, E.bn, E.br, E.bs]
  exact ⟨_, _, _, E.ResOk.one rfl ⟨_, rfl, E.LoadAt.ownAgg E.ixA 3 ag_164 (by rfl) (by rfl)⟩, E.Ent.of E.entA, hK⟩

set_option maxRecDepth 100000 in
theorem asmFits {ρ : E.Ro} {M : List E.Asr} {K : Value → E.Ro → List E.Asr → Prop} (A A' A1 : Option Addr) (c c' c1 : Nat) (p : Prg) (size : Nat) (kind n : Int) (hs : size ≤ 4398046511104)
    (hK : K (.bool (fitB p.regs p.words.length p.locks size kind n)) ρ M) :
    E.Hoa Try.prog 89 #[prgV A c A' c' p, .slice A1 size c1, .int .u8 kind, .int .i64 n] ρ M K := by
  refine E.Hoa.enter 38 Try.func89 rfl rfl rfl ?_
  (repeat refine E.Run.seq ?_)
  refine E.Run.region ?_
  refine E.Ops.loud rfl rfl ?_
  refine E.l_box rfl rfl (fun b0_0 => ?_)
  refine E.Ops.q _ (E.q_mv rfl rfl) rfl rfl ?_
  refine E.Ops.nil ?_
  try simp only [E.tn, E.tx, E.tr, E.bn, E.br, E.bs]
  (repeat refine E.Run.seq ?_)
  refine E.Run.region ?_
  refine E.Ops.q _ (E.q_mv rfl rfl) rfl rfl ?_
  refine E.Ops.nil ?_
  try simp only [E.tn, E.tx, E.tr, E.bn, E.br, E.bs]
  refine E.Run.seqCut (fun L' ρ' M' => ¬ kind = 110 ∧ E.SubEnv [(3, .int .i64 n), (9, .int .i64 (if kind = 114 then p.regs else if kind = 119 then (p.words.length : Int) else if kind = 108 then p.locks else if kind = 99 then (size : Int) + 1 else 0))] L' ∧ E.Ent ρ' M' ρ M) ?_ ?_
  · (repeat refine E.Run.seq ?_)
    refine E.Run.region ?_
    refine E.Ops.q _ (E.q_move rfl rfl) rfl rfl ?_
    refine E.Ops.nil ?_
    try simp only [E.tn, E.tx, E.tr, E.bn, E.br, E.bs]
    (repeat refine E.Run.seq ?_); refine E.Run.block ?_
    (repeat refine E.Run.seq ?_)
    refine E.Run.region ?_
    refine E.Ops.q _ (E.q_eql rfl rfl rfl) rfl rfl ?_
    refine E.Ops.q _ (E.q_mv rfl rfl) rfl rfl ?_
    refine E.Ops.nil ?_
    try simp only [E.tn, E.tx, E.tr, E.bn, E.br, E.bs]
    (repeat refine E.Run.seq ?_); refine E.Run.condD rfl (fun h1 => ?_) (fun h1 => ?_)
    · (repeat refine E.Run.seq ?_)
      refine E.Run.region ?_
      refine E.Ops.q _ (E.q_mv rfl rfl) rfl rfl ?_
      refine E.Ops.nil ?_
      try simp only [E.tn, E.tx, E.tr, E.bn, E.br, E.bs]
      refine E.Run.ret ?_
      try simp only [E.tn, E.tx, E.tr, E.bn, E.br, E.bs]
      rw [show fitB p.regs p.words.length p.locks size kind n = true from by simp [fitB, h1]] at hK
      exact ⟨_, _, _, E.ResOk.one rfl rfl, E.Ent.of E.entA, hK⟩
    (repeat refine E.Run.seq ?_)
    refine E.Run.region ?_
    refine E.Ops.q _ (E.q_eql rfl rfl rfl) rfl rfl ?_
    refine E.Ops.q _ (E.q_mv rfl rfl) rfl rfl ?_
    refine E.Ops.nil ?_
    try simp only [E.tn, E.tx, E.tr, E.bn, E.br, E.bs]
    (repeat refine E.Run.seq ?_); refine E.Run.condD rfl (fun h2 => ?_) (fun h2 => ?_)
    · (repeat refine E.Run.seq ?_)
      refine E.Run.region ?_
      first | refine E.Ops.q _ (E.q_fieldAddr' rfl rfl fo_25_3) rfl rfl ?_ | refine E.Ops.q _ (E.q_fieldAddr rfl rfl fo_25_3) rfl rfl ?_
      refine E.Ops.q _ (E.q_load rfl rfl (by first | refine E.LoadAt.own E.ixA sc_3 (by rfl) | exact E.LoadAt.ro sc_3 (by assumption) | exact E.LoadAt.arr E.ixA sc_3 (by assumption))) rfl rfl ?_
      refine E.Ops.q _ (E.q_mv rfl rfl) rfl rfl ?_
      refine E.Ops.nil ?_
      try simp only [E.tn, E.tx, E.tr, E.bn, E.br, E.bs]
      refine ⟨h1, ?_, E.Ent.of E.entA⟩
      rw [if_pos h2]
      ((repeat refine E.SubEnv.cons rfl ?_); exact E.SubEnv.nil _)
    (repeat refine E.Run.seq ?_)
    refine E.Run.region ?_
    refine E.Ops.q _ (E.q_eql rfl rfl rfl) rfl rfl ?_
    refine E.Ops.q _ (E.q_mv rfl rfl) rfl rfl ?_
    refine E.Ops.nil ?_
    try simp only [E.tn, E.tx, E.tr, E.bn, E.br, E.bs]
    (repeat refine E.Run.seq ?_); refine E.Run.condD rfl (fun h3 => ?_) (fun h3 => ?_)
    · (repeat refine E.Run.seq ?_)
      refine E.Run.region ?_
      first | refine E.Ops.q _ (E.q_fieldAddr' rfl rfl fo_25_1) rfl rfl ?_ | refine E.Ops.q _ (E.q_fieldAddr rfl rfl fo_25_1) rfl rfl ?_
      refine E.Ops.q _ (E.q_load rfl rfl (by first | refine E.LoadAt.own E.ixA sc_23 (by rfl) | exact E.LoadAt.ro sc_23 (by assumption) | exact E.LoadAt.arr E.ixA sc_23 (by assumption))) rfl rfl ?_
      refine E.Ops.q _ (E.q_lenSlice rfl Try.underlying23) rfl rfl ?_
      refine E.Ops.q _ (E.q_mv rfl rfl) rfl rfl ?_
      refine E.Ops.nil ?_
      try simp only [E.tn, E.tx, E.tr, E.bn, E.br, E.bs]
      refine ⟨h1, ?_, E.Ent.of E.entA⟩
      rw [if_neg h2, if_pos h3]
      ((repeat refine E.SubEnv.cons rfl ?_); exact E.SubEnv.nil _)
    (repeat refine E.Run.seq ?_)
    refine E.Run.region ?_
    refine E.Ops.q _ (E.q_eql rfl rfl rfl) rfl rfl ?_
    refine E.Ops.q _ (E.q_mv rfl rfl) rfl rfl ?_
    refine E.Ops.nil ?_
    try simp only [E.tn, E.tx, E.tr, E.bn, E.br, E.bs]
    (repeat refine E.Run.seq ?_); refine E.Run.condD rfl (fun h4 => ?_) (fun h4 => ?_)
    · (repeat refine E.Run.seq ?_)
      refine E.Run.region ?_
      first | refine E.Ops.q _ (E.q_fieldAddr' rfl rfl fo_25_2) rfl rfl ?_ | refine E.Ops.q _ (E.q_fieldAddr rfl rfl fo_25_2) rfl rfl ?_
      refine E.Ops.q _ (E.q_load rfl rfl (by first | refine E.LoadAt.own E.ixA sc_3 (by rfl) | exact E.LoadAt.ro sc_3 (by assumption) | exact E.LoadAt.arr E.ixA sc_3 (by assumption))) rfl rfl ?_
      refine E.Ops.q _ (E.q_mv rfl rfl) rfl rfl ?_
      refine E.Ops.nil ?_
      try simp only [E.tn, E.tx, E.tr, E.bn, E.br, E.bs]
      refine ⟨h1, ?_, E.Ent.of E.entA⟩
      rw [if_neg h2, if_neg h3, if_pos h4]
      ((repeat refine E.SubEnv.cons rfl ?_); exact E.SubEnv.nil _)
    (repeat refine E.Run.seq ?_)
    refine E.Run.region ?_
    refine E.Ops.q _ (E.q_eql rfl rfl rfl) rfl rfl ?_
    refine E.Ops.q _ (E.q_mv rfl rfl) rfl rfl ?_
    refine E.Ops.nil ?_
    try simp only [E.tn, E.tx, E.tr, E.bn, E.br, E.bs]
    (repeat refine E.Run.seq ?_); refine E.Run.condD rfl (fun h5 => ?_) (fun h5 => ?_)
    · (repeat refine E.Run.seq ?_)
      refine E.Run.region ?_
      refine E.Ops.q _ (E.q_move rfl rfl) rfl rfl ?_
      refine E.Ops.q _ (E.q_lenSlice rfl Try.underlying45) rfl rfl ?_
      first | refine E.Ops.q _ (E.q_incr rfl rfl (by omega)) rfl rfl ?_ | refine E.Ops.q _ (E.q_addFit rfl rfl rfl (by omega)) rfl rfl ?_ | refine E.Ops.q _ (E.q_add rfl rfl rfl) rfl rfl ?_
      refine E.Ops.q _ (E.q_mv rfl rfl) rfl rfl ?_
      refine E.Ops.nil ?_
      try simp only [E.tn, E.tx, E.tr, E.bn, E.br, E.bs]
      refine ⟨h1, ?_, E.Ent.of E.entA⟩
      rw [if_neg h2, if_neg h3, if_neg h4, if_pos h5]
      ((repeat refine E.SubEnv.cons rfl ?_); exact E.SubEnv.nil _)
    · refine E.Run.skip ?_
      try simp only [E.tn, E.tx, E.tr, E.bn, E.br, E.bs]
      refine ⟨h1, ?_, E.Ent.of E.entA⟩
      rw [if_neg h2, if_neg h3, if_neg h4, if_neg h5]
      ((repeat refine E.SubEnv.cons rfl ?_); exact E.SubEnv.nil _)
  · rintro L' ρ' M' ⟨h1, h2, h3⟩
    refine E.Run.sub h2 (E.Run.ent h3 ?_)
    have hf : fitB p.regs p.words.length p.locks size kind n = decide (0 ≤ n ∧ n < (if kind = 114 then p.regs else if kind = 119 then (p.words.length : Int) else if kind = 108 then p.locks else if kind = 99 then (size : Int) + 1 else 0)) := by simp [fitB, h1]
    rw [hf] at hK
    generalize (if kind = 114 then p.regs else if kind = 119 then (p.words.length : Int) else if kind = 108 then p.locks else if kind = 99 then (size : Int) + 1 else 0) = most at hK
    (repeat refine E.Run.seq ?_)
    refine E.Run.region ?_
    refine E.Ops.q _ (E.q_move rfl rfl) rfl rfl ?_
    refine E.Ops.part (E.q_geq rfl rfl rfl) rfl rfl (fun h13_1 => ?T1) (fun h13_1 => ?F1)
    case' F1 =>
      refine E.Ops.q _ (E.q_move rfl rfl) rfl rfl ?_
      refine E.Ops.skip rfl rfl ?_
      refine E.Ops.skip rfl rfl ?_
      refine E.Ops.skip rfl rfl ?_
      refine E.Ops.q _ (E.q_pickF rfl rfl rfl) rfl rfl ?_
      refine E.Ops.q _ (E.q_mv rfl rfl) rfl rfl ?_
      refine E.Ops.nil ?_
      try simp only [E.tn, E.tx, E.tr, E.bn, E.br, E.bs]
    case' T1 =>
      refine E.Ops.q _ (E.q_move rfl rfl) rfl rfl ?_
      refine E.Ops.q _ (E.q_move rfl rfl) rfl rfl ?_
      refine E.Ops.q _ (E.q_move rfl rfl) rfl rfl ?_
      refine E.Ops.q _ (E.q_lss rfl rfl rfl) rfl rfl ?_
      refine E.Ops.q _ (E.q_pickT rfl rfl rfl) rfl rfl ?_
      refine E.Ops.q _ (E.q_mv rfl rfl) rfl rfl ?_
      refine E.Ops.nil ?_
      try simp only [E.tn, E.tx, E.tr, E.bn, E.br, E.bs]
    · skip
      refine E.Run.ret ?_
      try simp only [E.tn, E.tx, E.tr, E.bn, E.br, E.bs]
      rw [show decide (0 ≤ n ∧ n < most) = decide (n < most) from by simp; omega] at hK
      exact ⟨_, _, _, E.ResOk.one rfl rfl, E.Ent.of E.entA, hK⟩
    · refine E.Run.ret ?_
      try simp only [E.tn, E.tx, E.tr, E.bn, E.br, E.bs]
      rw [show decide (0 ≤ n ∧ n < most) = false from by simp; omega] at hK
      exact ⟨_, _, _, E.ResOk.one rfl rfl, E.Ent.of E.entA, hK⟩
end Go.Proofs.Ythpgjbdacknkgaa
