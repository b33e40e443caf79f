/- opt.reckon, walked. No statement of the seat in it. -/
import Derived.Test.YthpgjbdacknkgaaO2
set_option linter.unusedVariables false
set_option linter.unusedSimpArgs false
namespace Go.Proofs.Ythpgjbdacknkgaa
open Go
private theorem ag_172 : E.isAggOf Try.prog 172 2 = true := by kernel_rfl
private theorem fo_172_0 : E.fieldOff Try.prog 172 0 = some 0 := by kernel_rfl
private theorem fo_172_1 : E.fieldOff Try.prog 172 1 = some 1 := by kernel_rfl
private theorem fo_44_0 : E.fieldOff Try.prog 44 0 = some 0 := by kernel_rfl
private theorem fo_44_2 : E.fieldOff Try.prog 44 2 = some 2 := by kernel_rfl
private theorem fo_44_3 : E.fieldOff Try.prog 44 3 = some 3 := by kernel_rfl
private theorem ik_170 : E.isIntKey Try.prog 170 = some 172 := by kernel_rfl
private theorem nb_136 : Try.f136.body.isNone = false := by kernel_rfl
private theorem nm_136 : (Try.f136.name == "runtime.NumGoroutine") = false := by kernel_rfl
private theorem pl_172 : E.placesOf Try.prog 172 = some ([.int .i64 0, .int .i64 0], [(0, 1), (1, 1)]) := by kernel_rfl
private theorem sc_3 : E.isScal Try.prog 3 = true := by kernel_rfl
private theorem sz_172 : (Try.prog.info? 172).map (·.size) = some 2 := by kernel_rfl
private theorem ty_172 : E.tyOf Try.prog 172 = some (some (.agg #[.int .i64 0, .int .i64 0]), 2, 16) := by kernel_rfl

def arithI (op x y : Int) : Int := if op = 3 then IntKind.i64.wrap (x + y) else if op = 4 then IntKind.i64.wrap (x - y) else if op = 5 then IntKind.i64.wrap (x * y)
  else if op = 6 then (if decide (x < y) = true then 1 else 0) else (if decide (x = y) = true then 1 else 0)
/-- what an order makes of what it reads; none: it reckons nothing -/
def reck (i : E.Ins) (V : Int → Vl) : Option Vl :=
  if i.op = 1 then some ⟨1, i.b⟩ else if i.op = 2 then some (V i.b) else
  if i.op = 3 ∨ i.op = 4 ∨ i.op = 5 ∨ i.op = 6 ∨ i.op = 7 then
    (if (V i.b).st = 0 ∨ (V i.c).st = 0 then some ⟨0, 0⟩ else if (V i.b).st = 2 ∨ (V i.c).st = 2 then some ⟨2, 0⟩ else some ⟨1, arithI i.op (V i.b).n (V i.c).n⟩)
  else none
/-- what it reads is there -/
def readsIn (R : Nat) (i : E.Ins) : Prop := (i.op = 2 → 0 ≤ i.b ∧ i.b < R) ∧ ((i.op = 3 ∨ i.op = 4 ∨ i.op = 5 ∨ i.op = 6 ∨ i.op = 7) → (0 ≤ i.b ∧ i.b < R) ∧ (0 ≤ i.c ∧ i.c < R))

set_option maxRecDepth 100000 in
theorem optReckon {ρ : E.Ro} {M : List E.Asr} {K : Value → E.Ro → List E.Asr → Prop} (i : E.Ins) (b R : Nat) (V : Int → Vl) (hg : E.GIs ρ M b R (envG R V)) (hr : readsIn R i)
    (hK : K (.tuple #[vlV ((reck i V).getD ⟨0, 0⟩), .bool (reck i V).isSome]) ρ M) :
    E.Hoa Try.prog 92 #[.agg (E.encIns i).toArray, .map (some b)] ρ M K := by
  refine E.Hoa.enter 96 Try.func92 rfl rfl rfl ?_
  (repeat refine E.Run.seq ?_)
  refine E.Run.region ?_
  refine E.Ops.loud rfl rfl ?_
  refine E.l_box rfl rfl (fun b0_0 => ?_)
  refine E.Ops.loud rfl rfl ?_
  refine E.l_alloc rfl ty_172 (fun b0_1 => ?_)
  refine E.Ops.q _ (E.q_mv rfl rfl) rfl rfl ?_
  refine E.Ops.nil ?_
  try simp only [E.tn, E.tx, E.tr, E.bn, E.br, E.bs]
  have fin : ∀ (L : E.Env) (ρ' : E.Ro) (M' : List E.Asr) (v : Option Vl), reck i V = v → E.SubEnv [(4, .pointer (some ⟨b0_1, 0, none⟩)), (5, .bool v.isSome)] L → E.Ent ρ' M' ρ (E.pt b0_1 172 [.int .i64 (v.getD ⟨0, 0⟩).st, .int .i64 (v.getD ⟨0, 0⟩).n] :: M) →
      E.fnQ Try.prog Try.f92 K .ret L ρ' M' := by
    intro L ρ' M' v hv hs he
    subst hv
    exact E.fnQ_of hs he ⟨_, _, _, E.ResOk.two rfl ⟨_, rfl, E.LoadAt.ownAgg E.ixA 2 ag_172 (by rfl) (by rfl)⟩ rfl, E.Ent.of E.entA, hK⟩
  (repeat refine E.Run.seq ?_)
  refine E.Run.region ?_
  first | refine E.Ops.q _ (E.q_fieldAddr' rfl rfl fo_44_0) rfl rfl ?_ | refine E.Ops.q _ (E.q_fieldAddr rfl rfl fo_44_0) rfl rfl ?_
  refine E.Ops.q _ (E.q_load rfl rfl (by first | refine E.LoadAt.own E.ixA sc_3 (by rfl) | exact E.LoadAt.ro sc_3 (by assumption) | exact E.LoadAt.arr E.ixA sc_3 (by assumption))) rfl rfl ?_
  refine E.Ops.nil ?_
  try simp only [E.tn, E.tx, E.tr, E.bn, E.br, E.bs]
  refine E.Run.cut (fun L' ρ' M' => (i.op = 3 ∨ i.op = 4 ∨ i.op = 5 ∨ i.op = 6 ∨ i.op = 7) ∧ E.SubEnv [(1, .map (some b)), (2, .pointer (some ⟨b0_0, 0, none⟩)), (4, .pointer (some ⟨b0_1, 0, none⟩))] L' ∧ E.Ent ρ' M' ρ (E.pt b0_1 172 [.int .i64 0, .int .i64 0] :: E.pt b0_0 44 (E.encIns i) :: M)) ?_ ?_
  · (repeat refine E.Run.seq ?_); refine E.Run.block ?_
    (repeat refine E.Run.seq ?_)
    refine E.Run.region ?_
    refine E.Ops.q _ (E.q_eql rfl rfl rfl) rfl rfl ?_
    refine E.Ops.q _ (E.q_mv rfl rfl) rfl rfl ?_
    refine E.Ops.nil ?_
    try simp only [E.tn, E.tx, E.tr, E.bn, E.br, E.bs]
    (repeat refine E.Run.seq ?_); refine E.Run.condD rfl (fun h1 => ?_) (fun h1 => ?_)
    · (repeat refine E.Run.seq ?_)
      refine E.Run.region ?_
      first | refine E.Ops.q _ (E.q_fieldAddr' rfl rfl fo_44_2) rfl rfl ?_ | refine E.Ops.q _ (E.q_fieldAddr rfl rfl fo_44_2) rfl rfl ?_
      refine E.Ops.q _ (E.q_load rfl rfl (by first | refine E.LoadAt.own E.ixA sc_3 (by rfl) | exact E.LoadAt.ro sc_3 (by assumption) | exact E.LoadAt.arr E.ixA sc_3 (by assumption))) rfl rfl ?_
      refine E.Ops.q _ (E.q_struct rfl rfl pl_172 rfl) rfl rfl ?_
      refine E.Ops.loud rfl rfl ?_
      refine E.l_store rfl rfl rfl E.ixA 2 sz_172 (by rfl) (by rfl) (by rfl) (by rfl) ?_
      refine E.Ops.q _ (E.q_mv rfl rfl) rfl rfl ?_
      refine E.Ops.nil ?_
      try simp only [E.tn, E.tx, E.tr, E.bn, E.br, E.bs]
      refine E.Run.ret ?_
      try simp only [E.tn, E.tx, E.tr, E.bn, E.br, E.bs]
      exact fin _ _ _ (some ⟨1, i.b⟩) (by unfold reck; rw [if_pos h1]) (by ((repeat refine E.SubEnv.cons rfl ?_); exact E.SubEnv.nil _)) (by exact E.Ent.of E.entA)
    (repeat refine E.Run.seq ?_)
    refine E.Run.region ?_
    refine E.Ops.q _ (E.q_eql rfl rfl rfl) rfl rfl ?_
    refine E.Ops.q _ (E.q_mv rfl rfl) rfl rfl ?_
    refine E.Ops.nil ?_
    try simp only [E.tn, E.tx, E.tr, E.bn, E.br, E.bs]
    (repeat refine E.Run.seq ?_); refine E.Run.condD rfl (fun h2 => ?_) (fun h2 => ?_)
    · (repeat refine E.Run.seq ?_)
      refine E.Run.region ?_
      refine E.Ops.q _ (E.q_move rfl rfl) rfl rfl ?_
      first | refine E.Ops.q _ (E.q_fieldAddr' rfl rfl fo_44_2) rfl rfl ?_ | refine E.Ops.q _ (E.q_fieldAddr rfl rfl fo_44_2) rfl rfl ?_
      refine E.Ops.q _ (E.q_load rfl rfl (by first | refine E.LoadAt.own E.ixA sc_3 (by rfl) | exact E.LoadAt.ro sc_3 (by assumption) | exact E.LoadAt.arr E.ixA sc_3 (by assumption))) rfl rfl ?_
      refine E.Ops.q _ (q_lookupE (E.GIs.ent (by exact E.Ent.of E.entA) hg) (hr.1 h2) rfl rfl rfl ik_170 ty_172) rfl rfl ?_
      refine E.Ops.loud rfl rfl ?_
      refine E.l_store rfl rfl rfl E.ixA 2 sz_172 (by rfl) (by rfl) (by rfl) (by rfl) ?_
      refine E.Ops.q _ (E.q_mv rfl rfl) rfl rfl ?_
      refine E.Ops.nil ?_
      try simp only [E.tn, E.tx, E.tr, E.bn, E.br, E.bs]
      refine E.Run.ret ?_
      try simp only [E.tn, E.tx, E.tr, E.bn, E.br, E.bs]
      exact fin _ _ _ (some (V i.b)) (by unfold reck; rw [if_neg h1, if_pos h2]) (by ((repeat refine E.SubEnv.cons rfl ?_); exact E.SubEnv.nil _)) (by exact E.Ent.of E.entA)
    refine E.Run.seqCut (fun L' ρ' M' => E.SubEnv [(1, .map (some b)), (2, .pointer (some ⟨b0_0, 0, none⟩)), (4, .pointer (some ⟨b0_1, 0, none⟩)), (23, .bool (decide (i.op = 3 ∨ i.op = 4 ∨ i.op = 5 ∨ i.op = 6 ∨ i.op = 7)))] L' ∧ E.Ent ρ' M' ρ (E.pt b0_1 172 [.int .i64 0, .int .i64 0] :: E.pt b0_0 44 (E.encIns i) :: M)) ?_ ?_
    · (repeat refine E.Run.seq ?_)
      refine E.Run.region ?_
      refine E.Ops.q _ (E.q_eql rfl rfl rfl) rfl rfl ?_
      refine E.Ops.q _ (E.q_mv rfl rfl) rfl rfl ?_
      refine E.Ops.nil ?_
      try simp only [E.tn, E.tx, E.tr, E.bn, E.br, E.bs]
      (repeat refine E.Run.seq ?_); refine E.Run.condD rfl (fun h3 => ?_) (fun h3 => ?_)
      · refine E.Run.skip ?_
        try simp only [E.tn, E.tx, E.tr, E.bn, E.br, E.bs]
        exact ⟨by rw [decide_eq_true (p := i.op = 3 ∨ i.op = 4 ∨ i.op = 5 ∨ i.op = 6 ∨ i.op = 7) (by omega)]; rw [decide_eq_true h3]; ((repeat refine E.SubEnv.cons rfl ?_); exact E.SubEnv.nil _), by exact E.Ent.of E.entA⟩
      (repeat refine E.Run.seq ?_)
      refine E.Run.region ?_
      refine E.Ops.q _ (E.q_eql rfl rfl rfl) rfl rfl ?_
      refine E.Ops.q _ (E.q_mv rfl rfl) rfl rfl ?_
      refine E.Ops.nil ?_
      try simp only [E.tn, E.tx, E.tr, E.bn, E.br, E.bs]
      (repeat refine E.Run.seq ?_); refine E.Run.condD rfl (fun h4 => ?_) (fun h4 => ?_)
      · refine E.Run.skip ?_
        try simp only [E.tn, E.tx, E.tr, E.bn, E.br, E.bs]
        exact ⟨by rw [decide_eq_true (p := i.op = 3 ∨ i.op = 4 ∨ i.op = 5 ∨ i.op = 6 ∨ i.op = 7) (by omega)]; rw [decide_eq_true h4]; ((repeat refine E.SubEnv.cons rfl ?_); exact E.SubEnv.nil _), by exact E.Ent.of E.entA⟩
      (repeat refine E.Run.seq ?_)
      refine E.Run.region ?_
      refine E.Ops.q _ (E.q_eql rfl rfl rfl) rfl rfl ?_
      refine E.Ops.q _ (E.q_mv rfl rfl) rfl rfl ?_
      refine E.Ops.nil ?_
      try simp only [E.tn, E.tx, E.tr, E.bn, E.br, E.bs]
      (repeat refine E.Run.seq ?_); refine E.Run.condD rfl (fun h5 => ?_) (fun h5 => ?_)
      · refine E.Run.skip ?_
        try simp only [E.tn, E.tx, E.tr, E.bn, E.br, E.bs]
        exact ⟨by rw [decide_eq_true (p := i.op = 3 ∨ i.op = 4 ∨ i.op = 5 ∨ i.op = 6 ∨ i.op = 7) (by omega)]; rw [decide_eq_true h5]; ((repeat refine E.SubEnv.cons rfl ?_); exact E.SubEnv.nil _), by exact E.Ent.of E.entA⟩
      (repeat refine E.Run.seq ?_)
      refine E.Run.region ?_
      refine E.Ops.q _ (E.q_eql rfl rfl rfl) rfl rfl ?_
      refine E.Ops.q _ (E.q_mv rfl rfl) rfl rfl ?_
      refine E.Ops.nil ?_
      try simp only [E.tn, E.tx, E.tr, E.bn, E.br, E.bs]
      (repeat refine E.Run.seq ?_); refine E.Run.condD rfl (fun h6 => ?_) (fun h6 => ?_)
      · refine E.Run.skip ?_
        try simp only [E.tn, E.tx, E.tr, E.bn, E.br, E.bs]
        exact ⟨by rw [decide_eq_true (p := i.op = 3 ∨ i.op = 4 ∨ i.op = 5 ∨ i.op = 6 ∨ i.op = 7) (by omega)]; rw [decide_eq_true h6]; ((repeat refine E.SubEnv.cons rfl ?_); exact E.SubEnv.nil _), by exact E.Ent.of E.entA⟩
      (repeat refine E.Run.seq ?_)
      refine E.Run.region ?_
      refine E.Ops.q _ (E.q_eql rfl rfl rfl) rfl rfl ?_
      refine E.Ops.q _ (E.q_mv rfl rfl) rfl rfl ?_
      refine E.Ops.nil ?_
      try simp only [E.tn, E.tx, E.tr, E.bn, E.br, E.bs]
      exact ⟨by rw [show decide (i.op = 3 ∨ i.op = 4 ∨ i.op = 5 ∨ i.op = 6 ∨ i.op = 7) = decide (i.op = 7) from decide_eq_decide.2 (by omega)]; ((repeat refine E.SubEnv.cons rfl ?_); exact E.SubEnv.nil _), by exact E.Ent.of E.entA⟩
    rintro L ρ1 M1 ⟨hs, he⟩
    refine E.Run.sub hs (E.Run.ent he ?_)
    (repeat refine E.Run.seq ?_); refine E.Run.condD rfl (fun h3 => ?_) (fun h3 => ?_)
    · refine E.Run.skip ?_
      try simp only [E.tn, E.tx, E.tr, E.bn, E.br, E.bs]
      exact ⟨h3, by ((repeat refine E.SubEnv.cons rfl ?_); exact E.SubEnv.nil _), by exact E.Ent.of E.entA⟩
    (repeat refine E.Run.seq ?_)
    refine E.Run.region ?_
    refine E.Ops.q _ (E.q_struct rfl rfl pl_172 rfl) rfl rfl ?_
    refine E.Ops.loud rfl rfl ?_
    refine E.l_store rfl rfl rfl E.ixA 2 sz_172 (by rfl) (by rfl) (by rfl) (by rfl) ?_
    refine E.Ops.q _ (E.q_mv rfl rfl) rfl rfl ?_
    refine E.Ops.nil ?_
    try simp only [E.tn, E.tx, E.tr, E.bn, E.br, E.bs]
    refine E.Run.ret ?_
    try simp only [E.tn, E.tx, E.tr, E.bn, E.br, E.bs]
    exact fin _ _ _ none (by unfold reck; rw [if_neg h1, if_neg h2, if_neg h3]) (by ((repeat refine E.SubEnv.cons rfl ?_); exact E.SubEnv.nil _)) (by exact E.Ent.of E.entA)
  rintro L ρ1 M1 ⟨h3, hs, he⟩
  try simp only [E.tn, E.tx, E.tr, E.bn, E.br, E.bs]
  refine E.Run.sub hs (E.Run.ent he ?_)
  clear hs he
  obtain ⟨hb, hcc⟩ := hr.2 h3
  refine E.Run.seqCut (fun L' ρ' M' => ∃ b6 b7, E.SubEnv [(2, .pointer (some ⟨b0_0, 0, none⟩)), (4, .pointer (some ⟨b0_1, 0, none⟩)), (6, .pointer (some ⟨b6, 0, none⟩)), (7, .pointer (some ⟨b7, 0, none⟩))] L' ∧ E.Ent ρ' M' ρ (E.pt b6 172 [.int .i64 (V i.b).st, .int .i64 (V i.b).n] :: E.pt b7 172 [.int .i64 (V i.c).st, .int .i64 (V i.c).n] :: E.pt b0_1 172 [.int .i64 0, .int .i64 0] :: E.pt b0_0 44 (E.encIns i) :: M)) ?_ ?_
  · (repeat refine E.Run.seq ?_)
    refine E.Run.draw (.q 0 (.q 1 (.q 2 (.q 3 (.q 4 (.q 5 (.q 6 (.q 7 (.alt 8 9 (.l 9 (.l 10 (.l 11 (.nil)))) (.l 8 (.l 10 (.l 11 (.nil))))))))))))) _ _ Try.mixed (by kernel_rfl) (E.Ent.refl _ _) ?_
    refine E.Plan.q _ rfl _ (E.q_move rfl rfl) rfl rfl ?_
    first | refine E.Plan.q _ rfl _ (E.q_fieldAddr' rfl rfl fo_44_2) rfl rfl ?_ | refine E.Plan.q _ rfl _ (E.q_fieldAddr rfl rfl fo_44_2) rfl rfl ?_
    refine E.Plan.q _ rfl _ (E.q_load rfl rfl (by first | refine E.LoadAt.own E.ixA sc_3 (by rfl) | exact E.LoadAt.ro sc_3 (by assumption) | exact E.LoadAt.arr E.ixA sc_3 (by assumption))) rfl rfl ?_
    refine E.Plan.q _ rfl _ (q_lookupE (E.GIs.ent (by exact E.Ent.of E.entA) hg) hb rfl rfl rfl ik_170 ty_172) rfl rfl ?_
    refine E.Plan.q _ rfl _ (E.q_move rfl rfl) rfl rfl ?_
    first | refine E.Plan.q _ rfl _ (E.q_fieldAddr' rfl rfl fo_44_3) rfl rfl ?_ | refine E.Plan.q _ rfl _ (E.q_fieldAddr rfl rfl fo_44_3) rfl rfl ?_
    refine E.Plan.q _ rfl _ (E.q_load rfl rfl (by first | refine E.LoadAt.own E.ixA sc_3 (by rfl) | exact E.LoadAt.ro sc_3 (by assumption) | exact E.LoadAt.arr E.ixA sc_3 (by assumption))) rfl rfl ?_
    refine E.Plan.q _ rfl _ (q_lookupE (E.GIs.ent (by exact E.Ent.of E.entA) hg) hcc rfl rfl rfl ik_170 ty_172) rfl rfl ?_
    refine E.Plan.alt ?S1_0 ?S1_1
    case' S1_1 =>
      refine E.StepA.loud _ rfl rfl rfl ?_
      refine E.l_alloc rfl ty_172 (fun b12_9 => ?_)
      refine ⟨E.Ent.of E.entA, ?_⟩
      refine E.Plan.loud _ rfl rfl rfl ?_
      refine E.l_alloc rfl ty_172 (fun b12_8 => ?_)
      refine ⟨E.Ent.of E.entA, ?_⟩
      refine E.Plan.loud _ rfl rfl rfl ?_
      refine E.l_store rfl rfl rfl E.ixA 2 sz_172 (by rfl) (by rfl) (by rfl) (by rfl) ?_
      refine ⟨E.Ent.of E.entA, ?_⟩
      refine E.Plan.loud _ rfl rfl rfl ?_
      refine E.l_store rfl rfl rfl E.ixA 2 sz_172 (by rfl) (by rfl) (by rfl) (by rfl) ?_
      refine ⟨E.Ent.of E.entA, ?_⟩
      refine E.Plan.nil ?_
      try simp only [E.tn, E.tx, E.tr, E.bn, E.br, E.bs]
    case' S1_0 =>
      refine E.StepA.loud _ rfl rfl rfl ?_
      refine E.l_alloc rfl ty_172 (fun b12_8 => ?_)
      refine ⟨E.Ent.of E.entA, ?_⟩
      refine E.Plan.loud _ rfl rfl rfl ?_
      refine E.l_alloc rfl ty_172 (fun b12_9 => ?_)
      refine ⟨E.Ent.of E.entA, ?_⟩
      refine E.Plan.loud _ rfl rfl rfl ?_
      refine E.l_store rfl rfl rfl E.ixA 2 sz_172 (by rfl) (by rfl) (by rfl) (by rfl) ?_
      refine ⟨E.Ent.of E.entA, ?_⟩
      refine E.Plan.loud _ rfl rfl rfl ?_
      refine E.l_store rfl rfl rfl E.ixA 2 sz_172 (by rfl) (by rfl) (by rfl) (by rfl) ?_
      refine ⟨E.Ent.of E.entA, ?_⟩
      refine E.Plan.nil ?_
      try simp only [E.tn, E.tx, E.tr, E.bn, E.br, E.bs]
    · exact ⟨b12_8, b12_9, by ((repeat refine E.SubEnv.cons rfl ?_); exact E.SubEnv.nil _), by exact E.Ent.of E.entA⟩
    · exact ⟨b12_8, b12_9, by ((repeat refine E.SubEnv.cons rfl ?_); exact E.SubEnv.nil _), by exact E.Ent.of E.entA⟩
  rintro L ρ1 M1 ⟨b6, b7, hs, he⟩
  refine E.Run.sub hs (E.Run.ent he ?_)
  have hrk : reck i V = if (V i.b).st = 0 ∨ (V i.c).st = 0 then some ⟨0, 0⟩ else if (V i.b).st = 2 ∨ (V i.c).st = 2 then some ⟨2, 0⟩ else some ⟨1, arithI i.op (V i.b).n (V i.c).n⟩ := by
    unfold reck; rw [if_neg (by omega), if_neg (by omega), if_pos h3]
  refine E.Run.seqCut (fun L' ρ' M' => ¬ ((V i.b).st = 0 ∨ (V i.c).st = 0) ∧ ¬ ((V i.b).st = 2 ∨ (V i.c).st = 2) ∧ E.SubEnv [(2, .pointer (some ⟨b0_0, 0, none⟩)), (4, .pointer (some ⟨b0_1, 0, none⟩)), (6, .pointer (some ⟨b6, 0, none⟩)), (7, .pointer (some ⟨b7, 0, none⟩))] L' ∧ E.Ent ρ' M' ρ (E.pt b6 172 [.int .i64 (V i.b).st, .int .i64 (V i.b).n] :: E.pt b7 172 [.int .i64 (V i.c).st, .int .i64 (V i.c).n] :: E.pt b0_1 172 [.int .i64 0, .int .i64 0] :: E.pt b0_0 44 (E.encIns i) :: M)) ?_ ?_
  · (repeat refine E.Run.seq ?_); refine E.Run.block ?_
    refine E.Run.seqCut (fun L' ρ' M' => E.SubEnv [(2, .pointer (some ⟨b0_0, 0, none⟩)), (4, .pointer (some ⟨b0_1, 0, none⟩)), (6, .pointer (some ⟨b6, 0, none⟩)), (7, .pointer (some ⟨b7, 0, none⟩)), (37, .bool (decide ((V i.b).st = 0 ∨ (V i.c).st = 0)))] L' ∧ E.Ent ρ' M' ρ (E.pt b6 172 [.int .i64 (V i.b).st, .int .i64 (V i.b).n] :: E.pt b7 172 [.int .i64 (V i.c).st, .int .i64 (V i.c).n] :: E.pt b0_1 172 [.int .i64 0, .int .i64 0] :: E.pt b0_0 44 (E.encIns i) :: M)) ?_ ?_
    · (repeat refine E.Run.seq ?_)
      refine E.Run.region ?_
      first | refine E.Ops.q _ (E.q_fieldAddr' rfl rfl fo_172_0) rfl rfl ?_ | refine E.Ops.q _ (E.q_fieldAddr rfl rfl fo_172_0) rfl rfl ?_
      refine E.Ops.q _ (E.q_load rfl rfl (by first | refine E.LoadAt.own E.ixA sc_3 (by rfl) | exact E.LoadAt.ro sc_3 (by assumption) | exact E.LoadAt.arr E.ixA sc_3 (by assumption))) rfl rfl ?_
      refine E.Ops.part (E.q_eql rfl rfl rfl) rfl rfl (fun h13_2 => ?T2) (fun h13_2 => ?F2)
      case' F2 =>
        refine E.Ops.q _ (E.q_move rfl rfl) rfl rfl ?_
        first | refine E.Ops.q _ (E.q_fieldAddr' rfl rfl fo_172_0) rfl rfl ?_ | refine E.Ops.q _ (E.q_fieldAddr rfl rfl fo_172_0) rfl rfl ?_
        refine E.Ops.q _ (E.q_load rfl rfl (by first | refine E.LoadAt.own E.ixA sc_3 (by rfl) | exact E.LoadAt.ro sc_3 (by assumption) | exact E.LoadAt.arr E.ixA sc_3 (by assumption))) rfl rfl ?_
        refine E.Ops.q _ (E.q_eql rfl rfl rfl) rfl rfl ?_
        refine E.Ops.q _ (E.q_pickF rfl rfl rfl) rfl rfl ?_
        refine E.Ops.q _ (E.q_mv rfl rfl) rfl rfl ?_
        refine E.Ops.nil ?_
        try simp only [E.tn, E.tx, E.tr, E.bn, E.br, E.bs]
      case' T2 =>
        refine E.Ops.q _ (E.q_move rfl rfl) rfl rfl ?_
        refine E.Ops.skip rfl rfl ?_
        refine E.Ops.skip rfl rfl ?_
        refine E.Ops.skip rfl rfl ?_
        refine E.Ops.q _ (E.q_pickT rfl rfl rfl) rfl rfl ?_
        refine E.Ops.q _ (E.q_mv rfl rfl) rfl rfl ?_
        refine E.Ops.nil ?_
        try simp only [E.tn, E.tx, E.tr, E.bn, E.br, E.bs]
      · exact ⟨by rw [decide_eq_true (.inl h13_2)]; ((repeat refine E.SubEnv.cons rfl ?_); exact E.SubEnv.nil _), by exact E.Ent.of E.entA⟩
      · exact ⟨by rw [show decide ((V i.b).st = 0 ∨ (V i.c).st = 0) = decide ((V i.c).st = 0) from decide_eq_decide.2 (by omega)]; ((repeat refine E.SubEnv.cons rfl ?_); exact E.SubEnv.nil _), by exact E.Ent.of E.entA⟩
    rintro L ρ1 M1 ⟨hs, he⟩
    refine E.Run.sub hs (E.Run.ent he ?_)
    (repeat refine E.Run.seq ?_); refine E.Run.condD rfl (fun h4 => ?_) (fun h4 => ?_)
    · (repeat refine E.Run.seq ?_)
      refine E.Run.region ?_
      refine E.Ops.q _ (E.q_struct rfl rfl pl_172 rfl) rfl rfl ?_
      refine E.Ops.loud rfl rfl ?_
      refine E.l_store rfl rfl rfl E.ixA 2 sz_172 (by rfl) (by rfl) (by rfl) (by rfl) ?_
      refine E.Ops.q _ (E.q_mv rfl rfl) rfl rfl ?_
      refine E.Ops.nil ?_
      try simp only [E.tn, E.tx, E.tr, E.bn, E.br, E.bs]
      refine E.Run.ret ?_
      try simp only [E.tn, E.tx, E.tr, E.bn, E.br, E.bs]
      exact fin _ _ _ (some ⟨0, 0⟩) (by rw [hrk, if_pos h4]) (by ((repeat refine E.SubEnv.cons rfl ?_); exact E.SubEnv.nil _)) (by exact E.Ent.of E.entA)
    refine E.Run.seqCut (fun L' ρ' M' => E.SubEnv [(2, .pointer (some ⟨b0_0, 0, none⟩)), (4, .pointer (some ⟨b0_1, 0, none⟩)), (6, .pointer (some ⟨b6, 0, none⟩)), (7, .pointer (some ⟨b7, 0, none⟩)), (47, .bool (decide ((V i.b).st = 2 ∨ (V i.c).st = 2)))] L' ∧ E.Ent ρ' M' ρ (E.pt b6 172 [.int .i64 (V i.b).st, .int .i64 (V i.b).n] :: E.pt b7 172 [.int .i64 (V i.c).st, .int .i64 (V i.c).n] :: E.pt b0_1 172 [.int .i64 0, .int .i64 0] :: E.pt b0_0 44 (E.encIns i) :: M)) ?_ ?_
    · (repeat refine E.Run.seq ?_)
      refine E.Run.region ?_
      first | refine E.Ops.q _ (E.q_fieldAddr' rfl rfl fo_172_0) rfl rfl ?_ | refine E.Ops.q _ (E.q_fieldAddr rfl rfl fo_172_0) rfl rfl ?_
      refine E.Ops.q _ (E.q_load rfl rfl (by first | refine E.LoadAt.own E.ixA sc_3 (by rfl) | exact E.LoadAt.ro sc_3 (by assumption) | exact E.LoadAt.arr E.ixA sc_3 (by assumption))) rfl rfl ?_
      refine E.Ops.part (E.q_eql rfl rfl rfl) rfl rfl (fun h15_2 => ?T3) (fun h15_2 => ?F3)
      case' F3 =>
        refine E.Ops.q _ (E.q_move rfl rfl) rfl rfl ?_
        first | refine E.Ops.q _ (E.q_fieldAddr' rfl rfl fo_172_0) rfl rfl ?_ | refine E.Ops.q _ (E.q_fieldAddr rfl rfl fo_172_0) rfl rfl ?_
        refine E.Ops.q _ (E.q_load rfl rfl (by first | refine E.LoadAt.own E.ixA sc_3 (by rfl) | exact E.LoadAt.ro sc_3 (by assumption) | exact E.LoadAt.arr E.ixA sc_3 (by assumption))) rfl rfl ?_
        refine E.Ops.q _ (E.q_eql rfl rfl rfl) rfl rfl ?_
        refine E.Ops.q _ (E.q_pickF rfl rfl rfl) rfl rfl ?_
        refine E.Ops.q _ (E.q_mv rfl rfl) rfl rfl ?_
        refine E.Ops.nil ?_
        try simp only [E.tn, E.tx, E.tr, E.bn, E.br, E.bs]
      case' T3 =>
        refine E.Ops.q _ (E.q_move rfl rfl) rfl rfl ?_
        refine E.Ops.skip rfl rfl ?_
        refine E.Ops.skip rfl rfl ?_
        refine E.Ops.skip rfl rfl ?_
        refine E.Ops.q _ (E.q_pickT rfl rfl rfl) rfl rfl ?_
        refine E.Ops.q _ (E.q_mv rfl rfl) rfl rfl ?_
        refine E.Ops.nil ?_
        try simp only [E.tn, E.tx, E.tr, E.bn, E.br, E.bs]
      · exact ⟨by rw [decide_eq_true (.inl h15_2)]; ((repeat refine E.SubEnv.cons rfl ?_); exact E.SubEnv.nil _), by exact E.Ent.of E.entA⟩
      · exact ⟨by rw [show decide ((V i.b).st = 2 ∨ (V i.c).st = 2) = decide ((V i.c).st = 2) from decide_eq_decide.2 (by omega)]; ((repeat refine E.SubEnv.cons rfl ?_); exact E.SubEnv.nil _), by exact E.Ent.of E.entA⟩
    rintro L ρ1 M1 ⟨hs, he⟩
    refine E.Run.sub hs (E.Run.ent he ?_)
    (repeat refine E.Run.seq ?_); refine E.Run.condD rfl (fun h5 => ?_) (fun h5 => ?_)
    · (repeat refine E.Run.seq ?_)
      refine E.Run.region ?_
      refine E.Ops.q _ (E.q_struct rfl rfl pl_172 rfl) rfl rfl ?_
      refine E.Ops.loud rfl rfl ?_
      refine E.l_store rfl rfl rfl E.ixA 2 sz_172 (by rfl) (by rfl) (by rfl) (by rfl) ?_
      refine E.Ops.q _ (E.q_mv rfl rfl) rfl rfl ?_
      refine E.Ops.nil ?_
      try simp only [E.tn, E.tx, E.tr, E.bn, E.br, E.bs]
      refine E.Run.ret ?_
      try simp only [E.tn, E.tx, E.tr, E.bn, E.br, E.bs]
      exact fin _ _ _ (some ⟨2, 0⟩) (by rw [hrk, if_neg h4, if_pos h5]) (by ((repeat refine E.SubEnv.cons rfl ?_); exact E.SubEnv.nil _)) (by exact E.Ent.of E.entA)
    refine E.Run.skip ?_
    try simp only [E.tn, E.tx, E.tr, E.bn, E.br, E.bs]
    exact ⟨h4, h5, by ((repeat refine E.SubEnv.cons rfl ?_); exact E.SubEnv.nil _), by exact E.Ent.of E.entA⟩
  rintro L ρ1 M1 ⟨h4, h5, hs, he⟩
  refine E.Run.sub hs (E.Run.ent he ?_)
  rw [if_neg h4, if_neg h5] at hrk
  (repeat refine E.Run.seq ?_)
  refine E.Run.region ?_
  refine E.Ops.q _ (E.q_mv rfl rfl) rfl rfl ?_
  refine E.Ops.nil ?_
  try simp only [E.tn, E.tx, E.tr, E.bn, E.br, E.bs]
  refine E.Run.seqCut (fun L' ρ' M' => E.SubEnv [(4, .pointer (some ⟨b0_1, 0, none⟩)), (8, .int .i64 (arithI i.op (V i.b).n (V i.c).n))] L' ∧ E.Ent ρ' M' ρ (E.pt b0_1 172 [.int .i64 0, .int .i64 0] :: M)) ?_ ?_
  · (repeat refine E.Run.seq ?_)
    refine E.Run.region ?_
    first | refine E.Ops.q _ (E.q_fieldAddr' rfl rfl fo_44_0) rfl rfl ?_ | refine E.Ops.q _ (E.q_fieldAddr rfl rfl fo_44_0) rfl rfl ?_
    refine E.Ops.q _ (E.q_load rfl rfl (by first | refine E.LoadAt.own E.ixA sc_3 (by rfl) | exact E.LoadAt.ro sc_3 (by assumption) | exact E.LoadAt.arr E.ixA sc_3 (by assumption))) rfl rfl ?_
    refine E.Ops.nil ?_
    try simp only [E.tn, E.tx, E.tr, E.bn, E.br, E.bs]
    (repeat refine E.Run.seq ?_); refine E.Run.block ?_
    unfold arithI
    (repeat refine E.Run.seq ?_)
    refine E.Run.region ?_
    refine E.Ops.q _ (E.q_eql rfl rfl rfl) rfl rfl ?_
    refine E.Ops.q _ (E.q_mv rfl rfl) rfl rfl ?_
    refine E.Ops.nil ?_
    try simp only [E.tn, E.tx, E.tr, E.bn, E.br, E.bs]
    (repeat refine E.Run.seq ?_); refine E.Run.condD rfl (fun g1 => ?_) (fun g1 => ?_)
    · (repeat refine E.Run.seq ?_)
      refine E.Run.region ?_
      first | refine E.Ops.q _ (E.q_fieldAddr' rfl rfl fo_172_1) rfl rfl ?_ | refine E.Ops.q _ (E.q_fieldAddr rfl rfl fo_172_1) rfl rfl ?_
      refine E.Ops.q _ (E.q_load rfl rfl (by first | refine E.LoadAt.own E.ixA sc_3 (by rfl) | exact E.LoadAt.ro sc_3 (by assumption) | exact E.LoadAt.arr E.ixA sc_3 (by assumption))) rfl rfl ?_
      first | refine E.Ops.q _ (E.q_fieldAddr' rfl rfl fo_172_1) rfl rfl ?_ | refine E.Ops.q _ (E.q_fieldAddr rfl rfl fo_172_1) rfl rfl ?_
      refine E.Ops.q _ (E.q_load rfl rfl (by first | refine E.LoadAt.own E.ixA sc_3 (by rfl) | exact E.LoadAt.ro sc_3 (by assumption) | exact E.LoadAt.arr E.ixA sc_3 (by assumption))) rfl rfl ?_
      first | refine E.Ops.q _ (E.q_incr rfl rfl (by omega)) rfl rfl ?_ | refine E.Ops.q _ (E.q_addFit rfl rfl rfl (by omega)) rfl rfl ?_ | refine E.Ops.q _ (E.q_add rfl rfl rfl) rfl rfl ?_
      refine E.Ops.q _ (E.q_mv rfl rfl) rfl rfl ?_
      refine E.Ops.nil ?_
      try simp only [E.tn, E.tx, E.tr, E.bn, E.br, E.bs]
      exact ⟨by rw [if_pos g1]; ((repeat refine E.SubEnv.cons rfl ?_); exact E.SubEnv.nil _), by exact E.Ent.of E.entA⟩
    (repeat refine E.Run.seq ?_)
    refine E.Run.region ?_
    refine E.Ops.q _ (E.q_eql rfl rfl rfl) rfl rfl ?_
    refine E.Ops.q _ (E.q_mv rfl rfl) rfl rfl ?_
    refine E.Ops.nil ?_
    try simp only [E.tn, E.tx, E.tr, E.bn, E.br, E.bs]
    (repeat refine E.Run.seq ?_); refine E.Run.condD rfl (fun g2 => ?_) (fun g2 => ?_)
    · (repeat refine E.Run.seq ?_)
      refine E.Run.region ?_
      first | refine E.Ops.q _ (E.q_fieldAddr' rfl rfl fo_172_1) rfl rfl ?_ | refine E.Ops.q _ (E.q_fieldAddr rfl rfl fo_172_1) rfl rfl ?_
      refine E.Ops.q _ (E.q_load rfl rfl (by first | refine E.LoadAt.own E.ixA sc_3 (by rfl) | exact E.LoadAt.ro sc_3 (by assumption) | exact E.LoadAt.arr E.ixA sc_3 (by assumption))) rfl rfl ?_
      first | refine E.Ops.q _ (E.q_fieldAddr' rfl rfl fo_172_1) rfl rfl ?_ | refine E.Ops.q _ (E.q_fieldAddr rfl rfl fo_172_1) rfl rfl ?_
      refine E.Ops.q _ (E.q_load rfl rfl (by first | refine E.LoadAt.own E.ixA sc_3 (by rfl) | exact E.LoadAt.ro sc_3 (by assumption) | exact E.LoadAt.arr E.ixA sc_3 (by assumption))) rfl rfl ?_
      first | refine E.Ops.q _ (E.q_subFit rfl rfl rfl (by omega)) rfl rfl ?_ | refine E.Ops.q _ (E.q_sub rfl rfl rfl) rfl rfl ?_
      refine E.Ops.q _ (E.q_mv rfl rfl) rfl rfl ?_
      refine E.Ops.nil ?_
      try simp only [E.tn, E.tx, E.tr, E.bn, E.br, E.bs]
      exact ⟨by rw [if_neg g1, if_pos g2]; ((repeat refine E.SubEnv.cons rfl ?_); exact E.SubEnv.nil _), by exact E.Ent.of E.entA⟩
    (repeat refine E.Run.seq ?_)
    refine E.Run.region ?_
    refine E.Ops.q _ (E.q_eql rfl rfl rfl) rfl rfl ?_
    refine E.Ops.q _ (E.q_mv rfl rfl) rfl rfl ?_
    refine E.Ops.nil ?_
    try simp only [E.tn, E.tx, E.tr, E.bn, E.br, E.bs]
    (repeat refine E.Run.seq ?_); refine E.Run.condD rfl (fun g3 => ?_) (fun g3 => ?_)
    · (repeat refine E.Run.seq ?_)
      refine E.Run.region ?_
      first | refine E.Ops.q _ (E.q_fieldAddr' rfl rfl fo_172_1) rfl rfl ?_ | refine E.Ops.q _ (E.q_fieldAddr rfl rfl fo_172_1) rfl rfl ?_
      refine E.Ops.q _ (E.q_load rfl rfl (by first | refine E.LoadAt.own E.ixA sc_3 (by rfl) | exact E.LoadAt.ro sc_3 (by assumption) | exact E.LoadAt.arr E.ixA sc_3 (by assumption))) rfl rfl ?_
      first | refine E.Ops.q _ (E.q_fieldAddr' rfl rfl fo_172_1) rfl rfl ?_ | refine E.Ops.q _ (E.q_fieldAddr rfl rfl fo_172_1) rfl rfl ?_
      refine E.Ops.q _ (E.q_load rfl rfl (by first | refine E.LoadAt.own E.ixA sc_3 (by rfl) | exact E.LoadAt.ro sc_3 (by assumption) | exact E.LoadAt.arr E.ixA sc_3 (by assumption))) rfl rfl ?_
      first | refine E.Ops.q _ (E.q_mul rfl rfl rfl) rfl rfl ?_
      refine E.Ops.q _ (E.q_mv rfl rfl) rfl rfl ?_
      refine E.Ops.nil ?_
      try simp only [E.tn, E.tx, E.tr, E.bn, E.br, E.bs]
      exact ⟨by rw [if_neg g1, if_neg g2, if_pos g3]; ((repeat refine E.SubEnv.cons rfl ?_); exact E.SubEnv.nil _), by exact E.Ent.of E.entA⟩
    (repeat refine E.Run.seq ?_)
    refine E.Run.region ?_
    refine E.Ops.q _ (E.q_eql rfl rfl rfl) rfl rfl ?_
    refine E.Ops.q _ (E.q_mv rfl rfl) rfl rfl ?_
    refine E.Ops.nil ?_
    try simp only [E.tn, E.tx, E.tr, E.bn, E.br, E.bs]
    (repeat refine E.Run.seq ?_); refine E.Run.condD rfl (fun g4 => ?_) (fun g4 => ?_)
    · (repeat refine E.Run.seq ?_)
      refine E.Run.region ?_
      first | refine E.Ops.q _ (E.q_fieldAddr' rfl rfl fo_172_1) rfl rfl ?_ | refine E.Ops.q _ (E.q_fieldAddr rfl rfl fo_172_1) rfl rfl ?_
      refine E.Ops.q _ (E.q_load rfl rfl (by first | refine E.LoadAt.own E.ixA sc_3 (by rfl) | exact E.LoadAt.ro sc_3 (by assumption) | exact E.LoadAt.arr E.ixA sc_3 (by assumption))) rfl rfl ?_
      first | refine E.Ops.q _ (E.q_fieldAddr' rfl rfl fo_172_1) rfl rfl ?_ | refine E.Ops.q _ (E.q_fieldAddr rfl rfl fo_172_1) rfl rfl ?_
      refine E.Ops.q _ (E.q_load rfl rfl (by first | refine E.LoadAt.own E.ixA sc_3 (by rfl) | exact E.LoadAt.ro sc_3 (by assumption) | exact E.LoadAt.arr E.ixA sc_3 (by assumption))) rfl rfl ?_
      refine E.Ops.q _ (E.q_lss rfl rfl rfl) rfl rfl ?_
      refine E.Ops.loud rfl rfl ?_
      refine E.l_call Try.func136 nm_136 nb_136 rfl ?_; refine optBit _ ?_
      refine E.Ops.q _ (E.q_mv rfl rfl) rfl rfl ?_
      refine E.Ops.nil ?_
      try simp only [E.tn, E.tx, E.tr, E.bn, E.br, E.bs]
      exact ⟨by rw [if_neg g1, if_neg g2, if_neg g3, if_pos g4]; ((repeat refine E.SubEnv.cons rfl ?_); exact E.SubEnv.nil _), by exact E.Ent.of E.entA⟩
    (repeat refine E.Run.seq ?_)
    refine E.Run.region ?_
    first | refine E.Ops.q _ (E.q_fieldAddr' rfl rfl fo_172_1) rfl rfl ?_ | refine E.Ops.q _ (E.q_fieldAddr rfl rfl fo_172_1) rfl rfl ?_
    refine E.Ops.q _ (E.q_load rfl rfl (by first | refine E.LoadAt.own E.ixA sc_3 (by rfl) | exact E.LoadAt.ro sc_3 (by assumption) | exact E.LoadAt.arr E.ixA sc_3 (by assumption))) rfl rfl ?_
    first | refine E.Ops.q _ (E.q_fieldAddr' rfl rfl fo_172_1) rfl rfl ?_ | refine E.Ops.q _ (E.q_fieldAddr rfl rfl fo_172_1) rfl rfl ?_
    refine E.Ops.q _ (E.q_load rfl rfl (by first | refine E.LoadAt.own E.ixA sc_3 (by rfl) | exact E.LoadAt.ro sc_3 (by assumption) | exact E.LoadAt.arr E.ixA sc_3 (by assumption))) rfl rfl ?_
    refine E.Ops.q _ (E.q_eql rfl rfl rfl) rfl rfl ?_
    refine E.Ops.loud rfl rfl ?_
    refine E.l_call Try.func136 nm_136 nb_136 rfl ?_; refine optBit _ ?_
    refine E.Ops.q _ (E.q_mv rfl rfl) rfl rfl ?_
    refine E.Ops.nil ?_
    try simp only [E.tn, E.tx, E.tr, E.bn, E.br, E.bs]
    exact ⟨by rw [if_neg g1, if_neg g2, if_neg g3, if_neg g4]; ((repeat refine E.SubEnv.cons rfl ?_); exact E.SubEnv.nil _), by exact E.Ent.of E.entA⟩
  rintro L ρ1 M1 ⟨hs, he⟩
  refine E.Run.sub hs (E.Run.ent he ?_)
  (repeat refine E.Run.seq ?_)
  refine E.Run.region ?_
  refine E.Ops.q _ (E.q_move rfl rfl) rfl rfl ?_
  refine E.Ops.q _ (E.q_struct rfl rfl pl_172 rfl) rfl rfl ?_
  refine E.Ops.loud rfl rfl ?_
  refine E.l_store rfl rfl rfl E.ixA 2 sz_172 (by rfl) (by rfl) (by rfl) (by rfl) ?_
  refine E.Ops.q _ (E.q_mv rfl rfl) rfl rfl ?_
  refine E.Ops.nil ?_
  try simp only [E.tn, E.tx, E.tr, E.bn, E.br, E.bs]
  refine E.Run.ret ?_
  try simp only [E.tn, E.tx, E.tr, E.bn, E.br, E.bs]
  exact fin _ _ _ (some ⟨1, arithI i.op (V i.b).n (V i.c).n⟩) hrk (by ((repeat refine E.SubEnv.cons rfl ?_); exact E.SubEnv.nil _)) (by exact E.Ent.of E.entA)
end Go.Proofs.Ythpgjbdacknkgaa
