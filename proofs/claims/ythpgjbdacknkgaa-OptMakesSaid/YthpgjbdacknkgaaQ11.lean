/- sluiceref13.LookAt, walked: how it begins. No statement of the seat in it. -/
import Derived.Test.YthpgjbdacknkgaaP7
set_option linter.unusedVariables false
set_option linter.unusedSimpArgs false
namespace Go.Proofs.Ythpgjbdacknkgaa
open Go
private theorem ag_101 : E.isAggOf Try.prog 101 2 = true := by kernel_rfl
private theorem ag_44 : E.isAggOf Try.prog 44 4 = true := by kernel_rfl
private theorem fo_101_0 : E.fieldOff Try.prog 101 0 = some 0 := by kernel_rfl
private theorem fo_101_1 : E.fieldOff Try.prog 101 1 = some 1 := by kernel_rfl
private theorem fo_44_0 : E.fieldOff Try.prog 44 0 = some 0 := by kernel_rfl
private theorem fo_44_1 : E.fieldOff Try.prog 44 1 = some 1 := by kernel_rfl
private theorem fo_99_0 : E.fieldOff Try.prog 99 0 = some 0 := by kernel_rfl
private theorem fo_99_1 : E.fieldOff Try.prog 99 1 = some 1 := by kernel_rfl
private theorem fo_99_2 : E.fieldOff Try.prog 99 2 = some 2 := by kernel_rfl
private theorem nb_55 : Try.f55.body.isNone = false := by kernel_rfl
private theorem nb_56 : Try.f56.body.isNone = false := by kernel_rfl
private theorem nb_86 : Try.f86.body.isNone = false := by kernel_rfl
private theorem nb_96 : Try.f96.body.isNone = false := by kernel_rfl
private theorem nb_97 : Try.f97.body.isNone = false := by kernel_rfl
private theorem nm_55 : (Try.f55.name == "runtime.NumGoroutine") = false := by kernel_rfl
private theorem nm_56 : (Try.f56.name == "runtime.NumGoroutine") = false := by kernel_rfl
private theorem nm_86 : (Try.f86.name == "runtime.NumGoroutine") = false := by kernel_rfl
private theorem nm_96 : (Try.f96.name == "runtime.NumGoroutine") = false := by kernel_rfl
private theorem nm_97 : (Try.f97.name == "runtime.NumGoroutine") = false := by kernel_rfl
private theorem pl_101 : E.placesOf Try.prog 101 = some ([.int .i64 0, .int .i64 0], [(0, 1), (1, 1)]) := by kernel_rfl
private theorem pl_99 : E.placesOf Try.prog 99 = some ([.slice none 0 0, .slice none 0 0, .bool false], [(0, 1), (1, 1), (2, 1)]) := by kernel_rfl
private theorem sc_103 : E.isScal Try.prog 103 = true := by kernel_rfl
private theorem sc_3 : E.isScal Try.prog 3 = true := by kernel_rfl
private theorem sc_4 : E.isScal Try.prog 4 = true := by kernel_rfl
private theorem sc_77 : E.isScal Try.prog 77 = true := by kernel_rfl
private theorem sc_97 : E.isScal Try.prog 97 = true := by kernel_rfl
private theorem so_103 : E.sliceOf Try.prog 103 = some (101, 2) := by kernel_rfl
private theorem so_23 : E.sliceOf Try.prog 23 = some (3, 1) := by kernel_rfl
private theorem so_45 : E.sliceOf Try.prog 45 = some (44, 4) := by kernel_rfl
private theorem so_77 : E.sliceOf Try.prog 77 = some (4, 1) := by kernel_rfl
private theorem so_97 : E.sliceOf Try.prog 97 = some (103, 1) := by kernel_rfl
private theorem sz_101 : (Try.prog.info? 101).map (·.size) = some 2 := by kernel_rfl
private theorem sz_4 : (Try.prog.info? 4).map (·.size) = some 1 := by kernel_rfl
private theorem sz_44 : (Try.prog.info? 44).map (·.size) = some 4 := by kernel_rfl
private theorem sz_97 : (Try.prog.info? 97).map (·.size) = some 1 := by kernel_rfl
private theorem ty_101 : E.tyOf Try.prog 101 = some (some (.agg #[.int .i64 0, .int .i64 0]), 2, 16) := by kernel_rfl
private theorem ty_103 : E.tyOf Try.prog 103 = some (some (.slice none 0 0), 1, 24) := by kernel_rfl
private theorem ty_4 : E.tyOf Try.prog 4 = some (some (.bool false), 1, 1) := by kernel_rfl
private theorem ty_44 : E.tyOf Try.prog 44 = some (some (.agg #[.int .i64 0, .int .i64 0, .int .i64 0, .int .i64 0]), 4, 32) := by kernel_rfl

theorem E.q_eqlBool {P : Program} {L : E.Env} {ρ : E.Ro} {M : List E.Asr} {o : Oper} {t u : TypeId} {x y : Operand} {a b : Bool} (ho : o.op = .binOp .eql t x y u) (hx : E.ev L x = some (.bool a)) (hy : E.ev L y = some (.bool b)) (ht : P.underlying t = some .bool) :
    E.QOp P L ρ M o (.bool (a == b)) := fun n act w ha _ => by
  have h1 : (binOp .eql t (.bool a) (.bool b)).run P w = .ok (.bool (a == b)) w := run_eql_bool w t a b ht
  have h2 : (eqGuard .eql t x y (.bool a) (.bool b)).run P w = .ok () w := by simp [eqGuard]
  simp [execOp, ho, ha.ev hx, ha.ev hy, h1, h2]
theorem rep_flat {α : Type} (enc : α → List Value) (x : α) (n : Nat) : (List.replicate n (enc x)).flatten = (List.replicate n x).flatMap enc := by
  induction n with
  | zero => rfl
  | succ n ih => rw [List.replicate_succ, List.replicate_succ, List.flatten_cons, List.flatMap_cons, ih]
def condD2 (vz : Vl) (j : Nat) : Prop := vz.st = 2 ∨ (vz.st = 1 ∧ ((vz.n = 0 ∧ j = 1) ∨ (vz.n ≠ 0 ∧ j ≠ 1)))
instance (vz : Vl) (j : Nat) : Decidable (condD2 vz j) := by unfold condD2; infer_instance
theorem cond_iff (vz : Vl) (j : Nat) : condD2 vz j ↔ condJ vz j := by
  unfold condD2 condJ
  constructor
  · rintro (h | ⟨h, h' | h'⟩)
    · exact .inl h
    · exact .inr ⟨h, by simp [h'.1, h'.2]⟩
    · exact .inr ⟨h, by simp [h'.1, h'.2]⟩
  · rintro (h | ⟨h, h'⟩)
    · exact .inl h
    · refine .inr ⟨h, ?_⟩
      by_cases e : vz.n = 0
      · exact .inl ⟨e, h'.1 e⟩
      · exact .inr ⟨e, fun hj => e (h'.2 hj)⟩
theorem set_rowV {α : Type} {R k : Nat} (rows : List (Nat × α)) (h : k < rows.length) (b : α) : ((rows.set k (rows[k].1, b)).map fun x => rowV R x.1) = rows.map fun x => rowV R x.1 := by
  apply List.ext_getElem (by simp)
  intro j h1 h2
  simp only [List.getElem_map, List.getElem_set]
  split
  · rename_i e; subst e; rfl
  · rfl
/-- the tables in memory -/
def lookPt (bl gG gA n1 cA : Nat) (more : Bool) : E.Asr := E.pt bl 99 [.slice (some ⟨gG, 0, none⟩) n1 n1, .slice (some ⟨gA, 0, none⟩) n1 cA, .bool more]

/-- what LookAt leaves behind -/
structure LookR (ρ : E.Ro) (bl n R : Nat) (gs : List Bool) (rows : List (Nat × List Vl)) : Prop where
  at' : ∃ gG gA cA, (∀ j u, [Value.slice (some ⟨gG, 0, none⟩) (n + 1) (n + 1), Value.slice (some ⟨gA, 0, none⟩) (n + 1) cA][j]? = some u → E.cellOf ρ.blk ⟨bl, j, none⟩ = some u) ∧ E.RdF ρ.blk E.encB 1 (some ⟨gG, 0, none⟩) gs ∧ E.RdF ρ.blk enc1 1 (some ⟨gA, 0, none⟩) (rows.map fun x => rowV R x.1)
  rows : ∀ x ∈ rows, E.RdF ρ.blk encV 2 (some ⟨x.1, 0, none⟩) x.2

set_option maxHeartbeats 4000000 in
set_option maxRecDepth 100000 in
theorem rLookAt {ρ : E.Ro} {M : List E.Asr} {K : Value → E.Ro → List E.Asr → Prop} (cA : Option Addr) (cc : Nat) (code : List E.Ins) (R : Nat) (hR : 1 ≤ R ∧ R ≤ 200) (hcode : E.RdF ρ.blk E.encIns 4 cA code) (hsz : code.length ≤ 400) (hok : CodeOk R code) (hop : ∀ i ∈ code, 1 ≤ i.op)
    (hK : ∀ ρ' bl gs rows, E.Ro.le ρ ρ' → LookR ρ' bl code.length R gs rows → TabOk R code.length gs (rows.map (·.2)) → LeastS R code (abs gs (rows.map (·.2))) → K (.pointer (some ⟨bl, 0, none⟩)) ρ' M) :
    E.Hoa Try.prog 54 #[.slice cA code.length cc, .int .i64 R] ρ M K := by
  refine E.Hoa.enter 153 Try.func54 rfl rfl rfl ?_
  (repeat refine E.Run.seq ?_)
  refine E.Run.region ?_
  refine E.Ops.q _ (E.q_mv rfl rfl) rfl rfl ?_
  refine E.Ops.nil ?_
  try simp only [E.tn, E.tx, E.tr, E.bn, E.br, E.bs]
  (repeat refine E.Run.seq ?_)
  refine E.Run.region ?_
  refine E.Ops.q _ (E.q_move rfl rfl) rfl rfl ?_
  refine E.Ops.q _ (E.q_lenSlice rfl Try.underlying45) rfl rfl ?_
  first | refine E.Ops.q _ (E.q_incr rfl rfl (by omega)) rfl rfl ?_ | refine E.Ops.q _ (E.q_addFit rfl rfl rfl (by omega)) rfl rfl ?_ | refine E.Ops.q _ (E.q_add rfl rfl rfl) rfl rfl ?_
  refine E.Ops.loud rfl rfl ?_
  refine E.l_make rfl rfl rfl Try.underlying77 ty_4 rfl (by omega) (by omega) (fun g1_3 => ?_)
  refine E.Ops.q _ (E.q_struct rfl rfl pl_99 rfl) rfl rfl ?_
  refine E.Ops.loud rfl rfl ?_
  refine E.l_box rfl rfl (fun b1_5 => ?_)
  refine E.Ops.q _ (E.q_mv rfl rfl) rfl rfl ?_
  refine E.Ops.nil ?_
  try simp only [E.tn, E.tx, E.tr, E.bn, E.br, E.bs]
  refine E.Run.seqCut (fun L' ρ' M' => ∃ gsr : List Nat, ∃ gA AC, gsr.length = code.length + 1 ∧ E.SubEnv [(0, .slice cA code.length cc), (1, .int .i64 R), (5, .pointer (some ⟨b1_5, 0, none⟩))] L' ∧ E.Ent ρ' M' ρ (lookPt b1_5 g1_3 gA (code.length + 1) AC true :: E.arr 4 1 (some ⟨g1_3, 0, none⟩) (code.length + 1) (code.length + 1) ((List.replicate (code.length + 1) false).flatMap E.encB) :: E.arr 103 1 (some ⟨gA, 0, none⟩) (code.length + 1) AC ((gsr.map (rowV R)).flatMap enc1) :: E.bag ((gsr.map fun g => (g, List.replicate R vl0)).map (rowL R)) :: M)) ?_ ?_
  · (repeat refine E.Run.seq ?_)
    refine E.Run.region ?_
    refine E.Ops.q _ (E.q_mv rfl rfl) rfl rfl ?_
    refine E.Ops.nil ?_
    try simp only [E.tn, E.tx, E.tr, E.bn, E.br, E.bs]
    (repeat refine E.Run.seq ?_); refine E.Run.block ?_
    (repeat refine E.Run.seq ?_); refine E.Run.loopS (fun (x : List Nat × Option Addr × Nat) => [(0, .slice cA code.length cc), (1, .int .i64 R), (5, .pointer (some ⟨b1_5, 0, none⟩)), (6, .int .i64 x.1.length)]) ρ (fun x => E.pt b1_5 99 [.slice (some ⟨g1_3, 0, none⟩) (code.length + 1) (code.length + 1), .slice x.2.1 x.1.length x.2.2, .bool true] :: E.arr 4 1 (some ⟨g1_3, 0, none⟩) (code.length + 1) (code.length + 1) ((List.replicate (code.length + 1) false).flatMap E.encB) :: E.arr 103 1 x.2.1 x.1.length x.2.2 ((x.1.map (rowV R)).flatMap enc1) :: E.bag ((x.1.map fun g => (g, List.replicate R vl0)).map (rowL R)) :: M)
      (fun x => x.1.length ≤ code.length + 1) (fun x => code.length + 1 - x.1.length) ([], none, 0) (Nat.zero_le _) (by ((repeat refine E.SubEnv.cons rfl ?_); exact E.SubEnv.nil _)) (by
        rw [← rep_flat]
        exact E.Ent.of (E.SEnt.trans (M' := E.pt b1_5 99 [.slice (some ⟨g1_3, 0, none⟩) (code.length + 1) (code.length + 1), .slice none 0 0, .bool true] :: E.arr 4 1 (some ⟨g1_3, 0, none⟩) (code.length + 1) (code.length + 1) ((List.replicate (code.length + 1) (E.encB false)).flatten) :: M) E.entA (E.SEnt.keep (E.SEnt.keep (E.SEnt.addNil (E.SEnt.bagNil (E.SEnt.refl _))))))) ?_
    rintro ⟨gsr, AO, CO⟩ hgl
    simp only at hgl ⊢
    refine E.Run.seqCut (fun L' ρ' M' => gsr.length < code.length + 1 ∧ E.SubEnv [(0, .slice cA code.length cc), (1, .int .i64 R), (5, .pointer (some ⟨b1_5, 0, none⟩)), (6, .int .i64 gsr.length)] L' ∧ E.Ent ρ' M' ρ (E.pt b1_5 99 [.slice (some ⟨g1_3, 0, none⟩) (code.length + 1) (code.length + 1), .slice AO gsr.length CO, .bool true] :: E.arr 4 1 (some ⟨g1_3, 0, none⟩) (code.length + 1) (code.length + 1) ((List.replicate (code.length + 1) false).flatMap E.encB) :: E.arr 103 1 AO gsr.length CO ((gsr.map (rowV R)).flatMap enc1) :: E.bag ((gsr.map fun g => (g, List.replicate R vl0)).map (rowL R)) :: M)) ?_ ?_
    · (repeat refine E.Run.seq ?_)
      refine E.Run.region ?_
      refine E.Ops.q _ (E.q_move rfl rfl) rfl rfl ?_
      refine E.Ops.q _ (E.q_move rfl rfl) rfl rfl ?_
      refine E.Ops.q _ (E.q_lenSlice rfl Try.underlying45) rfl rfl ?_
      refine E.Ops.q _ (E.q_leq rfl rfl rfl) rfl rfl ?_
      refine E.Ops.nil ?_
      try simp only [E.tn, E.tx, E.tr, E.bn, E.br, E.bs]
      (repeat refine E.Run.seq ?_); refine E.Run.condD rfl (fun h6 => ?_) (fun h6 => ?_)
      · refine E.Run.skip ?_
        try simp only [E.tn, E.tx, E.tr, E.bn, E.br, E.bs]
        exact ⟨by omega, by ((repeat refine E.SubEnv.cons rfl ?_); exact E.SubEnv.nil _), by exact E.Ent.of E.entA⟩
      · have hl : gsr.length = code.length + 1 := by omega
        refine E.Run.arrSome (T := 103) E.ixA (by omega) fun gA hgA hcap => ?_
        subst hgA
        refine E.Run.exit ?_
        try simp only [E.tn, E.tx, E.tr, E.bn, E.br, E.bs]
        refine ⟨gsr, gA, CO, hl, by ((repeat refine E.SubEnv.cons rfl ?_); exact E.SubEnv.nil _), ?_⟩
        rw [← hl]
        unfold lookPt
        exact E.Ent.of E.entA
    rintro L1 ρ1 M1 ⟨hk, hs, he⟩
    refine E.Run.sub hs (E.Run.ent he ?_)
    clear hs he
    refine E.Run.seqCut (fun L' ρ' M' => ∃ gn AN CN, E.SubEnv [(0, .slice cA code.length cc), (1, .int .i64 R), (5, .pointer (some ⟨b1_5, 0, none⟩)), (6, .int .i64 gsr.length)] L' ∧ E.Ent ρ' M' ρ (E.arr 101 2 (some ⟨gn, 0, none⟩) R R ((List.replicate R (encV vl0)).flatten) :: E.bag ((gsr.map fun g => (g, List.replicate R vl0)).map (rowL R)) :: E.pt b1_5 99 [.slice (some ⟨g1_3, 0, none⟩) (code.length + 1) (code.length + 1), .slice AN (gsr.length + 1) CN, .bool true] :: E.arr 4 1 (some ⟨g1_3, 0, none⟩) (code.length + 1) (code.length + 1) ((List.replicate (code.length + 1) false).flatMap E.encB) :: E.arr 103 1 AN (gsr.length + 1) CN ((gsr.map (rowV R)).flatMap enc1 ++ [.slice (some ⟨gn, 0, none⟩) R R]) :: M)) ?_ ?_
    · (repeat refine E.Run.seq ?_); refine E.Run.block ?_
      (repeat refine E.Run.seq ?_)
      refine E.Run.draw (.q 0 (.q 1 (.q 2 (.q 3 (.q 5 (.alt 4 6 (.l 6 (.l 7 (.l 8 (.q 9 (.q 10 (.l 11 (.nil))))))) (.alt 4 7 (.l 7 (.l 8 (.q 9 (.q 10 (.l 11 (.nil)))))) (.l 4 (.l 8 (.q 9 (.q 10 (.l 11 (.nil))))))))))))) _ _ Try.mixed (by kernel_rfl) (E.Ent.nil _ _) ?_
      refine E.Plan.q _ rfl _ (E.q_move rfl rfl) rfl rfl ?_
      refine E.Plan.q _ rfl _ (E.q_move rfl rfl) rfl rfl ?_
      refine E.Plan.q _ rfl _ (E.q_nilCheck rfl rfl) rfl rfl ?_
      first | refine E.Plan.q _ rfl _ (E.q_fieldAddr' rfl rfl fo_99_1) rfl rfl ?_ | refine E.Plan.q _ rfl _ (E.q_fieldAddr rfl rfl fo_99_1) rfl rfl ?_
      refine E.Plan.q _ rfl _ (E.q_move rfl rfl) rfl rfl ?_
      refine E.Plan.alt ?S1_0 ?S1_1
      case' S1_1 =>
        refine E.StepA.loud _ rfl rfl rfl ?_
        refine E.l_make rfl rfl rfl Try.underlying103 ty_101 rfl (by omega) (by omega) (fun g5_6 => ?_)
        refine ⟨E.Ent.of E.entA, ?_⟩
        refine E.Plan.alt ?S2_0 ?S2_1
        case' S2_1 =>
          refine E.StepA.loud _ rfl rfl rfl ?_
          refine E.l_slice rfl rfl Try.underlying97 ty_103 rfl rfl rfl rfl rfl rfl (fun g5_7 => ?_)
          refine ⟨E.Ent.of E.entA, ?_⟩
          refine E.Plan.loud _ rfl rfl rfl ?_
          refine E.LOp.q (E.q_load rfl rfl (by first | refine E.LoadAt.own E.ixA sc_97 (by rfl) | exact E.LoadAt.ro sc_97 (by assumption) | exact E.LoadAt.arr E.ixA sc_97 (by assumption))) ?_
          refine ⟨E.Ent.of E.entA, ?_⟩
          refine E.Plan.loud _ rfl rfl rfl ?_
          refine E.l_append rfl rfl E.ixA Try.underlying97 ty_103 rfl (by decide) (E.SrcOf.arr E.ixA) (by intro u hu; simp only [List.map_cons, List.map_nil, List.flatten_cons, List.flatten_nil, List.append_nil, List.mem_cons, List.not_mem_nil, or_false] at hu; revert hu; simp [Value.cells]; try (intro e; subst e; rfl)) (by omega) (by omega) (fun A5_8 c5_8 => ?_)
          refine ⟨E.Ent.of E.entA, ?_⟩
          refine E.Plan.q _ rfl _ (E.q_nilCheck rfl rfl) rfl rfl ?_
          first | refine E.Plan.q _ rfl _ (E.q_fieldAddr' rfl rfl fo_99_1) rfl rfl ?_ | refine E.Plan.q _ rfl _ (E.q_fieldAddr rfl rfl fo_99_1) rfl rfl ?_
          refine E.Plan.loud _ rfl rfl rfl ?_
          refine E.l_store rfl rfl rfl E.ixA 1 sz_97 (by rfl) (by rfl) (by rfl) (by rfl) ?_
          refine ⟨E.Ent.of E.entA, ?_⟩
          refine E.Plan.nil ?_
          try simp only [E.tn, E.tx, E.tr, E.bn, E.br, E.bs]
        case' S2_0 =>
          refine E.StepA.loud _ rfl rfl rfl ?_
          refine E.LOp.q (E.q_load rfl rfl (by first | refine E.LoadAt.own E.ixA sc_97 (by rfl) | exact E.LoadAt.ro sc_97 (by assumption) | exact E.LoadAt.arr E.ixA sc_97 (by assumption))) ?_
          refine ⟨E.Ent.of E.entA, ?_⟩
          refine E.Plan.loud _ rfl rfl rfl ?_
          refine E.l_slice rfl rfl Try.underlying97 ty_103 rfl rfl rfl rfl rfl rfl (fun g5_7 => ?_)
          refine ⟨E.Ent.of E.entA, ?_⟩
          refine E.Plan.loud _ rfl rfl rfl ?_
          refine E.l_append rfl rfl E.ixA Try.underlying97 ty_103 rfl (by decide) (E.SrcOf.arr E.ixA) (by intro u hu; simp only [List.map_cons, List.map_nil, List.flatten_cons, List.flatten_nil, List.append_nil, List.mem_cons, List.not_mem_nil, or_false] at hu; revert hu; simp [Value.cells]; try (intro e; subst e; rfl)) (by omega) (by omega) (fun A5_8 c5_8 => ?_)
          refine ⟨E.Ent.of E.entA, ?_⟩
          refine E.Plan.q _ rfl _ (E.q_nilCheck rfl rfl) rfl rfl ?_
          first | refine E.Plan.q _ rfl _ (E.q_fieldAddr' rfl rfl fo_99_1) rfl rfl ?_ | refine E.Plan.q _ rfl _ (E.q_fieldAddr rfl rfl fo_99_1) rfl rfl ?_
          refine E.Plan.loud _ rfl rfl rfl ?_
          refine E.l_store rfl rfl rfl E.ixA 1 sz_97 (by rfl) (by rfl) (by rfl) (by rfl) ?_
          refine ⟨E.Ent.of E.entA, ?_⟩
          refine E.Plan.nil ?_
          try simp only [E.tn, E.tx, E.tr, E.bn, E.br, E.bs]
      case' S1_0 =>
        refine E.StepA.loud _ rfl rfl rfl ?_
        refine E.LOp.q (E.q_load rfl rfl (by first | refine E.LoadAt.own E.ixA sc_97 (by rfl) | exact E.LoadAt.ro sc_97 (by assumption) | exact E.LoadAt.arr E.ixA sc_97 (by assumption))) ?_
        refine ⟨E.Ent.of E.entA, ?_⟩
        refine E.Plan.loud _ rfl rfl rfl ?_
        refine E.l_make rfl rfl rfl Try.underlying103 ty_101 rfl (by omega) (by omega) (fun g5_6 => ?_)
        refine ⟨E.Ent.of E.entA, ?_⟩
        refine E.Plan.loud _ rfl rfl rfl ?_
        refine E.l_slice rfl rfl Try.underlying97 ty_103 rfl rfl rfl rfl rfl rfl (fun g5_7 => ?_)
        refine ⟨E.Ent.of E.entA, ?_⟩
        refine E.Plan.loud _ rfl rfl rfl ?_
        refine E.l_append rfl rfl E.ixA Try.underlying97 ty_103 rfl (by decide) (E.SrcOf.arr E.ixA) (by intro u hu; simp only [List.map_cons, List.map_nil, List.flatten_cons, List.flatten_nil, List.append_nil, List.mem_cons, List.not_mem_nil, or_false] at hu; revert hu; simp [Value.cells]; try (intro e; subst e; rfl)) (by omega) (by omega) (fun A5_8 c5_8 => ?_)
        refine ⟨E.Ent.of E.entA, ?_⟩
        refine E.Plan.q _ rfl _ (E.q_nilCheck rfl rfl) rfl rfl ?_
        first | refine E.Plan.q _ rfl _ (E.q_fieldAddr' rfl rfl fo_99_1) rfl rfl ?_ | refine E.Plan.q _ rfl _ (E.q_fieldAddr rfl rfl fo_99_1) rfl rfl ?_
        refine E.Plan.loud _ rfl rfl rfl ?_
        refine E.l_store rfl rfl rfl E.ixA 1 sz_97 (by rfl) (by rfl) (by rfl) (by rfl) ?_
        refine ⟨E.Ent.of E.entA, ?_⟩
        refine E.Plan.nil ?_
        try simp only [E.tn, E.tx, E.tr, E.bn, E.br, E.bs]
      all_goals exact ⟨g5_6, A5_8, c5_8, by ((repeat refine E.SubEnv.cons rfl ?_); exact E.SubEnv.nil _), by exact E.Ent.of E.entA⟩
    rintro L1 ρ1 M1 ⟨gn, AN, CN, hs, he⟩
    refine E.Run.sub hs (E.Run.ent he ?_)
    clear hs he
    (repeat refine E.Run.seq ?_)
    refine E.Run.region ?_
    refine E.Ops.q _ (E.q_move rfl rfl) rfl rfl ?_
    first | refine E.Ops.q _ (E.q_incr rfl rfl (by omega)) rfl rfl ?_ | refine E.Ops.q _ (E.q_addFit rfl rfl rfl (by omega)) rfl rfl ?_ | refine E.Ops.q _ (E.q_add rfl rfl rfl) rfl rfl ?_
    refine E.Ops.q _ (E.q_mv rfl rfl) rfl rfl ?_
    refine E.Ops.nil ?_
    try simp only [E.tn, E.tx, E.tr, E.bn, E.br, E.bs]
    have hgl1 : (gsr ++ [gn]).length = gsr.length + 1 := by simp
    refine ⟨(gsr ++ [gn], AN, CN), by simp only [hgl1]; omega, by simp only [hgl1]; omega, by simp only [hgl1]; ((repeat refine E.SubEnv.cons rfl ?_); exact E.SubEnv.nil _), ?_⟩
    simp only [hgl1]
    rw [rep_flat, show ((gsr ++ [gn]).map (rowV R)).flatMap enc1 = (gsr.map (rowV R)).flatMap enc1 ++ [.slice (some ⟨gn, 0, none⟩) R R] from by simp [enc1, rowV], List.map_append (f := fun g => (g, List.replicate R vl0))]
    exact E.Ent.of (E.SEnt.trans (E.bagAdd (f := rowL R) (gn, List.replicate R vl0) _) (E.SEnt.take 1 rfl (E.SEnt.take 1 rfl (E.SEnt.take 1 rfl (E.SEnt.refl _)))))
  rintro L1 ρ1 M1 ⟨gsr, gA, AC, hgl, hs, he⟩
  refine E.Run.sub hs (E.Run.ent he ?_)
  clear hs he
  unfold lookPt
  (repeat refine E.Run.seq ?_)
  refine E.Run.region ?_
  refine E.Ops.q _ (E.q_move rfl rfl) rfl rfl ?_
  refine E.Ops.q _ (E.q_nilCheck rfl rfl) rfl rfl ?_
  first | refine E.Ops.q _ (E.q_fieldAddr' rfl rfl fo_99_0) rfl rfl ?_ | refine E.Ops.q _ (E.q_fieldAddr rfl rfl fo_99_0) rfl rfl ?_
  refine E.Ops.q _ (E.q_load rfl rfl (by first | refine E.LoadAt.own E.ixA sc_77 (by rfl) | exact E.LoadAt.ro sc_77 (by assumption) | exact E.LoadAt.arr E.ixA sc_77 (by assumption))) rfl rfl ?_
  refine E.Ops.q _ (E.q_indexNat (i := 0) rfl rfl rfl so_77 (Nat.succ_pos _)) rfl rfl ?_
  refine E.Ops.loud rfl rfl ?_
  refine E.l_storeEl (enc := E.encB) true (fun _ => rfl) rfl rfl rfl E.ixA sz_4 (by simp) (Nat.succ_pos _) rfl rfl ?_
  refine E.Ops.nil ?_
  try simp only [E.tn, E.tx, E.tr, E.bn, E.br, E.bs]
  obtain ⟨g0, gr, rfl⟩ : ∃ g0 gr, gsr = g0 :: gr := by
    cases gsr with
    | nil => simp at hgl
    | cons g0 gr => exact ⟨g0, gr, rfl⟩
  have hgr : gr.length = code.length := by simpa using hgl
  refine E.Run.ent (M1 := rowL R (g0, List.replicate R vl0) :: E.pt b1_5 99 [.slice (some ⟨g1_3, 0, none⟩) (code.length + 1) (code.length + 1), .slice (some ⟨gA, 0, none⟩) (code.length + 1) AC, .bool true] :: E.arr 4 1 (some ⟨g1_3, 0, none⟩) (code.length + 1) (code.length + 1) (((List.replicate (code.length + 1) false).set 0 true).flatMap E.encB) :: E.arr 103 1 (some ⟨gA, 0, none⟩) (code.length + 1) AC (((g0 :: gr).map (rowV R)).flatMap enc1) :: E.bag ((gr.map fun g => (g, List.replicate R vl0)).map (rowL R)) :: M) (E.Ent.of (E.SEnt.trans (E.SEnt.keep (E.SEnt.keep (E.SEnt.keep E.SEnt.bagPop))) (E.SEnt.take 3 rfl (E.SEnt.refl _)))) ?_
  refine E.Run.seqCut (fun L' ρ' M' => E.SubEnv [(0, .slice cA code.length cc), (1, .int .i64 R), (5, .pointer (some ⟨b1_5, 0, none⟩))] L' ∧ E.Ent ρ' M' ρ (rowL R (g0, List.replicate R ⟨1, 0⟩) :: E.pt b1_5 99 [.slice (some ⟨g1_3, 0, none⟩) (code.length + 1) (code.length + 1), .slice (some ⟨gA, 0, none⟩) (code.length + 1) AC, .bool true] :: E.arr 4 1 (some ⟨g1_3, 0, none⟩) (code.length + 1) (code.length + 1) (((List.replicate (code.length + 1) false).set 0 true).flatMap E.encB) :: E.arr 103 1 (some ⟨gA, 0, none⟩) (code.length + 1) AC (((g0 :: gr).map (rowV R)).flatMap enc1) :: E.bag ((gr.map fun g => (g, List.replicate R vl0)).map (rowL R)) :: M)) ?_ ?_
  · (repeat refine E.Run.seq ?_)
    refine E.Run.region ?_
    refine E.Ops.q _ (E.q_mv rfl rfl) rfl rfl ?_
    refine E.Ops.nil ?_
    try simp only [E.tn, E.tx, E.tr, E.bn, E.br, E.bs]
    (repeat refine E.Run.seq ?_); refine E.Run.block ?_
    (repeat refine E.Run.seq ?_); refine E.Run.loopS (fun (r : Nat) => [(0, .slice cA code.length cc), (1, .int .i64 R), (5, .pointer (some ⟨b1_5, 0, none⟩)), (7, .int .i64 r)]) ρ (fun r => E.arr 101 2 (some ⟨g0, 0, none⟩) R R ((List.replicate r (⟨1, 0⟩ : Vl) ++ List.replicate (R - r) vl0).flatMap encV) :: E.pt b1_5 99 [.slice (some ⟨g1_3, 0, none⟩) (code.length + 1) (code.length + 1), .slice (some ⟨gA, 0, none⟩) (code.length + 1) AC, .bool true] :: E.arr 4 1 (some ⟨g1_3, 0, none⟩) (code.length + 1) (code.length + 1) (((List.replicate (code.length + 1) false).set 0 true).flatMap E.encB) :: E.arr 103 1 (some ⟨gA, 0, none⟩) (code.length + 1) AC (((g0 :: gr).map (rowV R)).flatMap enc1) :: E.bag ((gr.map fun g => (g, List.replicate R vl0)).map (rowL R)) :: M)
      (fun r => r ≤ R) (fun r => R - r) 0 (Nat.zero_le _) (by ((repeat refine E.SubEnv.cons rfl ?_); exact E.SubEnv.nil _)) (by
        rw [List.replicate_zero, List.nil_append, Nat.sub_zero]
        unfold rowL
        exact E.Ent.of E.entA) ?_
    intro r hr
    refine E.Run.seqCut (fun L' ρ' M' => r < R ∧ E.SubEnv [(0, .slice cA code.length cc), (1, .int .i64 R), (5, .pointer (some ⟨b1_5, 0, none⟩)), (7, .int .i64 r)] L' ∧ E.Ent ρ' M' ρ (E.arr 101 2 (some ⟨g0, 0, none⟩) R R ((List.replicate r (⟨1, 0⟩ : Vl) ++ List.replicate (R - r) vl0).flatMap encV) :: E.pt b1_5 99 [.slice (some ⟨g1_3, 0, none⟩) (code.length + 1) (code.length + 1), .slice (some ⟨gA, 0, none⟩) (code.length + 1) AC, .bool true] :: E.arr 4 1 (some ⟨g1_3, 0, none⟩) (code.length + 1) (code.length + 1) (((List.replicate (code.length + 1) false).set 0 true).flatMap E.encB) :: E.arr 103 1 (some ⟨gA, 0, none⟩) (code.length + 1) AC (((g0 :: gr).map (rowV R)).flatMap enc1) :: E.bag ((gr.map fun g => (g, List.replicate R vl0)).map (rowL R)) :: M)) ?_ ?_
    · (repeat refine E.Run.seq ?_)
      refine E.Run.region ?_
      refine E.Ops.q _ (E.q_move rfl rfl) rfl rfl ?_
      refine E.Ops.q _ (E.q_move rfl rfl) rfl rfl ?_
      refine E.Ops.q _ (E.q_lss rfl rfl rfl) rfl rfl ?_
      refine E.Ops.nil ?_
      try simp only [E.tn, E.tx, E.tr, E.bn, E.br, E.bs]
      (repeat refine E.Run.seq ?_); refine E.Run.condD rfl (fun h6 => ?_) (fun h6 => ?_)
      · refine E.Run.skip ?_
        try simp only [E.tn, E.tx, E.tr, E.bn, E.br, E.bs]
        exact ⟨by omega, by ((repeat refine E.SubEnv.cons rfl ?_); exact E.SubEnv.nil _), by exact E.Ent.of E.entA⟩
      · refine E.Run.exit ?_
        try simp only [E.tn, E.tx, E.tr, E.bn, E.br, E.bs]
        have : r = R := by omega
        subst this
        rw [Nat.sub_self, List.replicate_zero, List.append_nil]
        unfold rowL
        exact ⟨by ((repeat refine E.SubEnv.cons rfl ?_); exact E.SubEnv.nil _), by exact E.Ent.of E.entA⟩
    rintro L1 ρ1 M1 ⟨hr', hs, he⟩
    refine E.Run.sub hs (E.Run.ent he ?_)
    clear hs he
    have hok0 : (((g0 :: gr).map (rowV R)).flatMap enc1)[0 * 1]? = some (rowV R g0) := rfl
    have hml : (List.replicate r (⟨1, 0⟩ : Vl) ++ List.replicate (R - r) vl0).length = R := by simp; omega
    (repeat refine E.Run.seq ?_); refine E.Run.block ?_
    (repeat refine E.Run.seq ?_)
    refine E.Run.region ?_
    refine E.Ops.q _ (E.q_move rfl rfl) rfl rfl ?_
    refine E.Ops.q _ (E.q_nilCheck rfl rfl) rfl rfl ?_
    first | refine E.Ops.q _ (E.q_fieldAddr' rfl rfl fo_99_1) rfl rfl ?_ | refine E.Ops.q _ (E.q_fieldAddr rfl rfl fo_99_1) rfl rfl ?_
    refine E.Ops.q _ (E.q_load rfl rfl (by first | refine E.LoadAt.own E.ixA sc_97 (by rfl) | exact E.LoadAt.ro sc_97 (by assumption) | exact E.LoadAt.arr E.ixA sc_97 (by assumption))) rfl rfl ?_
    refine E.Ops.q _ (E.q_indexNat (i := 0) rfl rfl rfl so_97 (Nat.succ_pos _)) rfl rfl ?_
    refine E.Ops.q _ (E.q_load rfl rfl (by exact E.LoadAt.arr E.ixA sc_103 hok0)) rfl rfl ?_
    refine E.Ops.q _ (E.q_move rfl rfl) rfl rfl ?_
    refine E.Ops.q _ (E.q_struct rfl rfl pl_101 rfl) rfl rfl ?_
    refine E.Ops.q _ (E.q_indexNat rfl rfl rfl so_103 hr') rfl rfl ?_
    refine E.Ops.loud rfl rfl ?_
    refine E.l_storeEl (enc := encV) ⟨1, 0⟩ encV_len rfl rfl rfl E.ixA sz_101 hml.symm hr' rfl rfl ?_
    refine E.Ops.nil ?_
    try simp only [E.tn, E.tx, E.tr, E.bn, E.br, E.bs]
    (repeat refine E.Run.seq ?_)
    refine E.Run.region ?_
    refine E.Ops.q _ (E.q_move rfl rfl) rfl rfl ?_
    first | refine E.Ops.q _ (E.q_incr rfl rfl (by omega)) rfl rfl ?_ | refine E.Ops.q _ (E.q_addFit rfl rfl rfl (by omega)) rfl rfl ?_ | refine E.Ops.q _ (E.q_add rfl rfl rfl) rfl rfl ?_
    refine E.Ops.q _ (E.q_mv rfl rfl) rfl rfl ?_
    refine E.Ops.nil ?_
    try simp only [E.tn, E.tx, E.tr, E.bn, E.br, E.bs]
    have hst : (List.replicate r (⟨1, 0⟩ : Vl) ++ List.replicate (R - r) vl0).set r ⟨1, 0⟩ = List.replicate (r + 1) (⟨1, 0⟩ : Vl) ++ List.replicate (R - (r + 1)) vl0 := by
      rw [List.set_append_right _ _ (by simp), List.length_replicate, Nat.sub_self, show R - r = (R - (r + 1)) + 1 from by omega, List.replicate_succ, List.set_cons_zero, List.replicate_succ', List.append_assoc]; rfl
    exact ⟨r + 1, by omega, by omega, by ((repeat refine E.SubEnv.cons rfl ?_); exact E.SubEnv.nil _), by rw [← hst]; exact E.Ent.of E.entA⟩
  rintro L1 ρ1 M1 ⟨hs, he⟩
  refine E.Run.sub hs (E.Run.ent he ?_)
  clear hs he
  obtain ⟨rows0, hrows0⟩ : ∃ rows0 : List (Nat × List Vl), rows0 = (g0, List.replicate R (⟨1, 0⟩ : Vl)) :: gr.map fun g => (g, List.replicate R vl0) := ⟨_, rfl⟩
  obtain ⟨gs0, hgs0⟩ : ∃ gs0 : List Bool, gs0 = (List.replicate (code.length + 1) false).set 0 true := ⟨_, rfl⟩
  refine E.Run.ent (M1 := E.pt b1_5 99 [.slice (some ⟨g1_3, 0, none⟩) (code.length + 1) (code.length + 1), .slice (some ⟨gA, 0, none⟩) (code.length + 1) AC, .bool true] :: E.arr 4 1 (some ⟨g1_3, 0, none⟩) (code.length + 1) (code.length + 1) (gs0.flatMap E.encB) :: E.arr 103 1 (some ⟨gA, 0, none⟩) (code.length + 1) AC ((rows0.map fun x => rowV R x.1).flatMap enc1) :: E.bag (rows0.map (rowL R)) :: M) (by
    rw [hrows0, hgs0]
    have e1 : ((g0, List.replicate R (⟨1, 0⟩ : Vl)) :: gr.map fun g => (g, List.replicate R vl0)).map (fun x => rowV R x.1) = (g0 :: gr).map (rowV R) := by rw [List.map_cons, List.map_cons, List.map_map]; rfl
    rw [e1]
    exact E.Ent.of (E.SEnt.trans (E.SEnt.take 1 rfl (E.SEnt.take 1 rfl (E.SEnt.take 1 rfl (E.SEnt.refl _)))) (E.SEnt.keep (E.SEnt.keep (E.SEnt.keep E.SEnt.bagPush))))) ?_
  have htab : TabOk R code.length gs0 (rows0.map (·.2)) := by
    have hv : rows0.map (·.2) = List.replicate R (⟨1, 0⟩ : Vl) :: List.replicate code.length (List.replicate R vl0) := by
      rw [hrows0, List.map_cons, List.map_map, ← hgr]
      congr 1
      clear hrows0 hgr hgl
      induction gr with
      | nil => rfl
      | cons x l ih => rw [List.map_cons, List.length_cons, List.replicate_succ, ih]; rfl
    have hg : gs0 = true :: List.replicate code.length false := by rw [hgs0, List.replicate_succ, List.set_cons_zero]
    rw [hv, hg]
    refine ⟨by simp, by simp, fun x hx => ?_, fun k hk h v hvv => ?_, fun k hk h => ?_⟩
    · rcases List.mem_cons.1 hx with rfl | hx
      · simp
      · rw [(List.mem_replicate.1 hx).2]; simp
    · cases k with
      | zero => exact .inl (by rw [(List.mem_replicate.1 hvv).2])
      | succ k => rw [List.getD_cons_succ, List.getD_eq_getElem?_getD, List.getElem?_replicate] at h; split at h <;> simp at h
    · cases k with
      | zero => simp at h
      | succ k => rw [List.getElem_cons_succ, List.getElem_replicate]
  have habs0 : abs gs0 (rows0.map (·.2)) 0 = some (rowE (List.replicate R ⟨1, 0⟩)) := by
    rw [hrows0, hgs0]; rfl
  have habsN : ∀ k, k ≠ 0 → abs gs0 (rows0.map (·.2)) k = none := by
    intro k hk
    unfold abs
    rw [if_neg]
    rintro ⟨h1, h2⟩
    obtain ⟨j, rfl⟩ := Int.eq_ofNat_of_zero_le h1
    rw [Int.toNat_natCast, hgs0, List.replicate_succ, List.set_cons_zero] at h2
    cases j with
    | zero => exact hk rfl
    | succ j => rw [List.getD_cons_succ, List.getD_eq_getElem?_getD, List.getElem?_replicate] at h2; split at h2 <;> simp at h2
  have hrE : ∀ r : Int, 0 ≤ r → r < R → rowE (List.replicate R ⟨1, 0⟩) r = ⟨1, 0⟩ := by
    intro r h0 h1
    obtain ⟨q, rfl⟩ := Int.eq_ofNat_of_zero_le h0
    rw [rowE_nat (by simp; omega), List.getElem_replicate]
  have hzero : leO R (some zeroE) (abs gs0 (rows0.map (·.2)) 0) := by
    intro V hV; cases hV
    exact ⟨_, habs0, fun r h0 h1 => .inl (hrE r h0 h1).symm⟩
  have hlow : ∀ T : StE, leO R (some zeroE) (T 0) → leS R (abs gs0 (rows0.map (·.2))) T := by
    intro T h k U hU
    by_cases e : k = 0
    · subst e
      rw [habs0] at hU; cases hU
      obtain ⟨W, hW, h1⟩ := h _ rfl
      exact ⟨W, hW, fun r h0 h2 => by rw [hrE r h0 h2]; exact h1 r h0 h2⟩
    · rw [habsN k e] at hU; cases hU
  have hrl0 : rows0.length = code.length + 1 := by rw [← List.length_map (f := (·.2)), htab.lv]
  clear hrows0 hgs0 habs0 habsN hrE hgl hgr
  have hinv0 : LInv R code gs0 rows0 := ⟨htab, fun T _ h0 _ => hlow T h0, hzero⟩
  clear htab hzero hlow hrl0
  refine E.Run.seqCut (fun L' ρ' M' => ∃ gs rows, (LInv R code gs rows ∧ ∀ k, Closed R code (absR gs rows) k) ∧ E.SubEnv [(0, .slice cA code.length cc), (1, .int .i64 R), (5, .pointer (some ⟨b1_5, 0, none⟩))] L' ∧ E.Ent ρ' M' ρ (E.pt b1_5 99 [.slice (some ⟨g1_3, 0, none⟩) (code.length + 1) (code.length + 1), .slice (some ⟨gA, 0, none⟩) (code.length + 1) AC, .bool false] :: E.arr 4 1 (some ⟨g1_3, 0, none⟩) (code.length + 1) (code.length + 1) ((gs).flatMap E.encB) :: E.arr 103 1 (some ⟨gA, 0, none⟩) (code.length + 1) AC (((rows).map fun x => rowV R x.1).flatMap enc1) :: E.bag ((rows).map (rowL R)) :: M)) ?_ ?_
  · (repeat refine E.Run.seq ?_); refine E.Run.block ?_
    (repeat refine E.Run.seq ?_); refine E.Run.loopS (fun (x : List Bool × List (Nat × List Vl) × Bool) => [(0, .slice cA code.length cc), (1, .int .i64 R), (5, .pointer (some ⟨b1_5, 0, none⟩))]) ρ (fun x => E.pt b1_5 99 [.slice (some ⟨g1_3, 0, none⟩) (code.length + 1) (code.length + 1), .slice (some ⟨gA, 0, none⟩) (code.length + 1) AC, .bool x.2.2] :: E.arr 4 1 (some ⟨g1_3, 0, none⟩) (code.length + 1) (code.length + 1) ((x.1).flatMap E.encB) :: E.arr 103 1 (some ⟨gA, 0, none⟩) (code.length + 1) AC (((x.2.1).map fun x => rowV R x.1).flatMap enc1) :: E.bag ((x.2.1).map (rowL R)) :: M)
      (fun x => LInv R code x.1 x.2.1 ∧ (x.2.2 = false → ∀ k, Closed R code (absR x.1 x.2.1) k)) (fun x => 2 * potR R code.length x.1 x.2.1 + (if x.2.2 then 1 else 0)) (gs0, rows0, true) ⟨hinv0, (fun h => by cases h)⟩ (by ((repeat refine E.SubEnv.cons rfl ?_); exact E.SubEnv.nil _)) (by exact E.Ent.of E.entA) ?_
    rintro ⟨gs1, rows1, m1⟩ ⟨hinv1, hcl1⟩
    simp only at hinv1 hcl1 ⊢
    refine E.Run.seqCut (fun L' ρ' M' => m1 = true ∧ E.SubEnv [(0, .slice cA code.length cc), (1, .int .i64 R), (5, .pointer (some ⟨b1_5, 0, none⟩))] L' ∧ E.Ent ρ' M' ρ (E.pt b1_5 99 [.slice (some ⟨g1_3, 0, none⟩) (code.length + 1) (code.length + 1), .slice (some ⟨gA, 0, none⟩) (code.length + 1) AC, .bool true] :: E.arr 4 1 (some ⟨g1_3, 0, none⟩) (code.length + 1) (code.length + 1) ((gs1).flatMap E.encB) :: E.arr 103 1 (some ⟨gA, 0, none⟩) (code.length + 1) AC (((rows1).map fun x => rowV R x.1).flatMap enc1) :: E.bag ((rows1).map (rowL R)) :: M)) ?_ ?_
    · (repeat refine E.Run.seq ?_)
      refine E.Run.region ?_
      refine E.Ops.q _ (E.q_move rfl rfl) rfl rfl ?_
      refine E.Ops.q _ (E.q_nilCheck rfl rfl) rfl rfl ?_
      first | refine E.Ops.q _ (E.q_fieldAddr' rfl rfl fo_99_2) rfl rfl ?_ | refine E.Ops.q _ (E.q_fieldAddr rfl rfl fo_99_2) rfl rfl ?_
      refine E.Ops.q _ (E.q_load rfl rfl (by first | refine E.LoadAt.own E.ixA sc_4 (by rfl) | exact E.LoadAt.ro sc_4 (by assumption) | exact E.LoadAt.arr E.ixA sc_4 (by assumption))) rfl rfl ?_
      refine E.Ops.nil ?_
      try simp only [E.tn, E.tx, E.tr, E.bn, E.br, E.bs]
      (repeat refine E.Run.seq ?_); refine E.Run.cond rfl (fun h3 => ?_) (fun h3 => ?_)
      · refine E.Run.skip ?_
        try simp only [E.tn, E.tx, E.tr, E.bn, E.br, E.bs]
        subst h3
        exact ⟨rfl, by ((repeat refine E.SubEnv.cons rfl ?_); exact E.SubEnv.nil _), by exact E.Ent.of E.entA⟩
      · refine E.Run.exit ?_
        try simp only [E.tn, E.tx, E.tr, E.bn, E.br, E.bs]
        subst h3
        exact ⟨gs1, rows1, ⟨hinv1, hcl1 rfl⟩, by ((repeat refine E.SubEnv.cons rfl ?_); exact E.SubEnv.nil _), by exact E.Ent.of E.entA⟩
    rintro L1 ρ1 M1 ⟨hm1, hs, he⟩
    refine E.Run.sub hs (E.Run.ent he ?_)
    clear hs he hcl1
    subst hm1
    (repeat refine E.Run.seq ?_); refine E.Run.block ?_
    (repeat refine E.Run.seq ?_)
    refine E.Run.region ?_
    refine E.Ops.q _ (E.q_move rfl rfl) rfl rfl ?_
    refine E.Ops.q _ (E.q_nilCheck rfl rfl) rfl rfl ?_
    first | refine E.Ops.q _ (E.q_fieldAddr' rfl rfl fo_99_2) rfl rfl ?_ | refine E.Ops.q _ (E.q_fieldAddr rfl rfl fo_99_2) rfl rfl ?_
    refine E.Ops.loud rfl rfl ?_
    refine E.l_store rfl rfl rfl E.ixA 1 sz_4 (by rfl) (by rfl) (by rfl) (by rfl) ?_
    refine E.Ops.nil ?_
    try simp only [E.tn, E.tx, E.tr, E.bn, E.br, E.bs]
    (repeat refine E.Run.seq ?_)
    refine E.Run.region ?_
    refine E.Ops.q _ (E.q_mv rfl rfl) rfl rfl ?_
    refine E.Ops.nil ?_
    try simp only [E.tn, E.tx, E.tr, E.bn, E.br, E.bs]
    (repeat refine E.Run.seq ?_); refine E.Run.block ?_
    (repeat refine E.Run.seq ?_); refine E.Run.loopS (fun (x : Nat × List Bool × List (Nat × List Vl) × Bool) => [(0, .slice cA code.length cc), (1, .int .i64 R), (5, .pointer (some ⟨b1_5, 0, none⟩)), (8, .int .i64 x.1)]) ρ (fun x => E.pt b1_5 99 [.slice (some ⟨g1_3, 0, none⟩) (code.length + 1) (code.length + 1), .slice (some ⟨gA, 0, none⟩) (code.length + 1) AC, .bool x.2.2.2] :: E.arr 4 1 (some ⟨g1_3, 0, none⟩) (code.length + 1) (code.length + 1) ((x.2.1).flatMap E.encB) :: E.arr 103 1 (some ⟨gA, 0, none⟩) (code.length + 1) AC (((x.2.2.1).map fun x => rowV R x.1).flatMap enc1) :: E.bag ((x.2.2.1).map (rowL R)) :: M)
      (fun x => x.1 ≤ code.length ∧ LInv R code x.2.1 x.2.2.1 ∧ (x.2.2.2 = false → x.2.1 = gs1 ∧ x.2.2.1 = rows1 ∧ ∀ k, k < x.1 → Closed R code (absR x.2.1 x.2.2.1) k) ∧ potR R code.length x.2.1 x.2.2.1 ≤ potR R code.length gs1 rows1 ∧ (x.2.2.2 = true → potR R code.length x.2.1 x.2.2.1 < potR R code.length gs1 rows1)) (fun x => code.length - x.1) (0, gs1, rows1, false)
      ⟨Nat.zero_le _, hinv1, (fun _ => ⟨rfl, rfl, fun k hk => by simp only at hk; omega⟩), Nat.le_refl _, (fun h => by cases h)⟩ (by ((repeat refine E.SubEnv.cons rfl ?_); exact E.SubEnv.nil _)) (by exact E.Ent.of E.entA) ?_
    rintro ⟨at', gs, rows, m⟩ ⟨hat, hinv, hmf, hp1, hp2⟩
    simp only at hat hinv hmf hp1 hp2 ⊢
    refine E.Run.seqCut (fun L' ρ' M' => at' < code.length ∧ E.SubEnv [(0, .slice cA code.length cc), (1, .int .i64 R), (5, .pointer (some ⟨b1_5, 0, none⟩)), (8, .int .i64 at')] L' ∧ E.Ent ρ' M' ρ (E.pt b1_5 99 [.slice (some ⟨g1_3, 0, none⟩) (code.length + 1) (code.length + 1), .slice (some ⟨gA, 0, none⟩) (code.length + 1) AC, .bool m] :: E.arr 4 1 (some ⟨g1_3, 0, none⟩) (code.length + 1) (code.length + 1) ((gs).flatMap E.encB) :: E.arr 103 1 (some ⟨gA, 0, none⟩) (code.length + 1) AC (((rows).map fun x => rowV R x.1).flatMap enc1) :: E.bag ((rows).map (rowL R)) :: M)) ?_ ?_
    · (repeat refine E.Run.seq ?_)
      refine E.Run.region ?_
      refine E.Ops.q _ (E.q_move rfl rfl) rfl rfl ?_
      refine E.Ops.q _ (E.q_move rfl rfl) rfl rfl ?_
      refine E.Ops.q _ (E.q_lenSlice rfl Try.underlying45) rfl rfl ?_
      refine E.Ops.q _ (E.q_lss rfl rfl rfl) rfl rfl ?_
      refine E.Ops.nil ?_
      try simp only [E.tn, E.tx, E.tr, E.bn, E.br, E.bs]
      (repeat refine E.Run.seq ?_); refine E.Run.condD rfl (fun h6 => ?_) (fun h6 => ?_)
      · refine E.Run.skip ?_
        try simp only [E.tn, E.tx, E.tr, E.bn, E.br, E.bs]
        exact ⟨by omega, by ((repeat refine E.SubEnv.cons rfl ?_); exact E.SubEnv.nil _), by exact E.Ent.of E.entA⟩
      · refine E.Run.exit ?_
        try simp only [E.tn, E.tx, E.tr, E.bn, E.br, E.bs]
        have : at' = code.length := by omega
        subst this
        refine ⟨(gs, rows, m), ⟨hinv, fun h k => ?_⟩, ?_, by ((repeat refine E.SubEnv.cons rfl ?_); exact E.SubEnv.nil _), by exact E.Ent.of E.entA⟩
        · by_cases hk : k < code.length
          · exact (hmf h).2.2 k hk
          · exact fun h => absurd h hk
        · simp only
          cases m with
          | false => simp; omega
          | true => have := hp2 rfl; simp; omega
    rintro L1 ρ1 M1 ⟨hat', hs, he⟩
    refine E.Run.sub hs (E.Run.ent he ?_)
    clear hs he
    have hrl := hinv.rl
    have hrr := hinv.rr
    have hgl := hinv.tab.lg
    have hka : at' < rows.length := by omega
    refine E.Run.seqCut (fun L' ρ' M' => ∃ gs' rows' m', (LInv R code gs' rows' ∧ (m' = false → gs' = gs1 ∧ rows' = rows1 ∧ ∀ k, k < at' + 1 → Closed R code (absR gs' rows') k) ∧ potR R code.length gs' rows' ≤ potR R code.length gs1 rows1 ∧ (m' = true → potR R code.length gs' rows' < potR R code.length gs1 rows1)) ∧ E.SubEnv [(0, .slice cA code.length cc), (1, .int .i64 R), (5, .pointer (some ⟨b1_5, 0, none⟩)), (8, .int .i64 at')] L' ∧ E.Ent ρ' M' ρ (E.pt b1_5 99 [.slice (some ⟨g1_3, 0, none⟩) (code.length + 1) (code.length + 1), .slice (some ⟨gA, 0, none⟩) (code.length + 1) AC, .bool m'] :: E.arr 4 1 (some ⟨g1_3, 0, none⟩) (code.length + 1) (code.length + 1) ((gs').flatMap E.encB) :: E.arr 103 1 (some ⟨gA, 0, none⟩) (code.length + 1) AC (((rows').map fun x => rowV R x.1).flatMap enc1) :: E.bag ((rows').map (rowL R)) :: M)) ?_ ?_
    · (repeat refine E.Run.seq ?_); refine E.Run.block ?_
      have hgb : (gs.flatMap E.encB)[at' * 1]? = some (.bool (gs.getD at' false)) := by
        have := E.flatMap_at (enc := E.encB) (sz := 1) (fun _ => rfl) gs at' (gs.getD at' false) (by rw [List.getD_eq_getElem?_getD, List.getElem?_eq_getElem (by omega)]; rfl) 0 _ rfl
        simpa using this
      have habs : absR gs rows at' = if gs.getD at' false = true then some (rowE rows[at'].2) else none := by
        have := abs_nat (gs := gs) (vs := rows.map (·.2)) (k := at') (by rw [List.length_map]; exact hka)
        rw [List.getElem_map] at this
        exact this
      refine E.Run.seqCut (fun L' ρ' M' => gs.getD at' false = true ∧ E.SubEnv [(0, .slice cA code.length cc), (1, .int .i64 R), (5, .pointer (some ⟨b1_5, 0, none⟩)), (8, .int .i64 at')] L' ∧ E.Ent ρ' M' ρ (E.pt b1_5 99 [.slice (some ⟨g1_3, 0, none⟩) (code.length + 1) (code.length + 1), .slice (some ⟨gA, 0, none⟩) (code.length + 1) AC, .bool m] :: E.arr 4 1 (some ⟨g1_3, 0, none⟩) (code.length + 1) (code.length + 1) ((gs).flatMap E.encB) :: E.arr 103 1 (some ⟨gA, 0, none⟩) (code.length + 1) AC (((rows).map fun x => rowV R x.1).flatMap enc1) :: E.bag ((rows).map (rowL R)) :: M)) ?_ ?_
      · (repeat refine E.Run.seq ?_)
        refine E.Run.region ?_
        refine E.Ops.q _ (E.q_move rfl rfl) rfl rfl ?_
        refine E.Ops.q _ (E.q_nilCheck rfl rfl) rfl rfl ?_
        first | refine E.Ops.q _ (E.q_fieldAddr' rfl rfl fo_99_0) rfl rfl ?_ | refine E.Ops.q _ (E.q_fieldAddr rfl rfl fo_99_0) rfl rfl ?_
        refine E.Ops.q _ (E.q_load rfl rfl (by first | refine E.LoadAt.own E.ixA sc_77 (by rfl) | exact E.LoadAt.ro sc_77 (by assumption) | exact E.LoadAt.arr E.ixA sc_77 (by assumption))) rfl rfl ?_
        refine E.Ops.q _ (E.q_move rfl rfl) rfl rfl ?_
        refine E.Ops.q _ (E.q_indexNat rfl rfl rfl so_77 (show at' < code.length + 1 by omega)) rfl rfl ?_
        refine E.Ops.q _ (E.q_load rfl rfl (by exact E.LoadAt.arr E.ixA sc_4 hgb)) rfl rfl ?_
        refine E.Ops.q _ (E.q_not rfl rfl) rfl rfl ?_
        refine E.Ops.nil ?_
        try simp only [E.tn, E.tx, E.tr, E.bn, E.br, E.bs]
        (repeat refine E.Run.seq ?_); refine E.Run.cond rfl (fun h16 => ?_) (fun h16 => ?_)
        · have hg0 : gs.getD at' false = false := by simpa using h16
          refine E.Run.exit ?_
          try simp only [E.tn, E.tx, E.tr, E.bn, E.br, E.bs]
          refine ⟨gs, rows, m, ⟨hinv, fun h => ⟨(hmf h).1, (hmf h).2.1, fun k hk => ?_⟩, hp1, hp2⟩, by ((repeat refine E.SubEnv.cons rfl ?_); exact E.SubEnv.nil _), by exact E.Ent.of E.entA⟩
          by_cases e : k = at'
          · subst e
            intro _ V hV
            rw [habs, hg0] at hV; cases hV
          · exact (hmf h).2.2 k (by omega)
        · refine E.Run.skip ?_
          try simp only [E.tn, E.tx, E.tr, E.bn, E.br, E.bs]
          exact ⟨by simpa using h16, by ((repeat refine E.SubEnv.cons rfl ?_); exact E.SubEnv.nil _), by exact E.Ent.of E.entA⟩
      rintro L1 ρ1 M1 ⟨hg1, hs, he⟩
      refine E.Run.sub hs (E.Run.ent he ?_)
      clear hs he hgb
      rw [if_pos hg1] at habs
      obtain ⟨ad, hcA, _, hc⟩ := E.RdF.at hcode hat'
      subst hcA
      have hin := hok.ins at' hat'
      have hopi := hop _ (List.getElem_mem hat')
      have hgo := goesV_in hok hat'
      have hcld : ∀ (T : StE), Closed R code T at' → ∀ W, T at' = some W → ∀ x ∈ goesV at' code[at'] W, leO R (some (flowV code[at'] W)) (T x) := fun T h W hW x hx => h hat' W hW x hx
      have hclm : ∀ (T : StE), (∀ V, T at' = some V → ∀ x ∈ goesV at' code[at'] V, leO R (some (flowV code[at'] V)) (T x)) → Closed R code T at' := fun T h _ V hV x hx => h V hV x hx
      generalize hi : code[at'] = i at *
      have hvl := hrr _ (List.getElem_mem hka)
      have hvn : ∀ v ∈ rows[at'].2, nrm v := by
        have := hinv.tab.nr at' (by rw [List.length_map]; exact hka) hg1
        rw [List.getElem_map] at this
        exact this
      have hok1 : ((rows.map fun x => rowV R x.1).flatMap enc1)[at' * 1]? = some (rowV R rows[at'].1) := by
        rw [flat1, Nat.mul_one, List.getElem?_map, List.getElem?_eq_getElem hka]; rfl
      have hset := fun M => E.bagSet (f := rowL R) hka rows[at'] M
      rw [List.set_getElem_self] at hset
      have hbat := fun M => E.bagAt (f := rowL R) hka M
      generalize hrow : rows[at'] = row at *
      obtain ⟨gat, vat⟩ := row
      simp only at hvl hvn hok1 habs
      (repeat refine E.Run.seq ?_)
      refine E.Run.region ?_
      refine E.Ops.q _ (E.q_move rfl rfl) rfl rfl ?_
      refine E.Ops.q _ (E.q_move rfl rfl) rfl rfl ?_
      first | refine E.Ops.q _ (E.q_indexNat rfl rfl rfl so_45 (by first | assumption | omega)) rfl rfl ?_ | refine E.Ops.q _ (E.q_indexAddr rfl rfl rfl so_45 (by omega) (by omega)) rfl rfl ?_
      refine E.Ops.q _ (E.q_load rfl rfl (by exact E.LoadAt.roAgg ag_44 hc rfl)) rfl rfl ?_
      refine E.Ops.loud rfl rfl ?_
      refine E.l_alloc rfl ty_44 (fun b17_4 => ?_)
      refine E.Ops.loud rfl rfl ?_
      refine E.l_store rfl rfl rfl E.ixA 4 sz_44 (by rfl) (by rfl) (by rfl) (by rfl) ?_
      refine E.Ops.nil ?_
      try simp only [E.tn, E.tx, E.tr, E.bn, E.br, E.bs]
      refine E.Run.ent (M1 := E.arr 101 2 (some ⟨gat, 0, none⟩) R R (vat.flatMap encV) :: E.pt b1_5 99 [.slice (some ⟨g1_3, 0, none⟩) (code.length + 1) (code.length + 1), .slice (some ⟨gA, 0, none⟩) (code.length + 1) AC, .bool m] :: E.arr 4 1 (some ⟨g1_3, 0, none⟩) (code.length + 1) (code.length + 1) ((gs).flatMap E.encB) :: E.arr 103 1 (some ⟨gA, 0, none⟩) (code.length + 1) AC (((rows).map fun x => rowV R x.1).flatMap enc1) :: E.bag ((rows.eraseIdx at').map (rowL R)) :: E.pt b17_4 44 (E.encIns i) :: M) (E.Ent.of (E.SEnt.trans (E.SEnt.keep (E.SEnt.keep (E.SEnt.keep (E.SEnt.keep (hbat _))))) (E.SEnt.take 4 rfl (E.SEnt.take 1 rfl (E.SEnt.take 1 rfl (E.SEnt.take 1 rfl (E.SEnt.take 1 rfl (E.SEnt.refl _)))))))) ?_
      (repeat refine E.Run.seq ?_)
      refine E.Run.region ?_
      refine E.Ops.loud rfl rfl ?_
      refine E.l_slice0 rfl rfl Try.underlying103 ty_101 (fun g18_0 => ?_)
      refine E.Ops.q _ (E.q_move rfl rfl) rfl rfl ?_
      refine E.Ops.q _ (E.q_nilCheck rfl rfl) rfl rfl ?_
      first | refine E.Ops.q _ (E.q_fieldAddr' rfl rfl fo_99_1) rfl rfl ?_ | refine E.Ops.q _ (E.q_fieldAddr rfl rfl fo_99_1) rfl rfl ?_
      refine E.Ops.q _ (E.q_load rfl rfl (by first | refine E.LoadAt.own E.ixA sc_97 (by rfl) | exact E.LoadAt.ro sc_97 (by assumption) | exact E.LoadAt.arr E.ixA sc_97 (by assumption))) rfl rfl ?_
      refine E.Ops.q _ (E.q_move rfl rfl) rfl rfl ?_
      refine E.Ops.q _ (E.q_indexNat rfl rfl rfl so_97 (show at' < code.length + 1 by omega)) rfl rfl ?_
      refine E.Ops.q _ (E.q_load rfl rfl (by exact E.LoadAt.arr E.ixA sc_103 hok1)) rfl rfl ?_
      refine E.Ops.loud rfl rfl ?_
      refine E.l_append rfl rfl E.ixA Try.underlying103 ty_101 rfl (by decide) (E.SrcOf.arr E.ixA) (by intro u hu; obtain ⟨y, hy, hu⟩ := List.mem_flatMap.1 hu; simp only [encV, List.mem_cons, List.not_mem_nil, or_false] at hu; rcases hu with rfl | rfl <;> rfl) (by omega) (by omega) (fun A18_8 c18_8 => ?_)
      refine E.Ops.q _ (E.q_mv rfl rfl) rfl rfl ?_
      refine E.Ops.nil ?_
      try simp only [E.tn, E.tx, E.tr, E.bn, E.br, E.bs]
      refine E.Run.arrSome (T := 101) (A := A18_8) E.ixA (by omega) fun ge hge hcape => ?_
      subst hge
      simp only [Nat.zero_add, List.nil_append]
      refine E.Run.ent (M1 := E.pt b1_5 99 [.slice (some ⟨g1_3, 0, none⟩) (code.length + 1) (code.length + 1), .slice (some ⟨gA, 0, none⟩) (code.length + 1) AC, .bool m] :: E.arr 4 1 (some ⟨g1_3, 0, none⟩) (code.length + 1) (code.length + 1) ((gs).flatMap E.encB) :: E.arr 103 1 (some ⟨gA, 0, none⟩) (code.length + 1) AC (((rows).map fun x => rowV R x.1).flatMap enc1) :: E.bag ((rows).map (rowL R)) :: E.arr 101 2 (some ⟨ge, 0, none⟩) R c18_8 ((vat).flatMap encV) :: E.pt b17_4 44 (E.encIns i) :: M) (E.Ent.of (E.SEnt.trans (M' := E.arr 101 2 (some ⟨gat, 0, none⟩) R R (vat.flatMap encV) :: E.bag ((rows.eraseIdx at').map (rowL R)) :: E.pt b1_5 99 [.slice (some ⟨g1_3, 0, none⟩) (code.length + 1) (code.length + 1), .slice (some ⟨gA, 0, none⟩) (code.length + 1) AC, .bool m] :: E.arr 4 1 (some ⟨g1_3, 0, none⟩) (code.length + 1) (code.length + 1) ((gs).flatMap E.encB) :: E.arr 103 1 (some ⟨gA, 0, none⟩) (code.length + 1) AC (((rows).map fun x => rowV R x.1).flatMap enc1) :: E.arr 101 2 (some ⟨ge, 0, none⟩) R c18_8 ((vat).flatMap encV) :: E.pt b17_4 44 (E.encIns i) :: M) E.entA (E.SEnt.trans (hset _) (E.SEnt.take 1 rfl (E.SEnt.take 1 rfl (E.SEnt.take 1 rfl (E.SEnt.refl _))))))) ?_
      (repeat refine E.Run.seq ?_)
      refine E.Run.region ?_
      first | refine E.Ops.q _ (E.q_fieldAddr' rfl rfl fo_44_0) rfl rfl ?_ | refine E.Ops.q _ (E.q_fieldAddr rfl rfl fo_44_0) rfl rfl ?_
      refine E.Ops.q _ (E.q_load rfl rfl (by first | refine E.LoadAt.own E.ixA sc_3 (by rfl) | exact E.LoadAt.ro sc_3 (by assumption) | exact E.LoadAt.arr E.ixA sc_3 (by assumption))) rfl rfl ?_
      refine E.Ops.loud rfl rfl ?_
      refine E.l_call Try.func55 nm_55 nb_55 rfl ?_; refine rReckons i.op ?_
      refine E.Ops.q _ (E.q_mv rfl rfl) rfl rfl ?_
      refine E.Ops.nil ?_
      try simp only [E.tn, E.tx, E.tr, E.bn, E.br, E.bs]
      (repeat refine E.Run.seq ?_)
      refine E.Run.region ?_
      refine E.Ops.q _ (E.q_load rfl rfl (by first | refine E.LoadAt.ownAgg E.ixA 4 ag_44 (by rfl) (by rfl) | exact E.LoadAt.roAgg ag_44 (by assumption) rfl)) rfl rfl ?_
      refine E.Ops.loud rfl rfl ?_
      refine E.l_call Try.func96 nm_96 nb_96 rfl ?_; refine rWrites i hopi ?_
      refine E.Ops.q _ (E.q_mv rfl rfl) rfl rfl ?_
      refine E.Ops.nil ?_
      try simp only [E.tn, E.tx, E.tr, E.bn, E.br, E.bs]
      have hesl := esOf_len i vat
      have hesn := esOf_nrm hin hvl hvn
      have hesf := esOf_flow hin hvl
      have hvEl : ∀ (es : List Vl), es.length = R → ∀ q : Int, 0 ≤ q → q < R → ∀ j u, (encV (rowE es q))[j]? = some u → (es.flatMap encV)[q.toNat * 2 + j]? = some u := fun es hl q q0 q1 j u hu => by
        obtain ⟨q', rfl⟩ := Int.eq_ofNat_of_zero_le q0
        rw [rowE_nat (by omega)] at hu
        exact encV_at (List.getElem?_eq_getElem (by omega)) j u hu
      refine E.Run.seqCut (fun L' ρ' M' => E.SubEnv [(0, .slice (some ad) code.length cc), (1, .int .i64 R), (5, .pointer (some ⟨b1_5, 0, none⟩)), (8, .int .i64 at'), (9, .pointer (some ⟨b17_4, 0, none⟩)), (10, .slice (some ⟨ge, 0, none⟩) R c18_8)] L' ∧ E.Ent ρ' M' ρ (E.pt b1_5 99 [.slice (some ⟨g1_3, 0, none⟩) (code.length + 1) (code.length + 1), .slice (some ⟨gA, 0, none⟩) (code.length + 1) AC, .bool m] :: E.arr 4 1 (some ⟨g1_3, 0, none⟩) (code.length + 1) (code.length + 1) ((gs).flatMap E.encB) :: E.arr 103 1 (some ⟨gA, 0, none⟩) (code.length + 1) AC (((rows).map fun x => rowV R x.1).flatMap enc1) :: E.bag ((rows).map (rowL R)) :: E.arr 101 2 (some ⟨ge, 0, none⟩) R c18_8 ((esOf i vat).flatMap encV) :: E.pt b17_4 44 (E.encIns i) :: M)) ?_ ?_
      · (repeat refine E.Run.seq ?_)
        refine E.Run.region ?_
        refine E.Ops.q _ (E.q_move rfl rfl) rfl rfl ?_
        refine E.Ops.nil ?_
        try simp only [E.tn, E.tx, E.tr, E.bn, E.br, E.bs]
        (repeat refine E.Run.seq ?_); refine E.Run.condD rfl (fun h21 => ?_) (fun h21 => ?_)
        · obtain ⟨v, hv⟩ := reck_isSome (V := rowE vat) h21
          have ha := hin.writes (by rw [← reck_some i (rowE vat), hv]; rfl)
          have hes1 : esOf i vat = vat.set i.a.toNat ((reck i (rowE vat)).getD ⟨0, 0⟩) := by unfold esOf; rw [if_pos h21]
          rw [hes1]
          (repeat refine E.Run.seq ?_)
          refine E.Run.draw (.q 0 (.q 1 (.q 2 (.ph [3, 4] (.l 5 (.q 6 (.l 7 (.nil)))))))) _ _ Try.mixed (by kernel_rfl) (E.Ent.of (by (repeat (first | (with_reducible apply E.SEnt.drop (P := E.arr _ _ (some ⟨ge, 0, none⟩) _ _ _)) | (with_reducible apply E.SEnt.keep))); first | exact E.SEnt.refl _ | exact E.SEnt.nil _)) ?_
          refine E.Plan.q _ rfl _ (E.q_move rfl rfl) rfl rfl ?_
          first | refine E.Plan.q _ rfl _ (E.q_fieldAddr' rfl rfl fo_44_1) rfl rfl ?_ | refine E.Plan.q _ rfl _ (E.q_fieldAddr rfl rfl fo_44_1) rfl rfl ?_
          refine E.Plan.q _ rfl _ (E.q_load rfl rfl (by first | refine E.LoadAt.own E.ixA sc_3 (by rfl) | exact E.LoadAt.ro sc_3 (by assumption) | exact E.LoadAt.arr E.ixA sc_3 (by assumption))) rfl rfl ?_
          refine E.Plan.ph (by exact E.Ent.of E.entA) ?_
          refine E.PlanQ.q _ rfl _ (E.q_load rfl rfl (by first | refine E.LoadAt.ownAgg E.ixA 4 ag_44 (by rfl) (by rfl) | exact E.LoadAt.roAgg ag_44 (by assumption) rfl)) rfl rfl ?_
          refine E.PlanQ.q _ rfl _ (E.q_move rfl rfl) rfl rfl ?_
          refine E.PlanQ.nil ?_
          refine E.Plan.loud _ rfl rfl rfl ?_
          refine E.l_call Try.func56 nm_56 nb_56 rfl ?_; refine rResult i R (rowE vat) _ _ h21 hin.reads (fun q q0 q1 => E.LoadAt.arrAgg E.ixA ag_101 (hvEl vat hvl q q0 q1) (encV_len _) (by decide)) ?_
          refine ⟨E.Ent.of E.entA, ?_⟩
          refine E.Plan.q _ rfl _ (E.q_indexAddr rfl rfl rfl so_103 ha.1 ha.2) rfl rfl ?_
          refine E.Plan.loud _ rfl rfl rfl ?_
          refine E.l_storeEl (enc := encV) ((reck i (rowE vat)).getD ⟨0, 0⟩) encV_len rfl rfl rfl E.ixA sz_101 hvl.symm (by omega) rfl rfl ?_
          refine ⟨E.Ent.of E.entA, ?_⟩
          refine E.Plan.nil ?_
          try simp only [E.tn, E.tx, E.tr, E.bn, E.br, E.bs]
          exact ⟨by ((repeat refine E.SubEnv.cons rfl ?_); exact E.SubEnv.nil _), by exact E.Ent.of E.entA⟩
        · (repeat refine E.Run.seq ?_)
          refine E.Run.region ?_
          refine E.Ops.q _ (E.q_move rfl rfl) rfl rfl ?_
          refine E.Ops.q _ (E.q_geq rfl rfl rfl) rfl rfl ?_
          refine E.Ops.nil ?_
          try simp only [E.tn, E.tx, E.tr, E.bn, E.br, E.bs]
          (repeat refine E.Run.seq ?_); refine E.Run.condD rfl (fun h23 => ?_) (fun h23 => ?_)
          · have hw := hin.writes' h23
            have hes1 : esOf i vat = vat.set (insWrites i).toNat ⟨2, 0⟩ := by unfold esOf; rw [if_neg h21, if_pos h23]
            rw [hes1]
            generalize insWrites i = w at *
            (repeat refine E.Run.seq ?_)
            refine E.Run.region ?_
            refine E.Ops.q _ (E.q_move rfl rfl) rfl rfl ?_
            refine E.Ops.q _ (E.q_move rfl rfl) rfl rfl ?_
            refine E.Ops.q _ (E.q_struct rfl rfl pl_101 rfl) rfl rfl ?_
            refine E.Ops.q _ (E.q_indexAddr rfl rfl rfl so_103 h23 hw) rfl rfl ?_
            refine E.Ops.loud rfl rfl ?_
            refine E.l_storeEl (enc := encV) ⟨2, 0⟩ encV_len rfl rfl rfl E.ixA sz_101 hvl.symm (by omega) rfl rfl ?_
            refine E.Ops.nil ?_
            try simp only [E.tn, E.tx, E.tr, E.bn, E.br, E.bs]
            exact ⟨by ((repeat refine E.SubEnv.cons rfl ?_); exact E.SubEnv.nil _), by exact E.Ent.of E.entA⟩
          · have hes1 : esOf i vat = vat := by unfold esOf; rw [if_neg h21, if_neg h23]
            rw [hes1]
            refine E.Run.skip ?_
            try simp only [E.tn, E.tx, E.tr, E.bn, E.br, E.bs]
            exact ⟨by ((repeat refine E.SubEnv.cons rfl ?_); exact E.SubEnv.nil _), by exact E.Ent.of E.entA⟩
      rintro L1 ρ1 M1 ⟨hs, he⟩
      refine E.Run.sub hs (E.Run.ent he ?_)
      clear hs he
      (repeat refine E.Run.seq ?_)
      refine E.Run.region ?_
      refine E.Ops.q _ (E.q_struct rfl rfl pl_101 rfl) rfl rfl ?_
      refine E.Ops.loud rfl rfl ?_
      refine E.l_alloc rfl ty_101 (fun b25_1 => ?_)
      refine E.Ops.loud rfl rfl ?_
      refine E.l_store rfl rfl rfl E.ixA 2 sz_101 (by rfl) (by rfl) (by rfl) (by rfl) ?_
      refine E.Ops.nil ?_
      try simp only [E.tn, E.tx, E.tr, E.bn, E.br, E.bs]
      have hgc := fun x => goes_cond (k := at') (i := i) (vs := vat) (x := x)
      have hesL : (esOf i vat).length = R := by rw [hesl]; exact hvl
      refine E.Run.seqCut (fun L' ρ' M' => E.SubEnv [(0, .slice (some ad) code.length cc), (1, .int .i64 R), (5, .pointer (some ⟨b1_5, 0, none⟩)), (8, .int .i64 at'), (10, .slice (some ⟨ge, 0, none⟩) R c18_8), (13, .pointer (some ⟨b25_1, 0, none⟩))] L' ∧ E.Ent ρ' M' ρ (E.pt b1_5 99 [.slice (some ⟨g1_3, 0, none⟩) (code.length + 1) (code.length + 1), .slice (some ⟨gA, 0, none⟩) (code.length + 1) AC, .bool m] :: E.arr 4 1 (some ⟨g1_3, 0, none⟩) (code.length + 1) (code.length + 1) ((gs).flatMap E.encB) :: E.arr 103 1 (some ⟨gA, 0, none⟩) (code.length + 1) AC (((rows).map fun x => rowV R x.1).flatMap enc1) :: E.bag ((rows).map (rowL R)) :: E.arr 101 2 (some ⟨ge, 0, none⟩) R c18_8 ((esOf i vat).flatMap encV) :: E.pt b25_1 101 (encV (vzOf i (esOf i vat))) :: M)) ?_ ?_
      · (repeat refine E.Run.seq ?_)
        refine E.Run.region ?_
        first | refine E.Ops.q _ (E.q_fieldAddr' rfl rfl fo_44_0) rfl rfl ?_ | refine E.Ops.q _ (E.q_fieldAddr rfl rfl fo_44_0) rfl rfl ?_
        refine E.Ops.q _ (E.q_load rfl rfl (by first | refine E.LoadAt.own E.ixA sc_3 (by rfl) | exact E.LoadAt.ro sc_3 (by assumption) | exact E.LoadAt.arr E.ixA sc_3 (by assumption))) rfl rfl ?_
        refine E.Ops.q _ (E.q_eql rfl rfl rfl) rfl rfl ?_
        refine E.Ops.nil ?_
        try simp only [E.tn, E.tx, E.tr, E.bn, E.br, E.bs]
        (repeat refine E.Run.seq ?_); refine E.Run.condD rfl (fun h26 => ?_) (fun h26 => ?_)
        · have hz := hin.zero h26
          rw [show vzOf i (esOf i vat) = rowE (esOf i vat) i.a from by unfold vzOf; rw [if_pos h26]]
          (repeat refine E.Run.seq ?_)
          refine E.Run.region ?_
          refine E.Ops.q _ (E.q_move rfl rfl) rfl rfl ?_
          first | refine E.Ops.q _ (E.q_fieldAddr' rfl rfl fo_44_1) rfl rfl ?_ | refine E.Ops.q _ (E.q_fieldAddr rfl rfl fo_44_1) rfl rfl ?_
          refine E.Ops.q _ (E.q_load rfl rfl (by first | refine E.LoadAt.own E.ixA sc_3 (by rfl) | exact E.LoadAt.ro sc_3 (by assumption) | exact E.LoadAt.arr E.ixA sc_3 (by assumption))) rfl rfl ?_
          refine E.Ops.q _ (E.q_indexAddr rfl rfl rfl so_103 hz.1 hz.2) rfl rfl ?_
          refine E.Ops.q _ (E.q_load (v := vlV (rowE (esOf i vat) i.a)) rfl rfl (E.LoadAt.arrAgg E.ixA ag_101 (hvEl _ hesL _ hz.1 hz.2) (encV_len _) (by decide))) rfl rfl ?_
          refine E.Ops.loud rfl rfl ?_
          refine E.l_store rfl rfl rfl E.ixA 2 sz_101 (by rfl) (by rfl) (by rfl) (by rfl) ?_
          refine E.Ops.nil ?_
          try simp only [E.tn, E.tx, E.tr, E.bn, E.br, E.bs]
          exact ⟨by ((repeat refine E.SubEnv.cons rfl ?_); exact E.SubEnv.nil _), by exact E.Ent.of E.entA⟩
        · rw [show vzOf i (esOf i vat) = ⟨2, 0⟩ from by unfold vzOf; rw [if_neg h26]]
          refine E.Run.skip ?_
          try simp only [E.tn, E.tx, E.tr, E.bn, E.br, E.bs]
          exact ⟨by ((repeat refine E.SubEnv.cons rfl ?_); exact E.SubEnv.nil _), by exact E.Ent.of E.entA⟩
      rintro L1 ρ1 M1 ⟨hs, he⟩
      refine E.Run.sub hs (E.Run.ent he ?_)
      clear hs he
      generalize vzOf i (esOf i vat) = vz at *
      generalize esOf i vat = es at *
      have hl2 : (insNexts at' i).length ≤ 2 := by unfold insNexts; split <;> (try split) <;> simp
      -- what is led to, in any table that holds
      have hsrc : ∀ x, x ∈ goesV at' i (rowE vat) → ∀ T : StE, (∀ k V, T k = some V → nrmE R V) → leO R (some zeroE) (T 0) → (∀ k, Closed R code T k) → leO R (some (rowE es)) (T x) := fun x hx T hT h0 hT' => by
        obtain ⟨W, hW, hle⟩ := hinv.low T hT h0 hT' at' _ habs
        have hnV : nrmE R (rowE vat) := hinv.tab.nrmE habs
        have hnW := hT _ _ hW
        have h1 := hcld T (hT' at') W hW x (goes_mono hin hnV hnW hle hx)
        refine leO.trans (b := some (flowV i W)) (fun V hV => ?_) h1
        cases hV
        refine ⟨_, rfl, fun r r0 r1 => ?_⟩
        rw [hesf r r0 r1]
        exact flow_mono hin hnV hnW hle r r0 r1
      (repeat refine E.Run.seq ?_)
      refine E.Run.region ?_
      refine E.Ops.q _ (E.q_move rfl rfl) rfl rfl ?_
      refine E.Ops.q _ (E.q_move rfl rfl) rfl rfl ?_
      refine E.Ops.loud rfl rfl ?_
      refine E.l_call Try.func86 nm_86 nb_86 rfl ?_; refine rNexts (some ad) cc code hcode (by omega) at' hat' (fun nA nc nn hnn => ?_); rw [hi] at hnn ⊢
      refine E.Ops.q _ (E.q_mv rfl rfl) rfl rfl ?_
      refine E.Ops.nil ?_
      try simp only [E.tn, E.tx, E.tr, E.bn, E.br, E.bs]
      subst hnn
      (repeat refine E.Run.seq ?_)
      refine E.Run.region ?_
      refine E.Ops.q _ (E.q_mv rfl rfl) rfl rfl ?_
      refine E.Ops.nil ?_
      try simp only [E.tn, E.tx, E.tr, E.bn, E.br, E.bs]
      generalize hlx : insNexts at' i = lnx at *
      (repeat refine E.Run.seq ?_); refine E.Run.block ?_
      (repeat refine E.Run.seq ?_); refine E.Run.loopS (fun (x : Nat × List Bool × List (Nat × List Vl) × Bool) => [(0, .slice (some ad) code.length cc), (1, .int .i64 R), (5, .pointer (some ⟨b1_5, 0, none⟩)), (8, .int .i64 at'), (10, .slice (some ⟨ge, 0, none⟩) R c18_8), (13, .pointer (some ⟨b25_1, 0, none⟩)), (14, .slice nA lnx.length nc), (15, .int .i64 x.1)]) ρ (fun x => E.pt b1_5 99 [.slice (some ⟨g1_3, 0, none⟩) (code.length + 1) (code.length + 1), .slice (some ⟨gA, 0, none⟩) (code.length + 1) AC, .bool x.2.2.2] :: E.arr 4 1 (some ⟨g1_3, 0, none⟩) (code.length + 1) (code.length + 1) ((x.2.1).flatMap E.encB) :: E.arr 103 1 (some ⟨gA, 0, none⟩) (code.length + 1) AC (((x.2.2.1).map fun x => rowV R x.1).flatMap enc1) :: E.bag ((x.2.2.1).map (rowL R)) :: E.arr 101 2 (some ⟨ge, 0, none⟩) R c18_8 ((es).flatMap encV) :: E.pt b25_1 101 (encV vz) :: E.arr 3 1 nA lnx.length nc (lnx.flatMap E.encI) :: M)
        (fun x => x.1 ≤ lnx.length ∧ LInv R code x.2.1 x.2.2.1 ∧ leS R (absR gs rows) (absR x.2.1 x.2.2.1) ∧ (∀ j (h : j < lnx.length), j < x.1 → condJ vz j → leO R (some (rowE es)) (absR x.2.1 x.2.2.1 lnx[j])) ∧ (x.2.2.2 = false → m = false ∧ x.2.1 = gs ∧ x.2.2.1 = rows) ∧ potR R code.length x.2.1 x.2.2.1 ≤ potR R code.length gs rows ∧ (m = false → x.2.2.2 = true → potR R code.length x.2.1 x.2.2.1 < potR R code.length gs rows)) (fun x => lnx.length - x.1) (0, gs, rows, m)
        ⟨Nat.zero_le _, hinv, leS.rfl', (fun j h hj => by simp only at hj; omega), (fun h => ⟨h, rfl, rfl⟩), Nat.le_refl _, (fun h h' => by simp only at h'; rw [h] at h'; cases h')⟩ (by ((repeat refine E.SubEnv.cons rfl ?_); exact E.SubEnv.nil _)) (by exact E.Ent.of E.entA) ?_
      rintro ⟨j, gs2, rows2, m2⟩ ⟨hj, hinv2, hup, hled, hm2f, hp21, hp22⟩
      simp only at hj hinv2 hup hled hm2f hp21 hp22 ⊢
      refine E.Run.seqCut (fun L' ρ' M' => j < lnx.length ∧ E.SubEnv [(0, .slice (some ad) code.length cc), (1, .int .i64 R), (5, .pointer (some ⟨b1_5, 0, none⟩)), (8, .int .i64 at'), (10, .slice (some ⟨ge, 0, none⟩) R c18_8), (13, .pointer (some ⟨b25_1, 0, none⟩)), (14, .slice nA lnx.length nc), (15, .int .i64 j)] L' ∧ E.Ent ρ' M' ρ (E.pt b1_5 99 [.slice (some ⟨g1_3, 0, none⟩) (code.length + 1) (code.length + 1), .slice (some ⟨gA, 0, none⟩) (code.length + 1) AC, .bool m2] :: E.arr 4 1 (some ⟨g1_3, 0, none⟩) (code.length + 1) (code.length + 1) ((gs2).flatMap E.encB) :: E.arr 103 1 (some ⟨gA, 0, none⟩) (code.length + 1) AC (((rows2).map fun x => rowV R x.1).flatMap enc1) :: E.bag ((rows2).map (rowL R)) :: E.arr 101 2 (some ⟨ge, 0, none⟩) R c18_8 ((es).flatMap encV) :: E.pt b25_1 101 (encV vz) :: E.arr 3 1 nA lnx.length nc (lnx.flatMap E.encI) :: M)) ?_ ?_
      · (repeat refine E.Run.seq ?_)
        refine E.Run.region ?_
        refine E.Ops.q _ (E.q_move rfl rfl) rfl rfl ?_
        refine E.Ops.q _ (E.q_move rfl rfl) rfl rfl ?_
        refine E.Ops.q _ (E.q_lenSlice rfl Try.underlying23) rfl rfl ?_
        refine E.Ops.q _ (E.q_lss rfl rfl rfl) rfl rfl ?_
        refine E.Ops.nil ?_
        try simp only [E.tn, E.tx, E.tr, E.bn, E.br, E.bs]
        (repeat refine E.Run.seq ?_); refine E.Run.condD rfl (fun h6 => ?_) (fun h6 => ?_)
        · refine E.Run.skip ?_
          try simp only [E.tn, E.tx, E.tr, E.bn, E.br, E.bs]
          exact ⟨by omega, by ((repeat refine E.SubEnv.cons rfl ?_); exact E.SubEnv.nil _), by exact E.Ent.of E.entA⟩
        · refine E.Run.exit ?_
          try simp only [E.tn, E.tx, E.tr, E.bn, E.br, E.bs]
          have hjl : j = lnx.length := by omega
          refine ⟨gs2, rows2, m2, ⟨hinv2, fun h => ?_, by omega, fun h => ?_⟩, by ((repeat refine E.SubEnv.cons rfl ?_); exact E.SubEnv.nil _), by exact E.Ent.of E.entA⟩
          · obtain ⟨h1, h2, h3⟩ := hm2f h
            subst h2; subst h3
            refine ⟨(hmf h1).1, (hmf h1).2.1, fun k hk => ?_⟩
            by_cases e : k = at'
            · subst e
              refine hclm _ fun V hV x hx => ?_
              rw [habs] at hV
              cases hV
              obtain ⟨j', hj', rfl, hcj⟩ := (hgc x).1 hx
              have hl := hled j' hj' (by omega) hcj
              refine leO.trans (b := some (rowE es)) (fun W hW => ?_) hl
              cases hW
              exact ⟨_, rfl, fun r r0 r1 => .inl (hesf r r0 r1).symm⟩
            · exact (hmf h1).2.2 k (by omega)
          · cases hm : m with
            | true => have := hp2 hm; omega
            | false => have := hp22 hm h; omega
      rintro L1 ρ1 M1 ⟨hj', hs, he⟩
      refine E.Run.sub hs (E.Run.ent he ?_)
      clear hs he
      refine E.Run.arrSome (T := 3) (A := nA) E.ixA (by omega) fun gn hgn hcapn => ?_
      subst hgn
      have hel : (lnx.flatMap E.encI)[j * 1]? = some (.int .i64 lnx[j]) := by
        have := E.flatMap_at (enc := E.encI) (sz := 1) (fun _ => rfl) lnx j lnx[j] (List.getElem?_eq_getElem hj') 0 _ rfl
        simpa using this
      refine E.Run.seqCut (fun L' ρ' M' => ∃ gs3 rows3 m3, (LInv R code gs3 rows3 ∧ leS R (absR gs rows) (absR gs3 rows3) ∧ (∀ j' (h : j' < lnx.length), j' < j + 1 → condJ vz j' → leO R (some (rowE es)) (absR gs3 rows3 lnx[j'])) ∧ (m3 = false → m = false ∧ gs3 = gs ∧ rows3 = rows) ∧ potR R code.length gs3 rows3 ≤ potR R code.length gs rows ∧ (m = false → m3 = true → potR R code.length gs3 rows3 < potR R code.length gs rows)) ∧
        E.SubEnv [(0, .slice (some ad) code.length cc), (1, .int .i64 R), (5, .pointer (some ⟨b1_5, 0, none⟩)), (8, .int .i64 at'), (10, .slice (some ⟨ge, 0, none⟩) R c18_8), (13, .pointer (some ⟨b25_1, 0, none⟩)), (14, .slice (some ⟨gn, 0, none⟩) lnx.length nc), (15, .int .i64 j)] L' ∧ E.Ent ρ' M' ρ (E.pt b1_5 99 [.slice (some ⟨g1_3, 0, none⟩) (code.length + 1) (code.length + 1), .slice (some ⟨gA, 0, none⟩) (code.length + 1) AC, .bool m3] :: E.arr 4 1 (some ⟨g1_3, 0, none⟩) (code.length + 1) (code.length + 1) ((gs3).flatMap E.encB) :: E.arr 103 1 (some ⟨gA, 0, none⟩) (code.length + 1) AC (((rows3).map fun x => rowV R x.1).flatMap enc1) :: E.bag ((rows3).map (rowL R)) :: E.arr 101 2 (some ⟨ge, 0, none⟩) R c18_8 ((es).flatMap encV) :: E.pt b25_1 101 (encV vz) :: E.arr 3 1 (some ⟨gn, 0, none⟩) lnx.length nc (lnx.flatMap E.encI) :: M)) ?_ ?_
      · (repeat refine E.Run.seq ?_); refine E.Run.block ?_
        refine E.Run.seqCut (fun L' ρ' M' => E.SubEnv [(0, .slice (some ad) code.length cc), (1, .int .i64 R), (5, .pointer (some ⟨b1_5, 0, none⟩)), (8, .int .i64 at'), (10, .slice (some ⟨ge, 0, none⟩) R c18_8), (13, .pointer (some ⟨b25_1, 0, none⟩)), (14, .slice (some ⟨gn, 0, none⟩) lnx.length nc), (15, .int .i64 j), (144, .bool (decide (condD2 vz j)))] L' ∧ E.Ent ρ' M' ρ (E.pt b1_5 99 [.slice (some ⟨g1_3, 0, none⟩) (code.length + 1) (code.length + 1), .slice (some ⟨gA, 0, none⟩) (code.length + 1) AC, .bool m2] :: E.arr 4 1 (some ⟨g1_3, 0, none⟩) (code.length + 1) (code.length + 1) ((gs2).flatMap E.encB) :: E.arr 103 1 (some ⟨gA, 0, none⟩) (code.length + 1) AC (((rows2).map fun x => rowV R x.1).flatMap enc1) :: E.bag ((rows2).map (rowL R)) :: E.arr 101 2 (some ⟨ge, 0, none⟩) R c18_8 ((es).flatMap encV) :: E.pt b25_1 101 (encV vz) :: E.arr 3 1 (some ⟨gn, 0, none⟩) lnx.length nc (lnx.flatMap E.encI) :: M)) ?_ ?_
        · (repeat refine E.Run.seq ?_)
          refine E.Run.region ?_
          first | refine E.Ops.q _ (E.q_fieldAddr' rfl rfl fo_101_0) rfl rfl ?_ | refine E.Ops.q _ (E.q_fieldAddr rfl rfl fo_101_0) rfl rfl ?_
          refine E.Ops.q _ (E.q_load rfl rfl (by first | refine E.LoadAt.own E.ixA sc_3 (by rfl) | exact E.LoadAt.ro sc_3 (by assumption) | exact E.LoadAt.arr E.ixA sc_3 (by assumption))) rfl rfl ?_
          refine E.Ops.part (E.q_eql rfl rfl rfl) rfl rfl (fun h32_2 => ?T3) (fun h32_2 => ?F3)
          case' F3 =>
            refine E.Ops.q _ (E.q_move rfl rfl) rfl rfl ?_
            first | refine E.Ops.q _ (E.q_fieldAddr' rfl rfl fo_101_0) rfl rfl ?_ | refine E.Ops.q _ (E.q_fieldAddr rfl rfl fo_101_0) rfl rfl ?_
            refine E.Ops.q _ (E.q_load rfl rfl (by first | refine E.LoadAt.own E.ixA sc_3 (by rfl) | exact E.LoadAt.ro sc_3 (by assumption) | exact E.LoadAt.arr E.ixA sc_3 (by assumption))) rfl rfl ?_
            refine E.Ops.part (E.q_eql rfl rfl rfl) rfl rfl (fun h32_6 => ?T4) (fun h32_6 => ?F4)
            case' F4 =>
              refine E.Ops.q _ (E.q_move rfl rfl) rfl rfl ?_
              refine E.Ops.skip rfl rfl ?_
              refine E.Ops.skip rfl rfl ?_
              refine E.Ops.skip rfl rfl ?_
              refine E.Ops.skip rfl rfl ?_
              refine E.Ops.skip rfl rfl ?_
              refine E.Ops.skip rfl rfl ?_
              refine E.Ops.q _ (E.q_pickF rfl rfl rfl) rfl rfl ?_
              refine E.Ops.q _ (E.q_pickF rfl rfl rfl) rfl rfl ?_
              refine E.Ops.nil ?_
              try simp only [E.tn, E.tx, E.tr, E.bn, E.br, E.bs]
            case' T4 =>
              refine E.Ops.q _ (E.q_move rfl rfl) rfl rfl ?_
              first | refine E.Ops.q _ (E.q_fieldAddr' rfl rfl fo_101_1) rfl rfl ?_ | refine E.Ops.q _ (E.q_fieldAddr rfl rfl fo_101_1) rfl rfl ?_
              refine E.Ops.q _ (E.q_load rfl rfl (by first | refine E.LoadAt.own E.ixA sc_3 (by rfl) | exact E.LoadAt.ro sc_3 (by assumption) | exact E.LoadAt.arr E.ixA sc_3 (by assumption))) rfl rfl ?_
              refine E.Ops.part (E.q_eql rfl rfl rfl) rfl rfl (fun h10 => ?T5) (fun h10 => ?F5)
              case' F5 =>
                refine E.Ops.q _ (E.q_move rfl rfl) rfl rfl ?_
                refine E.Ops.part (E.q_eql rfl rfl rfl) rfl rfl (fun h12 => ?T6) (fun h12 => ?F6)
                case' F6 =>
                  refine E.Ops.q _ (E.q_eqlBool rfl rfl rfl Try.underlying4) rfl rfl ?_
                  refine E.Ops.q _ (E.q_pickT rfl rfl rfl) rfl rfl ?_
                  refine E.Ops.q _ (E.q_pickF rfl rfl rfl) rfl rfl ?_
                  refine E.Ops.nil ?_
                  try simp only [E.tn, E.tx, E.tr, E.bn, E.br, E.bs]
                case' T6 =>
                  refine E.Ops.q _ (E.q_eqlBool rfl rfl rfl Try.underlying4) rfl rfl ?_
                  refine E.Ops.q _ (E.q_pickT rfl rfl rfl) rfl rfl ?_
                  refine E.Ops.q _ (E.q_pickF rfl rfl rfl) rfl rfl ?_
                  refine E.Ops.nil ?_
                  try simp only [E.tn, E.tx, E.tr, E.bn, E.br, E.bs]
              case' T5 =>
                refine E.Ops.q _ (E.q_move rfl rfl) rfl rfl ?_
                refine E.Ops.part (E.q_eql rfl rfl rfl) rfl rfl (fun h12 => ?T7) (fun h12 => ?F7)
                case' F7 =>
                  refine E.Ops.q _ (E.q_eqlBool rfl rfl rfl Try.underlying4) rfl rfl ?_
                  refine E.Ops.q _ (E.q_pickT rfl rfl rfl) rfl rfl ?_
                  refine E.Ops.q _ (E.q_pickF rfl rfl rfl) rfl rfl ?_
                  refine E.Ops.nil ?_
                  try simp only [E.tn, E.tx, E.tr, E.bn, E.br, E.bs]
                case' T7 =>
                  refine E.Ops.q _ (E.q_eqlBool rfl rfl rfl Try.underlying4) rfl rfl ?_
                  refine E.Ops.q _ (E.q_pickT rfl rfl rfl) rfl rfl ?_
                  refine E.Ops.q _ (E.q_pickF rfl rfl rfl) rfl rfl ?_
                  refine E.Ops.nil ?_
                  try simp only [E.tn, E.tx, E.tr, E.bn, E.br, E.bs]
          case' T3 =>
            refine E.Ops.q _ (E.q_move rfl rfl) rfl rfl ?_
            refine E.Ops.skip rfl rfl ?_
            refine E.Ops.skip rfl rfl ?_
            refine E.Ops.skip rfl rfl ?_
            refine E.Ops.skip rfl rfl ?_
            refine E.Ops.skip rfl rfl ?_
            refine E.Ops.skip rfl rfl ?_
            refine E.Ops.skip rfl rfl ?_
            refine E.Ops.skip rfl rfl ?_
            refine E.Ops.skip rfl rfl ?_
            refine E.Ops.skip rfl rfl ?_
            refine E.Ops.skip rfl rfl ?_
            refine E.Ops.q _ (E.q_pickT rfl rfl rfl) rfl rfl ?_
            refine E.Ops.nil ?_
            try simp only [E.tn, E.tx, E.tr, E.bn, E.br, E.bs]
          all_goals first
            | exact ⟨by rw [decide_eq_true (p := condD2 vz j) (by unfold condD2; omega)]; ((repeat refine E.SubEnv.cons rfl ?_); exact E.SubEnv.nil _), by exact E.Ent.of E.entA⟩
            | exact ⟨by rw [decide_eq_false (p := condD2 vz j) (by unfold condD2; omega)]; ((repeat refine E.SubEnv.cons rfl ?_); exact E.SubEnv.nil _), by exact E.Ent.of E.entA⟩
        rintro L1 ρ1 M1 ⟨hs, he⟩
        refine E.Run.sub hs (E.Run.ent he ?_)
        clear hs he
        (repeat refine E.Run.seq ?_); refine E.Run.condD rfl (fun h32 => ?_) (fun h32 => ?_)
        · have hcj : condJ vz j := (cond_iff vz j).1 h32
          have hx : lnx[j] ∈ goesV at' i (rowE vat) := (hgc lnx[j]).2 ⟨j, hj', rfl, hcj⟩
          have hto := hgo _ _ hx
          have hsr := hsrc _ hx
          obtain ⟨q, hq⟩ := Int.eq_ofNat_of_zero_le hto.1
          rw [hq] at hel hsr hto
          have hrl2 := hinv2.rl
          have hq2 : q < rows2.length := by omega
          obtain ⟨a1, a2, a3, a4, a5⟩ := hinv2.lead hq2 hesL hesn hsr
          (repeat refine E.Run.seq ?_)
          refine E.Run.region ?_
          refine E.Ops.q _ (E.q_move rfl rfl) rfl rfl ?_
          refine E.Ops.q _ (E.q_move rfl rfl) rfl rfl ?_
          refine E.Ops.q _ (E.q_move rfl rfl) rfl rfl ?_
          first | refine E.Ops.q _ (E.q_indexNat rfl rfl rfl so_23 (by first | assumption | omega)) rfl rfl ?_ | refine E.Ops.q _ (E.q_indexAddr rfl rfl rfl so_23 (by omega) (by omega)) rfl rfl ?_
          refine E.Ops.q _ (E.q_load rfl rfl (by exact E.LoadAt.arr E.ixA sc_3 hel)) rfl rfl ?_
          refine E.Ops.q _ (E.q_move rfl rfl) rfl rfl ?_
          refine E.Ops.loud rfl rfl ?_
          refine E.l_call Try.func97 nm_97 nb_97 rfl ?_; refine rLead b1_5 g1_3 gA AC (code.length + 1) R ge c18_8 m2 gs2 rows2 q es hinv2.tab.lg hinv2.rl hinv2.rr hesL (by omega) hR.2 (by omega) (fun m3 g hq3 hg hA hB => ?_)
          refine E.Ops.nil ?_
          try simp only [E.tn, E.tx, E.tr, E.bn, E.br, E.bs]
          subst hg
          refine ⟨gs2.set q true, rows2.set q (rows2[q].1, meetR rows2[q].2 es), m3, ⟨a1, hup.trans a2, fun j' h hjj hcj' => ?_, fun h => ?_, ?_, fun h h' => ?_⟩, by ((repeat refine E.SubEnv.cons rfl ?_); exact E.SubEnv.nil _), by
            rw [set_rowV rows2 hq2]
            exact E.Ent.of E.entA⟩
          · by_cases e : j' = j
            · subst e; rw [hq]; exact a3
            · exact (hled j' h (by omega) hcj').trans (a2 _)
          · obtain ⟨h1, h2⟩ := hA h
            obtain ⟨h3, h4⟩ := a5 h2
            obtain ⟨h5, h6, h7⟩ := hm2f h1
            exact ⟨h5, h3.trans h6, h4.trans h7⟩
          · by_cases hsame : gs2[q]? = some true ∧ meetR rows2[q].2 es = rows2[q].2
            · obtain ⟨h3, h4⟩ := a5 hsame
              rw [h3, h4]; exact hp21
            · have := a4 hsame; omega
          · by_cases hm2 : m2 = false
            · have := a4 (hB hm2 h')
              omega
            · have h8 : m2 = true := by simpa using hm2
              have := hp22 h h8
              by_cases hsame : gs2[q]? = some true ∧ meetR rows2[q].2 es = rows2[q].2
              · obtain ⟨h3, h4⟩ := a5 hsame
                rw [h3, h4]; exact this
              · have := a4 hsame; omega
        · have hcj : ¬ condJ vz j := fun h => h32 ((cond_iff vz j).2 h)
          refine E.Run.skip ?_
          try simp only [E.tn, E.tx, E.tr, E.bn, E.br, E.bs]
          refine ⟨gs2, rows2, m2, ⟨hinv2, hup, fun j' h hjj hcj' => ?_, hm2f, hp21, hp22⟩, by ((repeat refine E.SubEnv.cons rfl ?_); exact E.SubEnv.nil _), by exact E.Ent.of E.entA⟩
          by_cases e : j' = j
          · subst e; exact absurd hcj' hcj
          · exact hled j' h (by omega) hcj'
      rintro L1 ρ1 M1 ⟨gs3, rows3, m3, ⟨z1, z2, z3, z4, z5, z6⟩, hs, he⟩
      refine E.Run.sub hs (E.Run.ent he ?_)
      clear hs he
      (repeat refine E.Run.seq ?_)
      refine E.Run.region ?_
      refine E.Ops.q _ (E.q_move rfl rfl) rfl rfl ?_
      first | refine E.Ops.q _ (E.q_incr rfl rfl (by omega)) rfl rfl ?_ | refine E.Ops.q _ (E.q_addFit rfl rfl rfl (by omega)) rfl rfl ?_ | refine E.Ops.q _ (E.q_add rfl rfl rfl) rfl rfl ?_
      refine E.Ops.q _ (E.q_mv rfl rfl) rfl rfl ?_
      refine E.Ops.nil ?_
      try simp only [E.tn, E.tx, E.tr, E.bn, E.br, E.bs]
      exact ⟨(j + 1, gs3, rows3, m3), ⟨by simp only; omega, z1, z2, z3, z4, z5, z6⟩, by simp only; omega, by ((repeat refine E.SubEnv.cons rfl ?_); exact E.SubEnv.nil _), by exact E.Ent.of E.entA⟩
    rintro L1 ρ1 M1 ⟨gs', rows', m', ⟨w1, w2, w3, w4⟩, hs, he⟩
    refine E.Run.sub hs (E.Run.ent he ?_)
    clear hs he
    (repeat refine E.Run.seq ?_)
    refine E.Run.region ?_
    refine E.Ops.q _ (E.q_move rfl rfl) rfl rfl ?_
    first | refine E.Ops.q _ (E.q_incr rfl rfl (by omega)) rfl rfl ?_ | refine E.Ops.q _ (E.q_addFit rfl rfl rfl (by omega)) rfl rfl ?_ | refine E.Ops.q _ (E.q_add rfl rfl rfl) rfl rfl ?_
    refine E.Ops.q _ (E.q_mv rfl rfl) rfl rfl ?_
    refine E.Ops.nil ?_
    try simp only [E.tn, E.tx, E.tr, E.bn, E.br, E.bs]
    exact ⟨(at' + 1, gs', rows', m'), ⟨by simp only; omega, w1, w2, w3, w4⟩, by simp only; omega, by ((repeat refine E.SubEnv.cons rfl ?_); exact E.SubEnv.nil _), by exact E.Ent.of E.entA⟩
  rintro L1 ρ1 M1 ⟨gs, rows, ⟨hinv, hcl⟩, hs, he⟩
  refine E.Run.sub hs (E.Run.ent he ?_)
  clear hs he
  refine E.Run.freeze fun ρ2 hle2 hfr2 => ?_
  refine E.Run.freeze fun ρ3 hle3 hfr3 => ?_
  refine E.Run.freeze fun ρ4 hle4 hfr4 => ?_
  refine E.Run.freeze fun ρ5 hle5 hfr5 => ?_
  have hlook : LookR ρ5 b1_5 code.length R gs rows := ⟨⟨g1_3, gA, AC, fun j u hu => E.cellOf_mono ((hle3.trans (hle4.trans hle5)).blk) (E.pt_frozen hfr2 j u (by
      match j, hu with
      | 0, hu => exact hu
      | 1, hu => exact hu)), (E.arr_frozen (enc := E.encB) (fun _ => rfl) hfr3 hinv.tab.lg.symm).mono (hle4.trans hle5).blk, (E.arr_frozen (enc := enc1) (fun _ => rfl) hfr4 (by rw [List.length_map]; exact hinv.rl.symm)).mono hle5.blk⟩,
    fun x hx => E.arr_frozen (enc := encV) encV_len (bag_frozen hfr5 (rowL R x) (List.mem_map.2 ⟨x, hx, rfl⟩)) (hinv.rr x hx).symm⟩
  have hleast : LeastS R code (absR gs rows) := ⟨fun k V h => hinv.tab.nrmE h, hinv.zero, hcl, hinv.low⟩
  (repeat refine E.Run.seq ?_)
  refine E.Run.region ?_
  refine E.Ops.q _ (E.q_move rfl rfl) rfl rfl ?_
  refine E.Ops.q _ (E.q_mv rfl rfl) rfl rfl ?_
  refine E.Ops.nil ?_
  try simp only [E.tn, E.tx, E.tr, E.bn, E.br, E.bs]
  refine E.Run.ret ?_
  try simp only [E.tn, E.tx, E.tr, E.bn, E.br, E.bs]
  exact ⟨_, _, _, E.ResOk.one rfl rfl, E.Ent.of E.entA, hK ρ5 b1_5 gs rows (hle2.trans (hle3.trans (hle4.trans hle5))) hlook hinv.tab hleast⟩
theorem rLookAt' {ρ : E.Ro} {M : List E.Asr} {K : Value → E.Ro → List E.Asr → Prop} (cA : Option Addr) (cc : Nat) (code : List E.Ins) (R : Nat) (r : Int) (hr : r = R) (hR : 1 ≤ R ∧ R ≤ 200) (hcode : E.RdF ρ.blk E.encIns 4 cA code) (hsz : code.length ≤ 400) (hok : CodeOk R code) (hop : ∀ i ∈ code, 1 ≤ i.op)
    (hK : ∀ ρ' bl gs rows, E.Ro.le ρ ρ' → LookR ρ' bl code.length R gs rows → TabOk R code.length gs (rows.map (·.2)) → LeastS R code (abs gs (rows.map (·.2))) → K (.pointer (some ⟨bl, 0, none⟩)) ρ' M) :
    E.Hoa Try.prog 54 #[.slice cA code.length cc, .int .i64 r] ρ M K := by
  subst hr; exact rLookAt cA cc code R hR hcode hsz hok hop hK
end Go.Proofs.Ythpgjbdacknkgaa
