/- sluiceref1.Ints, Same, of equals; walked. No statement of the seat in it. -/
import Derived.Test.YthpgjbdacknkgaaQ2
set_option linter.unusedVariables false
set_option linter.unusedSimpArgs false
namespace Go.Proofs.Ythpgjbdacknkgaa
open Go
private theorem ag_44 : E.isAggOf Try.prog 44 4 = true := by kernel_rfl
private theorem fo_25_0 : E.fieldOff Try.prog 25 0 = some 0 := by kernel_rfl
private theorem fo_25_1 : E.fieldOff Try.prog 25 1 = some 1 := by kernel_rfl
private theorem fo_25_2 : E.fieldOff Try.prog 25 2 = some 2 := by kernel_rfl
private theorem fo_25_3 : E.fieldOff Try.prog 25 3 = some 3 := by kernel_rfl
private theorem fo_44_0 : E.fieldOff Try.prog 44 0 = some 0 := by kernel_rfl
private theorem fo_44_1 : E.fieldOff Try.prog 44 1 = some 1 := by kernel_rfl
private theorem fo_44_2 : E.fieldOff Try.prog 44 2 = some 2 := by kernel_rfl
private theorem fo_44_3 : E.fieldOff Try.prog 44 3 = some 3 := by kernel_rfl
private theorem nb_39 : Try.f39.body.isNone = false := by kernel_rfl
private theorem nm_39 : (Try.f39.name == "runtime.NumGoroutine") = false := by kernel_rfl
private theorem sc_22 : E.isScal Try.prog 22 = true := by kernel_rfl
private theorem sc_23 : E.isScal Try.prog 23 = true := by kernel_rfl
private theorem sc_3 : E.isScal Try.prog 3 = true := by kernel_rfl
private theorem sc_45 : E.isScal Try.prog 45 = true := by kernel_rfl
private theorem so_22 : E.sliceOf Try.prog 22 = some (45, 1) := by kernel_rfl
private theorem so_23 : E.sliceOf Try.prog 23 = some (3, 1) := by kernel_rfl
private theorem so_45 : E.sliceOf Try.prog 45 = some (44, 4) := by kernel_rfl
private theorem sz_44 : (Try.prog.info? 44).map (·.size) = some 4 := by kernel_rfl
private theorem ty_44 : E.tyOf Try.prog 44 = some (some (.agg #[.int .i64 0, .int .i64 0, .int .i64 0, .int .i64 0]), 4, 32) := by kernel_rfl

set_option maxRecDepth 100000 in
theorem rInts {ρ : E.Ro} {M : List E.Asr} {K : Value → E.Ro → List E.Asr → Prop} (A B : Option Addr) (c d : Nat) (ws : List Int) (hA : E.RdF ρ.blk E.encI 1 A ws) (hB : E.RdF ρ.blk E.encI 1 B ws) (hs : ws.length ≤ 4398046511104) (hK : K (.bool true) ρ M) :
    E.Hoa Try.prog 39 #[.slice A ws.length c, .slice B ws.length d] ρ M K := by
  refine E.Hoa.enter 26 Try.func39 rfl rfl rfl ?_
  (repeat refine E.Run.seq ?_)
  refine E.Run.region ?_
  refine E.Ops.q _ (E.q_mv rfl rfl) rfl rfl ?_
  refine E.Ops.nil ?_
  try simp only [E.tn, E.tx, E.tr, E.bn, E.br, E.bs]
  refine E.Run.seqCut (fun L' ρ' M' => E.SubEnv [(0, .slice A ws.length c), (1, .slice B ws.length d)] L' ∧ E.Ent ρ' M' ρ M) ?_ ?_
  · (repeat refine E.Run.seq ?_)
    refine E.Run.region ?_
    refine E.Ops.q _ (E.q_move rfl rfl) rfl rfl ?_
    refine E.Ops.q _ (E.q_lenSlice rfl Try.underlying23) rfl rfl ?_
    refine E.Ops.q _ (E.q_move rfl rfl) rfl rfl ?_
    refine E.Ops.q _ (E.q_lenSlice rfl Try.underlying23) rfl rfl ?_
    refine E.Ops.q _ ((E.q_neq rfl rfl rfl).isF (by simp)) rfl rfl ?_
    refine E.Ops.nil ?_
    try simp only [E.tn, E.tx, E.tr, E.bn, E.br, E.bs]
    (repeat refine E.Run.seq ?_); refine E.Run.condF rfl ?_
    refine E.Run.skip ?_
    try simp only [E.tn, E.tx, E.tr, E.bn, E.br, E.bs]
    exact ⟨by ((repeat refine E.SubEnv.cons rfl ?_); exact E.SubEnv.nil _), by exact E.Ent.of E.entA⟩
  rintro L1 ρ1 M1 ⟨hs', he⟩
  refine E.Run.sub hs' (E.Run.ent he ?_)
  clear hs' he
  refine E.Run.seqCut (fun L' ρ' M' => E.SubEnv [] L' ∧ E.Ent ρ' M' ρ M) ?_ ?_
  · (repeat refine E.Run.seq ?_)
    refine E.Run.region ?_
    refine E.Ops.q _ (E.q_mv rfl rfl) rfl rfl ?_
    refine E.Ops.nil ?_
    try simp only [E.tn, E.tx, E.tr, E.bn, E.br, E.bs]
    (repeat refine E.Run.seq ?_); refine E.Run.block ?_
    (repeat refine E.Run.seq ?_); refine E.Run.loopS (fun (j : Nat) => [(0, .slice A ws.length c), (1, .slice B ws.length d), (5, .int .i64 j)]) ρ (fun j => M) (fun j => j ≤ ws.length) (fun j => ws.length - j) 0 (Nat.zero_le _) (by ((repeat refine E.SubEnv.cons rfl ?_); exact E.SubEnv.nil _)) (by exact E.Ent.of E.entA) ?_
    intro j hj
    refine E.Run.seqCut (fun L' ρ' M' => j < ws.length ∧ E.SubEnv [(0, .slice A ws.length c), (1, .slice B ws.length d), (5, .int .i64 j)] L' ∧ E.Ent ρ' M' ρ M) ?_ ?_
    · (repeat refine E.Run.seq ?_)
      refine E.Run.region ?_
      refine E.Ops.q _ (E.q_move rfl rfl) rfl rfl ?_
      refine E.Ops.q _ (E.q_move rfl rfl) rfl rfl ?_
      refine E.Ops.q _ (E.q_lenSlice rfl Try.underlying23) rfl rfl ?_
      refine E.Ops.q _ (E.q_lss rfl rfl rfl) rfl rfl ?_
      refine E.Ops.nil ?_
      try simp only [E.tn, E.tx, E.tr, E.bn, E.br, E.bs]
      (repeat refine E.Run.seq ?_); refine E.Run.condD rfl (fun h4 => ?_) (fun h4 => ?_)
      · refine E.Run.skip ?_
        try simp only [E.tn, E.tx, E.tr, E.bn, E.br, E.bs]
        exact ⟨by omega, by ((repeat refine E.SubEnv.cons rfl ?_); exact E.SubEnv.nil _), by exact E.Ent.of E.entA⟩
      · refine E.Run.exit ?_
        try simp only [E.tn, E.tx, E.tr, E.bn, E.br, E.bs]
        exact ⟨by ((repeat refine E.SubEnv.cons rfl ?_); exact E.SubEnv.nil _), by exact E.Ent.of E.entA⟩
    rintro L1 ρ1 M1 ⟨hj', hs', he⟩
    refine E.Run.sub hs' (E.Run.ent he ?_)
    clear hs' he
    obtain ⟨ada, rfl, _, hca⟩ := hA.at hj'
    obtain ⟨adb, rfl, _, hcb⟩ := hB.at hj'
    have hca0 : E.cellOf ρ.blk (ada.add (j * 1)) = some (.int .i64 ws[j]) := hca 0 _ rfl
    have hcb0 : E.cellOf ρ.blk (adb.add (j * 1)) = some (.int .i64 ws[j]) := hcb 0 _ rfl
    (repeat refine E.Run.seq ?_); refine E.Run.block ?_
    (repeat refine E.Run.seq ?_)
    refine E.Run.draw (.ph [0, 1, 2, 3, 4, 5, 6, 7, 8] (.nil)) _ _ Try.mixed (by kernel_rfl) (E.Ent.nil _ _) ?_
    refine E.Plan.ph (by exact E.Ent.of E.entA) ?_
    refine E.PlanQ.q _ rfl _ (E.q_move rfl rfl) rfl rfl ?_
    refine E.PlanQ.q _ rfl _ (E.q_move rfl rfl) rfl rfl ?_
    first | refine E.PlanQ.q _ rfl _ (E.q_indexNat rfl rfl rfl so_23 (by first | assumption | omega)) rfl rfl ?_ | refine E.PlanQ.q _ rfl _ (E.q_indexAddr rfl rfl rfl so_23 (by omega) (by omega)) rfl rfl ?_
    refine E.PlanQ.q _ rfl _ (E.q_load rfl rfl (by exact E.LoadAt.ro sc_3 hca0)) rfl rfl ?_
    refine E.PlanQ.q _ rfl _ (E.q_move rfl rfl) rfl rfl ?_
    refine E.PlanQ.q _ rfl _ (E.q_move rfl rfl) rfl rfl ?_
    first | refine E.PlanQ.q _ rfl _ (E.q_indexNat rfl rfl rfl so_23 (by first | assumption | omega)) rfl rfl ?_ | refine E.PlanQ.q _ rfl _ (E.q_indexAddr rfl rfl rfl so_23 (by omega) (by omega)) rfl rfl ?_
    refine E.PlanQ.q _ rfl _ (E.q_load rfl rfl (by exact E.LoadAt.ro sc_3 hcb0)) rfl rfl ?_
    refine E.PlanQ.q _ rfl _ ((E.q_neq rfl rfl rfl).isF (by simp)) rfl rfl ?_
    refine E.PlanQ.nil ?_
    refine E.Plan.nil ?_
    try simp only [E.tn, E.tx, E.tr, E.bn, E.br, E.bs]
    (repeat refine E.Run.seq ?_); refine E.Run.condF rfl ?_
    refine E.Run.skip ?_
    try simp only [E.tn, E.tx, E.tr, E.bn, E.br, E.bs]
    (repeat refine E.Run.seq ?_)
    refine E.Run.region ?_
    refine E.Ops.q _ (E.q_move rfl rfl) rfl rfl ?_
    first | refine E.Ops.q _ (E.q_incr rfl rfl (by omega)) rfl rfl ?_ | refine E.Ops.q _ (E.q_addFit rfl rfl rfl (by omega)) rfl rfl ?_ | refine E.Ops.q _ (E.q_add rfl rfl rfl) rfl rfl ?_
    refine E.Ops.q _ (E.q_mv rfl rfl) rfl rfl ?_
    refine E.Ops.nil ?_
    try simp only [E.tn, E.tx, E.tr, E.bn, E.br, E.bs]
    exact ⟨j + 1, by omega, by omega, by ((repeat refine E.SubEnv.cons rfl ?_); exact E.SubEnv.nil _), by exact E.Ent.of E.entA⟩
  rintro L1 ρ1 M1 ⟨hs', he⟩
  refine E.Run.sub hs' (E.Run.ent he ?_)
  clear hs' he
  (repeat refine E.Run.seq ?_)
  refine E.Run.region ?_
  refine E.Ops.q _ (E.q_mv rfl rfl) rfl rfl ?_
  refine E.Ops.nil ?_
  try simp only [E.tn, E.tx, E.tr, E.bn, E.br, E.bs]
  refine E.Run.ret ?_
  try simp only [E.tn, E.tx, E.tr, E.bn, E.br, E.bs]
  exact ⟨_, _, _, E.ResOk.one rfl rfl, E.Ent.of E.entA, hK⟩

set_option maxRecDepth 100000 in
theorem rSame {ρ : E.Ro} {M : List E.Asr} {K : Value → E.Ro → List E.Asr → Prop} (A A' B B' : Option Addr) (c c' d d' : Nat) (p : Prg) (hA : PrgAt ρ A A' p) (hB : PrgAt ρ B B' p) (hK : K (.bool true) ρ M) :
    E.Hoa Try.prog 19 #[prgV A c A' c' p, prgV B d B' d' p] ρ M K := by
  have hsm := hA.small
  have hsms := hA.smalls
  refine E.Hoa.enter 112 Try.func19 rfl rfl rfl ?_
  (repeat refine E.Run.seq ?_)
  refine E.Run.region ?_
  refine E.Ops.loud rfl rfl ?_
  refine E.l_box rfl rfl (fun b0_0 => ?_)
  refine E.Ops.loud rfl rfl ?_
  refine E.l_box rfl rfl (fun b0_1 => ?_)
  refine E.Ops.q _ (E.q_mv rfl rfl) rfl rfl ?_
  refine E.Ops.nil ?_
  try simp only [E.tn, E.tx, E.tr, E.bn, E.br, E.bs]
  (repeat refine E.Run.seq ?_)
  refine E.Run.region ?_
  first | refine E.Ops.q _ (E.q_fieldAddr' rfl rfl fo_25_1) rfl rfl ?_ | refine E.Ops.q _ (E.q_fieldAddr rfl rfl fo_25_1) rfl rfl ?_
  refine E.Ops.q _ (E.q_load rfl rfl (by first | refine E.LoadAt.own E.ixA sc_23 (by rfl) | exact E.LoadAt.ro sc_23 (by assumption) | exact E.LoadAt.arr E.ixA sc_23 (by assumption))) rfl rfl ?_
  first | refine E.Ops.q _ (E.q_fieldAddr' rfl rfl fo_25_1) rfl rfl ?_ | refine E.Ops.q _ (E.q_fieldAddr rfl rfl fo_25_1) rfl rfl ?_
  refine E.Ops.q _ (E.q_load rfl rfl (by first | refine E.LoadAt.own E.ixA sc_23 (by rfl) | exact E.LoadAt.ro sc_23 (by assumption) | exact E.LoadAt.arr E.ixA sc_23 (by assumption))) rfl rfl ?_
  refine E.Ops.loud rfl rfl ?_
  refine E.l_call Try.func39 nm_39 nb_39 rfl ?_; refine rInts A' B' c' d' p.words hA.words hB.words hA.smallW ?_
  refine E.Ops.q _ (E.q_mv rfl rfl) rfl rfl ?_
  refine E.Ops.nil ?_
  try simp only [E.tn, E.tx, E.tr, E.bn, E.br, E.bs]
  refine E.Run.seqCut (fun L' ρ' M' => E.SubEnv [(2, .pointer (some ⟨b0_0, 0, none⟩)), (3, .pointer (some ⟨b0_1, 0, none⟩))] L' ∧ E.Ent ρ' M' ρ (E.pt b0_0 25 [.slice A p.code.length c, .slice A' p.words.length c', .int .i64 p.locks, .int .i64 p.regs] :: E.pt b0_1 25 [.slice B p.code.length d, .slice B' p.words.length d', .int .i64 p.locks, .int .i64 p.regs] :: M)) ?_ ?_
  · (repeat refine E.Run.seq ?_)
    refine E.Run.region ?_
    refine E.Ops.q _ (E.q_move rfl rfl) rfl rfl ?_
    refine E.Ops.q _ (E.q_not rfl rfl) rfl rfl ?_
    refine E.Ops.q _ (E.q_move rfl rfl) rfl rfl ?_
    first | refine E.Ops.q _ (E.q_fieldAddr' rfl rfl fo_25_2) rfl rfl ?_ | refine E.Ops.q _ (E.q_fieldAddr rfl rfl fo_25_2) rfl rfl ?_
    refine E.Ops.q _ (E.q_load rfl rfl (by first | refine E.LoadAt.own E.ixA sc_3 (by rfl) | exact E.LoadAt.ro sc_3 (by assumption) | exact E.LoadAt.arr E.ixA sc_3 (by assumption))) rfl rfl ?_
    first | refine E.Ops.q _ (E.q_fieldAddr' rfl rfl fo_25_2) rfl rfl ?_ | refine E.Ops.q _ (E.q_fieldAddr rfl rfl fo_25_2) rfl rfl ?_
    refine E.Ops.q _ (E.q_load rfl rfl (by first | refine E.LoadAt.own E.ixA sc_3 (by rfl) | exact E.LoadAt.ro sc_3 (by assumption) | exact E.LoadAt.arr E.ixA sc_3 (by assumption))) rfl rfl ?_
    refine E.Ops.q _ ((E.q_neq rfl rfl rfl).isF (by simp)) rfl rfl ?_
    refine E.Ops.q _ (E.q_pickF rfl rfl rfl) rfl rfl ?_
    refine E.Ops.q _ (E.q_move rfl rfl) rfl rfl ?_
    first | refine E.Ops.q _ (E.q_fieldAddr' rfl rfl fo_25_3) rfl rfl ?_ | refine E.Ops.q _ (E.q_fieldAddr rfl rfl fo_25_3) rfl rfl ?_
    refine E.Ops.q _ (E.q_load rfl rfl (by first | refine E.LoadAt.own E.ixA sc_3 (by rfl) | exact E.LoadAt.ro sc_3 (by assumption) | exact E.LoadAt.arr E.ixA sc_3 (by assumption))) rfl rfl ?_
    first | refine E.Ops.q _ (E.q_fieldAddr' rfl rfl fo_25_3) rfl rfl ?_ | refine E.Ops.q _ (E.q_fieldAddr rfl rfl fo_25_3) rfl rfl ?_
    refine E.Ops.q _ (E.q_load rfl rfl (by first | refine E.LoadAt.own E.ixA sc_3 (by rfl) | exact E.LoadAt.ro sc_3 (by assumption) | exact E.LoadAt.arr E.ixA sc_3 (by assumption))) rfl rfl ?_
    refine E.Ops.q _ ((E.q_neq rfl rfl rfl).isF (by simp)) rfl rfl ?_
    refine E.Ops.q _ (E.q_pickF rfl rfl rfl) rfl rfl ?_
    refine E.Ops.q _ (E.q_move rfl rfl) rfl rfl ?_
    first | refine E.Ops.q _ (E.q_fieldAddr' rfl rfl fo_25_0) rfl rfl ?_ | refine E.Ops.q _ (E.q_fieldAddr rfl rfl fo_25_0) rfl rfl ?_
    refine E.Ops.q _ (E.q_load rfl rfl (by first | refine E.LoadAt.own E.ixA sc_22 (by rfl) | exact E.LoadAt.ro sc_22 (by assumption) | exact E.LoadAt.arr E.ixA sc_22 (by assumption))) rfl rfl ?_
    refine E.Ops.q _ (E.q_lenSlice rfl Try.underlying22) rfl rfl ?_
    first | refine E.Ops.q _ (E.q_fieldAddr' rfl rfl fo_25_0) rfl rfl ?_ | refine E.Ops.q _ (E.q_fieldAddr rfl rfl fo_25_0) rfl rfl ?_
    refine E.Ops.q _ (E.q_load rfl rfl (by first | refine E.LoadAt.own E.ixA sc_22 (by rfl) | exact E.LoadAt.ro sc_22 (by assumption) | exact E.LoadAt.arr E.ixA sc_22 (by assumption))) rfl rfl ?_
    refine E.Ops.q _ (E.q_lenSlice rfl Try.underlying22) rfl rfl ?_
    refine E.Ops.q _ ((E.q_neq rfl rfl rfl).isF (by simp)) rfl rfl ?_
    refine E.Ops.q _ (E.q_pickF rfl rfl rfl) rfl rfl ?_
    refine E.Ops.nil ?_
    try simp only [E.tn, E.tx, E.tr, E.bn, E.br, E.bs]
    (repeat refine E.Run.seq ?_); refine E.Run.condF rfl ?_
    refine E.Run.skip ?_
    try simp only [E.tn, E.tx, E.tr, E.bn, E.br, E.bs]
    exact ⟨by ((repeat refine E.SubEnv.cons rfl ?_); exact E.SubEnv.nil _), by exact E.Ent.of E.entA⟩
  rintro L1 ρ1 M1 ⟨hs', he⟩
  refine E.Run.sub hs' (E.Run.ent he ?_)
  clear hs' he
  refine E.Run.seqCut (fun L' ρ' M' => E.SubEnv [] L' ∧ E.Ent ρ' M' ρ M) ?_ ?_
  · (repeat refine E.Run.seq ?_)
    refine E.Run.region ?_
    refine E.Ops.q _ (E.q_mv rfl rfl) rfl rfl ?_
    refine E.Ops.nil ?_
    try simp only [E.tn, E.tx, E.tr, E.bn, E.br, E.bs]
    (repeat refine E.Run.seq ?_); refine E.Run.block ?_
    (repeat refine E.Run.seq ?_); refine E.Run.loopS (fun (t : Nat) => [(2, .pointer (some ⟨b0_0, 0, none⟩)), (3, .pointer (some ⟨b0_1, 0, none⟩)), (6, .int .i64 t)]) ρ (fun t => E.pt b0_0 25 [.slice A p.code.length c, .slice A' p.words.length c', .int .i64 p.locks, .int .i64 p.regs] :: E.pt b0_1 25 [.slice B p.code.length d, .slice B' p.words.length d', .int .i64 p.locks, .int .i64 p.regs] :: M) (fun t => t ≤ p.code.length) (fun t => p.code.length - t) 0 (Nat.zero_le _) (by ((repeat refine E.SubEnv.cons rfl ?_); exact E.SubEnv.nil _)) (by exact E.Ent.of E.entA) ?_
    intro t ht
    refine E.Run.seqCut (fun L' ρ' M' => t < p.code.length ∧ E.SubEnv [(2, .pointer (some ⟨b0_0, 0, none⟩)), (3, .pointer (some ⟨b0_1, 0, none⟩)), (6, .int .i64 t)] L' ∧ E.Ent ρ' M' ρ (E.pt b0_0 25 [.slice A p.code.length c, .slice A' p.words.length c', .int .i64 p.locks, .int .i64 p.regs] :: E.pt b0_1 25 [.slice B p.code.length d, .slice B' p.words.length d', .int .i64 p.locks, .int .i64 p.regs] :: M)) ?_ ?_
    · (repeat refine E.Run.seq ?_)
      refine E.Run.region ?_
      refine E.Ops.q _ (E.q_move rfl rfl) rfl rfl ?_
      first | refine E.Ops.q _ (E.q_fieldAddr' rfl rfl fo_25_0) rfl rfl ?_ | refine E.Ops.q _ (E.q_fieldAddr rfl rfl fo_25_0) rfl rfl ?_
      refine E.Ops.q _ (E.q_load rfl rfl (by first | refine E.LoadAt.own E.ixA sc_22 (by rfl) | exact E.LoadAt.ro sc_22 (by assumption) | exact E.LoadAt.arr E.ixA sc_22 (by assumption))) rfl rfl ?_
      refine E.Ops.q _ (E.q_lenSlice rfl Try.underlying22) rfl rfl ?_
      refine E.Ops.q _ (E.q_lss rfl rfl rfl) rfl rfl ?_
      refine E.Ops.nil ?_
      try simp only [E.tn, E.tx, E.tr, E.bn, E.br, E.bs]
      (repeat refine E.Run.seq ?_); refine E.Run.condD rfl (fun h4 => ?_) (fun h4 => ?_)
      · refine E.Run.skip ?_
        try simp only [E.tn, E.tx, E.tr, E.bn, E.br, E.bs]
        exact ⟨by omega, by ((repeat refine E.SubEnv.cons rfl ?_); exact E.SubEnv.nil _), by exact E.Ent.of E.entA⟩
      · refine E.Run.exit ?_
        try simp only [E.tn, E.tx, E.tr, E.bn, E.br, E.bs]
        exact ⟨by ((repeat refine E.SubEnv.cons rfl ?_); exact E.SubEnv.nil _), by exact E.Ent.of E.entA⟩
    rintro L1 ρ1 M1 ⟨ht', hs', he⟩
    refine E.Run.sub hs' (E.Run.ent he ?_)
    clear hs' he
    obtain ⟨ada, rfl, Aa, ca, hca, hra⟩ := hA.thread ht'
    obtain ⟨adb, rfl, Ab, cb, hcb, hrb⟩ := hB.thread ht'
    have hst := hsms _ (List.getElem_mem ht')
    refine E.Run.seqCut (fun L' ρ' M' => E.SubEnv [(2, .pointer (some ⟨b0_0, 0, none⟩)), (3, .pointer (some ⟨b0_1, 0, none⟩)), (6, .int .i64 t)] L' ∧ E.Ent ρ' M' ρ (E.pt b0_0 25 [.slice (some ada) p.code.length c, .slice A' p.words.length c', .int .i64 p.locks, .int .i64 p.regs] :: E.pt b0_1 25 [.slice (some adb) p.code.length d, .slice B' p.words.length d', .int .i64 p.locks, .int .i64 p.regs] :: M)) ?_ ?_
    · (repeat refine E.Run.seq ?_); refine E.Run.block ?_
      refine E.Run.seqCut (fun L' ρ' M' => E.SubEnv [(2, .pointer (some ⟨b0_0, 0, none⟩)), (3, .pointer (some ⟨b0_1, 0, none⟩)), (6, .int .i64 t)] L' ∧ E.Ent ρ' M' ρ (E.pt b0_0 25 [.slice (some ada) p.code.length c, .slice A' p.words.length c', .int .i64 p.locks, .int .i64 p.regs] :: E.pt b0_1 25 [.slice (some adb) p.code.length d, .slice B' p.words.length d', .int .i64 p.locks, .int .i64 p.regs] :: M)) ?_ ?_
      · (repeat refine E.Run.seq ?_)
        refine E.Run.draw (.ph [0, 1, 2, 3, 4, 5, 6, 7, 8, 9, 10, 11, 12] (.nil)) _ _ Try.mixed (by kernel_rfl) (E.Ent.nil _ _) ?_
        refine E.Plan.ph (by exact E.Ent.of E.entA) ?_
        first | refine E.PlanQ.q _ rfl _ (E.q_fieldAddr' rfl rfl fo_25_0) rfl rfl ?_ | refine E.PlanQ.q _ rfl _ (E.q_fieldAddr rfl rfl fo_25_0) rfl rfl ?_
        refine E.PlanQ.q _ rfl _ (E.q_load rfl rfl (by first | refine E.LoadAt.own E.ixA sc_22 (by rfl) | exact E.LoadAt.ro sc_22 (by assumption) | exact E.LoadAt.arr E.ixA sc_22 (by assumption))) rfl rfl ?_
        refine E.PlanQ.q _ rfl _ (E.q_move rfl rfl) rfl rfl ?_
        first | refine E.PlanQ.q _ rfl _ (E.q_indexNat rfl rfl rfl so_22 (by first | assumption | omega)) rfl rfl ?_ | refine E.PlanQ.q _ rfl _ (E.q_indexAddr rfl rfl rfl so_22 (by omega) (by omega)) rfl rfl ?_
        refine E.PlanQ.q _ rfl _ (E.q_load rfl rfl (by exact E.LoadAt.ro sc_45 hca)) rfl rfl ?_
        refine E.PlanQ.q _ rfl _ (E.q_lenSlice rfl Try.underlying45) rfl rfl ?_
        first | refine E.PlanQ.q _ rfl _ (E.q_fieldAddr' rfl rfl fo_25_0) rfl rfl ?_ | refine E.PlanQ.q _ rfl _ (E.q_fieldAddr rfl rfl fo_25_0) rfl rfl ?_
        refine E.PlanQ.q _ rfl _ (E.q_load rfl rfl (by first | refine E.LoadAt.own E.ixA sc_22 (by rfl) | exact E.LoadAt.ro sc_22 (by assumption) | exact E.LoadAt.arr E.ixA sc_22 (by assumption))) rfl rfl ?_
        refine E.PlanQ.q _ rfl _ (E.q_move rfl rfl) rfl rfl ?_
        first | refine E.PlanQ.q _ rfl _ (E.q_indexNat rfl rfl rfl so_22 (by first | assumption | omega)) rfl rfl ?_ | refine E.PlanQ.q _ rfl _ (E.q_indexAddr rfl rfl rfl so_22 (by omega) (by omega)) rfl rfl ?_
        refine E.PlanQ.q _ rfl _ (E.q_load rfl rfl (by exact E.LoadAt.ro sc_45 hcb)) rfl rfl ?_
        refine E.PlanQ.q _ rfl _ (E.q_lenSlice rfl Try.underlying45) rfl rfl ?_
        refine E.PlanQ.q _ rfl _ ((E.q_neq rfl rfl rfl).isF (by simp)) rfl rfl ?_
        refine E.PlanQ.nil ?_
        refine E.Plan.nil ?_
        try simp only [E.tn, E.tx, E.tr, E.bn, E.br, E.bs]
        (repeat refine E.Run.seq ?_); refine E.Run.condF rfl ?_
        refine E.Run.skip ?_
        try simp only [E.tn, E.tx, E.tr, E.bn, E.br, E.bs]
        exact ⟨by ((repeat refine E.SubEnv.cons rfl ?_); exact E.SubEnv.nil _), by exact E.Ent.of E.entA⟩
      rintro L1 ρ1 M1 ⟨hs', he⟩
      refine E.Run.sub hs' (E.Run.ent he ?_)
      clear hs' he
      (repeat refine E.Run.seq ?_)
      refine E.Run.region ?_
      refine E.Ops.q _ (E.q_mv rfl rfl) rfl rfl ?_
      refine E.Ops.nil ?_
      try simp only [E.tn, E.tx, E.tr, E.bn, E.br, E.bs]
      (repeat refine E.Run.seq ?_); refine E.Run.block ?_
      (repeat refine E.Run.seq ?_); refine E.Run.loopS (fun (i : Nat) => [(2, .pointer (some ⟨b0_0, 0, none⟩)), (3, .pointer (some ⟨b0_1, 0, none⟩)), (6, .int .i64 t), (7, .int .i64 i)]) ρ (fun i => E.pt b0_0 25 [.slice (some ada) p.code.length c, .slice A' p.words.length c', .int .i64 p.locks, .int .i64 p.regs] :: E.pt b0_1 25 [.slice (some adb) p.code.length d, .slice B' p.words.length d', .int .i64 p.locks, .int .i64 p.regs] :: M) (fun i => i ≤ p.code[t].length) (fun i => p.code[t].length - i) 0 (Nat.zero_le _) (by ((repeat refine E.SubEnv.cons rfl ?_); exact E.SubEnv.nil _)) (by exact E.Ent.of E.entA) ?_
      intro i hi
      refine E.Run.seqCut (fun L' ρ' M' => i < p.code[t].length ∧ E.SubEnv [(2, .pointer (some ⟨b0_0, 0, none⟩)), (3, .pointer (some ⟨b0_1, 0, none⟩)), (6, .int .i64 t), (7, .int .i64 i)] L' ∧ E.Ent ρ' M' ρ (E.pt b0_0 25 [.slice (some ada) p.code.length c, .slice A' p.words.length c', .int .i64 p.locks, .int .i64 p.regs] :: E.pt b0_1 25 [.slice (some adb) p.code.length d, .slice B' p.words.length d', .int .i64 p.locks, .int .i64 p.regs] :: M)) ?_ ?_
      · (repeat refine E.Run.seq ?_)
        refine E.Run.region ?_
        refine E.Ops.q _ (E.q_move rfl rfl) rfl rfl ?_
        first | refine E.Ops.q _ (E.q_fieldAddr' rfl rfl fo_25_0) rfl rfl ?_ | refine E.Ops.q _ (E.q_fieldAddr rfl rfl fo_25_0) rfl rfl ?_
        refine E.Ops.q _ (E.q_load rfl rfl (by first | refine E.LoadAt.own E.ixA sc_22 (by rfl) | exact E.LoadAt.ro sc_22 (by assumption) | exact E.LoadAt.arr E.ixA sc_22 (by assumption))) rfl rfl ?_
        refine E.Ops.q _ (E.q_move rfl rfl) rfl rfl ?_
        first | refine E.Ops.q _ (E.q_indexNat rfl rfl rfl so_22 (by first | assumption | omega)) rfl rfl ?_ | refine E.Ops.q _ (E.q_indexAddr rfl rfl rfl so_22 (by omega) (by omega)) rfl rfl ?_
        refine E.Ops.q _ (E.q_load rfl rfl (by exact E.LoadAt.ro sc_45 hca)) rfl rfl ?_
        refine E.Ops.q _ (E.q_lenSlice rfl Try.underlying45) rfl rfl ?_
        refine E.Ops.q _ (E.q_lss rfl rfl rfl) rfl rfl ?_
        refine E.Ops.nil ?_
        try simp only [E.tn, E.tx, E.tr, E.bn, E.br, E.bs]
        (repeat refine E.Run.seq ?_); refine E.Run.condD rfl (fun h21 => ?_) (fun h21 => ?_)
        · refine E.Run.skip ?_
          try simp only [E.tn, E.tx, E.tr, E.bn, E.br, E.bs]
          exact ⟨by omega, by ((repeat refine E.SubEnv.cons rfl ?_); exact E.SubEnv.nil _), by exact E.Ent.of E.entA⟩
        · refine E.Run.exit ?_
          try simp only [E.tn, E.tx, E.tr, E.bn, E.br, E.bs]
          exact ⟨by ((repeat refine E.SubEnv.cons rfl ?_); exact E.SubEnv.nil _), by exact E.Ent.of E.entA⟩
      rintro L1 ρ1' M1 ⟨hi', hs', he⟩
      refine E.Run.sub hs' (E.Run.ent he ?_)
      clear hs' he
      obtain ⟨adi, rfl, _, hai⟩ := hra.at hi'
      obtain ⟨adj, rfl, _, haj⟩ := hrb.at hi'
      generalize p.code[t][i] = x at hai haj
      (repeat refine E.Run.seq ?_); refine E.Run.block ?_
      (repeat refine E.Run.seq ?_)
      refine E.Run.region ?_
      first | refine E.Ops.q _ (E.q_fieldAddr' rfl rfl fo_25_0) rfl rfl ?_ | refine E.Ops.q _ (E.q_fieldAddr rfl rfl fo_25_0) rfl rfl ?_
      refine E.Ops.q _ (E.q_load rfl rfl (by first | refine E.LoadAt.own E.ixA sc_22 (by rfl) | exact E.LoadAt.ro sc_22 (by assumption) | exact E.LoadAt.arr E.ixA sc_22 (by assumption))) rfl rfl ?_
      refine E.Ops.q _ (E.q_move rfl rfl) rfl rfl ?_
      first | refine E.Ops.q _ (E.q_indexNat rfl rfl rfl so_22 (by first | assumption | omega)) rfl rfl ?_ | refine E.Ops.q _ (E.q_indexAddr rfl rfl rfl so_22 (by omega) (by omega)) rfl rfl ?_
      refine E.Ops.q _ (E.q_load rfl rfl (by exact E.LoadAt.ro sc_45 hca)) rfl rfl ?_
      refine E.Ops.q _ (E.q_move rfl rfl) rfl rfl ?_
      first | refine E.Ops.q _ (E.q_indexNat rfl rfl rfl so_45 (by first | assumption | omega)) rfl rfl ?_ | refine E.Ops.q _ (E.q_indexAddr rfl rfl rfl so_45 (by omega) (by omega)) rfl rfl ?_
      refine E.Ops.q _ (E.q_load rfl rfl (by exact E.LoadAt.roAgg ag_44 hai rfl)) rfl rfl ?_
      refine E.Ops.loud rfl rfl ?_
      refine E.l_alloc rfl ty_44 (fun b12_8 => ?_)
      refine E.Ops.loud rfl rfl ?_
      refine E.l_store rfl rfl rfl E.ixA 4 sz_44 (by rfl) (by rfl) (by rfl) (by rfl) ?_
      refine E.Ops.nil ?_
      try simp only [E.tn, E.tx, E.tr, E.bn, E.br, E.bs]
      (repeat refine E.Run.seq ?_)
      refine E.Run.region ?_
      first | refine E.Ops.q _ (E.q_fieldAddr' rfl rfl fo_25_0) rfl rfl ?_ | refine E.Ops.q _ (E.q_fieldAddr rfl rfl fo_25_0) rfl rfl ?_
      refine E.Ops.q _ (E.q_load rfl rfl (by first | refine E.LoadAt.own E.ixA sc_22 (by rfl) | exact E.LoadAt.ro sc_22 (by assumption) | exact E.LoadAt.arr E.ixA sc_22 (by assumption))) rfl rfl ?_
      refine E.Ops.q _ (E.q_move rfl rfl) rfl rfl ?_
      first | refine E.Ops.q _ (E.q_indexNat rfl rfl rfl so_22 (by first | assumption | omega)) rfl rfl ?_ | refine E.Ops.q _ (E.q_indexAddr rfl rfl rfl so_22 (by omega) (by omega)) rfl rfl ?_
      refine E.Ops.q _ (E.q_load rfl rfl (by exact E.LoadAt.ro sc_45 hcb)) rfl rfl ?_
      refine E.Ops.q _ (E.q_move rfl rfl) rfl rfl ?_
      first | refine E.Ops.q _ (E.q_indexNat rfl rfl rfl so_45 (by first | assumption | omega)) rfl rfl ?_ | refine E.Ops.q _ (E.q_indexAddr rfl rfl rfl so_45 (by omega) (by omega)) rfl rfl ?_
      refine E.Ops.q _ (E.q_load rfl rfl (by exact E.LoadAt.roAgg ag_44 haj rfl)) rfl rfl ?_
      refine E.Ops.loud rfl rfl ?_
      refine E.l_alloc rfl ty_44 (fun b13_8 => ?_)
      refine E.Ops.loud rfl rfl ?_
      refine E.l_store rfl rfl rfl E.ixA 4 sz_44 (by rfl) (by rfl) (by rfl) (by rfl) ?_
      refine E.Ops.nil ?_
      try simp only [E.tn, E.tx, E.tr, E.bn, E.br, E.bs]
      (repeat refine E.Run.seq ?_)
      refine E.Run.region ?_
      first | refine E.Ops.q _ (E.q_fieldAddr' rfl rfl fo_44_0) rfl rfl ?_ | refine E.Ops.q _ (E.q_fieldAddr rfl rfl fo_44_0) rfl rfl ?_
      refine E.Ops.q _ (E.q_load rfl rfl (by first | refine E.LoadAt.own E.ixA sc_3 (by rfl) | exact E.LoadAt.ro sc_3 (by assumption) | exact E.LoadAt.arr E.ixA sc_3 (by assumption))) rfl rfl ?_
      first | refine E.Ops.q _ (E.q_fieldAddr' rfl rfl fo_44_0) rfl rfl ?_ | refine E.Ops.q _ (E.q_fieldAddr rfl rfl fo_44_0) rfl rfl ?_
      refine E.Ops.q _ (E.q_load rfl rfl (by first | refine E.LoadAt.own E.ixA sc_3 (by rfl) | exact E.LoadAt.ro sc_3 (by assumption) | exact E.LoadAt.arr E.ixA sc_3 (by assumption))) rfl rfl ?_
      refine E.Ops.q _ ((E.q_neq rfl rfl rfl).isF (by simp)) rfl rfl ?_
      refine E.Ops.q _ (E.q_move rfl rfl) rfl rfl ?_
      first | refine E.Ops.q _ (E.q_fieldAddr' rfl rfl fo_44_1) rfl rfl ?_ | refine E.Ops.q _ (E.q_fieldAddr rfl rfl fo_44_1) rfl rfl ?_
      refine E.Ops.q _ (E.q_load rfl rfl (by first | refine E.LoadAt.own E.ixA sc_3 (by rfl) | exact E.LoadAt.ro sc_3 (by assumption) | exact E.LoadAt.arr E.ixA sc_3 (by assumption))) rfl rfl ?_
      first | refine E.Ops.q _ (E.q_fieldAddr' rfl rfl fo_44_1) rfl rfl ?_ | refine E.Ops.q _ (E.q_fieldAddr rfl rfl fo_44_1) rfl rfl ?_
      refine E.Ops.q _ (E.q_load rfl rfl (by first | refine E.LoadAt.own E.ixA sc_3 (by rfl) | exact E.LoadAt.ro sc_3 (by assumption) | exact E.LoadAt.arr E.ixA sc_3 (by assumption))) rfl rfl ?_
      refine E.Ops.q _ ((E.q_neq rfl rfl rfl).isF (by simp)) rfl rfl ?_
      refine E.Ops.q _ (E.q_pickF rfl rfl rfl) rfl rfl ?_
      refine E.Ops.q _ (E.q_move rfl rfl) rfl rfl ?_
      first | refine E.Ops.q _ (E.q_fieldAddr' rfl rfl fo_44_2) rfl rfl ?_ | refine E.Ops.q _ (E.q_fieldAddr rfl rfl fo_44_2) rfl rfl ?_
      refine E.Ops.q _ (E.q_load rfl rfl (by first | refine E.LoadAt.own E.ixA sc_3 (by rfl) | exact E.LoadAt.ro sc_3 (by assumption) | exact E.LoadAt.arr E.ixA sc_3 (by assumption))) rfl rfl ?_
      first | refine E.Ops.q _ (E.q_fieldAddr' rfl rfl fo_44_2) rfl rfl ?_ | refine E.Ops.q _ (E.q_fieldAddr rfl rfl fo_44_2) rfl rfl ?_
      refine E.Ops.q _ (E.q_load rfl rfl (by first | refine E.LoadAt.own E.ixA sc_3 (by rfl) | exact E.LoadAt.ro sc_3 (by assumption) | exact E.LoadAt.arr E.ixA sc_3 (by assumption))) rfl rfl ?_
      refine E.Ops.q _ ((E.q_neq rfl rfl rfl).isF (by simp)) rfl rfl ?_
      refine E.Ops.q _ (E.q_pickF rfl rfl rfl) rfl rfl ?_
      refine E.Ops.q _ (E.q_move rfl rfl) rfl rfl ?_
      first | refine E.Ops.q _ (E.q_fieldAddr' rfl rfl fo_44_3) rfl rfl ?_ | refine E.Ops.q _ (E.q_fieldAddr rfl rfl fo_44_3) rfl rfl ?_
      refine E.Ops.q _ (E.q_load rfl rfl (by first | refine E.LoadAt.own E.ixA sc_3 (by rfl) | exact E.LoadAt.ro sc_3 (by assumption) | exact E.LoadAt.arr E.ixA sc_3 (by assumption))) rfl rfl ?_
      first | refine E.Ops.q _ (E.q_fieldAddr' rfl rfl fo_44_3) rfl rfl ?_ | refine E.Ops.q _ (E.q_fieldAddr rfl rfl fo_44_3) rfl rfl ?_
      refine E.Ops.q _ (E.q_load rfl rfl (by first | refine E.LoadAt.own E.ixA sc_3 (by rfl) | exact E.LoadAt.ro sc_3 (by assumption) | exact E.LoadAt.arr E.ixA sc_3 (by assumption))) rfl rfl ?_
      refine E.Ops.q _ ((E.q_neq rfl rfl rfl).isF (by simp)) rfl rfl ?_
      refine E.Ops.q _ (E.q_pickF rfl rfl rfl) rfl rfl ?_
      refine E.Ops.nil ?_
      try simp only [E.tn, E.tx, E.tr, E.bn, E.br, E.bs]
      (repeat refine E.Run.seq ?_); refine E.Run.condF rfl ?_
      refine E.Run.skip ?_
      try simp only [E.tn, E.tx, E.tr, E.bn, E.br, E.bs]
      (repeat refine E.Run.seq ?_)
      refine E.Run.region ?_
      refine E.Ops.q _ (E.q_move rfl rfl) rfl rfl ?_
      first | refine E.Ops.q _ (E.q_incr rfl rfl (by omega)) rfl rfl ?_ | refine E.Ops.q _ (E.q_addFit rfl rfl rfl (by omega)) rfl rfl ?_ | refine E.Ops.q _ (E.q_add rfl rfl rfl) rfl rfl ?_
      refine E.Ops.q _ (E.q_mv rfl rfl) rfl rfl ?_
      refine E.Ops.nil ?_
      try simp only [E.tn, E.tx, E.tr, E.bn, E.br, E.bs]
      exact ⟨i + 1, by omega, by omega, by ((repeat refine E.SubEnv.cons rfl ?_); exact E.SubEnv.nil _), by exact E.Ent.of E.entA⟩
    rintro L1 ρ1 M1 ⟨hs', he⟩
    refine E.Run.sub hs' (E.Run.ent he ?_)
    clear hs' he
    (repeat refine E.Run.seq ?_)
    refine E.Run.region ?_
    refine E.Ops.q _ (E.q_move rfl rfl) rfl rfl ?_
    first | refine E.Ops.q _ (E.q_incr rfl rfl (by omega)) rfl rfl ?_ | refine E.Ops.q _ (E.q_addFit rfl rfl rfl (by omega)) rfl rfl ?_ | refine E.Ops.q _ (E.q_add rfl rfl rfl) rfl rfl ?_
    refine E.Ops.q _ (E.q_mv rfl rfl) rfl rfl ?_
    refine E.Ops.nil ?_
    try simp only [E.tn, E.tx, E.tr, E.bn, E.br, E.bs]
    exact ⟨t + 1, by omega, by omega, by ((repeat refine E.SubEnv.cons rfl ?_); exact E.SubEnv.nil _), by exact E.Ent.of E.entA⟩
  rintro L1 ρ1 M1 ⟨hs', he⟩
  refine E.Run.sub hs' (E.Run.ent he ?_)
  clear hs' he
  (repeat refine E.Run.seq ?_)
  refine E.Run.region ?_
  refine E.Ops.q _ (E.q_mv rfl rfl) rfl rfl ?_
  refine E.Ops.nil ?_
  try simp only [E.tn, E.tx, E.tr, E.bn, E.br, E.bs]
  refine E.Run.ret ?_
  try simp only [E.tn, E.tx, E.tr, E.bn, E.br, E.bs]
  exact ⟨_, _, _, E.ResOk.one rfl rfl, E.Ent.of E.entA, hK⟩
end Go.Proofs.Ythpgjbdacknkgaa
