/- sluicelaw.OptMakes, walked. No statement of the seat in it. -/
import Derived.Test.YthpgjbdacknkgaaP8
set_option linter.unusedVariables false
set_option linter.unusedSimpArgs false
namespace Go.Proofs.Ythpgjbdacknkgaa
open Go
private theorem ag_25 : E.isAggOf Try.prog 25 4 = true := by kernel_rfl
private theorem ag_29 : E.isAggOf Try.prog 29 3 = true := by kernel_rfl
private theorem fo_29_0 : E.fieldOff Try.prog 29 0 = some 0 := by kernel_rfl
private theorem ist_29 : E.intStruct Try.prog 29 = some 3 := by kernel_rfl
private theorem nb_12 : Try.f12.body.isNone = false := by kernel_rfl
private theorem nb_13 : Try.f13.body.isNone = false := by kernel_rfl
private theorem nb_14 : Try.f14.body.isNone = false := by kernel_rfl
private theorem nb_15 : Try.f15.body.isNone = false := by kernel_rfl
private theorem nb_16 : Try.f16.body.isNone = false := by kernel_rfl
private theorem nb_17 : Try.f17.body.isNone = false := by kernel_rfl
private theorem nb_18 : Try.f18.body.isNone = false := by kernel_rfl
private theorem nb_19 : Try.f19.body.isNone = false := by kernel_rfl
private theorem nm_12 : (Try.f12.name == "runtime.NumGoroutine") = false := by kernel_rfl
private theorem nm_13 : (Try.f13.name == "runtime.NumGoroutine") = false := by kernel_rfl
private theorem nm_14 : (Try.f14.name == "runtime.NumGoroutine") = false := by kernel_rfl
private theorem nm_15 : (Try.f15.name == "runtime.NumGoroutine") = false := by kernel_rfl
private theorem nm_16 : (Try.f16.name == "runtime.NumGoroutine") = false := by kernel_rfl
private theorem nm_17 : (Try.f17.name == "runtime.NumGoroutine") = false := by kernel_rfl
private theorem nm_18 : (Try.f18.name == "runtime.NumGoroutine") = false := by kernel_rfl
private theorem nm_19 : (Try.f19.name == "runtime.NumGoroutine") = false := by kernel_rfl
private theorem sc_27 : E.isScal Try.prog 27 = true := by kernel_rfl
private theorem sz_25 : (Try.prog.info? 25).map (·.size) = some 4 := by kernel_rfl
private theorem sz_29 : (Try.prog.info? 29).map (·.size) = some 3 := by kernel_rfl
private theorem ty_25 : E.tyOf Try.prog 25 = some (some (.agg #[.slice none 0 0, .slice none 0 0, .int .i64 0, .int .i64 0]), 4, 64) := by kernel_rfl
private theorem ty_29 : E.tyOf Try.prog 29 = some (some (.agg #[.int .i64 0, .int .i64 0, .int .i64 0]), 3, 24) := by kernel_rfl

set_option maxHeartbeats 4000000 in
set_option maxRecDepth 100000 in
theorem lawMakes {ρ : E.Ro} {M : List E.Asr} {K : Value → E.Ro → List E.Asr → Prop} (A A' : Option Addr) (c c' : Nat) (p : Prg) (hp : PrgW ρ.blk A A' p) (hK : ∀ ρ', E.Ro.le ρ ρ' → K (.bool true) ρ' M) :
    E.Hoa Try.prog 3 #[prgV A c A' c' p] ρ M K := by
  refine E.Hoa.enter 61 Try.func3 rfl rfl rfl ?_
  (repeat refine E.Run.seq ?_)
  refine E.Run.region ?_
  refine E.Ops.loud rfl rfl ?_
  refine E.l_box rfl rfl (fun b0_0 => ?_)
  refine E.Ops.q _ (E.q_mv rfl rfl) rfl rfl ?_
  refine E.Ops.nil ?_
  try simp only [E.tn, E.tx, E.tr, E.bn, E.br, E.bs]
  refine E.Run.seqCut (fun L' ρ' M' => vastS p = false ∧ E.SubEnv [(1, .pointer (some ⟨b0_0, 0, none⟩))] L' ∧ E.Ent ρ' M' ρ (E.pt b0_0 25 [.slice A p.code.length c, .slice A' p.words.length c', .int .i64 p.locks, .int .i64 p.regs] :: M)) ?_ ?_
  · (repeat refine E.Run.seq ?_)
    refine E.Run.region ?_
    refine E.Ops.q _ (E.q_load rfl rfl (by first | refine E.LoadAt.ownAgg E.ixA 4 ag_25 (by rfl) (by rfl) | exact E.LoadAt.roAgg ag_25 (by assumption) rfl)) rfl rfl ?_
    refine E.Ops.loud rfl rfl ?_
    refine E.l_call Try.func12 nm_12 nb_12 rfl ?_; refine lawVast A A' c c' p hp ?_
    refine E.Ops.nil ?_
    try simp only [E.tn, E.tx, E.tr, E.bn, E.br, E.bs]
    (repeat refine E.Run.seq ?_); refine E.Run.cond rfl (fun h4 => ?_) (fun h4 => ?_)
    · (repeat refine E.Run.seq ?_)
      refine E.Run.region ?_
      refine E.Ops.q _ (E.q_mv rfl rfl) rfl rfl ?_
      refine E.Ops.nil ?_
      try simp only [E.tn, E.tx, E.tr, E.bn, E.br, E.bs]
      refine E.Run.ret ?_
      try simp only [E.tn, E.tx, E.tr, E.bn, E.br, E.bs]
      exact ⟨_, _, _, E.ResOk.one rfl rfl, E.Ent.of E.entA, hK ρ (E.Ro.le.refl _)⟩
    · refine E.Run.skip ?_
      try simp only [E.tn, E.tx, E.tr, E.bn, E.br, E.bs]
      exact ⟨h4, by ((repeat refine E.SubEnv.cons rfl ?_); exact E.SubEnv.nil _), by exact E.Ent.of E.entA⟩
  rintro L1 ρ1' M1 ⟨hv, hs, he⟩
  refine E.Run.sub hs (E.Run.ent he ?_)
  clear hs he
  have hpA := hp.at hv
  (repeat refine E.Run.seq ?_)
  refine E.Run.region ?_
  refine E.Ops.q _ (E.q_load rfl rfl (by first | refine E.LoadAt.ownAgg E.ixA 4 ag_25 (by rfl) (by rfl) | exact E.LoadAt.roAgg ag_25 (by assumption) rfl)) rfl rfl ?_
  refine E.Ops.loud rfl rfl ?_
  refine E.l_call Try.func13 nm_13 nb_13 rfl ?_; refine optConst' A A' c c' p hpA (fun ρ4 B d B' d' a hle4 ha hca => ?_)
  refine E.Ops.q _ (E.q_move rfl rfl) rfl rfl ?_
  refine E.Ops.q _ (E.q_extract rfl rfl rfl) rfl rfl ?_
  refine E.Ops.q _ (E.q_extract rfl rfl rfl) rfl rfl ?_
  refine E.Ops.loud rfl rfl ?_
  refine E.l_alloc rfl ty_25 (fun b3_5 => ?_)
  refine E.Ops.loud rfl rfl ?_
  refine E.l_alloc rfl ty_29 (fun b3_6 => ?_)
  refine E.Ops.loud rfl rfl ?_
  refine E.l_store rfl rfl rfl E.ixA 4 sz_25 (by rfl) (by rfl) (by rfl) (by rfl) ?_
  refine E.Ops.loud rfl rfl ?_
  refine E.l_store rfl rfl rfl E.ixA 3 sz_29 (by rfl) (by rfl) (by rfl) (by rfl) ?_
  refine E.Ops.nil ?_
  try simp only [E.tn, E.tx, E.tr, E.bn, E.br, E.bs]
  (repeat refine E.Run.seq ?_)
  refine E.Run.region ?_
  refine E.Ops.q _ (E.q_load rfl rfl (by first | refine E.LoadAt.ownAgg E.ixA 4 ag_25 (by rfl) (by rfl) | exact E.LoadAt.roAgg ag_25 (by assumption) rfl)) rfl rfl ?_
  refine E.Ops.loud rfl rfl ?_
  refine E.l_call Try.func14 nm_14 nb_14 rfl ?_; refine optDead' A A' c c' p (hpA.mono hle4) (fun ρ5 B2 d2 B2' d2' b hle5 hb hcb => ?_)
  refine E.Ops.q _ (E.q_move rfl rfl) rfl rfl ?_
  refine E.Ops.q _ (E.q_extract rfl rfl rfl) rfl rfl ?_
  refine E.Ops.q _ (E.q_extract rfl rfl rfl) rfl rfl ?_
  refine E.Ops.loud rfl rfl ?_
  refine E.l_alloc rfl ty_25 (fun b4_5 => ?_)
  refine E.Ops.loud rfl rfl ?_
  refine E.l_alloc rfl ty_29 (fun b4_6 => ?_)
  refine E.Ops.loud rfl rfl ?_
  refine E.l_store rfl rfl rfl E.ixA 4 sz_25 (by rfl) (by rfl) (by rfl) (by rfl) ?_
  refine E.Ops.loud rfl rfl ?_
  refine E.l_store rfl rfl rfl E.ixA 3 sz_29 (by rfl) (by rfl) (by rfl) (by rfl) ?_
  refine E.Ops.nil ?_
  try simp only [E.tn, E.tx, E.tr, E.bn, E.br, E.bs]
  have hle05 := hle4.trans hle5
  (repeat refine E.Run.seq ?_)
  refine E.Run.region ?_
  refine E.Ops.q _ (E.q_load rfl rfl (by first | refine E.LoadAt.ownAgg E.ixA 4 ag_25 (by rfl) (by rfl) | exact E.LoadAt.roAgg ag_25 (by assumption) rfl)) rfl rfl ?_
  refine E.Ops.loud rfl rfl ?_
  refine E.l_call Try.func15 nm_15 nb_15 rfl ?_; refine rCheck A A' c c' p (hpA.mono hle05) ?_
  refine E.Ops.loud rfl rfl ?_
  refine E.l_alloc rfl ty_29 (fun b5_2 => ?_)
  refine E.Ops.loud rfl rfl ?_
  refine E.l_store rfl rfl rfl E.ixA 3 sz_29 (by rfl) (by rfl) (by rfl) (by rfl) ?_
  refine E.Ops.nil ?_
  try simp only [E.tn, E.tx, E.tr, E.bn, E.br, E.bs]
  refine E.Run.seqCut (fun L' ρ' M' => E.SubEnv [(1, .pointer (some ⟨b0_0, 0, none⟩)), (3, .pointer (some ⟨b3_5, 0, none⟩)), (5, .pointer (some ⟨b4_5, 0, none⟩)), (7, .pointer (some ⟨b5_2, 0, none⟩))] L' ∧ E.Ent ρ' M' ρ5 (E.pt b5_2 29 [.int .i64 (chk p).code, .int .i64 (chk p).thread, .int .i64 (chk p).at'] :: E.pt b3_5 25 [.slice B a.code.length d, .slice B' a.words.length d', .int .i64 a.locks, .int .i64 a.regs] :: E.pt b4_5 25 [.slice B2 b.code.length d2, .slice B2' b.words.length d2', .int .i64 b.locks, .int .i64 b.regs] :: E.pt b0_0 25 [.slice A p.code.length c, .slice A' p.words.length c', .int .i64 p.locks, .int .i64 p.regs] :: M)) ?_ ?_
  · (repeat refine E.Run.seq ?_)
    refine E.Run.region ?_
    refine E.Ops.q _ (E.q_load rfl rfl (by first | refine E.LoadAt.ownAgg E.ixA 3 ag_29 (by rfl) (by rfl) | exact E.LoadAt.roAgg ag_29 (by assumption) rfl)) rfl rfl ?_
    refine E.Ops.q _ (E.q_load rfl rfl (by first | refine E.LoadAt.ownAgg E.ixA 3 ag_29 (by rfl) (by rfl) | exact E.LoadAt.roAgg ag_29 (by assumption) rfl)) rfl rfl ?_
    refine E.Ops.q _ ((E.q_neqInts (xs := [(chk p).code, (chk p).thread, (chk p).at']) (ys := [(chk p).code, (chk p).thread, (chk p).at']) rfl rfl rfl ist_29 rfl rfl).isF (by simp)) rfl rfl ?_
    refine E.Ops.q _ (E.q_move rfl rfl) rfl rfl ?_
    refine E.Ops.q _ (E.q_load rfl rfl (by first | refine E.LoadAt.ownAgg E.ixA 3 ag_29 (by rfl) (by rfl) | exact E.LoadAt.roAgg ag_29 (by assumption) rfl)) rfl rfl ?_
    refine E.Ops.q _ (E.q_load rfl rfl (by first | refine E.LoadAt.ownAgg E.ixA 3 ag_29 (by rfl) (by rfl) | exact E.LoadAt.roAgg ag_29 (by assumption) rfl)) rfl rfl ?_
    refine E.Ops.q _ ((E.q_neqInts (xs := [(chk p).code, (chk p).thread, (chk p).at']) (ys := [(chk p).code, (chk p).thread, (chk p).at']) rfl rfl rfl ist_29 rfl rfl).isF (by simp)) rfl rfl ?_
    refine E.Ops.q _ (E.q_pickF rfl rfl rfl) rfl rfl ?_
    refine E.Ops.nil ?_
    try simp only [E.tn, E.tx, E.tr, E.bn, E.br, E.bs]
    (repeat refine E.Run.seq ?_); refine E.Run.condF rfl ?_
    refine E.Run.skip ?_
    try simp only [E.tn, E.tx, E.tr, E.bn, E.br, E.bs]
    exact ⟨by ((repeat refine E.SubEnv.cons rfl ?_); exact E.SubEnv.nil _), by exact E.Ent.of E.entA⟩
  rintro L1 ρ1' M1 ⟨hs, he⟩
  refine E.Run.sub hs (E.Run.ent he ?_)
  clear hs he
  refine E.Run.seqCut (fun L' ρ' M' => (chk p).code = 0 ∧ E.SubEnv [(1, .pointer (some ⟨b0_0, 0, none⟩)), (3, .pointer (some ⟨b3_5, 0, none⟩)), (5, .pointer (some ⟨b4_5, 0, none⟩)), (7, .pointer (some ⟨b5_2, 0, none⟩))] L' ∧ E.Ent ρ' M' ρ5 (E.pt b3_5 25 [.slice B a.code.length d, .slice B' a.words.length d', .int .i64 a.locks, .int .i64 a.regs] :: E.pt b4_5 25 [.slice B2 b.code.length d2, .slice B2' b.words.length d2', .int .i64 b.locks, .int .i64 b.regs] :: E.pt b0_0 25 [.slice A p.code.length c, .slice A' p.words.length c', .int .i64 p.locks, .int .i64 p.regs] :: M)) ?_ ?_
  · (repeat refine E.Run.seq ?_)
    refine E.Run.region ?_
    first | refine E.Ops.q _ (E.q_fieldAddr' rfl rfl fo_29_0) rfl rfl ?_ | refine E.Ops.q _ (E.q_fieldAddr rfl rfl fo_29_0) rfl rfl ?_
    refine E.Ops.q _ (E.q_load rfl rfl (by first | refine E.LoadAt.own E.ixA sc_27 (by rfl) | exact E.LoadAt.ro sc_27 (by assumption) | exact E.LoadAt.arr E.ixA sc_27 (by assumption))) rfl rfl ?_
    refine E.Ops.q _ (E.q_neq rfl rfl rfl) rfl rfl ?_
    refine E.Ops.nil ?_
    try simp only [E.tn, E.tx, E.tr, E.bn, E.br, E.bs]
    (repeat refine E.Run.seq ?_); refine E.Run.condD rfl (fun h10 => ?_) (fun h10 => ?_)
    · have ha0 : a = prg0 := by
        rcases hca with ⟨_, h⟩ | ⟨h, _⟩
        · exact h
        · exact absurd (chk_ok.2 h) h10
      have hb0 : b = prg0 := by
        rcases hcb with ⟨_, h⟩ | ⟨h, _⟩
        · exact h
        · exact absurd (chk_ok.2 h) h10
      subst ha0; subst hb0
      (repeat refine E.Run.seq ?_)
      refine E.Run.region ?_
      refine E.Ops.q _ (E.q_load rfl rfl (by first | refine E.LoadAt.ownAgg E.ixA 4 ag_25 (by rfl) (by rfl) | exact E.LoadAt.roAgg ag_25 (by assumption) rfl)) rfl rfl ?_
      refine E.Ops.loud rfl rfl ?_
      refine E.l_call Try.func16 nm_16 nb_16 rfl ?_; refine rNone B B' d d' prg0 rfl rfl rfl rfl ?_
      refine E.Ops.q _ (E.q_mv rfl rfl) rfl rfl ?_
      refine E.Ops.nil ?_
      try simp only [E.tn, E.tx, E.tr, E.bn, E.br, E.bs]
      (repeat refine E.Run.seq ?_)
      refine E.Run.region ?_
      refine E.Ops.q _ (E.q_load rfl rfl (by first | refine E.LoadAt.ownAgg E.ixA 4 ag_25 (by rfl) (by rfl) | exact E.LoadAt.roAgg ag_25 (by assumption) rfl)) rfl rfl ?_
      refine E.Ops.loud rfl rfl ?_
      refine E.l_call Try.func16 nm_16 nb_16 rfl ?_; refine rNone B2 B2' d2 d2' prg0 rfl rfl rfl rfl ?_
      refine E.Ops.q _ (E.q_mv rfl rfl) rfl rfl ?_
      refine E.Ops.nil ?_
      try simp only [E.tn, E.tx, E.tr, E.bn, E.br, E.bs]
      (repeat refine E.Run.seq ?_)
      refine E.Run.region ?_
      refine E.Ops.q _ (E.q_move rfl rfl) rfl rfl ?_
      refine E.Ops.q _ (E.q_move rfl rfl) rfl rfl ?_
      refine E.Ops.q _ (E.q_move rfl rfl) rfl rfl ?_
      refine E.Ops.q _ (E.q_pickT rfl rfl rfl) rfl rfl ?_
      refine E.Ops.q _ (E.q_mv rfl rfl) rfl rfl ?_
      refine E.Ops.nil ?_
      try simp only [E.tn, E.tx, E.tr, E.bn, E.br, E.bs]
      refine E.Run.ret ?_
      try simp only [E.tn, E.tx, E.tr, E.bn, E.br, E.bs]
      exact ⟨_, _, _, E.ResOk.one rfl rfl, E.Ent.of E.entA, hK ρ5 hle05⟩
    · refine E.Run.skip ?_
      try simp only [E.tn, E.tx, E.tr, E.bn, E.br, E.bs]
      exact ⟨Classical.not_not.1 h10, by ((repeat refine E.SubEnv.cons rfl ?_); exact E.SubEnv.nil _), by exact E.Ent.of E.entA⟩
  rintro L1 ρ1' M1 ⟨h0, hs, he⟩
  refine E.Run.sub hs (E.Run.ent he ?_)
  clear hs he
  have hpo := chk_ok.1 h0
  have hca' : ConstOf p a := by
    rcases hca with ⟨h, _⟩ | ⟨_, h⟩
    · exact absurd h0 h
    · exact h
  have hcb' : DeadOf p b := by
    rcases hcb with ⟨h, _⟩ | ⟨_, h⟩
    · exact absurd h0 h
    · exact h
  obtain ⟨Y, hY, hbY⟩ := dead_sets hcb'
  (repeat refine E.Run.seq ?_)
  refine E.Run.region ?_
  refine E.Ops.q _ (E.q_load rfl rfl (by first | refine E.LoadAt.ownAgg E.ixA 4 ag_25 (by rfl) (by rfl) | exact E.LoadAt.roAgg ag_25 (by assumption) rfl)) rfl rfl ?_
  refine E.Ops.loud rfl rfl ?_
  refine E.l_call Try.func17 nm_17 nb_17 rfl ?_; refine rConst A A' c c' p (hpA.mono hle05) hpo (fun ρ6 B3 d3 B3' d3' q hle6 hq hqc => ?_); obtain rfl : a = q := const_eq hpo hca' hqc
  refine E.Ops.loud rfl rfl ?_
  refine E.l_alloc rfl ty_25 (fun b12_2 => ?_)
  refine E.Ops.loud rfl rfl ?_
  refine E.l_store rfl rfl rfl E.ixA 4 sz_25 (by rfl) (by rfl) (by rfl) (by rfl) ?_
  refine E.Ops.nil ?_
  try simp only [E.tn, E.tx, E.tr, E.bn, E.br, E.bs]
  (repeat refine E.Run.seq ?_)
  refine E.Run.region ?_
  refine E.Ops.q _ (E.q_load rfl rfl (by first | refine E.LoadAt.ownAgg E.ixA 4 ag_25 (by rfl) (by rfl) | exact E.LoadAt.roAgg ag_25 (by assumption) rfl)) rfl rfl ?_
  refine E.Ops.loud rfl rfl ?_
  refine E.l_call Try.func18 nm_18 nb_18 rfl ?_; refine rDead A A' c c' p ((hpA.mono hle05).mono hle6) hpo Y hY (fun ρ7 B4 d4 B4' d4' q hle7 hq2 hqd => ?_); obtain rfl : b = q := dead_eq hcb' hbY hqd
  refine E.Ops.loud rfl rfl ?_
  refine E.l_alloc rfl ty_25 (fun b13_2 => ?_)
  refine E.Ops.loud rfl rfl ?_
  refine E.l_store rfl rfl rfl E.ixA 4 sz_25 (by rfl) (by rfl) (by rfl) (by rfl) ?_
  refine E.Ops.nil ?_
  try simp only [E.tn, E.tx, E.tr, E.bn, E.br, E.bs]
  have ha7 := (ha.mono hle5).mono (hle6.trans hle7)
  have hb7 := hb.mono (hle6.trans hle7)
  have hq7 := hq.mono hle7
  (repeat refine E.Run.seq ?_)
  refine E.Run.region ?_
  refine E.Ops.q _ (E.q_load rfl rfl (by first | refine E.LoadAt.ownAgg E.ixA 4 ag_25 (by rfl) (by rfl) | exact E.LoadAt.roAgg ag_25 (by assumption) rfl)) rfl rfl ?_
  refine E.Ops.q _ (E.q_load rfl rfl (by first | refine E.LoadAt.ownAgg E.ixA 4 ag_25 (by rfl) (by rfl) | exact E.LoadAt.roAgg ag_25 (by assumption) rfl)) rfl rfl ?_
  refine E.Ops.loud rfl rfl ?_
  refine E.l_call Try.func19 nm_19 nb_19 rfl ?_; refine rSame B B' B3 B3' d d' d3 d3' a ha7 hq7 ?_
  refine E.Ops.q _ (E.q_mv rfl rfl) rfl rfl ?_
  refine E.Ops.nil ?_
  try simp only [E.tn, E.tx, E.tr, E.bn, E.br, E.bs]
  (repeat refine E.Run.seq ?_)
  refine E.Run.region ?_
  refine E.Ops.q _ (E.q_load rfl rfl (by first | refine E.LoadAt.ownAgg E.ixA 4 ag_25 (by rfl) (by rfl) | exact E.LoadAt.roAgg ag_25 (by assumption) rfl)) rfl rfl ?_
  refine E.Ops.q _ (E.q_load rfl rfl (by first | refine E.LoadAt.ownAgg E.ixA 4 ag_25 (by rfl) (by rfl) | exact E.LoadAt.roAgg ag_25 (by assumption) rfl)) rfl rfl ?_
  refine E.Ops.loud rfl rfl ?_
  refine E.l_call Try.func19 nm_19 nb_19 rfl ?_; refine rSame B2 B2' B4 B4' d2 d2' d4 d4' b hb7 hq2 ?_
  refine E.Ops.q _ (E.q_mv rfl rfl) rfl rfl ?_
  refine E.Ops.nil ?_
  try simp only [E.tn, E.tx, E.tr, E.bn, E.br, E.bs]
  (repeat refine E.Run.seq ?_)
  refine E.Run.region ?_
  refine E.Ops.q _ (E.q_move rfl rfl) rfl rfl ?_
  refine E.Ops.q _ (E.q_move rfl rfl) rfl rfl ?_
  refine E.Ops.q _ (E.q_move rfl rfl) rfl rfl ?_
  refine E.Ops.q _ (E.q_pickT rfl rfl rfl) rfl rfl ?_
  refine E.Ops.q _ (E.q_mv rfl rfl) rfl rfl ?_
  refine E.Ops.nil ?_
  try simp only [E.tn, E.tx, E.tr, E.bn, E.br, E.bs]
  refine E.Run.ret ?_
  try simp only [E.tn, E.tx, E.tr, E.bn, E.br, E.bs]
  exact ⟨_, _, _, E.ResOk.one rfl rfl, E.Ent.of E.entA, hK ρ7 (hle05.trans (hle6.trans hle7))⟩
end Go.Proofs.Ythpgjbdacknkgaa
