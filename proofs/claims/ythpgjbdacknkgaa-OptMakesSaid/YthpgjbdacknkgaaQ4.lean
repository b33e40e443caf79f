/- sluiceref1.Check, walked. No statement of the seat in it. -/
import Derived.Test.YthpgjbdacknkgaaQ3
import Derived.Test.YthpgjbdacknkgaaExt
set_option linter.unusedVariables false
set_option linter.unusedSimpArgs false
namespace Go.Proofs.Ythpgjbdacknkgaa
open Go
private theorem ag_25 : E.isAggOf Try.prog 25 4 = true := by kernel_rfl
private theorem ag_29 : E.isAggOf Try.prog 29 3 = true := by kernel_rfl
private theorem ag_44 : E.isAggOf Try.prog 44 4 = true := by kernel_rfl
private theorem fo_25_0 : E.fieldOff Try.prog 25 0 = some 0 := by kernel_rfl
private theorem fo_25_1 : E.fieldOff Try.prog 25 1 = some 1 := by kernel_rfl
private theorem fo_25_2 : E.fieldOff Try.prog 25 2 = some 2 := by kernel_rfl
private theorem fo_25_3 : E.fieldOff Try.prog 25 3 = some 3 := by kernel_rfl
private theorem fo_44_0 : E.fieldOff Try.prog 44 0 = some 0 := by kernel_rfl
private theorem nb_51 : Try.f51.body.isNone = false := by kernel_rfl
private theorem nb_52 : Try.f52.body.isNone = false := by kernel_rfl
private theorem nb_53 : Try.f53.body.isNone = false := by kernel_rfl
private theorem nm_51 : (Try.f51.name == "runtime.NumGoroutine") = false := by kernel_rfl
private theorem nm_52 : (Try.f52.name == "runtime.NumGoroutine") = false := by kernel_rfl
private theorem nm_53 : (Try.f53.name == "runtime.NumGoroutine") = false := by kernel_rfl
private theorem pl_29 : E.placesOf Try.prog 29 = some ([.int .i64 0, .int .i64 0, .int .i64 0], [(0, 1), (1, 1), (2, 1)]) := by kernel_rfl
private theorem sc_22 : E.isScal Try.prog 22 = true := by kernel_rfl
private theorem sc_23 : E.isScal Try.prog 23 = true := by kernel_rfl
private theorem sc_3 : E.isScal Try.prog 3 = true := by kernel_rfl
private theorem sc_45 : E.isScal Try.prog 45 = true := by kernel_rfl
private theorem so_22 : E.sliceOf Try.prog 22 = some (45, 1) := by kernel_rfl
private theorem so_23 : E.sliceOf Try.prog 23 = some (3, 1) := by kernel_rfl
private theorem so_45 : E.sliceOf Try.prog 45 = some (44, 4) := by kernel_rfl
private theorem sz_29 : (Try.prog.info? 29).map (·.size) = some 3 := by kernel_rfl
private theorem sz_44 : (Try.prog.info? 44).map (·.size) = some 4 := by kernel_rfl
private theorem ty_29 : E.tyOf Try.prog 29 = some (some (.agg #[.int .i64 0, .int .i64 0, .int .i64 0]), 3, 24) := by kernel_rfl
private theorem ty_44 : E.tyOf Try.prog 44 = some (some (.agg #[.int .i64 0, .int .i64 0, .int .i64 0, .int .i64 0]), 4, 32) := by kernel_rfl

theorem shp_named {op : Int} {x : List UInt8 × List UInt8} (h : shpOf op = some x) : ((⟨x.1.toArray⟩ : ByteArray).toList == (⟨#[]⟩ : ByteArray).toList) = false := by
  have hm := shpOf_mem h
  obtain ⟨n, ks⟩ := x
  simp only [shp, List.mem_cons, List.not_mem_nil, or_false, Prod.mk.injEq] at hm
  rcases hm with ⟨_, rfl, _⟩ | ⟨_, rfl, _⟩ | ⟨_, rfl, _⟩ | ⟨_, rfl, _⟩ | ⟨_, rfl, _⟩ | ⟨_, rfl, _⟩ | ⟨_, rfl, _⟩ | ⟨_, rfl, _⟩ | ⟨_, rfl, _⟩ | ⟨_, rfl, _⟩ | ⟨_, rfl, _⟩ | ⟨_, rfl, _⟩ | ⟨_, rfl, _⟩ | ⟨_, rfl, _⟩ | ⟨_, rfl, _⟩ | ⟨_, rfl, _⟩ | ⟨_, rfl, _⟩ | ⟨_, rfl, _⟩ <;> (simp only []; decide +kernel)

set_option maxRecDepth 100000 in
theorem rCheck {ρ : E.Ro} {M : List E.Asr} {K : Value → E.Ro → List E.Asr → Prop} (A A' : Option Addr) (c c' : Nat) (p : Prg) (hp : PrgAt ρ A A' p) (hK : K (fltV (chk p)) ρ M) :
    E.Hoa Try.prog 15 #[prgV A c A' c' p] ρ M K := by
  have hsm := hp.small
  have hsmW := hp.smallW
  refine E.Hoa.enter 128 Try.func15 rfl rfl rfl ?_
  (repeat refine E.Run.seq ?_)
  refine E.Run.region ?_
  refine E.Ops.loud rfl rfl ?_
  refine E.l_box rfl rfl (fun b0_0 => ?_)
  refine E.Ops.loud rfl rfl ?_
  refine E.l_alloc rfl ty_29 (fun b0_1 => ?_)
  refine E.Ops.nil ?_
  try simp only [E.tn, E.tx, E.tr, E.bn, E.br, E.bs]
  refine E.Run.seqCut (fun L' ρ' M' => ¬ (p.code.length < 1 ∨ p.code.length > 4 ∨ p.words.length > 64) ∧ E.SubEnv [(1, .pointer (some ⟨b0_0, 0, none⟩)), (2, .pointer (some ⟨b0_1, 0, none⟩))] L' ∧ E.Ent ρ' M' ρ (E.pt b0_0 25 [.slice A p.code.length c, .slice A' p.words.length c', .int .i64 p.locks, .int .i64 p.regs] :: E.pt b0_1 29 [.int .i64 0, .int .i64 0, .int .i64 0] :: M)) ?_ ?_
  · refine E.Run.seqCut (fun L' ρ' M' => E.SubEnv [(1, .pointer (some ⟨b0_0, 0, none⟩)), (2, .pointer (some ⟨b0_1, 0, none⟩)), (26, .bool (decide (p.code.length < 1 ∨ p.code.length > 4 ∨ p.words.length > 64)))] L' ∧ E.Ent ρ' M' ρ (E.pt b0_0 25 [.slice A p.code.length c, .slice A' p.words.length c', .int .i64 p.locks, .int .i64 p.regs] :: E.pt b0_1 29 [.int .i64 0, .int .i64 0, .int .i64 0] :: M)) ?_ ?_
    · (repeat refine E.Run.seq ?_)
      refine E.Run.region ?_
      first | refine E.Ops.q _ (E.q_fieldAddr' rfl rfl fo_25_0) rfl rfl ?_ | refine E.Ops.q _ (E.q_fieldAddr rfl rfl fo_25_0) rfl rfl ?_
      refine E.Ops.q _ (E.q_load rfl rfl (by first | refine E.LoadAt.own E.ixA sc_22 (by rfl) | exact E.LoadAt.ro sc_22 (by assumption) | exact E.LoadAt.arr E.ixA sc_22 (by assumption))) rfl rfl ?_
      refine E.Ops.q _ (E.q_lenSlice rfl Try.underlying22) rfl rfl ?_
      refine E.Ops.part (E.q_lss rfl rfl rfl) rfl rfl (fun h1_3 => ?T1) (fun h1_3 => ?F1)
      case' F1 =>
        refine E.Ops.q _ (E.q_move rfl rfl) rfl rfl ?_
        first | refine E.Ops.q _ (E.q_fieldAddr' rfl rfl fo_25_0) rfl rfl ?_ | refine E.Ops.q _ (E.q_fieldAddr rfl rfl fo_25_0) rfl rfl ?_
        refine E.Ops.q _ (E.q_load rfl rfl (by first | refine E.LoadAt.own E.ixA sc_22 (by rfl) | exact E.LoadAt.ro sc_22 (by assumption) | exact E.LoadAt.arr E.ixA sc_22 (by assumption))) rfl rfl ?_
        refine E.Ops.q _ (E.q_lenSlice rfl Try.underlying22) rfl rfl ?_
        refine E.Ops.part (E.q_gtr rfl rfl rfl) rfl rfl (fun h1_8 => ?T2) (fun h1_8 => ?F2)
        case' F2 =>
          refine E.Ops.q _ (E.q_pickF rfl rfl rfl) rfl rfl ?_
          refine E.Ops.q _ (E.q_move rfl rfl) rfl rfl ?_
          first | refine E.Ops.q _ (E.q_fieldAddr' rfl rfl fo_25_1) rfl rfl ?_ | refine E.Ops.q _ (E.q_fieldAddr rfl rfl fo_25_1) rfl rfl ?_
          refine E.Ops.q _ (E.q_load rfl rfl (by first | refine E.LoadAt.own E.ixA sc_23 (by rfl) | exact E.LoadAt.ro sc_23 (by assumption) | exact E.LoadAt.arr E.ixA sc_23 (by assumption))) rfl rfl ?_
          refine E.Ops.q _ (E.q_lenSlice rfl Try.underlying23) rfl rfl ?_
          refine E.Ops.part (E.q_gtr rfl rfl rfl) rfl rfl (fun h1_14 => ?T3) (fun h1_14 => ?F3)
          case' F3 =>
            refine E.Ops.q _ (E.q_pickF rfl rfl rfl) rfl rfl ?_
            refine E.Ops.nil ?_
            try simp only [E.tn, E.tx, E.tr, E.bn, E.br, E.bs]
          case' T3 =>
            refine E.Ops.q _ (E.q_pickF rfl rfl rfl) rfl rfl ?_
            refine E.Ops.nil ?_
            try simp only [E.tn, E.tx, E.tr, E.bn, E.br, E.bs]
        case' T2 =>
          refine E.Ops.q _ (E.q_pickF rfl rfl rfl) rfl rfl ?_
          refine E.Ops.q _ (E.q_move rfl rfl) rfl rfl ?_
          refine E.Ops.skip rfl rfl ?_
          refine E.Ops.skip rfl rfl ?_
          refine E.Ops.skip rfl rfl ?_
          refine E.Ops.skip rfl rfl ?_
          refine E.Ops.q _ (E.q_pickT rfl rfl rfl) rfl rfl ?_
          refine E.Ops.nil ?_
          try simp only [E.tn, E.tx, E.tr, E.bn, E.br, E.bs]
      case' T1 =>
        refine E.Ops.q _ (E.q_move rfl rfl) rfl rfl ?_
        refine E.Ops.skip rfl rfl ?_
        refine E.Ops.skip rfl rfl ?_
        refine E.Ops.skip rfl rfl ?_
        refine E.Ops.skip rfl rfl ?_
        refine E.Ops.q _ (E.q_pickT rfl rfl rfl) rfl rfl ?_
        refine E.Ops.q _ (E.q_move rfl rfl) rfl rfl ?_
        refine E.Ops.skip rfl rfl ?_
        refine E.Ops.skip rfl rfl ?_
        refine E.Ops.skip rfl rfl ?_
        refine E.Ops.skip rfl rfl ?_
        refine E.Ops.q _ (E.q_pickT rfl rfl rfl) rfl rfl ?_
        refine E.Ops.nil ?_
        try simp only [E.tn, E.tx, E.tr, E.bn, E.br, E.bs]
      all_goals first
        | exact ⟨by rw [decide_eq_true (by omega)]; ((repeat refine E.SubEnv.cons rfl ?_); exact E.SubEnv.nil _), by exact E.Ent.of E.entA⟩
        | exact ⟨by rw [decide_eq_false (by omega)]; ((repeat refine E.SubEnv.cons rfl ?_); exact E.SubEnv.nil _), by exact E.Ent.of E.entA⟩
    rintro L1 ρ1 M1 ⟨hs', he⟩
    refine E.Run.sub hs' (E.Run.ent he ?_)
    clear hs' he
    (repeat refine E.Run.seq ?_); refine E.Run.condD rfl (fun h1 => ?_) (fun h1 => ?_)
    · (repeat refine E.Run.seq ?_)
      refine E.Run.region ?_
      refine E.Ops.q _ (E.q_struct rfl rfl pl_29 rfl) rfl rfl ?_
      refine E.Ops.loud rfl rfl ?_
      refine E.l_store rfl rfl rfl E.ixA 3 sz_29 (by rfl) (by rfl) (by rfl) (by rfl) ?_
      refine E.Ops.nil ?_
      try simp only [E.tn, E.tx, E.tr, E.bn, E.br, E.bs]
      rw [show chk p = ⟨1, 0, 0⟩ from by unfold chk; rw [if_pos h1]] at hK
      refine E.Run.ret ?_
      try simp only [E.tn, E.tx, E.tr, E.bn, E.br, E.bs]
      exact ⟨_, _, _, E.ResOk.one rfl ⟨_, rfl, E.LoadAt.ownAgg E.ixA 3 ag_29 (by rfl) (by rfl)⟩, E.Ent.of E.entA, hK⟩
    · refine E.Run.skip ?_
      try simp only [E.tn, E.tx, E.tr, E.bn, E.br, E.bs]
      exact ⟨h1, by ((repeat refine E.SubEnv.cons rfl ?_); exact E.SubEnv.nil _), by exact E.Ent.of E.entA⟩
  rintro L1 ρ1 M1 ⟨h1, hs', he⟩
  refine E.Run.sub hs' (E.Run.ent he ?_)
  clear hs' he
  refine E.Run.seqCut (fun L' ρ' M' => ¬ (p.locks < 0 ∨ p.locks > 4 ∨ p.regs < 1 ∨ p.regs > 200) ∧ E.SubEnv [(1, .pointer (some ⟨b0_0, 0, none⟩)), (2, .pointer (some ⟨b0_1, 0, none⟩))] L' ∧ E.Ent ρ' M' ρ (E.pt b0_0 25 [.slice A p.code.length c, .slice A' p.words.length c', .int .i64 p.locks, .int .i64 p.regs] :: E.pt b0_1 29 [.int .i64 0, .int .i64 0, .int .i64 0] :: M)) ?_ ?_
  · refine E.Run.seqCut (fun L' ρ' M' => E.SubEnv [(1, .pointer (some ⟨b0_0, 0, none⟩)), (2, .pointer (some ⟨b0_1, 0, none⟩)), (45, .bool (decide (p.locks < 0 ∨ p.locks > 4 ∨ p.regs < 1 ∨ p.regs > 200)))] L' ∧ E.Ent ρ' M' ρ (E.pt b0_0 25 [.slice A p.code.length c, .slice A' p.words.length c', .int .i64 p.locks, .int .i64 p.regs] :: E.pt b0_1 29 [.int .i64 0, .int .i64 0, .int .i64 0] :: M)) ?_ ?_
    · (repeat refine E.Run.seq ?_)
      refine E.Run.region ?_
      first | refine E.Ops.q _ (E.q_fieldAddr' rfl rfl fo_25_2) rfl rfl ?_ | refine E.Ops.q _ (E.q_fieldAddr rfl rfl fo_25_2) rfl rfl ?_
      refine E.Ops.q _ (E.q_load rfl rfl (by first | refine E.LoadAt.own E.ixA sc_3 (by rfl) | exact E.LoadAt.ro sc_3 (by assumption) | exact E.LoadAt.arr E.ixA sc_3 (by assumption))) rfl rfl ?_
      refine E.Ops.part (E.q_lss rfl rfl rfl) rfl rfl (fun h3_2 => ?T4) (fun h3_2 => ?F4)
      case' F4 =>
        refine E.Ops.q _ (E.q_move rfl rfl) rfl rfl ?_
        first | refine E.Ops.q _ (E.q_fieldAddr' rfl rfl fo_25_2) rfl rfl ?_ | refine E.Ops.q _ (E.q_fieldAddr rfl rfl fo_25_2) rfl rfl ?_
        refine E.Ops.q _ (E.q_load rfl rfl (by first | refine E.LoadAt.own E.ixA sc_3 (by rfl) | exact E.LoadAt.ro sc_3 (by assumption) | exact E.LoadAt.arr E.ixA sc_3 (by assumption))) rfl rfl ?_
        refine E.Ops.part (E.q_gtr rfl rfl rfl) rfl rfl (fun h3_6 => ?T5) (fun h3_6 => ?F5)
        case' F5 =>
          refine E.Ops.q _ (E.q_pickF rfl rfl rfl) rfl rfl ?_
          refine E.Ops.q _ (E.q_move rfl rfl) rfl rfl ?_
          first | refine E.Ops.q _ (E.q_fieldAddr' rfl rfl fo_25_3) rfl rfl ?_ | refine E.Ops.q _ (E.q_fieldAddr rfl rfl fo_25_3) rfl rfl ?_
          refine E.Ops.q _ (E.q_load rfl rfl (by first | refine E.LoadAt.own E.ixA sc_3 (by rfl) | exact E.LoadAt.ro sc_3 (by assumption) | exact E.LoadAt.arr E.ixA sc_3 (by assumption))) rfl rfl ?_
          refine E.Ops.part (E.q_lss rfl rfl rfl) rfl rfl (fun h3_11 => ?T6) (fun h3_11 => ?F6)
          case' F6 =>
            refine E.Ops.q _ (E.q_pickF rfl rfl rfl) rfl rfl ?_
            refine E.Ops.q _ (E.q_move rfl rfl) rfl rfl ?_
            first | refine E.Ops.q _ (E.q_fieldAddr' rfl rfl fo_25_3) rfl rfl ?_ | refine E.Ops.q _ (E.q_fieldAddr rfl rfl fo_25_3) rfl rfl ?_
            refine E.Ops.q _ (E.q_load rfl rfl (by first | refine E.LoadAt.own E.ixA sc_3 (by rfl) | exact E.LoadAt.ro sc_3 (by assumption) | exact E.LoadAt.arr E.ixA sc_3 (by assumption))) rfl rfl ?_
            refine E.Ops.part (E.q_gtr rfl rfl rfl) rfl rfl (fun h1_16 => ?T7) (fun h1_16 => ?F7)
            case' F7 =>
              refine E.Ops.q _ (E.q_pickF rfl rfl rfl) rfl rfl ?_
              refine E.Ops.nil ?_
              try simp only [E.tn, E.tx, E.tr, E.bn, E.br, E.bs]
            case' T7 =>
              refine E.Ops.q _ (E.q_pickF rfl rfl rfl) rfl rfl ?_
              refine E.Ops.nil ?_
              try simp only [E.tn, E.tx, E.tr, E.bn, E.br, E.bs]
          case' T6 =>
            refine E.Ops.q _ (E.q_pickF rfl rfl rfl) rfl rfl ?_
            refine E.Ops.q _ (E.q_move rfl rfl) rfl rfl ?_
            refine E.Ops.skip rfl rfl ?_
            refine E.Ops.skip rfl rfl ?_
            refine E.Ops.skip rfl rfl ?_
            refine E.Ops.q _ (E.q_pickT rfl rfl rfl) rfl rfl ?_
            refine E.Ops.nil ?_
            try simp only [E.tn, E.tx, E.tr, E.bn, E.br, E.bs]
        case' T5 =>
          refine E.Ops.q _ (E.q_pickF rfl rfl rfl) rfl rfl ?_
          refine E.Ops.q _ (E.q_move rfl rfl) rfl rfl ?_
          refine E.Ops.skip rfl rfl ?_
          refine E.Ops.skip rfl rfl ?_
          refine E.Ops.skip rfl rfl ?_
          refine E.Ops.q _ (E.q_pickT rfl rfl rfl) rfl rfl ?_
          refine E.Ops.q _ (E.q_move rfl rfl) rfl rfl ?_
          refine E.Ops.skip rfl rfl ?_
          refine E.Ops.skip rfl rfl ?_
          refine E.Ops.skip rfl rfl ?_
          refine E.Ops.q _ (E.q_pickT rfl rfl rfl) rfl rfl ?_
          refine E.Ops.nil ?_
          try simp only [E.tn, E.tx, E.tr, E.bn, E.br, E.bs]
      case' T4 =>
        refine E.Ops.q _ (E.q_move rfl rfl) rfl rfl ?_
        refine E.Ops.skip rfl rfl ?_
        refine E.Ops.skip rfl rfl ?_
        refine E.Ops.skip rfl rfl ?_
        refine E.Ops.q _ (E.q_pickT rfl rfl rfl) rfl rfl ?_
        refine E.Ops.q _ (E.q_move rfl rfl) rfl rfl ?_
        refine E.Ops.skip rfl rfl ?_
        refine E.Ops.skip rfl rfl ?_
        refine E.Ops.skip rfl rfl ?_
        refine E.Ops.q _ (E.q_pickT rfl rfl rfl) rfl rfl ?_
        refine E.Ops.q _ (E.q_move rfl rfl) rfl rfl ?_
        refine E.Ops.skip rfl rfl ?_
        refine E.Ops.skip rfl rfl ?_
        refine E.Ops.skip rfl rfl ?_
        refine E.Ops.q _ (E.q_pickT rfl rfl rfl) rfl rfl ?_
        refine E.Ops.nil ?_
        try simp only [E.tn, E.tx, E.tr, E.bn, E.br, E.bs]
      all_goals first
        | exact ⟨by rw [decide_eq_true (by omega)]; ((repeat refine E.SubEnv.cons rfl ?_); exact E.SubEnv.nil _), by exact E.Ent.of E.entA⟩
        | exact ⟨by rw [decide_eq_false (by omega)]; ((repeat refine E.SubEnv.cons rfl ?_); exact E.SubEnv.nil _), by exact E.Ent.of E.entA⟩
    rintro L1 ρ1 M1 ⟨hs', he⟩
    refine E.Run.sub hs' (E.Run.ent he ?_)
    clear hs' he
    (repeat refine E.Run.seq ?_); refine E.Run.condD rfl (fun h2 => ?_) (fun h2 => ?_)
    · (repeat refine E.Run.seq ?_)
      refine E.Run.region ?_
      refine E.Ops.q _ (E.q_struct rfl rfl pl_29 rfl) rfl rfl ?_
      refine E.Ops.loud rfl rfl ?_
      refine E.l_store rfl rfl rfl E.ixA 3 sz_29 (by rfl) (by rfl) (by rfl) (by rfl) ?_
      refine E.Ops.nil ?_
      try simp only [E.tn, E.tx, E.tr, E.bn, E.br, E.bs]
      rw [show chk p = ⟨3, 0, 0⟩ from by unfold chk; rw [if_neg h1, if_pos h2]] at hK
      refine E.Run.ret ?_
      try simp only [E.tn, E.tx, E.tr, E.bn, E.br, E.bs]
      exact ⟨_, _, _, E.ResOk.one rfl ⟨_, rfl, E.LoadAt.ownAgg E.ixA 3 ag_29 (by rfl) (by rfl)⟩, E.Ent.of E.entA, hK⟩
    · refine E.Run.skip ?_
      try simp only [E.tn, E.tx, E.tr, E.bn, E.br, E.bs]
      exact ⟨h2, by ((repeat refine E.SubEnv.cons rfl ?_); exact E.SubEnv.nil _), by exact E.Ent.of E.entA⟩
  rintro L1 ρ1 M1 ⟨h2, hs', he⟩
  refine E.Run.sub hs' (E.Run.ent he ?_)
  clear hs' he
  have hchk : chk p = chkThr p 0 p.code := by unfold chk; rw [if_neg h1, if_neg h2]
  rw [hchk] at hK
  refine E.Run.seqCut (fun L' ρ' M' => chkThr p 0 p.code = ⟨0, 0, 0⟩ ∧ E.SubEnv [(1, .pointer (some ⟨b0_0, 0, none⟩)), (2, .pointer (some ⟨b0_1, 0, none⟩))] L' ∧ E.Ent ρ' M' ρ (E.pt b0_0 25 [.slice A p.code.length c, .slice A' p.words.length c', .int .i64 p.locks, .int .i64 p.regs] :: E.pt b0_1 29 [.int .i64 0, .int .i64 0, .int .i64 0] :: M)) ?_ ?_
  · (repeat refine E.Run.seq ?_)
    refine E.Run.region ?_
    refine E.Ops.q _ (E.q_mv rfl rfl) rfl rfl ?_
    refine E.Ops.nil ?_
    try simp only [E.tn, E.tx, E.tr, E.bn, E.br, E.bs]
    (repeat refine E.Run.seq ?_); refine E.Run.block ?_
    (repeat refine E.Run.seq ?_); refine E.Run.loopS (fun (t : Nat) => [(1, .pointer (some ⟨b0_0, 0, none⟩)), (2, .pointer (some ⟨b0_1, 0, none⟩)), (3, .int .i64 t)]) ρ (fun _ => E.pt b0_0 25 [.slice A p.code.length c, .slice A' p.words.length c', .int .i64 p.locks, .int .i64 p.regs] :: E.pt b0_1 29 [.int .i64 0, .int .i64 0, .int .i64 0] :: M) (fun t => t ≤ p.code.length ∧ chkThr p t (p.code.drop t) = chkThr p 0 p.code) (fun t => p.code.length - t) 0 ⟨Nat.zero_le _, by simp⟩ (by ((repeat refine E.SubEnv.cons rfl ?_); exact E.SubEnv.nil _)) (by exact E.Ent.of E.entA) ?_
    rintro t ⟨ht, hinv⟩
    refine E.Run.seqCut (fun L' ρ' M' => t < p.code.length ∧ E.SubEnv [(1, .pointer (some ⟨b0_0, 0, none⟩)), (2, .pointer (some ⟨b0_1, 0, none⟩)), (3, .int .i64 t)] L' ∧ E.Ent ρ' M' ρ (E.pt b0_0 25 [.slice A p.code.length c, .slice A' p.words.length c', .int .i64 p.locks, .int .i64 p.regs] :: E.pt b0_1 29 [.int .i64 0, .int .i64 0, .int .i64 0] :: M)) ?_ ?_
    · (repeat refine E.Run.seq ?_)
      refine E.Run.region ?_
      refine E.Ops.q _ (E.q_move rfl rfl) rfl rfl ?_
      first | refine E.Ops.q _ (E.q_fieldAddr' rfl rfl fo_25_0) rfl rfl ?_ | refine E.Ops.q _ (E.q_fieldAddr rfl rfl fo_25_0) rfl rfl ?_
      refine E.Ops.q _ (E.q_load rfl rfl (by first | refine E.LoadAt.own E.ixA sc_22 (by rfl) | exact E.LoadAt.ro sc_22 (by assumption) | exact E.LoadAt.arr E.ixA sc_22 (by assumption))) rfl rfl ?_
      refine E.Ops.q _ (E.q_lenSlice rfl Try.underlying22) rfl rfl ?_
      refine E.Ops.q _ (E.q_lss rfl rfl rfl) rfl rfl ?_
      refine E.Ops.nil ?_
      try simp only [E.tn, E.tx, E.tr, E.bn, E.br, E.bs]
      (repeat refine E.Run.seq ?_); refine E.Run.condD rfl (fun h6 => ?_) (fun h6 => ?_)
      · refine E.Run.skip ?_
        try simp only [E.tn, E.tx, E.tr, E.bn, E.br, E.bs]
        exact ⟨by omega, by ((repeat refine E.SubEnv.cons rfl ?_); exact E.SubEnv.nil _), by exact E.Ent.of E.entA⟩
      · refine E.Run.exit ?_
        try simp only [E.tn, E.tx, E.tr, E.bn, E.br, E.bs]
        have : t = p.code.length := by omega
        subst this
        rw [List.drop_length] at hinv
        exact ⟨hinv.symm, by ((repeat refine E.SubEnv.cons rfl ?_); exact E.SubEnv.nil _), by exact E.Ent.of E.entA⟩
    rintro L1 ρ1 M1 ⟨ht', hs', he⟩
    refine E.Run.sub hs' (E.Run.ent he ?_)
    clear hs' he
    obtain ⟨ad, rfl, A1, c1, hcell, hrd⟩ := hp.thread ht'
    have hsize := hp.smalls _ (List.getElem_mem ht')
    rw [chkThr_drop p t p.code ht'] at hinv
    generalize hc : p.code[t] = code at *
    refine E.Run.seqCut (fun L' ρ' M' => chkThr p (t + 1) (p.code.drop (t + 1)) = chkThr p 0 p.code ∧ E.SubEnv [(1, .pointer (some ⟨b0_0, 0, none⟩)), (2, .pointer (some ⟨b0_1, 0, none⟩)), (3, .int .i64 t)] L' ∧ E.Ent ρ' M' ρ (E.pt b0_0 25 [.slice (some ad) p.code.length c, .slice A' p.words.length c', .int .i64 p.locks, .int .i64 p.regs] :: E.pt b0_1 29 [.int .i64 0, .int .i64 0, .int .i64 0] :: M)) ?_ ?_
    · (repeat refine E.Run.seq ?_); refine E.Run.block ?_
      refine E.Run.seqCut (fun L' ρ' M' => ¬ code.length > 400 ∧ E.SubEnv [(1, .pointer (some ⟨b0_0, 0, none⟩)), (2, .pointer (some ⟨b0_1, 0, none⟩)), (3, .int .i64 t)] L' ∧ E.Ent ρ' M' ρ (E.pt b0_0 25 [.slice (some ad) p.code.length c, .slice A' p.words.length c', .int .i64 p.locks, .int .i64 p.regs] :: E.pt b0_1 29 [.int .i64 0, .int .i64 0, .int .i64 0] :: M)) ?_ ?_
      · (repeat refine E.Run.seq ?_)
        refine E.Run.region ?_
        first | refine E.Ops.q _ (E.q_fieldAddr' rfl rfl fo_25_0) rfl rfl ?_ | refine E.Ops.q _ (E.q_fieldAddr rfl rfl fo_25_0) rfl rfl ?_
        refine E.Ops.q _ (E.q_load rfl rfl (by first | refine E.LoadAt.own E.ixA sc_22 (by rfl) | exact E.LoadAt.ro sc_22 (by assumption) | exact E.LoadAt.arr E.ixA sc_22 (by assumption))) rfl rfl ?_
        refine E.Ops.q _ (E.q_move rfl rfl) rfl rfl ?_
        first | refine E.Ops.q _ (E.q_indexNat rfl rfl rfl so_22 (by first | assumption | omega)) rfl rfl ?_ | refine E.Ops.q _ (E.q_indexAddr rfl rfl rfl so_22 (by omega) (by omega)) rfl rfl ?_
        refine E.Ops.q _ (E.q_load rfl rfl (by exact E.LoadAt.ro sc_45 hcell)) rfl rfl ?_
        refine E.Ops.q _ (E.q_lenSlice rfl Try.underlying45) rfl rfl ?_
        refine E.Ops.q _ (E.q_gtr rfl rfl rfl) rfl rfl ?_
        refine E.Ops.nil ?_
        try simp only [E.tn, E.tx, E.tr, E.bn, E.br, E.bs]
        (repeat refine E.Run.seq ?_); refine E.Run.condD rfl (fun h8 => ?_) (fun h8 => ?_)
        · (repeat refine E.Run.seq ?_)
          refine E.Run.region ?_
          refine E.Ops.q _ (E.q_move rfl rfl) rfl rfl ?_
          refine E.Ops.q _ (E.q_struct rfl rfl pl_29 rfl) rfl rfl ?_
          refine E.Ops.loud rfl rfl ?_
          refine E.l_store rfl rfl rfl E.ixA 3 sz_29 (by rfl) (by rfl) (by rfl) (by rfl) ?_
          refine E.Ops.nil ?_
          try simp only [E.tn, E.tx, E.tr, E.bn, E.br, E.bs]
          rw [if_pos (by omega)] at hinv
          rw [← hinv] at hK
          refine E.Run.ret ?_
          try simp only [E.tn, E.tx, E.tr, E.bn, E.br, E.bs]
          exact ⟨_, _, _, E.ResOk.one rfl ⟨_, rfl, E.LoadAt.ownAgg E.ixA 3 ag_29 (by rfl) (by rfl)⟩, E.Ent.of E.entA, hK⟩
        · refine E.Run.skip ?_
          try simp only [E.tn, E.tx, E.tr, E.bn, E.br, E.bs]
          exact ⟨by omega, by ((repeat refine E.SubEnv.cons rfl ?_); exact E.SubEnv.nil _), by exact E.Ent.of E.entA⟩
      rintro L1 ρ1 M1 ⟨h8, hs', he⟩
      refine E.Run.sub hs' (E.Run.ent he ?_)
      clear hs' he
      rw [if_neg h8] at hinv
      (repeat refine E.Run.seq ?_)
      refine E.Run.region ?_
      refine E.Ops.q _ (E.q_mv rfl rfl) rfl rfl ?_
      refine E.Ops.nil ?_
      try simp only [E.tn, E.tx, E.tr, E.bn, E.br, E.bs]
      (repeat refine E.Run.seq ?_); refine E.Run.block ?_
      (repeat refine E.Run.seq ?_); refine E.Run.loopS (fun (j : Nat) => [(1, .pointer (some ⟨b0_0, 0, none⟩)), (2, .pointer (some ⟨b0_1, 0, none⟩)), (3, .int .i64 t), (4, .int .i64 j)]) ρ (fun _ => E.pt b0_0 25 [.slice (some ad) p.code.length c, .slice A' p.words.length c', .int .i64 p.locks, .int .i64 p.regs] :: E.pt b0_1 29 [.int .i64 0, .int .i64 0, .int .i64 0] :: M)
        (fun j => j ≤ code.length ∧ chkIns p code.length t j (code.drop j) = chkIns p code.length t 0 code) (fun j => code.length - j) 0 ⟨Nat.zero_le _, by simp⟩ (by ((repeat refine E.SubEnv.cons rfl ?_); exact E.SubEnv.nil _)) (by exact E.Ent.of E.entA) ?_
      rintro j ⟨hj, hinj⟩
      refine E.Run.seqCut (fun L' ρ' M' => j < code.length ∧ E.SubEnv [(1, .pointer (some ⟨b0_0, 0, none⟩)), (2, .pointer (some ⟨b0_1, 0, none⟩)), (3, .int .i64 t), (4, .int .i64 j)] L' ∧ E.Ent ρ' M' ρ (E.pt b0_0 25 [.slice (some ad) p.code.length c, .slice A' p.words.length c', .int .i64 p.locks, .int .i64 p.regs] :: E.pt b0_1 29 [.int .i64 0, .int .i64 0, .int .i64 0] :: M)) ?_ ?_
      · (repeat refine E.Run.seq ?_)
        refine E.Run.region ?_
        refine E.Ops.q _ (E.q_move rfl rfl) rfl rfl ?_
        first | refine E.Ops.q _ (E.q_fieldAddr' rfl rfl fo_25_0) rfl rfl ?_ | refine E.Ops.q _ (E.q_fieldAddr rfl rfl fo_25_0) rfl rfl ?_
        refine E.Ops.q _ (E.q_load rfl rfl (by first | refine E.LoadAt.own E.ixA sc_22 (by rfl) | exact E.LoadAt.ro sc_22 (by assumption) | exact E.LoadAt.arr E.ixA sc_22 (by assumption))) rfl rfl ?_
        refine E.Ops.q _ (E.q_move rfl rfl) rfl rfl ?_
        first | refine E.Ops.q _ (E.q_indexNat rfl rfl rfl so_22 (by first | assumption | omega)) rfl rfl ?_ | refine E.Ops.q _ (E.q_indexAddr rfl rfl rfl so_22 (by omega) (by omega)) rfl rfl ?_
        refine E.Ops.q _ (E.q_load rfl rfl (by exact E.LoadAt.ro sc_45 hcell)) rfl rfl ?_
        refine E.Ops.q _ (E.q_lenSlice rfl Try.underlying45) rfl rfl ?_
        refine E.Ops.q _ (E.q_lss rfl rfl rfl) rfl rfl ?_
        refine E.Ops.nil ?_
        try simp only [E.tn, E.tx, E.tr, E.bn, E.br, E.bs]
        (repeat refine E.Run.seq ?_); refine E.Run.condD rfl (fun h6 => ?_) (fun h6 => ?_)
        · refine E.Run.skip ?_
          try simp only [E.tn, E.tx, E.tr, E.bn, E.br, E.bs]
          exact ⟨by omega, by ((repeat refine E.SubEnv.cons rfl ?_); exact E.SubEnv.nil _), by exact E.Ent.of E.entA⟩
        · refine E.Run.exit ?_
          try simp only [E.tn, E.tx, E.tr, E.bn, E.br, E.bs]
          have : j = code.length := by omega
          subst this
          rw [List.drop_length] at hinj
          rw [← hinj] at hinv
          exact ⟨hinv, by ((repeat refine E.SubEnv.cons rfl ?_); exact E.SubEnv.nil _), by exact E.Ent.of E.entA⟩
      rintro L1 ρ1 M1 ⟨hj', hs', he⟩
      refine E.Run.sub hs' (E.Run.ent he ?_)
      clear hs' he
      obtain ⟨ad1, rfl, _, hrd1⟩ := E.RdF.at hrd hj'
      rw [chkIns_drop p code.length t j code hj'] at hinj
      generalize code[j] = ins at *
      refine E.Run.seqCut (fun L' ρ' M' => chkIns p code.length t (j + 1) (code.drop (j + 1)) = chkIns p code.length t 0 code ∧ E.SubEnv [(1, .pointer (some ⟨b0_0, 0, none⟩)), (2, .pointer (some ⟨b0_1, 0, none⟩)), (3, .int .i64 t), (4, .int .i64 j)] L' ∧ E.Ent ρ' M' ρ (E.pt b0_0 25 [.slice (some ad) p.code.length c, .slice A' p.words.length c', .int .i64 p.locks, .int .i64 p.regs] :: E.pt b0_1 29 [.int .i64 0, .int .i64 0, .int .i64 0] :: M)) ?_ ?_
      · (repeat refine E.Run.seq ?_); refine E.Run.block ?_
        (repeat refine E.Run.seq ?_)
        refine E.Run.region ?_
        first | refine E.Ops.q _ (E.q_fieldAddr' rfl rfl fo_25_0) rfl rfl ?_ | refine E.Ops.q _ (E.q_fieldAddr rfl rfl fo_25_0) rfl rfl ?_
        refine E.Ops.q _ (E.q_load rfl rfl (by first | refine E.LoadAt.own E.ixA sc_22 (by rfl) | exact E.LoadAt.ro sc_22 (by assumption) | exact E.LoadAt.arr E.ixA sc_22 (by assumption))) rfl rfl ?_
        refine E.Ops.q _ (E.q_move rfl rfl) rfl rfl ?_
        first | refine E.Ops.q _ (E.q_indexNat rfl rfl rfl so_22 (by first | assumption | omega)) rfl rfl ?_ | refine E.Ops.q _ (E.q_indexAddr rfl rfl rfl so_22 (by omega) (by omega)) rfl rfl ?_
        refine E.Ops.q _ (E.q_load rfl rfl (by exact E.LoadAt.ro sc_45 hcell)) rfl rfl ?_
        refine E.Ops.q _ (E.q_move rfl rfl) rfl rfl ?_
        first | refine E.Ops.q _ (E.q_indexNat rfl rfl rfl so_45 (by first | assumption | omega)) rfl rfl ?_ | refine E.Ops.q _ (E.q_indexAddr rfl rfl rfl so_45 (by omega) (by omega)) rfl rfl ?_
        refine E.Ops.q _ (E.q_load rfl rfl (by exact E.LoadAt.roAgg ag_44 hrd1 rfl)) rfl rfl ?_
        refine E.Ops.loud rfl rfl ?_
        refine E.l_alloc rfl ty_44 (fun b13_8 => ?_)
        refine E.Ops.loud rfl rfl ?_
        refine E.l_store rfl rfl rfl E.ixA 4 sz_44 (by rfl) (by rfl) (by rfl) (by rfl) ?_
        refine E.Ops.nil ?_
        try simp only [E.tn, E.tx, E.tr, E.bn, E.br, E.bs]
        (repeat refine E.Run.seq ?_)
        refine E.Run.region ?_
        first | refine E.Ops.q _ (E.q_fieldAddr' rfl rfl fo_44_0) rfl rfl ?_ | refine E.Ops.q _ (E.q_fieldAddr rfl rfl fo_44_0) rfl rfl ?_
        refine E.Ops.q _ (E.q_load rfl rfl (by first | refine E.LoadAt.own E.ixA sc_3 (by rfl) | exact E.LoadAt.ro sc_3 (by assumption) | exact E.LoadAt.arr E.ixA sc_3 (by assumption))) rfl rfl ?_
        refine E.Ops.loud rfl rfl ?_
        refine E.l_call Try.func51 nm_51 nb_51 rfl ?_; refine rName ins.op ?_
        refine E.Ops.q _ (E.q_move rfl rfl) rfl rfl ?_
        refine E.Ops.q _ (E.q_extract rfl rfl rfl) rfl rfl ?_
        refine E.Ops.q _ (E.q_extract rfl rfl rfl) rfl rfl ?_
        refine E.Ops.q _ (E.q_mv rfl rfl) rfl rfl ?_
        refine E.Ops.q _ (E.q_mv rfl rfl) rfl rfl ?_
        refine E.Ops.nil ?_
        try simp only [E.tn, E.tx, E.tr, E.bn, E.br, E.bs]
        cases hs : shpOf ins.op with
        | none =>
          rw [show badIns p code.length ins = some 2 from by unfold badIns; rw [hs]] at hinj
          rw [← hinj] at hinv
          rw [← hinv] at hK
          (repeat refine E.Run.seq ?_)
          refine E.Run.region ?_
          refine E.Ops.q _ (E.q_move rfl rfl) rfl rfl ?_
          refine E.Ops.q _ (E.q_eqlStr' (r := true) rfl rfl rfl Try.underlying9 (by decide +kernel)) rfl rfl ?_
          refine E.Ops.nil ?_
          try simp only [E.tn, E.tx, E.tr, E.bn, E.br, E.bs]
          (repeat refine E.Run.seq ?_); refine E.Run.condT rfl ?_
          (repeat refine E.Run.seq ?_)
          refine E.Run.region ?_
          refine E.Ops.q _ (E.q_move rfl rfl) rfl rfl ?_
          refine E.Ops.q _ (E.q_move rfl rfl) rfl rfl ?_
          refine E.Ops.q _ (E.q_struct rfl rfl pl_29 rfl) rfl rfl ?_
          refine E.Ops.loud rfl rfl ?_
          refine E.l_store rfl rfl rfl E.ixA 3 sz_29 (by rfl) (by rfl) (by rfl) (by rfl) ?_
          refine E.Ops.nil ?_
          try simp only [E.tn, E.tx, E.tr, E.bn, E.br, E.bs]
          refine E.Run.ret ?_
          try simp only [E.tn, E.tx, E.tr, E.bn, E.br, E.bs]
          exact ⟨_, _, _, E.ResOk.one rfl ⟨_, rfl, E.LoadAt.ownAgg E.ixA 3 ag_29 (by rfl) (by rfl)⟩, E.Ent.of E.entA, hK⟩
        | some x =>
          (repeat refine E.Run.seq ?_)
          refine E.Run.region ?_
          refine E.Ops.q _ (E.q_move rfl rfl) rfl rfl ?_
          refine E.Ops.q _ (E.q_eqlStr' (r := false) rfl rfl rfl Try.underlying9 (shp_named hs)) rfl rfl ?_
          refine E.Ops.nil ?_
          try simp only [E.tn, E.tx, E.tr, E.bn, E.br, E.bs]
          (repeat refine E.Run.seq ?_); refine E.Run.condF rfl ?_
          refine E.Run.skip ?_
          try simp only [E.tn, E.tx, E.tr, E.bn, E.br, E.bs]
          (repeat refine E.Run.seq ?_)
          refine E.Run.region ?_
          refine E.Ops.q _ (E.q_load rfl rfl (by first | refine E.LoadAt.ownAgg E.ixA 4 ag_44 (by rfl) (by rfl) | exact E.LoadAt.roAgg ag_44 (by assumption) rfl)) rfl rfl ?_
          refine E.Ops.loud rfl rfl ?_
          refine E.l_call Try.func52 nm_52 nb_52 rfl ?_; refine rNumbers ins (fun gn => ?_)
          refine E.Ops.q _ (E.q_mv rfl rfl) rfl rfl ?_
          refine E.Ops.nil ?_
          try simp only [E.tn, E.tx, E.tr, E.bn, E.br, E.bs]
          (repeat refine E.Run.seq ?_)
          refine E.Run.region ?_
          refine E.Ops.q _ (E.q_mv rfl rfl) rfl rfl ?_
          refine E.Ops.nil ?_
          try simp only [E.tn, E.tx, E.tr, E.bn, E.br, E.bs]
          (repeat refine E.Run.seq ?_); refine E.Run.block ?_
          (repeat refine E.Run.seq ?_); refine E.Run.loopS (fun (k : Nat) => [(1, .pointer (some ⟨b0_0, 0, none⟩)), (2, .pointer (some ⟨b0_1, 0, none⟩)), (3, .int .i64 t), (4, .int .i64 j), (7, .string ⟨x.2.toArray⟩), (8, .slice (some ⟨gn, 0, none⟩) 3 3), (9, .int .i64 k)]) ρ (fun _ => E.arr 3 1 (some ⟨gn, 0, none⟩) 3 3 [.int .i64 ins.a, .int .i64 ins.b, .int .i64 ins.c] :: E.pt b0_0 25 [.slice (some ad) p.code.length c, .slice A' p.words.length c', .int .i64 p.locks, .int .i64 p.regs] :: E.pt b0_1 29 [.int .i64 0, .int .i64 0, .int .i64 0] :: M)
            (fun k => k ≤ 3 ∧ ∀ k', k' < k → okNum p code.length x.2 k' (insNum ins k') = true) (fun k => 3 - k) 0 ⟨by omega, by omega⟩ (by ((repeat refine E.SubEnv.cons rfl ?_); exact E.SubEnv.nil _)) (by exact E.Ent.of E.entA) ?_
          rintro k ⟨hk, hkk⟩
          refine E.Run.seqCut (fun L' ρ' M' => k < 3 ∧ E.SubEnv [(1, .pointer (some ⟨b0_0, 0, none⟩)), (2, .pointer (some ⟨b0_1, 0, none⟩)), (3, .int .i64 t), (4, .int .i64 j), (7, .string ⟨x.2.toArray⟩), (8, .slice (some ⟨gn, 0, none⟩) 3 3), (9, .int .i64 k)] L' ∧ E.Ent ρ' M' ρ (E.arr 3 1 (some ⟨gn, 0, none⟩) 3 3 [.int .i64 ins.a, .int .i64 ins.b, .int .i64 ins.c] :: E.pt b0_0 25 [.slice (some ad) p.code.length c, .slice A' p.words.length c', .int .i64 p.locks, .int .i64 p.regs] :: E.pt b0_1 29 [.int .i64 0, .int .i64 0, .int .i64 0] :: M)) ?_ ?_
          · (repeat refine E.Run.seq ?_)
            refine E.Run.region ?_
            refine E.Ops.q _ (E.q_move rfl rfl) rfl rfl ?_
            refine E.Ops.q _ (E.q_lss rfl rfl rfl) rfl rfl ?_
            refine E.Ops.nil ?_
            try simp only [E.tn, E.tx, E.tr, E.bn, E.br, E.bs]
            (repeat refine E.Run.seq ?_); refine E.Run.condD rfl (fun h6 => ?_) (fun h6 => ?_)
            · refine E.Run.skip ?_
              try simp only [E.tn, E.tx, E.tr, E.bn, E.br, E.bs]
              exact ⟨by omega, by ((repeat refine E.SubEnv.cons rfl ?_); exact E.SubEnv.nil _), by exact E.Ent.of E.entA⟩
            · refine E.Run.exit ?_
              try simp only [E.tn, E.tx, E.tr, E.bn, E.br, E.bs]
              rw [badIns_all hs (fun k' hk' => hkk k' (by omega))] at hinj
              exact ⟨hinj, by ((repeat refine E.SubEnv.cons rfl ?_); exact E.SubEnv.nil _), by exact E.Ent.of E.entA⟩
          rintro L1 ρ1 M1 ⟨hk3, hs', he⟩
          refine E.Run.sub hs' (E.Run.ent he ?_)
          clear hs' he
          have hel : [Value.int .i64 ins.a, Value.int .i64 ins.b, Value.int .i64 ins.c][k * 1]? = some (.int .i64 (insNum ins k)) := by
            match k, hk3 with
            | 0, _ => rfl
            | 1, _ => rfl
            | 2, _ => rfl
          refine E.Run.seqCut (fun L' ρ' M' => okNum p code.length x.2 k (insNum ins k) = true ∧ E.SubEnv [(1, .pointer (some ⟨b0_0, 0, none⟩)), (2, .pointer (some ⟨b0_1, 0, none⟩)), (3, .int .i64 t), (4, .int .i64 j), (7, .string ⟨x.2.toArray⟩), (8, .slice (some ⟨gn, 0, none⟩) 3 3), (9, .int .i64 k)] L' ∧ E.Ent ρ' M' ρ (E.arr 3 1 (some ⟨gn, 0, none⟩) 3 3 [.int .i64 ins.a, .int .i64 ins.b, .int .i64 ins.c] :: E.pt b0_0 25 [.slice (some ad) p.code.length c, .slice A' p.words.length c', .int .i64 p.locks, .int .i64 p.regs] :: E.pt b0_1 29 [.int .i64 0, .int .i64 0, .int .i64 0] :: M)) ?_ ?_
          · (repeat refine E.Run.seq ?_); refine E.Run.block ?_
            (repeat refine E.Run.seq ?_)
            refine E.Run.region ?_
            refine E.Ops.q _ (E.q_move rfl rfl) rfl rfl ?_
            refine E.Ops.q _ (E.q_move rfl rfl) rfl rfl ?_
            refine E.Ops.q _ (E.q_indexNat rfl rfl rfl so_23 hk3) rfl rfl ?_
            refine E.Ops.q _ (E.q_load (v := .int .i64 (insNum ins k)) rfl rfl (E.LoadAt.arr E.ixA sc_3 hel)) rfl rfl ?_
            refine E.Ops.q _ (E.q_eql rfl rfl rfl) rfl rfl ?_
            refine E.Ops.q _ (E.q_mv rfl rfl) rfl rfl ?_
            refine E.Ops.nil ?_
            try simp only [E.tn, E.tx, E.tr, E.bn, E.br, E.bs]
            refine E.Run.seqCut (fun L' ρ' M' => E.SubEnv [(1, .pointer (some ⟨b0_0, 0, none⟩)), (2, .pointer (some ⟨b0_1, 0, none⟩)), (3, .int .i64 t), (4, .int .i64 j), (7, .string ⟨x.2.toArray⟩), (8, .slice (some ⟨gn, 0, none⟩) 3 3), (9, .int .i64 k), (10, .bool (okNum p code.length x.2 k (insNum ins k)))] L' ∧ E.Ent ρ' M' ρ (E.arr 3 1 (some ⟨gn, 0, none⟩) 3 3 [.int .i64 ins.a, .int .i64 ins.b, .int .i64 ins.c] :: E.pt b0_0 25 [.slice (some ad) p.code.length c, .slice A' p.words.length c', .int .i64 p.locks, .int .i64 p.regs] :: E.pt b0_1 29 [.int .i64 0, .int .i64 0, .int .i64 0] :: M)) ?_ ?_
            · (repeat refine E.Run.seq ?_)
              refine E.Run.region ?_
              refine E.Ops.q _ (E.q_move rfl rfl) rfl rfl ?_
              refine E.Ops.q _ (E.q_move rfl rfl) rfl rfl ?_
              refine E.Ops.q _ (E.q_lenStr rfl Try.underlying9) rfl rfl ?_
              refine E.Ops.q _ (E.q_lss rfl rfl rfl) rfl rfl ?_
              refine E.Ops.nil ?_
              try simp only [E.tn, E.tx, E.tr, E.bn, E.br, E.bs]
              (repeat refine E.Run.seq ?_); refine E.Run.condD rfl (fun h22 => ?_) (fun h22 => ?_)
              · (repeat refine E.Run.seq ?_)
                refine E.Run.draw (.q 0 (.q 1 (.q 2 (.q 3 (.q 4 (.q 5 (.q 6 (.q 7 (.q 8 (.q 9 (.q 10 (.q 11 (.q 12 (.ph [13] (.l 14 (.q 15 (.nil))))))))))))))))) _ _ Try.mixed (by kernel_rfl) (E.Ent.refl _ _) ?_
                refine E.Plan.q _ rfl _ (E.q_load rfl rfl (by first | refine E.LoadAt.ownAgg E.ixA 4 ag_25 (by rfl) (by rfl) | exact E.LoadAt.roAgg ag_25 (by assumption) rfl)) rfl rfl ?_
                first | refine E.Plan.q _ rfl _ (E.q_fieldAddr' rfl rfl fo_25_0) rfl rfl ?_ | refine E.Plan.q _ rfl _ (E.q_fieldAddr rfl rfl fo_25_0) rfl rfl ?_
                refine E.Plan.q _ rfl _ (E.q_load rfl rfl (by first | refine E.LoadAt.own E.ixA sc_22 (by rfl) | exact E.LoadAt.ro sc_22 (by assumption) | exact E.LoadAt.arr E.ixA sc_22 (by assumption))) rfl rfl ?_
                refine E.Plan.q _ rfl _ (E.q_move rfl rfl) rfl rfl ?_
                first | refine E.Plan.q _ rfl _ (E.q_indexNat rfl rfl rfl so_22 (by first | assumption | omega)) rfl rfl ?_ | refine E.Plan.q _ rfl _ (E.q_indexAddr rfl rfl rfl so_22 (by omega) (by omega)) rfl rfl ?_
                refine E.Plan.q _ rfl _ (E.q_load rfl rfl (by exact E.LoadAt.ro sc_45 hcell)) rfl rfl ?_
                refine E.Plan.q _ rfl _ (E.q_lenSlice rfl Try.underlying45) rfl rfl ?_
                refine E.Plan.q _ rfl _ (E.q_move rfl rfl) rfl rfl ?_
                refine E.Plan.q _ rfl _ (E.q_move rfl rfl) rfl rfl ?_
                refine E.Plan.q _ rfl _ (E.q_indexStr rfl rfl rfl Try.underlying9 (by omega) (by omega)) rfl rfl ?_
                refine E.Plan.q _ rfl _ (E.q_move rfl rfl) rfl rfl ?_
                refine E.Plan.q _ rfl _ (E.q_move rfl rfl) rfl rfl ?_
                refine E.Plan.q _ rfl _ (E.q_indexNat rfl rfl rfl so_23 hk3) rfl rfl ?_
                refine E.Plan.ph (by exact E.Ent.of E.entA) ?_
                refine E.PlanQ.q _ rfl _ (E.q_load (v := .int .i64 (insNum ins k)) rfl rfl (E.LoadAt.arr E.ixA sc_3 hel)) rfl rfl ?_
                refine E.PlanQ.nil ?_
                refine E.Plan.loud _ rfl rfl rfl ?_
                refine E.l_call Try.func53 nm_53 nb_53 rfl ?_; refine rFits _ _ _ _ p _ _ _ hsize ?_
                refine ⟨E.Ent.of E.entA, ?_⟩
                refine E.Plan.q _ rfl _ (E.q_mv rfl rfl) rfl rfl ?_
                refine E.Plan.nil ?_
                try simp only [E.tn, E.tx, E.tr, E.bn, E.br, E.bs]
                exact ⟨by rw [okNum_in (by omega)]; ((repeat refine E.SubEnv.cons rfl ?_); exact E.SubEnv.nil _), by exact E.Ent.of E.entA⟩
              · refine E.Run.skip ?_
                try simp only [E.tn, E.tx, E.tr, E.bn, E.br, E.bs]
                exact ⟨by rw [okNum_out h22]; ((repeat refine E.SubEnv.cons rfl ?_); exact E.SubEnv.nil _), by exact E.Ent.of E.entA⟩
            rintro L1 ρ1 M1 ⟨hs', he⟩
            refine E.Run.sub hs' (E.Run.ent he ?_)
            clear hs' he
            (repeat refine E.Run.seq ?_)
            refine E.Run.region ?_
            refine E.Ops.q _ (E.q_move rfl rfl) rfl rfl ?_
            refine E.Ops.q _ (E.q_not rfl rfl) rfl rfl ?_
            refine E.Ops.nil ?_
            try simp only [E.tn, E.tx, E.tr, E.bn, E.br, E.bs]
            (repeat refine E.Run.seq ?_); refine E.Run.cond rfl (fun h24 => ?_) (fun h24 => ?_)
            · have hok : okNum p code.length x.2 k (insNum ins k) = false := by simpa using h24
              rw [badIns_no hs hk3 hok] at hinj
              rw [← hinj] at hinv
              rw [← hinv] at hK
              (repeat refine E.Run.seq ?_)
              refine E.Run.region ?_
              refine E.Ops.q _ (E.q_move rfl rfl) rfl rfl ?_
              refine E.Ops.q _ (E.q_move rfl rfl) rfl rfl ?_
              refine E.Ops.q _ (E.q_struct rfl rfl pl_29 rfl) rfl rfl ?_
              refine E.Ops.loud rfl rfl ?_
              refine E.l_store rfl rfl rfl E.ixA 3 sz_29 (by rfl) (by rfl) (by rfl) (by rfl) ?_
              refine E.Ops.nil ?_
              try simp only [E.tn, E.tx, E.tr, E.bn, E.br, E.bs]
              refine E.Run.ret ?_
              try simp only [E.tn, E.tx, E.tr, E.bn, E.br, E.bs]
              exact ⟨_, _, _, E.ResOk.one rfl ⟨_, rfl, E.LoadAt.ownAgg E.ixA 3 ag_29 (by rfl) (by rfl)⟩, E.Ent.of E.entA, hK⟩
            · refine E.Run.skip ?_
              try simp only [E.tn, E.tx, E.tr, E.bn, E.br, E.bs]
              exact ⟨by simpa using h24, by ((repeat refine E.SubEnv.cons rfl ?_); exact E.SubEnv.nil _), by exact E.Ent.of E.entA⟩
          rintro L1 ρ1 M1 ⟨hok, hs', he⟩
          refine E.Run.sub hs' (E.Run.ent he ?_)
          clear hs' he
          (repeat refine E.Run.seq ?_)
          refine E.Run.region ?_
          refine E.Ops.q _ (E.q_move rfl rfl) rfl rfl ?_
          first | refine E.Ops.q _ (E.q_incr rfl rfl (by omega)) rfl rfl ?_ | refine E.Ops.q _ (E.q_addFit rfl rfl rfl (by omega)) rfl rfl ?_ | refine E.Ops.q _ (E.q_add rfl rfl rfl) rfl rfl ?_
          refine E.Ops.q _ (E.q_mv rfl rfl) rfl rfl ?_
          refine E.Ops.nil ?_
          try simp only [E.tn, E.tx, E.tr, E.bn, E.br, E.bs]
          exact ⟨k + 1, ⟨by omega, fun k' hk' => by
            by_cases e : k' = k
            · rw [e]; exact hok
            · exact hkk k' (by omega)⟩, by omega, by ((repeat refine E.SubEnv.cons rfl ?_); exact E.SubEnv.nil _), by exact E.Ent.of E.entA⟩
      rintro L1 ρ1 M1 ⟨hinj', hs', he⟩
      refine E.Run.sub hs' (E.Run.ent he ?_)
      clear hs' he
      (repeat refine E.Run.seq ?_)
      refine E.Run.region ?_
      refine E.Ops.q _ (E.q_move rfl rfl) rfl rfl ?_
      first | refine E.Ops.q _ (E.q_incr rfl rfl (by omega)) rfl rfl ?_ | refine E.Ops.q _ (E.q_addFit rfl rfl rfl (by omega)) rfl rfl ?_ | refine E.Ops.q _ (E.q_add rfl rfl rfl) rfl rfl ?_
      refine E.Ops.q _ (E.q_mv rfl rfl) rfl rfl ?_
      refine E.Ops.nil ?_
      try simp only [E.tn, E.tx, E.tr, E.bn, E.br, E.bs]
      exact ⟨j + 1, ⟨by omega, hinj'⟩, by omega, by ((repeat refine E.SubEnv.cons rfl ?_); exact E.SubEnv.nil _), by exact E.Ent.of E.entA⟩
    rintro L1 ρ1 M1 ⟨hinv', hs', he⟩
    refine E.Run.sub hs' (E.Run.ent he ?_)
    clear hs' he
    (repeat refine E.Run.seq ?_)
    refine E.Run.region ?_
    refine E.Ops.q _ (E.q_move rfl rfl) rfl rfl ?_
    first | refine E.Ops.q _ (E.q_incr rfl rfl (by omega)) rfl rfl ?_ | refine E.Ops.q _ (E.q_addFit rfl rfl rfl (by omega)) rfl rfl ?_ | refine E.Ops.q _ (E.q_add rfl rfl rfl) rfl rfl ?_
    refine E.Ops.q _ (E.q_mv rfl rfl) rfl rfl ?_
    refine E.Ops.nil ?_
    try simp only [E.tn, E.tx, E.tr, E.bn, E.br, E.bs]
    exact ⟨t + 1, ⟨by omega, hinv'⟩, by omega, by ((repeat refine E.SubEnv.cons rfl ?_); exact E.SubEnv.nil _), by exact E.Ent.of E.entA⟩
  rintro L1 ρ1 M1 ⟨h0, hs', he⟩
  refine E.Run.sub hs' (E.Run.ent he ?_)
  clear hs' he
  rw [h0] at hK
  (repeat refine E.Run.seq ?_)
  refine E.Run.region ?_
  refine E.Ops.q _ (E.q_struct rfl rfl pl_29 rfl) rfl rfl ?_
  refine E.Ops.loud rfl rfl ?_
  refine E.l_store rfl rfl rfl E.ixA 3 sz_29 (by rfl) (by rfl) (by rfl) (by rfl) ?_
  refine E.Ops.nil ?_
  try simp only [E.tn, E.tx, E.tr, E.bn, E.br, E.bs]
  refine E.Run.ret ?_
  try simp only [E.tn, E.tx, E.tr, E.bn, E.br, E.bs]
  exact ⟨_, _, _, E.ResOk.one rfl ⟨_, rfl, E.LoadAt.ownAgg E.ixA 3 ag_29 (by rfl) (by rfl)⟩, E.Ent.of E.entA, hK⟩
end Go.Proofs.Ythpgjbdacknkgaa
