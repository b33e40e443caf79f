/- sluiceref13.Result, walked. No statement of the seat in it. -/
import Derived.Test.YthpgjbdacknkgaaQ8
set_option linter.unusedVariables false
set_option linter.unusedSimpArgs false
namespace Go.Proofs.Ythpgjbdacknkgaa
open Go
private theorem ag_101 : E.isAggOf Try.prog 101 2 = true := by kernel_rfl
private theorem fo_101_0 : E.fieldOff Try.prog 101 0 = some 0 := by kernel_rfl
private theorem fo_101_1 : E.fieldOff Try.prog 101 1 = some 1 := by kernel_rfl
private theorem fo_44_0 : E.fieldOff Try.prog 44 0 = some 0 := by kernel_rfl
private theorem fo_44_2 : E.fieldOff Try.prog 44 2 = some 2 := by kernel_rfl
private theorem fo_44_3 : E.fieldOff Try.prog 44 3 = some 3 := by kernel_rfl
private theorem nb_98 : Try.f98.body.isNone = false := by kernel_rfl
private theorem nm_98 : (Try.f98.name == "runtime.NumGoroutine") = false := by kernel_rfl
private theorem pl_101 : E.placesOf Try.prog 101 = some ([.int .i64 0, .int .i64 0], [(0, 1), (1, 1)]) := by kernel_rfl
private theorem sc_3 : E.isScal Try.prog 3 = true := by kernel_rfl
private theorem so_103 : E.sliceOf Try.prog 103 = some (101, 2) := by kernel_rfl
private theorem sz_101 : (Try.prog.info? 101).map (·.size) = some 2 := by kernel_rfl
private theorem ty_101 : E.tyOf Try.prog 101 = some (some (.agg #[.int .i64 0, .int .i64 0]), 2, 16) := by kernel_rfl

theorem E.LoadAt.ent {P : Program} {ρ ρ' : E.Ro} {M M' : List E.Asr} {t : TypeId} {a : Addr} {v : Value} (h : E.LoadAt P ρ M t a v) (he : E.Ent ρ' M' ρ M) : E.LoadAt P ρ' M' t a v := fun w H => h w (he w H)
theorem reck_less {i : E.Ins} {V : Int → Vl} (h : i.op = 6) (h1 : (V i.b).st ≠ 0) (h2 : (V i.c).st ≠ 0) (h3 : (V i.b).st ≠ 2) (h4 : (V i.c).st ≠ 2) : reck i V = some ⟨1, if (V i.b).n < (V i.c).n then 1 else 0⟩ := by
  unfold reck arithI
  rw [if_neg (by omega), if_neg (by omega), if_pos (by omega), if_neg (by omega), if_neg (by omega), if_neg (by omega), if_neg (by omega), if_neg (by omega)]
  rw [if_pos h]; simp
theorem reck_same {i : E.Ins} {V : Int → Vl} (h : i.op = 7) (h1 : (V i.b).st ≠ 0) (h2 : (V i.c).st ≠ 0) (h3 : (V i.b).st ≠ 2) (h4 : (V i.c).st ≠ 2) : reck i V = some ⟨1, if (V i.b).n = (V i.c).n then 1 else 0⟩ := by
  unfold reck arithI
  rw [if_neg (by omega), if_neg (by omega), if_pos (by omega), if_neg (by omega), if_neg (by omega), if_neg (by omega), if_neg (by omega), if_neg (by omega)]
  rw [if_neg (by omega)]; simp
set_option maxHeartbeats 4000000 in
set_option maxRecDepth 100000 in
theorem rResult {ρ : E.Ro} {M : List E.Asr} {K : Value → E.Ro → List E.Asr → Prop} (i : E.Ins) (R : Nat) (V : Int → Vl) (ad : Addr) (c : Nat) (hop : 1 ≤ i.op ∧ i.op ≤ 7) (hr : readsIn R i)
    (hl : ∀ r : Int, 0 ≤ r → r < R → E.LoadAt Try.prog ρ M 101 (ad.add (r.toNat * 2)) (vlV (V r)))
    (hK : K (vlV ((reck i V).getD ⟨0, 0⟩)) ρ M) :
    E.Hoa Try.prog 56 #[.agg (E.encIns i).toArray, .slice (some ad) R c] ρ M K := by
  refine E.Hoa.enter 87 Try.func56 rfl rfl rfl ?_
  (repeat refine E.Run.seq ?_)
  refine E.Run.region ?_
  refine E.Ops.loud rfl rfl ?_
  refine E.l_box rfl rfl (fun b0_0 => ?_)
  refine E.Ops.loud rfl rfl ?_
  refine E.l_alloc rfl ty_101 (fun b0_1 => ?_)
  refine E.Ops.nil ?_
  try simp only [E.tn, E.tx, E.tr, E.bn, E.br, E.bs]
  (repeat refine E.Run.seq ?_)
  refine E.Run.region ?_
  first | refine E.Ops.q _ (E.q_fieldAddr' rfl rfl fo_44_0) rfl rfl ?_ | refine E.Ops.q _ (E.q_fieldAddr rfl rfl fo_44_0) rfl rfl ?_
  refine E.Ops.q _ (E.q_load rfl rfl (by first | refine E.LoadAt.own E.ixA sc_3 (by rfl) | exact E.LoadAt.ro sc_3 (by assumption) | exact E.LoadAt.arr E.ixA sc_3 (by assumption))) rfl rfl ?_
  refine E.Ops.part (E.q_eql rfl rfl rfl) rfl rfl (fun h1_2 => ?T1) (fun h1_2 => ?F1)
  case' F1 =>
    refine E.Ops.nil ?_
    try simp only [E.tn, E.tx, E.tr, E.bn, E.br, E.bs]
    (repeat refine E.Run.seq ?_)
    (repeat refine E.Run.seq ?_); refine E.Run.condF rfl ?_
    refine E.Run.skip ?_
    try simp only [E.tn, E.tx, E.tr, E.bn, E.br, E.bs]
    (repeat refine E.Run.seq ?_)
    refine E.Run.region ?_
    refine E.Ops.q _ (E.q_move rfl rfl) rfl rfl ?_
    first | refine E.Ops.q _ (E.q_fieldAddr' rfl rfl fo_44_2) rfl rfl ?_ | refine E.Ops.q _ (E.q_fieldAddr rfl rfl fo_44_2) rfl rfl ?_
    refine E.Ops.q _ (E.q_load rfl rfl (by first | refine E.LoadAt.own E.ixA sc_3 (by rfl) | exact E.LoadAt.ro sc_3 (by assumption) | exact E.LoadAt.arr E.ixA sc_3 (by assumption))) rfl rfl ?_
    refine E.Ops.q _ (E.q_indexAddr rfl rfl rfl so_103 (by have := hr.1; have := hr.2; omega) (by have := hr.1; have := hr.2; omega)) rfl rfl ?_
    refine E.Ops.q _ (E.q_load rfl rfl (by refine (hl i.b (by have := hr.1; have := hr.2; omega) (by have := hr.1; have := hr.2; omega)).ent (by exact E.Ent.of E.entA))) rfl rfl ?_
    refine E.Ops.loud rfl rfl ?_
    refine E.l_alloc rfl ty_101 (fun b3_5 => ?_)
    refine E.Ops.loud rfl rfl ?_
    refine E.l_store rfl rfl rfl E.ixA 2 sz_101 (by rfl) (by rfl) (by rfl) (by rfl) ?_
    refine E.Ops.nil ?_
    try simp only [E.tn, E.tx, E.tr, E.bn, E.br, E.bs]
    (repeat refine E.Run.seq ?_)
    refine E.Run.region ?_
    first | refine E.Ops.q _ (E.q_fieldAddr' rfl rfl fo_44_0) rfl rfl ?_ | refine E.Ops.q _ (E.q_fieldAddr rfl rfl fo_44_0) rfl rfl ?_
    refine E.Ops.q _ (E.q_load rfl rfl (by first | refine E.LoadAt.own E.ixA sc_3 (by rfl) | exact E.LoadAt.ro sc_3 (by assumption) | exact E.LoadAt.arr E.ixA sc_3 (by assumption))) rfl rfl ?_
    refine E.Ops.part (E.q_eql rfl rfl rfl) rfl rfl (fun h4_2 => ?T2) (fun h4_2 => ?F2)
    case' F2 =>
      refine E.Ops.nil ?_
      try simp only [E.tn, E.tx, E.tr, E.bn, E.br, E.bs]
      (repeat refine E.Run.seq ?_)
      (repeat refine E.Run.seq ?_); refine E.Run.condF rfl ?_
      refine E.Run.skip ?_
      try simp only [E.tn, E.tx, E.tr, E.bn, E.br, E.bs]
      (repeat refine E.Run.seq ?_)
      refine E.Run.region ?_
      refine E.Ops.q _ (E.q_move rfl rfl) rfl rfl ?_
      first | refine E.Ops.q _ (E.q_fieldAddr' rfl rfl fo_44_3) rfl rfl ?_ | refine E.Ops.q _ (E.q_fieldAddr rfl rfl fo_44_3) rfl rfl ?_
      refine E.Ops.q _ (E.q_load rfl rfl (by first | refine E.LoadAt.own E.ixA sc_3 (by rfl) | exact E.LoadAt.ro sc_3 (by assumption) | exact E.LoadAt.arr E.ixA sc_3 (by assumption))) rfl rfl ?_
      refine E.Ops.q _ (E.q_indexAddr rfl rfl rfl so_103 (by have := hr.2; omega) (by have := hr.2; omega)) rfl rfl ?_
      refine E.Ops.q _ (E.q_load rfl rfl (by refine (hl i.c (by have := hr.2; omega) (by have := hr.2; omega)).ent (by exact E.Ent.of E.entA))) rfl rfl ?_
      refine E.Ops.loud rfl rfl ?_
      refine E.l_alloc rfl ty_101 (fun b6_5 => ?_)
      refine E.Ops.loud rfl rfl ?_
      refine E.l_store rfl rfl rfl E.ixA 2 sz_101 (by rfl) (by rfl) (by rfl) (by rfl) ?_
      refine E.Ops.nil ?_
      try simp only [E.tn, E.tx, E.tr, E.bn, E.br, E.bs]
      (repeat refine E.Run.seq ?_)
      refine E.Run.region ?_
      first | refine E.Ops.q _ (E.q_fieldAddr' rfl rfl fo_101_0) rfl rfl ?_ | refine E.Ops.q _ (E.q_fieldAddr rfl rfl fo_101_0) rfl rfl ?_
      refine E.Ops.q _ (E.q_load rfl rfl (by first | refine E.LoadAt.own E.ixA sc_3 (by rfl) | exact E.LoadAt.ro sc_3 (by assumption) | exact E.LoadAt.arr E.ixA sc_3 (by assumption))) rfl rfl ?_
      refine E.Ops.part (E.q_eql rfl rfl rfl) rfl rfl (fun h7_2 => ?T3) (fun h7_2 => ?F3)
      case' F3 =>
        refine E.Ops.q _ (E.q_move rfl rfl) rfl rfl ?_
        first | refine E.Ops.q _ (E.q_fieldAddr' rfl rfl fo_101_0) rfl rfl ?_ | refine E.Ops.q _ (E.q_fieldAddr rfl rfl fo_101_0) rfl rfl ?_
        refine E.Ops.q _ (E.q_load rfl rfl (by first | refine E.LoadAt.own E.ixA sc_3 (by rfl) | exact E.LoadAt.ro sc_3 (by assumption) | exact E.LoadAt.arr E.ixA sc_3 (by assumption))) rfl rfl ?_
        refine E.Ops.part (E.q_eql rfl rfl rfl) rfl rfl (fun h7_6 => ?T4) (fun h7_6 => ?F4)
        case' F4 =>
          refine E.Ops.q _ (E.q_pickF rfl rfl rfl) rfl rfl ?_
          refine E.Ops.nil ?_
          try simp only [E.tn, E.tx, E.tr, E.bn, E.br, E.bs]
          (repeat refine E.Run.seq ?_)
          (repeat refine E.Run.seq ?_); refine E.Run.condF rfl ?_
          refine E.Run.skip ?_
          try simp only [E.tn, E.tx, E.tr, E.bn, E.br, E.bs]
          (repeat refine E.Run.seq ?_)
          refine E.Run.region ?_
          first | refine E.Ops.q _ (E.q_fieldAddr' rfl rfl fo_101_0) rfl rfl ?_ | refine E.Ops.q _ (E.q_fieldAddr rfl rfl fo_101_0) rfl rfl ?_
          refine E.Ops.q _ (E.q_load rfl rfl (by first | refine E.LoadAt.own E.ixA sc_3 (by rfl) | exact E.LoadAt.ro sc_3 (by assumption) | exact E.LoadAt.arr E.ixA sc_3 (by assumption))) rfl rfl ?_
          refine E.Ops.part (E.q_eql rfl rfl rfl) rfl rfl (fun h9_2 => ?T5) (fun h9_2 => ?F5)
          case' F5 =>
            refine E.Ops.q _ (E.q_move rfl rfl) rfl rfl ?_
            first | refine E.Ops.q _ (E.q_fieldAddr' rfl rfl fo_101_0) rfl rfl ?_ | refine E.Ops.q _ (E.q_fieldAddr rfl rfl fo_101_0) rfl rfl ?_
            refine E.Ops.q _ (E.q_load rfl rfl (by first | refine E.LoadAt.own E.ixA sc_3 (by rfl) | exact E.LoadAt.ro sc_3 (by assumption) | exact E.LoadAt.arr E.ixA sc_3 (by assumption))) rfl rfl ?_
            refine E.Ops.part (E.q_eql rfl rfl rfl) rfl rfl (fun h9_6 => ?T6) (fun h9_6 => ?F6)
            case' F6 =>
              refine E.Ops.q _ (E.q_pickF rfl rfl rfl) rfl rfl ?_
              refine E.Ops.nil ?_
              try simp only [E.tn, E.tx, E.tr, E.bn, E.br, E.bs]
              (repeat refine E.Run.seq ?_)
              (repeat refine E.Run.seq ?_); refine E.Run.condF rfl ?_
              refine E.Run.skip ?_
              try simp only [E.tn, E.tx, E.tr, E.bn, E.br, E.bs]
              (repeat refine E.Run.seq ?_)
              refine E.Run.region ?_
              first | refine E.Ops.q _ (E.q_fieldAddr' rfl rfl fo_44_0) rfl rfl ?_ | refine E.Ops.q _ (E.q_fieldAddr rfl rfl fo_44_0) rfl rfl ?_
              refine E.Ops.q _ (E.q_load rfl rfl (by first | refine E.LoadAt.own E.ixA sc_3 (by rfl) | exact E.LoadAt.ro sc_3 (by assumption) | exact E.LoadAt.arr E.ixA sc_3 (by assumption))) rfl rfl ?_
              refine E.Ops.nil ?_
              try simp only [E.tn, E.tx, E.tr, E.bn, E.br, E.bs]
              (repeat refine E.Run.seq ?_)
              (repeat refine E.Run.seq ?_); refine E.Run.block ?_
              (repeat refine E.Run.seq ?_)
              refine E.Run.region ?_
              refine E.Ops.part (E.q_eql rfl rfl rfl) rfl rfl (fun h12_0 => ?T7) (fun h12_0 => ?F7)
              case' F7 =>
                refine E.Ops.q _ (E.q_mv rfl rfl) rfl rfl ?_
                refine E.Ops.nil ?_
                try simp only [E.tn, E.tx, E.tr, E.bn, E.br, E.bs]
                (repeat refine E.Run.seq ?_)
                (repeat refine E.Run.seq ?_); refine E.Run.condF rfl ?_
                (repeat refine E.Run.seq ?_)
                refine E.Run.region ?_
                refine E.Ops.part (E.q_eql rfl rfl rfl) rfl rfl (fun h14_0 => ?T8) (fun h14_0 => ?F8)
                case' F8 =>
                  refine E.Ops.q _ (E.q_mv rfl rfl) rfl rfl ?_
                  refine E.Ops.nil ?_
                  try simp only [E.tn, E.tx, E.tr, E.bn, E.br, E.bs]
                  (repeat refine E.Run.seq ?_)
                  (repeat refine E.Run.seq ?_); refine E.Run.condF rfl ?_
                  (repeat refine E.Run.seq ?_)
                  refine E.Run.region ?_
                  refine E.Ops.part (E.q_eql rfl rfl rfl) rfl rfl (fun h16_0 => ?T9) (fun h16_0 => ?F9)
                  case' F9 =>
                    refine E.Ops.q _ (E.q_mv rfl rfl) rfl rfl ?_
                    refine E.Ops.nil ?_
                    try simp only [E.tn, E.tx, E.tr, E.bn, E.br, E.bs]
                    (repeat refine E.Run.seq ?_)
                    (repeat refine E.Run.seq ?_); refine E.Run.condF rfl ?_
                    (repeat refine E.Run.seq ?_)
                    refine E.Run.region ?_
                    refine E.Ops.part (E.q_eql rfl rfl rfl) rfl rfl (fun h18_0 => ?T10) (fun h18_0 => ?F10)
                    case' F10 =>
                      refine E.Ops.q _ (E.q_mv rfl rfl) rfl rfl ?_
                      refine E.Ops.nil ?_
                      try simp only [E.tn, E.tx, E.tr, E.bn, E.br, E.bs]
                      (repeat refine E.Run.seq ?_)
                      (repeat refine E.Run.seq ?_); refine E.Run.condF rfl ?_
                      refine E.Run.skip ?_
                      try simp only [E.tn, E.tx, E.tr, E.bn, E.br, E.bs]
                      (repeat refine E.Run.seq ?_)
                      refine E.Run.region ?_
                      first | refine E.Ops.q _ (E.q_fieldAddr' rfl rfl fo_101_1) rfl rfl ?_ | refine E.Ops.q _ (E.q_fieldAddr rfl rfl fo_101_1) rfl rfl ?_
                      refine E.Ops.q _ (E.q_load rfl rfl (by first | refine E.LoadAt.own E.ixA sc_3 (by rfl) | exact E.LoadAt.ro sc_3 (by assumption) | exact E.LoadAt.arr E.ixA sc_3 (by assumption))) rfl rfl ?_
                      first | refine E.Ops.q _ (E.q_fieldAddr' rfl rfl fo_101_1) rfl rfl ?_ | refine E.Ops.q _ (E.q_fieldAddr rfl rfl fo_101_1) rfl rfl ?_
                      refine E.Ops.q _ (E.q_load rfl rfl (by first | refine E.LoadAt.own E.ixA sc_3 (by rfl) | exact E.LoadAt.ro sc_3 (by assumption) | exact E.LoadAt.arr E.ixA sc_3 (by assumption))) rfl rfl ?_
                      refine E.Ops.part (E.q_eql rfl rfl rfl) rfl rfl (fun h20_4 => ?T11) (fun h20_4 => ?F11)
                      case' F11 =>
                        refine E.Ops.loud rfl rfl ?_
                        refine E.l_call Try.func98 nm_98 nb_98 rfl ?_; refine rBit _ ?_
                        refine E.Ops.q _ (E.q_struct rfl rfl pl_101 rfl) rfl rfl ?_
                        refine E.Ops.loud rfl rfl ?_
                        refine E.l_store rfl rfl rfl E.ixA 2 sz_101 (by rfl) (by rfl) (by rfl) (by rfl) ?_
                        refine E.Ops.nil ?_
                        try simp only [E.tn, E.tx, E.tr, E.bn, E.br, E.bs]
                        refine E.Run.ret ?_
                        try simp only [E.tn, E.tx, E.tr, E.bn, E.br, E.bs]
                        exact ⟨_, _, _, E.ResOk.one rfl ⟨_, rfl, E.LoadAt.ownAgg E.ixA 2 ag_101 (by rfl) (by rfl)⟩, E.Ent.of E.entA, E.kEq hK (by rw [reck_same (by omega) (by omega) (by omega) (by omega) (by omega)]; first | (rw [if_pos (by assumption)]; rfl) | (rw [if_neg (by assumption)]; rfl))⟩
                      case' T11 =>
                        refine E.Ops.loud rfl rfl ?_
                        refine E.l_call Try.func98 nm_98 nb_98 rfl ?_; refine rBit _ ?_
                        refine E.Ops.q _ (E.q_struct rfl rfl pl_101 rfl) rfl rfl ?_
                        refine E.Ops.loud rfl rfl ?_
                        refine E.l_store rfl rfl rfl E.ixA 2 sz_101 (by rfl) (by rfl) (by rfl) (by rfl) ?_
                        refine E.Ops.nil ?_
                        try simp only [E.tn, E.tx, E.tr, E.bn, E.br, E.bs]
                        refine E.Run.ret ?_
                        try simp only [E.tn, E.tx, E.tr, E.bn, E.br, E.bs]
                        exact ⟨_, _, _, E.ResOk.one rfl ⟨_, rfl, E.LoadAt.ownAgg E.ixA 2 ag_101 (by rfl) (by rfl)⟩, E.Ent.of E.entA, E.kEq hK (by rw [reck_same (by omega) (by omega) (by omega) (by omega) (by omega)]; first | (rw [if_pos (by assumption)]; rfl) | (rw [if_neg (by assumption)]; rfl))⟩
                    case' T10 =>
                      refine E.Ops.q _ (E.q_mv rfl rfl) rfl rfl ?_
                      refine E.Ops.nil ?_
                      try simp only [E.tn, E.tx, E.tr, E.bn, E.br, E.bs]
                      (repeat refine E.Run.seq ?_)
                      (repeat refine E.Run.seq ?_); refine E.Run.condT rfl ?_
                      (repeat refine E.Run.seq ?_)
                      refine E.Run.region ?_
                      first | refine E.Ops.q _ (E.q_fieldAddr' rfl rfl fo_101_1) rfl rfl ?_ | refine E.Ops.q _ (E.q_fieldAddr rfl rfl fo_101_1) rfl rfl ?_
                      refine E.Ops.q _ (E.q_load rfl rfl (by first | refine E.LoadAt.own E.ixA sc_3 (by rfl) | exact E.LoadAt.ro sc_3 (by assumption) | exact E.LoadAt.arr E.ixA sc_3 (by assumption))) rfl rfl ?_
                      first | refine E.Ops.q _ (E.q_fieldAddr' rfl rfl fo_101_1) rfl rfl ?_ | refine E.Ops.q _ (E.q_fieldAddr rfl rfl fo_101_1) rfl rfl ?_
                      refine E.Ops.q _ (E.q_load rfl rfl (by first | refine E.LoadAt.own E.ixA sc_3 (by rfl) | exact E.LoadAt.ro sc_3 (by assumption) | exact E.LoadAt.arr E.ixA sc_3 (by assumption))) rfl rfl ?_
                      refine E.Ops.part (E.q_lss rfl rfl rfl) rfl rfl (fun h19_4 => ?T12) (fun h19_4 => ?F12)
                      case' F12 =>
                        refine E.Ops.loud rfl rfl ?_
                        refine E.l_call Try.func98 nm_98 nb_98 rfl ?_; refine rBit _ ?_
                        refine E.Ops.q _ (E.q_struct rfl rfl pl_101 rfl) rfl rfl ?_
                        refine E.Ops.loud rfl rfl ?_
                        refine E.l_store rfl rfl rfl E.ixA 2 sz_101 (by rfl) (by rfl) (by rfl) (by rfl) ?_
                        refine E.Ops.nil ?_
                        try simp only [E.tn, E.tx, E.tr, E.bn, E.br, E.bs]
                        refine E.Run.ret ?_
                        try simp only [E.tn, E.tx, E.tr, E.bn, E.br, E.bs]
                        exact ⟨_, _, _, E.ResOk.one rfl ⟨_, rfl, E.LoadAt.ownAgg E.ixA 2 ag_101 (by rfl) (by rfl)⟩, E.Ent.of E.entA, E.kEq hK (by rw [reck_less (by omega) (by omega) (by omega) (by omega) (by omega)]; first | (rw [if_pos (by assumption)]; rfl) | (rw [if_neg (by assumption)]; rfl))⟩
                      case' T12 =>
                        refine E.Ops.loud rfl rfl ?_
                        refine E.l_call Try.func98 nm_98 nb_98 rfl ?_; refine rBit _ ?_
                        refine E.Ops.q _ (E.q_struct rfl rfl pl_101 rfl) rfl rfl ?_
                        refine E.Ops.loud rfl rfl ?_
                        refine E.l_store rfl rfl rfl E.ixA 2 sz_101 (by rfl) (by rfl) (by rfl) (by rfl) ?_
                        refine E.Ops.nil ?_
                        try simp only [E.tn, E.tx, E.tr, E.bn, E.br, E.bs]
                        refine E.Run.ret ?_
                        try simp only [E.tn, E.tx, E.tr, E.bn, E.br, E.bs]
                        exact ⟨_, _, _, E.ResOk.one rfl ⟨_, rfl, E.LoadAt.ownAgg E.ixA 2 ag_101 (by rfl) (by rfl)⟩, E.Ent.of E.entA, E.kEq hK (by rw [reck_less (by omega) (by omega) (by omega) (by omega) (by omega)]; first | (rw [if_pos (by assumption)]; rfl) | (rw [if_neg (by assumption)]; rfl))⟩
                  case' T9 =>
                    refine E.Ops.q _ (E.q_mv rfl rfl) rfl rfl ?_
                    refine E.Ops.nil ?_
                    try simp only [E.tn, E.tx, E.tr, E.bn, E.br, E.bs]
                    (repeat refine E.Run.seq ?_)
                    (repeat refine E.Run.seq ?_); refine E.Run.condT rfl ?_
                    (repeat refine E.Run.seq ?_)
                    refine E.Run.region ?_
                    first | refine E.Ops.q _ (E.q_fieldAddr' rfl rfl fo_101_1) rfl rfl ?_ | refine E.Ops.q _ (E.q_fieldAddr rfl rfl fo_101_1) rfl rfl ?_
                    refine E.Ops.q _ (E.q_load rfl rfl (by first | refine E.LoadAt.own E.ixA sc_3 (by rfl) | exact E.LoadAt.ro sc_3 (by assumption) | exact E.LoadAt.arr E.ixA sc_3 (by assumption))) rfl rfl ?_
                    first | refine E.Ops.q _ (E.q_fieldAddr' rfl rfl fo_101_1) rfl rfl ?_ | refine E.Ops.q _ (E.q_fieldAddr rfl rfl fo_101_1) rfl rfl ?_
                    refine E.Ops.q _ (E.q_load rfl rfl (by first | refine E.LoadAt.own E.ixA sc_3 (by rfl) | exact E.LoadAt.ro sc_3 (by assumption) | exact E.LoadAt.arr E.ixA sc_3 (by assumption))) rfl rfl ?_
                    first | refine E.Ops.q _ (E.q_mul rfl rfl rfl) rfl rfl ?_
                    refine E.Ops.q _ (E.q_struct rfl rfl pl_101 rfl) rfl rfl ?_
                    refine E.Ops.loud rfl rfl ?_
                    refine E.l_store rfl rfl rfl E.ixA 2 sz_101 (by rfl) (by rfl) (by rfl) (by rfl) ?_
                    refine E.Ops.nil ?_
                    try simp only [E.tn, E.tx, E.tr, E.bn, E.br, E.bs]
                    refine E.Run.ret ?_
                    try simp only [E.tn, E.tx, E.tr, E.bn, E.br, E.bs]
                    exact ⟨_, _, _, E.ResOk.one rfl ⟨_, rfl, E.LoadAt.ownAgg E.ixA 2 ag_101 (by rfl) (by rfl)⟩, E.Ent.of E.entA, E.kEq hK (by rw [show reck i V = some ⟨1, IntKind.i64.wrap ((V i.b).n * (V i.c).n)⟩ from (by unfold reck arithI; (repeat' split) <;> first | rfl | (exfalso; omega))]; rfl)⟩
                case' T8 =>
                  refine E.Ops.q _ (E.q_mv rfl rfl) rfl rfl ?_
                  refine E.Ops.nil ?_
                  try simp only [E.tn, E.tx, E.tr, E.bn, E.br, E.bs]
                  (repeat refine E.Run.seq ?_)
                  (repeat refine E.Run.seq ?_); refine E.Run.condT rfl ?_
                  (repeat refine E.Run.seq ?_)
                  refine E.Run.region ?_
                  first | refine E.Ops.q _ (E.q_fieldAddr' rfl rfl fo_101_1) rfl rfl ?_ | refine E.Ops.q _ (E.q_fieldAddr rfl rfl fo_101_1) rfl rfl ?_
                  refine E.Ops.q _ (E.q_load rfl rfl (by first | refine E.LoadAt.own E.ixA sc_3 (by rfl) | exact E.LoadAt.ro sc_3 (by assumption) | exact E.LoadAt.arr E.ixA sc_3 (by assumption))) rfl rfl ?_
                  first | refine E.Ops.q _ (E.q_fieldAddr' rfl rfl fo_101_1) rfl rfl ?_ | refine E.Ops.q _ (E.q_fieldAddr rfl rfl fo_101_1) rfl rfl ?_
                  refine E.Ops.q _ (E.q_load rfl rfl (by first | refine E.LoadAt.own E.ixA sc_3 (by rfl) | exact E.LoadAt.ro sc_3 (by assumption) | exact E.LoadAt.arr E.ixA sc_3 (by assumption))) rfl rfl ?_
                  first | refine E.Ops.q _ (E.q_subFit rfl rfl rfl (by omega)) rfl rfl ?_ | refine E.Ops.q _ (E.q_sub rfl rfl rfl) rfl rfl ?_
                  refine E.Ops.q _ (E.q_struct rfl rfl pl_101 rfl) rfl rfl ?_
                  refine E.Ops.loud rfl rfl ?_
                  refine E.l_store rfl rfl rfl E.ixA 2 sz_101 (by rfl) (by rfl) (by rfl) (by rfl) ?_
                  refine E.Ops.nil ?_
                  try simp only [E.tn, E.tx, E.tr, E.bn, E.br, E.bs]
                  refine E.Run.ret ?_
                  try simp only [E.tn, E.tx, E.tr, E.bn, E.br, E.bs]
                  exact ⟨_, _, _, E.ResOk.one rfl ⟨_, rfl, E.LoadAt.ownAgg E.ixA 2 ag_101 (by rfl) (by rfl)⟩, E.Ent.of E.entA, E.kEq hK (by rw [show reck i V = some ⟨1, IntKind.i64.wrap ((V i.b).n - (V i.c).n)⟩ from (by unfold reck arithI; (repeat' split) <;> first | rfl | (exfalso; omega))]; rfl)⟩
              case' T7 =>
                refine E.Ops.q _ (E.q_mv rfl rfl) rfl rfl ?_
                refine E.Ops.nil ?_
                try simp only [E.tn, E.tx, E.tr, E.bn, E.br, E.bs]
                (repeat refine E.Run.seq ?_)
                (repeat refine E.Run.seq ?_); refine E.Run.condT rfl ?_
                (repeat refine E.Run.seq ?_)
                refine E.Run.region ?_
                first | refine E.Ops.q _ (E.q_fieldAddr' rfl rfl fo_101_1) rfl rfl ?_ | refine E.Ops.q _ (E.q_fieldAddr rfl rfl fo_101_1) rfl rfl ?_
                refine E.Ops.q _ (E.q_load rfl rfl (by first | refine E.LoadAt.own E.ixA sc_3 (by rfl) | exact E.LoadAt.ro sc_3 (by assumption) | exact E.LoadAt.arr E.ixA sc_3 (by assumption))) rfl rfl ?_
                first | refine E.Ops.q _ (E.q_fieldAddr' rfl rfl fo_101_1) rfl rfl ?_ | refine E.Ops.q _ (E.q_fieldAddr rfl rfl fo_101_1) rfl rfl ?_
                refine E.Ops.q _ (E.q_load rfl rfl (by first | refine E.LoadAt.own E.ixA sc_3 (by rfl) | exact E.LoadAt.ro sc_3 (by assumption) | exact E.LoadAt.arr E.ixA sc_3 (by assumption))) rfl rfl ?_
                first | refine E.Ops.q _ (E.q_incr rfl rfl (by omega)) rfl rfl ?_ | refine E.Ops.q _ (E.q_addFit rfl rfl rfl (by omega)) rfl rfl ?_ | refine E.Ops.q _ (E.q_add rfl rfl rfl) rfl rfl ?_
                refine E.Ops.q _ (E.q_struct rfl rfl pl_101 rfl) rfl rfl ?_
                refine E.Ops.loud rfl rfl ?_
                refine E.l_store rfl rfl rfl E.ixA 2 sz_101 (by rfl) (by rfl) (by rfl) (by rfl) ?_
                refine E.Ops.nil ?_
                try simp only [E.tn, E.tx, E.tr, E.bn, E.br, E.bs]
                refine E.Run.ret ?_
                try simp only [E.tn, E.tx, E.tr, E.bn, E.br, E.bs]
                exact ⟨_, _, _, E.ResOk.one rfl ⟨_, rfl, E.LoadAt.ownAgg E.ixA 2 ag_101 (by rfl) (by rfl)⟩, E.Ent.of E.entA, E.kEq hK (by rw [show reck i V = some ⟨1, IntKind.i64.wrap ((V i.b).n + (V i.c).n)⟩ from (by unfold reck arithI; (repeat' split) <;> first | rfl | (exfalso; omega))]; rfl)⟩
            case' T6 =>
              refine E.Ops.q _ (E.q_pickF rfl rfl rfl) rfl rfl ?_
              refine E.Ops.nil ?_
              try simp only [E.tn, E.tx, E.tr, E.bn, E.br, E.bs]
              (repeat refine E.Run.seq ?_)
              (repeat refine E.Run.seq ?_); refine E.Run.condT rfl ?_
              (repeat refine E.Run.seq ?_)
              refine E.Run.region ?_
              refine E.Ops.q _ (E.q_struct rfl rfl pl_101 rfl) rfl rfl ?_
              refine E.Ops.loud rfl rfl ?_
              refine E.l_store rfl rfl rfl E.ixA 2 sz_101 (by rfl) (by rfl) (by rfl) (by rfl) ?_
              refine E.Ops.nil ?_
              try simp only [E.tn, E.tx, E.tr, E.bn, E.br, E.bs]
              refine E.Run.ret ?_
              try simp only [E.tn, E.tx, E.tr, E.bn, E.br, E.bs]
              exact ⟨_, _, _, E.ResOk.one rfl ⟨_, rfl, E.LoadAt.ownAgg E.ixA 2 ag_101 (by rfl) (by rfl)⟩, E.Ent.of E.entA, E.kEq hK (by rw [show reck i V = some ⟨2, 0⟩ from (by unfold reck arithI; (repeat' split) <;> first | rfl | (exfalso; omega))]; rfl)⟩
          case' T5 =>
            refine E.Ops.q _ (E.q_move rfl rfl) rfl rfl ?_
            refine E.Ops.skip rfl rfl ?_
            refine E.Ops.skip rfl rfl ?_
            refine E.Ops.skip rfl rfl ?_
            refine E.Ops.q _ (E.q_pickT rfl rfl rfl) rfl rfl ?_
            refine E.Ops.nil ?_
            try simp only [E.tn, E.tx, E.tr, E.bn, E.br, E.bs]
            (repeat refine E.Run.seq ?_)
            (repeat refine E.Run.seq ?_); refine E.Run.condT rfl ?_
            (repeat refine E.Run.seq ?_)
            refine E.Run.region ?_
            refine E.Ops.q _ (E.q_struct rfl rfl pl_101 rfl) rfl rfl ?_
            refine E.Ops.loud rfl rfl ?_
            refine E.l_store rfl rfl rfl E.ixA 2 sz_101 (by rfl) (by rfl) (by rfl) (by rfl) ?_
            refine E.Ops.nil ?_
            try simp only [E.tn, E.tx, E.tr, E.bn, E.br, E.bs]
            refine E.Run.ret ?_
            try simp only [E.tn, E.tx, E.tr, E.bn, E.br, E.bs]
            exact ⟨_, _, _, E.ResOk.one rfl ⟨_, rfl, E.LoadAt.ownAgg E.ixA 2 ag_101 (by rfl) (by rfl)⟩, E.Ent.of E.entA, E.kEq hK (by rw [show reck i V = some ⟨2, 0⟩ from (by unfold reck arithI; (repeat' split) <;> first | rfl | (exfalso; omega))]; rfl)⟩
        case' T4 =>
          refine E.Ops.q _ (E.q_pickF rfl rfl rfl) rfl rfl ?_
          refine E.Ops.nil ?_
          try simp only [E.tn, E.tx, E.tr, E.bn, E.br, E.bs]
          (repeat refine E.Run.seq ?_)
          (repeat refine E.Run.seq ?_); refine E.Run.condT rfl ?_
          (repeat refine E.Run.seq ?_)
          refine E.Run.region ?_
          refine E.Ops.q _ (E.q_struct rfl rfl pl_101 rfl) rfl rfl ?_
          refine E.Ops.loud rfl rfl ?_
          refine E.l_store rfl rfl rfl E.ixA 2 sz_101 (by rfl) (by rfl) (by rfl) (by rfl) ?_
          refine E.Ops.nil ?_
          try simp only [E.tn, E.tx, E.tr, E.bn, E.br, E.bs]
          refine E.Run.ret ?_
          try simp only [E.tn, E.tx, E.tr, E.bn, E.br, E.bs]
          exact ⟨_, _, _, E.ResOk.one rfl ⟨_, rfl, E.LoadAt.ownAgg E.ixA 2 ag_101 (by rfl) (by rfl)⟩, E.Ent.of E.entA, E.kEq hK (by rw [show reck i V = some ⟨0, 0⟩ from (by unfold reck arithI; (repeat' split) <;> first | rfl | (exfalso; omega))]; rfl)⟩
      case' T3 =>
        refine E.Ops.q _ (E.q_move rfl rfl) rfl rfl ?_
        refine E.Ops.skip rfl rfl ?_
        refine E.Ops.skip rfl rfl ?_
        refine E.Ops.skip rfl rfl ?_
        refine E.Ops.q _ (E.q_pickT rfl rfl rfl) rfl rfl ?_
        refine E.Ops.nil ?_
        try simp only [E.tn, E.tx, E.tr, E.bn, E.br, E.bs]
        (repeat refine E.Run.seq ?_)
        (repeat refine E.Run.seq ?_); refine E.Run.condT rfl ?_
        (repeat refine E.Run.seq ?_)
        refine E.Run.region ?_
        refine E.Ops.q _ (E.q_struct rfl rfl pl_101 rfl) rfl rfl ?_
        refine E.Ops.loud rfl rfl ?_
        refine E.l_store rfl rfl rfl E.ixA 2 sz_101 (by rfl) (by rfl) (by rfl) (by rfl) ?_
        refine E.Ops.nil ?_
        try simp only [E.tn, E.tx, E.tr, E.bn, E.br, E.bs]
        refine E.Run.ret ?_
        try simp only [E.tn, E.tx, E.tr, E.bn, E.br, E.bs]
        exact ⟨_, _, _, E.ResOk.one rfl ⟨_, rfl, E.LoadAt.ownAgg E.ixA 2 ag_101 (by rfl) (by rfl)⟩, E.Ent.of E.entA, E.kEq hK (by rw [show reck i V = some ⟨0, 0⟩ from (by unfold reck arithI; (repeat' split) <;> first | rfl | (exfalso; omega))]; rfl)⟩
    case' T2 =>
      refine E.Ops.nil ?_
      try simp only [E.tn, E.tx, E.tr, E.bn, E.br, E.bs]
      (repeat refine E.Run.seq ?_)
      (repeat refine E.Run.seq ?_); refine E.Run.condT rfl ?_
      (repeat refine E.Run.seq ?_)
      refine E.Run.region ?_
      refine E.Ops.q _ (E.q_load rfl rfl (by first | refine E.LoadAt.ownAgg E.ixA 2 ag_101 (by rfl) (by rfl) | exact E.LoadAt.roAgg ag_101 (by assumption) rfl)) rfl rfl ?_
      refine E.Ops.loud rfl rfl ?_
      refine E.l_store rfl rfl rfl E.ixA 2 sz_101 (by rfl) (by rfl) (by rfl) (by rfl) ?_
      refine E.Ops.nil ?_
      try simp only [E.tn, E.tx, E.tr, E.bn, E.br, E.bs]
      refine E.Run.ret ?_
      try simp only [E.tn, E.tx, E.tr, E.bn, E.br, E.bs]
      exact ⟨_, _, _, E.ResOk.one rfl ⟨_, rfl, E.LoadAt.ownAgg E.ixA 2 ag_101 (by rfl) (by rfl)⟩, E.Ent.of E.entA, E.kEq hK (by rw [show reck i V = some (V i.b) from (by unfold reck arithI; (repeat' split) <;> first | rfl | (exfalso; omega))]; rfl)⟩
  case' T1 =>
    refine E.Ops.nil ?_
    try simp only [E.tn, E.tx, E.tr, E.bn, E.br, E.bs]
    (repeat refine E.Run.seq ?_)
    (repeat refine E.Run.seq ?_); refine E.Run.condT rfl ?_
    (repeat refine E.Run.seq ?_)
    refine E.Run.region ?_
    first | refine E.Ops.q _ (E.q_fieldAddr' rfl rfl fo_44_2) rfl rfl ?_ | refine E.Ops.q _ (E.q_fieldAddr rfl rfl fo_44_2) rfl rfl ?_
    refine E.Ops.q _ (E.q_load rfl rfl (by first | refine E.LoadAt.own E.ixA sc_3 (by rfl) | exact E.LoadAt.ro sc_3 (by assumption) | exact E.LoadAt.arr E.ixA sc_3 (by assumption))) rfl rfl ?_
    refine E.Ops.q _ (E.q_struct rfl rfl pl_101 rfl) rfl rfl ?_
    refine E.Ops.loud rfl rfl ?_
    refine E.l_store rfl rfl rfl E.ixA 2 sz_101 (by rfl) (by rfl) (by rfl) (by rfl) ?_
    refine E.Ops.nil ?_
    try simp only [E.tn, E.tx, E.tr, E.bn, E.br, E.bs]
    refine E.Run.ret ?_
    try simp only [E.tn, E.tx, E.tr, E.bn, E.br, E.bs]
    exact ⟨_, _, _, E.ResOk.one rfl ⟨_, rfl, E.LoadAt.ownAgg E.ixA 2 ag_101 (by rfl) (by rfl)⟩, E.Ent.of E.entA, E.kEq hK (by rw [show reck i V = some ⟨1, i.b⟩ from (by unfold reck arithI; (repeat' split) <;> first | rfl | (exfalso; omega))]; rfl)⟩
end Go.Proofs.Ythpgjbdacknkgaa
