/- The document's small functions (sluiceref1, sluiceref6, sluiceref13), walked. No statement of the seat in it. -/
import Derived.Test.YthpgjbdacknkgaaL4
set_option linter.unusedVariables false
set_option linter.unusedSimpArgs false
namespace Go.Proofs.Ythpgjbdacknkgaa
open Go
private theorem ag_101 : E.isAggOf Try.prog 101 2 = true := by kernel_rfl
private theorem fo_101_0 : E.fieldOff Try.prog 101 0 = some 0 := by kernel_rfl
private theorem fo_101_1 : E.fieldOff Try.prog 101 1 = some 1 := by kernel_rfl
private theorem fo_44_0 : E.fieldOff Try.prog 44 0 = some 0 := by kernel_rfl
private theorem fo_44_1 : E.fieldOff Try.prog 44 1 = some 1 := by kernel_rfl
private theorem fo_44_2 : E.fieldOff Try.prog 44 2 = some 2 := by kernel_rfl
private theorem pl_101 : E.placesOf Try.prog 101 = some ([.int .i64 0, .int .i64 0], [(0, 1), (1, 1)]) := by kernel_rfl
private theorem sc_3 : E.isScal Try.prog 3 = true := by kernel_rfl
private theorem sz_101 : (Try.prog.info? 101).map (·.size) = some 2 := by kernel_rfl
private theorem ty_101 : E.tyOf Try.prog 101 = some (some (.agg #[.int .i64 0, .int .i64 0]), 2, 16) := by kernel_rfl

def rmeet (a b : Vl) : Vl := if a.st = 0 then b else if b.st = 0 then a else if a.st = 1 ∧ b.st = 1 ∧ a.n = b.n then a else ⟨2, 0⟩
set_option maxRecDepth 100000 in
theorem rBit {ρ : E.Ro} {M : List E.Asr} {K : Value → E.Ro → List E.Asr → Prop} (b : Bool) (hK : K (.int .i64 (if b = true then 1 else 0)) ρ M) : E.Hoa Try.prog 98 #[.bool b] ρ M K := by
  refine E.Hoa.enter 4 Try.func98 rfl rfl rfl ?_
  (repeat refine E.Run.seq ?_)
  refine E.Run.region ?_
  refine E.Ops.q _ (E.q_mv rfl rfl) rfl rfl ?_
  refine E.Ops.nil ?_
  try simp only [E.tn, E.tx, E.tr, E.bn, E.br, E.bs]
  (repeat refine E.Run.seq ?_)
  refine E.Run.region ?_
  refine E.Ops.q _ (E.q_move rfl rfl) rfl rfl ?_
  refine E.Ops.nil ?_
  try simp only [E.tn, E.tx, E.tr, E.bn, E.br, E.bs]
  (repeat refine E.Run.seq ?_)
  (repeat refine E.Run.seq ?_); refine E.Run.cond rfl (fun hc1 => ?_) (fun hc1 => ?_)
  · (repeat refine E.Run.seq ?_)
    refine E.Run.region ?_
    refine E.Ops.q _ (E.q_mv rfl rfl) rfl rfl ?_
    refine E.Ops.nil ?_
    try simp only [E.tn, E.tx, E.tr, E.bn, E.br, E.bs]
    refine E.Run.ret ?_
    try simp only [E.tn, E.tx, E.tr, E.bn, E.br, E.bs]
    exact ⟨_, _, _, E.ResOk.one rfl rfl, E.Ent.of E.entA, E.kEq hK (by simp [*])⟩
  · refine E.Run.skip ?_
    try simp only [E.tn, E.tx, E.tr, E.bn, E.br, E.bs]
    (repeat refine E.Run.seq ?_)
    refine E.Run.region ?_
    refine E.Ops.q _ (E.q_mv rfl rfl) rfl rfl ?_
    refine E.Ops.nil ?_
    try simp only [E.tn, E.tx, E.tr, E.bn, E.br, E.bs]
    refine E.Run.ret ?_
    try simp only [E.tn, E.tx, E.tr, E.bn, E.br, E.bs]
    exact ⟨_, _, _, E.ResOk.one rfl rfl, E.Ent.of E.entA, E.kEq hK (by simp [*])⟩
set_option maxRecDepth 100000 in
theorem rReckons {ρ : E.Ro} {M : List E.Asr} {K : Value → E.Ro → List E.Asr → Prop} (op : Int) (hK : K (.bool (decide (1 ≤ op ∧ op ≤ 7))) ρ M) : E.Hoa Try.prog 55 #[.int .i64 op] ρ M K := by
  refine E.Hoa.enter 9 Try.func55 rfl rfl rfl ?_
  (repeat refine E.Run.seq ?_)
  refine E.Run.region ?_
  refine E.Ops.q _ (E.q_mv rfl rfl) rfl rfl ?_
  refine E.Ops.nil ?_
  try simp only [E.tn, E.tx, E.tr, E.bn, E.br, E.bs]
  (repeat refine E.Run.seq ?_)
  refine E.Run.region ?_
  refine E.Ops.q _ (E.q_move rfl rfl) rfl rfl ?_
  refine E.Ops.part (E.q_geq rfl rfl rfl) rfl rfl (fun h1_1 => ?T1) (fun h1_1 => ?F1)
  case' F1 =>
    refine E.Ops.q _ (E.q_move rfl rfl) rfl rfl ?_
    refine E.Ops.skip rfl rfl ?_
    refine E.Ops.skip rfl rfl ?_
    refine E.Ops.q _ (E.q_pickF rfl rfl rfl) rfl rfl ?_
    refine E.Ops.q _ (E.q_mv rfl rfl) rfl rfl ?_
    refine E.Ops.nil ?_
    try simp only [E.tn, E.tx, E.tr, E.bn, E.br, E.bs]
    refine E.Run.ret ?_
    try simp only [E.tn, E.tx, E.tr, E.bn, E.br, E.bs]
    exact ⟨_, _, _, E.ResOk.one rfl rfl, E.Ent.of E.entA, E.kEq hK (by congr 1; first | (rw [decide_eq_true (by omega)]; done) | (rw [decide_eq_false (by omega)]; done))⟩
  case' T1 =>
    refine E.Ops.q _ (E.q_move rfl rfl) rfl rfl ?_
    refine E.Ops.q _ (E.q_move rfl rfl) rfl rfl ?_
    refine E.Ops.part (E.q_leq rfl rfl rfl) rfl rfl (fun h1_4 => ?T2) (fun h1_4 => ?F2)
    case' F2 =>
      refine E.Ops.q _ (E.q_pickT rfl rfl rfl) rfl rfl ?_
      refine E.Ops.q _ (E.q_mv rfl rfl) rfl rfl ?_
      refine E.Ops.nil ?_
      try simp only [E.tn, E.tx, E.tr, E.bn, E.br, E.bs]
      refine E.Run.ret ?_
      try simp only [E.tn, E.tx, E.tr, E.bn, E.br, E.bs]
      exact ⟨_, _, _, E.ResOk.one rfl rfl, E.Ent.of E.entA, E.kEq hK (by congr 1; first | (rw [decide_eq_true (by omega)]; done) | (rw [decide_eq_false (by omega)]; done))⟩
    case' T2 =>
      refine E.Ops.q _ (E.q_pickT rfl rfl rfl) rfl rfl ?_
      refine E.Ops.q _ (E.q_mv rfl rfl) rfl rfl ?_
      refine E.Ops.nil ?_
      try simp only [E.tn, E.tx, E.tr, E.bn, E.br, E.bs]
      refine E.Run.ret ?_
      try simp only [E.tn, E.tx, E.tr, E.bn, E.br, E.bs]
      exact ⟨_, _, _, E.ResOk.one rfl rfl, E.Ent.of E.entA, E.kEq hK (by congr 1; first | (rw [decide_eq_true (by omega)]; done) | (rw [decide_eq_false (by omega)]; done))⟩
set_option maxRecDepth 100000 in
theorem rWrites {ρ : E.Ro} {M : List E.Asr} {K : Value → E.Ro → List E.Asr → Prop} (i : E.Ins) (hop : 1 ≤ i.op) (hK : K (.int .i64 (insWrites i)) ρ M) : E.Hoa Try.prog 96 #[.agg (E.encIns i).toArray] ρ M K := by
  refine E.Hoa.enter 21 Try.func96 rfl rfl rfl ?_
  (repeat refine E.Run.seq ?_)
  refine E.Run.region ?_
  refine E.Ops.loud rfl rfl ?_
  refine E.l_box rfl rfl (fun b0_0 => ?_)
  refine E.Ops.q _ (E.q_mv rfl rfl) rfl rfl ?_
  refine E.Ops.nil ?_
  try simp only [E.tn, E.tx, E.tr, E.bn, E.br, E.bs]
  (repeat refine E.Run.seq ?_)
  refine E.Run.region ?_
  first | refine E.Ops.q _ (E.q_fieldAddr' rfl rfl fo_44_0) rfl rfl ?_ | refine E.Ops.q _ (E.q_fieldAddr rfl rfl fo_44_0) rfl rfl ?_
  refine E.Ops.q _ (E.q_load rfl rfl (by first | refine E.LoadAt.own E.ixA sc_3 (by rfl) | exact E.LoadAt.ro sc_3 (by assumption) | exact E.LoadAt.arr E.ixA sc_3 (by assumption))) rfl rfl ?_
  refine E.Ops.nil ?_
  try simp only [E.tn, E.tx, E.tr, E.bn, E.br, E.bs]
  (repeat refine E.Run.seq ?_)
  (repeat refine E.Run.seq ?_); refine E.Run.block ?_
  (repeat refine E.Run.seq ?_)
  refine E.Run.region ?_
  refine E.Ops.part (E.q_eql rfl rfl rfl) rfl rfl (fun h2_0 => ?T3) (fun h2_0 => ?F3)
  case' F3 =>
    refine E.Ops.q _ (E.q_mv rfl rfl) rfl rfl ?_
    refine E.Ops.nil ?_
    try simp only [E.tn, E.tx, E.tr, E.bn, E.br, E.bs]
    (repeat refine E.Run.seq ?_)
    (repeat refine E.Run.seq ?_); refine E.Run.condF rfl ?_
    (repeat refine E.Run.seq ?_)
    refine E.Run.region ?_
    refine E.Ops.part (E.q_eql rfl rfl rfl) rfl rfl (fun h3_0 => ?T4) (fun h3_0 => ?F4)
    case' F4 =>
      refine E.Ops.q _ (E.q_mv rfl rfl) rfl rfl ?_
      refine E.Ops.nil ?_
      try simp only [E.tn, E.tx, E.tr, E.bn, E.br, E.bs]
      (repeat refine E.Run.seq ?_)
      (repeat refine E.Run.seq ?_); refine E.Run.condF rfl ?_
      (repeat refine E.Run.seq ?_)
      refine E.Run.region ?_
      refine E.Ops.part (E.q_eql rfl rfl rfl) rfl rfl (fun h4_0 => ?T5) (fun h4_0 => ?F5)
      case' F5 =>
        refine E.Ops.q _ (E.q_mv rfl rfl) rfl rfl ?_
        refine E.Ops.nil ?_
        try simp only [E.tn, E.tx, E.tr, E.bn, E.br, E.bs]
        (repeat refine E.Run.seq ?_)
        (repeat refine E.Run.seq ?_); refine E.Run.condF rfl ?_
        (repeat refine E.Run.seq ?_)
        refine E.Run.region ?_
        refine E.Ops.part (E.q_eql rfl rfl rfl) rfl rfl (fun h5_0 => ?T6) (fun h5_0 => ?F6)
        case' F6 =>
          refine E.Ops.q _ (E.q_mv rfl rfl) rfl rfl ?_
          refine E.Ops.nil ?_
          try simp only [E.tn, E.tx, E.tr, E.bn, E.br, E.bs]
          (repeat refine E.Run.seq ?_)
          (repeat refine E.Run.seq ?_); refine E.Run.condF rfl ?_
          (repeat refine E.Run.seq ?_)
          refine E.Run.region ?_
          refine E.Ops.part (E.q_eql rfl rfl rfl) rfl rfl (fun h6_0 => ?T7) (fun h6_0 => ?F7)
          case' F7 =>
            refine E.Ops.q _ (E.q_mv rfl rfl) rfl rfl ?_
            refine E.Ops.nil ?_
            try simp only [E.tn, E.tx, E.tr, E.bn, E.br, E.bs]
            (repeat refine E.Run.seq ?_)
            (repeat refine E.Run.seq ?_); refine E.Run.condF rfl ?_
            (repeat refine E.Run.seq ?_)
            refine E.Run.region ?_
            refine E.Ops.part (E.q_eql rfl rfl rfl) rfl rfl (fun h7_0 => ?T8) (fun h7_0 => ?F8)
            case' F8 =>
              refine E.Ops.q _ (E.q_mv rfl rfl) rfl rfl ?_
              refine E.Ops.nil ?_
              try simp only [E.tn, E.tx, E.tr, E.bn, E.br, E.bs]
              (repeat refine E.Run.seq ?_)
              (repeat refine E.Run.seq ?_); refine E.Run.condF rfl ?_
              (repeat refine E.Run.seq ?_)
              refine E.Run.region ?_
              refine E.Ops.part (E.q_eql rfl rfl rfl) rfl rfl (fun h8_0 => ?T9) (fun h8_0 => ?F9)
              case' F9 =>
                refine E.Ops.q _ (E.q_mv rfl rfl) rfl rfl ?_
                refine E.Ops.nil ?_
                try simp only [E.tn, E.tx, E.tr, E.bn, E.br, E.bs]
                (repeat refine E.Run.seq ?_)
                (repeat refine E.Run.seq ?_); refine E.Run.condF rfl ?_
                (repeat refine E.Run.seq ?_)
                refine E.Run.region ?_
                refine E.Ops.part (E.q_eql rfl rfl rfl) rfl rfl (fun h9_0 => ?T10) (fun h9_0 => ?F10)
                case' F10 =>
                  refine E.Ops.q _ (E.q_mv rfl rfl) rfl rfl ?_
                  refine E.Ops.nil ?_
                  try simp only [E.tn, E.tx, E.tr, E.bn, E.br, E.bs]
                  (repeat refine E.Run.seq ?_)
                  (repeat refine E.Run.seq ?_); refine E.Run.condF rfl ?_
                  (repeat refine E.Run.seq ?_)
                  refine E.Run.region ?_
                  refine E.Ops.part (E.q_eql rfl rfl rfl) rfl rfl (fun h10_0 => ?T11) (fun h10_0 => ?F11)
                  case' F11 =>
                    refine E.Ops.q _ (E.q_mv rfl rfl) rfl rfl ?_
                    refine E.Ops.nil ?_
                    try simp only [E.tn, E.tx, E.tr, E.bn, E.br, E.bs]
                    (repeat refine E.Run.seq ?_)
                    (repeat refine E.Run.seq ?_); refine E.Run.condF rfl ?_
                    (repeat refine E.Run.seq ?_)
                    refine E.Run.region ?_
                    refine E.Ops.part (E.q_eql rfl rfl rfl) rfl rfl (fun h12_0 => ?T12) (fun h12_0 => ?F12)
                    case' F12 =>
                      refine E.Ops.q _ (E.q_mv rfl rfl) rfl rfl ?_
                      refine E.Ops.nil ?_
                      try simp only [E.tn, E.tx, E.tr, E.bn, E.br, E.bs]
                      (repeat refine E.Run.seq ?_)
                      (repeat refine E.Run.seq ?_); refine E.Run.condF rfl ?_
                      refine E.Run.skip ?_
                      try simp only [E.tn, E.tx, E.tr, E.bn, E.br, E.bs]
                      (repeat refine E.Run.seq ?_)
                      refine E.Run.region ?_
                      refine E.Ops.q _ (E.q_mv rfl rfl) rfl rfl ?_
                      refine E.Ops.nil ?_
                      try simp only [E.tn, E.tx, E.tr, E.bn, E.br, E.bs]
                      refine E.Run.ret ?_
                      try simp only [E.tn, E.tx, E.tr, E.bn, E.br, E.bs]
                      exact ⟨_, _, _, E.ResOk.one rfl rfl, E.Ent.of E.entA, E.kEq hK (by congr 1; unfold insWrites; (repeat' split) <;> first | rfl | omega)⟩
                    case' T12 =>
                      refine E.Ops.q _ (E.q_mv rfl rfl) rfl rfl ?_
                      refine E.Ops.nil ?_
                      try simp only [E.tn, E.tx, E.tr, E.bn, E.br, E.bs]
                      (repeat refine E.Run.seq ?_)
                      (repeat refine E.Run.seq ?_); refine E.Run.condT rfl ?_
                      (repeat refine E.Run.seq ?_)
                      refine E.Run.region ?_
                      first | refine E.Ops.q _ (E.q_fieldAddr' rfl rfl fo_44_2) rfl rfl ?_ | refine E.Ops.q _ (E.q_fieldAddr rfl rfl fo_44_2) rfl rfl ?_
                      refine E.Ops.q _ (E.q_load rfl rfl (by first | refine E.LoadAt.own E.ixA sc_3 (by rfl) | exact E.LoadAt.ro sc_3 (by assumption) | exact E.LoadAt.arr E.ixA sc_3 (by assumption))) rfl rfl ?_
                      refine E.Ops.q _ (E.q_mv rfl rfl) rfl rfl ?_
                      refine E.Ops.nil ?_
                      try simp only [E.tn, E.tx, E.tr, E.bn, E.br, E.bs]
                      refine E.Run.ret ?_
                      try simp only [E.tn, E.tx, E.tr, E.bn, E.br, E.bs]
                      exact ⟨_, _, _, E.ResOk.one rfl rfl, E.Ent.of E.entA, E.kEq hK (by congr 1; unfold insWrites; (repeat' split) <;> first | rfl | omega)⟩
                  case' T11 =>
                    refine E.Ops.q _ (E.q_mv rfl rfl) rfl rfl ?_
                    refine E.Ops.nil ?_
                    try simp only [E.tn, E.tx, E.tr, E.bn, E.br, E.bs]
                    (repeat refine E.Run.seq ?_)
                    (repeat refine E.Run.seq ?_); refine E.Run.condT rfl ?_
                    (repeat refine E.Run.seq ?_)
                    refine E.Run.region ?_
                    first | refine E.Ops.q _ (E.q_fieldAddr' rfl rfl fo_44_1) rfl rfl ?_ | refine E.Ops.q _ (E.q_fieldAddr rfl rfl fo_44_1) rfl rfl ?_
                    refine E.Ops.q _ (E.q_load rfl rfl (by first | refine E.LoadAt.own E.ixA sc_3 (by rfl) | exact E.LoadAt.ro sc_3 (by assumption) | exact E.LoadAt.arr E.ixA sc_3 (by assumption))) rfl rfl ?_
                    refine E.Ops.q _ (E.q_mv rfl rfl) rfl rfl ?_
                    refine E.Ops.nil ?_
                    try simp only [E.tn, E.tx, E.tr, E.bn, E.br, E.bs]
                    refine E.Run.ret ?_
                    try simp only [E.tn, E.tx, E.tr, E.bn, E.br, E.bs]
                    exact ⟨_, _, _, E.ResOk.one rfl rfl, E.Ent.of E.entA, E.kEq hK (by congr 1; unfold insWrites; (repeat' split) <;> first | rfl | omega)⟩
                case' T10 =>
                  refine E.Ops.q _ (E.q_mv rfl rfl) rfl rfl ?_
                  refine E.Ops.nil ?_
                  try simp only [E.tn, E.tx, E.tr, E.bn, E.br, E.bs]
                  (repeat refine E.Run.seq ?_)
                  (repeat refine E.Run.seq ?_); refine E.Run.condT rfl ?_
                  refine E.Run.skip ?_
                  try simp only [E.tn, E.tx, E.tr, E.bn, E.br, E.bs]
                  (repeat refine E.Run.seq ?_)
                  (repeat refine E.Run.seq ?_); refine E.Run.condT rfl ?_
                  (repeat refine E.Run.seq ?_)
                  refine E.Run.region ?_
                  first | refine E.Ops.q _ (E.q_fieldAddr' rfl rfl fo_44_1) rfl rfl ?_ | refine E.Ops.q _ (E.q_fieldAddr rfl rfl fo_44_1) rfl rfl ?_
                  refine E.Ops.q _ (E.q_load rfl rfl (by first | refine E.LoadAt.own E.ixA sc_3 (by rfl) | exact E.LoadAt.ro sc_3 (by assumption) | exact E.LoadAt.arr E.ixA sc_3 (by assumption))) rfl rfl ?_
                  refine E.Ops.q _ (E.q_mv rfl rfl) rfl rfl ?_
                  refine E.Ops.nil ?_
                  try simp only [E.tn, E.tx, E.tr, E.bn, E.br, E.bs]
                  refine E.Run.ret ?_
                  try simp only [E.tn, E.tx, E.tr, E.bn, E.br, E.bs]
                  exact ⟨_, _, _, E.ResOk.one rfl rfl, E.Ent.of E.entA, E.kEq hK (by congr 1; unfold insWrites; (repeat' split) <;> first | rfl | omega)⟩
              case' T9 =>
                refine E.Ops.q _ (E.q_mv rfl rfl) rfl rfl ?_
                refine E.Ops.nil ?_
                try simp only [E.tn, E.tx, E.tr, E.bn, E.br, E.bs]
                (repeat refine E.Run.seq ?_)
                (repeat refine E.Run.seq ?_); refine E.Run.condT rfl ?_
                refine E.Run.skip ?_
                try simp only [E.tn, E.tx, E.tr, E.bn, E.br, E.bs]
                (repeat refine E.Run.seq ?_)
                (repeat refine E.Run.seq ?_); refine E.Run.condT rfl ?_
                (repeat refine E.Run.seq ?_)
                refine E.Run.region ?_
                first | refine E.Ops.q _ (E.q_fieldAddr' rfl rfl fo_44_1) rfl rfl ?_ | refine E.Ops.q _ (E.q_fieldAddr rfl rfl fo_44_1) rfl rfl ?_
                refine E.Ops.q _ (E.q_load rfl rfl (by first | refine E.LoadAt.own E.ixA sc_3 (by rfl) | exact E.LoadAt.ro sc_3 (by assumption) | exact E.LoadAt.arr E.ixA sc_3 (by assumption))) rfl rfl ?_
                refine E.Ops.q _ (E.q_mv rfl rfl) rfl rfl ?_
                refine E.Ops.nil ?_
                try simp only [E.tn, E.tx, E.tr, E.bn, E.br, E.bs]
                refine E.Run.ret ?_
                try simp only [E.tn, E.tx, E.tr, E.bn, E.br, E.bs]
                exact ⟨_, _, _, E.ResOk.one rfl rfl, E.Ent.of E.entA, E.kEq hK (by congr 1; unfold insWrites; (repeat' split) <;> first | rfl | omega)⟩
            case' T8 =>
              refine E.Ops.q _ (E.q_mv rfl rfl) rfl rfl ?_
              refine E.Ops.nil ?_
              try simp only [E.tn, E.tx, E.tr, E.bn, E.br, E.bs]
              (repeat refine E.Run.seq ?_)
              (repeat refine E.Run.seq ?_); refine E.Run.condT rfl ?_
              refine E.Run.skip ?_
              try simp only [E.tn, E.tx, E.tr, E.bn, E.br, E.bs]
              (repeat refine E.Run.seq ?_)
              (repeat refine E.Run.seq ?_); refine E.Run.condT rfl ?_
              (repeat refine E.Run.seq ?_)
              refine E.Run.region ?_
              first | refine E.Ops.q _ (E.q_fieldAddr' rfl rfl fo_44_1) rfl rfl ?_ | refine E.Ops.q _ (E.q_fieldAddr rfl rfl fo_44_1) rfl rfl ?_
              refine E.Ops.q _ (E.q_load rfl rfl (by first | refine E.LoadAt.own E.ixA sc_3 (by rfl) | exact E.LoadAt.ro sc_3 (by assumption) | exact E.LoadAt.arr E.ixA sc_3 (by assumption))) rfl rfl ?_
              refine E.Ops.q _ (E.q_mv rfl rfl) rfl rfl ?_
              refine E.Ops.nil ?_
              try simp only [E.tn, E.tx, E.tr, E.bn, E.br, E.bs]
              refine E.Run.ret ?_
              try simp only [E.tn, E.tx, E.tr, E.bn, E.br, E.bs]
              exact ⟨_, _, _, E.ResOk.one rfl rfl, E.Ent.of E.entA, E.kEq hK (by congr 1; unfold insWrites; (repeat' split) <;> first | rfl | omega)⟩
          case' T7 =>
            refine E.Ops.q _ (E.q_mv rfl rfl) rfl rfl ?_
            refine E.Ops.nil ?_
            try simp only [E.tn, E.tx, E.tr, E.bn, E.br, E.bs]
            (repeat refine E.Run.seq ?_)
            (repeat refine E.Run.seq ?_); refine E.Run.condT rfl ?_
            refine E.Run.skip ?_
            try simp only [E.tn, E.tx, E.tr, E.bn, E.br, E.bs]
            (repeat refine E.Run.seq ?_)
            (repeat refine E.Run.seq ?_); refine E.Run.condT rfl ?_
            (repeat refine E.Run.seq ?_)
            refine E.Run.region ?_
            first | refine E.Ops.q _ (E.q_fieldAddr' rfl rfl fo_44_1) rfl rfl ?_ | refine E.Ops.q _ (E.q_fieldAddr rfl rfl fo_44_1) rfl rfl ?_
            refine E.Ops.q _ (E.q_load rfl rfl (by first | refine E.LoadAt.own E.ixA sc_3 (by rfl) | exact E.LoadAt.ro sc_3 (by assumption) | exact E.LoadAt.arr E.ixA sc_3 (by assumption))) rfl rfl ?_
            refine E.Ops.q _ (E.q_mv rfl rfl) rfl rfl ?_
            refine E.Ops.nil ?_
            try simp only [E.tn, E.tx, E.tr, E.bn, E.br, E.bs]
            refine E.Run.ret ?_
            try simp only [E.tn, E.tx, E.tr, E.bn, E.br, E.bs]
            exact ⟨_, _, _, E.ResOk.one rfl rfl, E.Ent.of E.entA, E.kEq hK (by congr 1; unfold insWrites; (repeat' split) <;> first | rfl | omega)⟩
        case' T6 =>
          refine E.Ops.q _ (E.q_mv rfl rfl) rfl rfl ?_
          refine E.Ops.nil ?_
          try simp only [E.tn, E.tx, E.tr, E.bn, E.br, E.bs]
          (repeat refine E.Run.seq ?_)
          (repeat refine E.Run.seq ?_); refine E.Run.condT rfl ?_
          refine E.Run.skip ?_
          try simp only [E.tn, E.tx, E.tr, E.bn, E.br, E.bs]
          (repeat refine E.Run.seq ?_)
          (repeat refine E.Run.seq ?_); refine E.Run.condT rfl ?_
          (repeat refine E.Run.seq ?_)
          refine E.Run.region ?_
          first | refine E.Ops.q _ (E.q_fieldAddr' rfl rfl fo_44_1) rfl rfl ?_ | refine E.Ops.q _ (E.q_fieldAddr rfl rfl fo_44_1) rfl rfl ?_
          refine E.Ops.q _ (E.q_load rfl rfl (by first | refine E.LoadAt.own E.ixA sc_3 (by rfl) | exact E.LoadAt.ro sc_3 (by assumption) | exact E.LoadAt.arr E.ixA sc_3 (by assumption))) rfl rfl ?_
          refine E.Ops.q _ (E.q_mv rfl rfl) rfl rfl ?_
          refine E.Ops.nil ?_
          try simp only [E.tn, E.tx, E.tr, E.bn, E.br, E.bs]
          refine E.Run.ret ?_
          try simp only [E.tn, E.tx, E.tr, E.bn, E.br, E.bs]
          exact ⟨_, _, _, E.ResOk.one rfl rfl, E.Ent.of E.entA, E.kEq hK (by congr 1; unfold insWrites; (repeat' split) <;> first | rfl | omega)⟩
      case' T5 =>
        refine E.Ops.q _ (E.q_mv rfl rfl) rfl rfl ?_
        refine E.Ops.nil ?_
        try simp only [E.tn, E.tx, E.tr, E.bn, E.br, E.bs]
        (repeat refine E.Run.seq ?_)
        (repeat refine E.Run.seq ?_); refine E.Run.condT rfl ?_
        refine E.Run.skip ?_
        try simp only [E.tn, E.tx, E.tr, E.bn, E.br, E.bs]
        (repeat refine E.Run.seq ?_)
        (repeat refine E.Run.seq ?_); refine E.Run.condT rfl ?_
        (repeat refine E.Run.seq ?_)
        refine E.Run.region ?_
        first | refine E.Ops.q _ (E.q_fieldAddr' rfl rfl fo_44_1) rfl rfl ?_ | refine E.Ops.q _ (E.q_fieldAddr rfl rfl fo_44_1) rfl rfl ?_
        refine E.Ops.q _ (E.q_load rfl rfl (by first | refine E.LoadAt.own E.ixA sc_3 (by rfl) | exact E.LoadAt.ro sc_3 (by assumption) | exact E.LoadAt.arr E.ixA sc_3 (by assumption))) rfl rfl ?_
        refine E.Ops.q _ (E.q_mv rfl rfl) rfl rfl ?_
        refine E.Ops.nil ?_
        try simp only [E.tn, E.tx, E.tr, E.bn, E.br, E.bs]
        refine E.Run.ret ?_
        try simp only [E.tn, E.tx, E.tr, E.bn, E.br, E.bs]
        exact ⟨_, _, _, E.ResOk.one rfl rfl, E.Ent.of E.entA, E.kEq hK (by congr 1; unfold insWrites; (repeat' split) <;> first | rfl | omega)⟩
    case' T4 =>
      refine E.Ops.q _ (E.q_mv rfl rfl) rfl rfl ?_
      refine E.Ops.nil ?_
      try simp only [E.tn, E.tx, E.tr, E.bn, E.br, E.bs]
      (repeat refine E.Run.seq ?_)
      (repeat refine E.Run.seq ?_); refine E.Run.condT rfl ?_
      refine E.Run.skip ?_
      try simp only [E.tn, E.tx, E.tr, E.bn, E.br, E.bs]
      (repeat refine E.Run.seq ?_)
      (repeat refine E.Run.seq ?_); refine E.Run.condT rfl ?_
      (repeat refine E.Run.seq ?_)
      refine E.Run.region ?_
      first | refine E.Ops.q _ (E.q_fieldAddr' rfl rfl fo_44_1) rfl rfl ?_ | refine E.Ops.q _ (E.q_fieldAddr rfl rfl fo_44_1) rfl rfl ?_
      refine E.Ops.q _ (E.q_load rfl rfl (by first | refine E.LoadAt.own E.ixA sc_3 (by rfl) | exact E.LoadAt.ro sc_3 (by assumption) | exact E.LoadAt.arr E.ixA sc_3 (by assumption))) rfl rfl ?_
      refine E.Ops.q _ (E.q_mv rfl rfl) rfl rfl ?_
      refine E.Ops.nil ?_
      try simp only [E.tn, E.tx, E.tr, E.bn, E.br, E.bs]
      refine E.Run.ret ?_
      try simp only [E.tn, E.tx, E.tr, E.bn, E.br, E.bs]
      exact ⟨_, _, _, E.ResOk.one rfl rfl, E.Ent.of E.entA, E.kEq hK (by congr 1; unfold insWrites; (repeat' split) <;> first | rfl | omega)⟩
  case' T3 =>
    refine E.Ops.q _ (E.q_mv rfl rfl) rfl rfl ?_
    refine E.Ops.nil ?_
    try simp only [E.tn, E.tx, E.tr, E.bn, E.br, E.bs]
    (repeat refine E.Run.seq ?_)
    (repeat refine E.Run.seq ?_); refine E.Run.condT rfl ?_
    refine E.Run.skip ?_
    try simp only [E.tn, E.tx, E.tr, E.bn, E.br, E.bs]
    (repeat refine E.Run.seq ?_)
    (repeat refine E.Run.seq ?_); refine E.Run.condT rfl ?_
    (repeat refine E.Run.seq ?_)
    refine E.Run.region ?_
    first | refine E.Ops.q _ (E.q_fieldAddr' rfl rfl fo_44_1) rfl rfl ?_ | refine E.Ops.q _ (E.q_fieldAddr rfl rfl fo_44_1) rfl rfl ?_
    refine E.Ops.q _ (E.q_load rfl rfl (by first | refine E.LoadAt.own E.ixA sc_3 (by rfl) | exact E.LoadAt.ro sc_3 (by assumption) | exact E.LoadAt.arr E.ixA sc_3 (by assumption))) rfl rfl ?_
    refine E.Ops.q _ (E.q_mv rfl rfl) rfl rfl ?_
    refine E.Ops.nil ?_
    try simp only [E.tn, E.tx, E.tr, E.bn, E.br, E.bs]
    refine E.Run.ret ?_
    try simp only [E.tn, E.tx, E.tr, E.bn, E.br, E.bs]
    exact ⟨_, _, _, E.ResOk.one rfl rfl, E.Ent.of E.entA, E.kEq hK (by congr 1; unfold insWrites; (repeat' split) <;> first | rfl | omega)⟩
set_option maxRecDepth 100000 in
theorem rMeet {ρ : E.Ro} {M : List E.Asr} {K : Value → E.Ro → List E.Asr → Prop} (a b : Vl) (hK : K (vlV (rmeet a b)) ρ M) : E.Hoa Try.prog 137 #[vlV a, vlV b] ρ M K := by
  refine E.Hoa.enter 30 Try.func137 rfl rfl rfl ?_
  (repeat refine E.Run.seq ?_)
  refine E.Run.region ?_
  refine E.Ops.loud rfl rfl ?_
  refine E.l_box rfl rfl (fun b0_0 => ?_)
  refine E.Ops.loud rfl rfl ?_
  refine E.l_box rfl rfl (fun b0_1 => ?_)
  refine E.Ops.loud rfl rfl ?_
  refine E.l_alloc rfl ty_101 (fun b0_2 => ?_)
  refine E.Ops.nil ?_
  try simp only [E.tn, E.tx, E.tr, E.bn, E.br, E.bs]
  (repeat refine E.Run.seq ?_)
  refine E.Run.region ?_
  first | refine E.Ops.q _ (E.q_fieldAddr' rfl rfl fo_101_0) rfl rfl ?_ | refine E.Ops.q _ (E.q_fieldAddr rfl rfl fo_101_0) rfl rfl ?_
  refine E.Ops.q _ (E.q_load rfl rfl (by first | refine E.LoadAt.own E.ixA sc_3 (by rfl) | exact E.LoadAt.ro sc_3 (by assumption) | exact E.LoadAt.arr E.ixA sc_3 (by assumption))) rfl rfl ?_
  refine E.Ops.part (E.q_eql rfl rfl rfl) rfl rfl (fun h1_2 => ?T13) (fun h1_2 => ?F13)
  case' F13 =>
    refine E.Ops.nil ?_
    try simp only [E.tn, E.tx, E.tr, E.bn, E.br, E.bs]
    (repeat refine E.Run.seq ?_)
    (repeat refine E.Run.seq ?_); refine E.Run.condF rfl ?_
    refine E.Run.skip ?_
    try simp only [E.tn, E.tx, E.tr, E.bn, E.br, E.bs]
    (repeat refine E.Run.seq ?_)
    refine E.Run.region ?_
    first | refine E.Ops.q _ (E.q_fieldAddr' rfl rfl fo_101_0) rfl rfl ?_ | refine E.Ops.q _ (E.q_fieldAddr rfl rfl fo_101_0) rfl rfl ?_
    refine E.Ops.q _ (E.q_load rfl rfl (by first | refine E.LoadAt.own E.ixA sc_3 (by rfl) | exact E.LoadAt.ro sc_3 (by assumption) | exact E.LoadAt.arr E.ixA sc_3 (by assumption))) rfl rfl ?_
    refine E.Ops.part (E.q_eql rfl rfl rfl) rfl rfl (fun h3_2 => ?T14) (fun h3_2 => ?F14)
    case' F14 =>
      refine E.Ops.nil ?_
      try simp only [E.tn, E.tx, E.tr, E.bn, E.br, E.bs]
      (repeat refine E.Run.seq ?_)
      (repeat refine E.Run.seq ?_); refine E.Run.condF rfl ?_
      refine E.Run.skip ?_
      try simp only [E.tn, E.tx, E.tr, E.bn, E.br, E.bs]
      (repeat refine E.Run.seq ?_)
      refine E.Run.region ?_
      first | refine E.Ops.q _ (E.q_fieldAddr' rfl rfl fo_101_0) rfl rfl ?_ | refine E.Ops.q _ (E.q_fieldAddr rfl rfl fo_101_0) rfl rfl ?_
      refine E.Ops.q _ (E.q_load rfl rfl (by first | refine E.LoadAt.own E.ixA sc_3 (by rfl) | exact E.LoadAt.ro sc_3 (by assumption) | exact E.LoadAt.arr E.ixA sc_3 (by assumption))) rfl rfl ?_
      refine E.Ops.part (E.q_eql rfl rfl rfl) rfl rfl (fun h5_2 => ?T15) (fun h5_2 => ?F15)
      case' F15 =>
        refine E.Ops.q _ (E.q_move rfl rfl) rfl rfl ?_
        refine E.Ops.skip rfl rfl ?_
        refine E.Ops.skip rfl rfl ?_
        refine E.Ops.skip rfl rfl ?_
        refine E.Ops.q _ (E.q_pickF rfl rfl rfl) rfl rfl ?_
        refine E.Ops.q _ (E.q_move rfl rfl) rfl rfl ?_
        refine E.Ops.skip rfl rfl ?_
        refine E.Ops.skip rfl rfl ?_
        refine E.Ops.skip rfl rfl ?_
        refine E.Ops.skip rfl rfl ?_
        refine E.Ops.skip rfl rfl ?_
        refine E.Ops.q _ (E.q_pickF rfl rfl rfl) rfl rfl ?_
        refine E.Ops.nil ?_
        try simp only [E.tn, E.tx, E.tr, E.bn, E.br, E.bs]
        (repeat refine E.Run.seq ?_)
        (repeat refine E.Run.seq ?_); refine E.Run.condF rfl ?_
        refine E.Run.skip ?_
        try simp only [E.tn, E.tx, E.tr, E.bn, E.br, E.bs]
        (repeat refine E.Run.seq ?_)
        refine E.Run.region ?_
        refine E.Ops.q _ (E.q_struct rfl rfl pl_101 rfl) rfl rfl ?_
        refine E.Ops.loud rfl rfl ?_
        refine E.l_store rfl rfl rfl E.ixA 2 sz_101 (by rfl) (by rfl) (by rfl) (by rfl) ?_
        refine E.Ops.nil ?_
        try simp only [E.tn, E.tx, E.tr, E.bn, E.br, E.bs]
        refine E.Run.ret ?_
        try simp only [E.tn, E.tx, E.tr, E.bn, E.br, E.bs]
        exact ⟨_, _, _, E.ResOk.one rfl ⟨_, rfl, E.LoadAt.ownAgg E.ixA 2 ag_101 (by rfl) (by rfl)⟩, E.Ent.of E.entA, E.kEq hK (by simp [rmeet, vlV, *] <;> rfl)⟩
      case' T15 =>
        refine E.Ops.q _ (E.q_move rfl rfl) rfl rfl ?_
        first | refine E.Ops.q _ (E.q_fieldAddr' rfl rfl fo_101_0) rfl rfl ?_ | refine E.Ops.q _ (E.q_fieldAddr rfl rfl fo_101_0) rfl rfl ?_
        refine E.Ops.q _ (E.q_load rfl rfl (by first | refine E.LoadAt.own E.ixA sc_3 (by rfl) | exact E.LoadAt.ro sc_3 (by assumption) | exact E.LoadAt.arr E.ixA sc_3 (by assumption))) rfl rfl ?_
        refine E.Ops.part (E.q_eql rfl rfl rfl) rfl rfl (fun h5_6 => ?T16) (fun h5_6 => ?F16)
        case' F16 =>
          refine E.Ops.q _ (E.q_pickT rfl rfl rfl) rfl rfl ?_
          refine E.Ops.q _ (E.q_move rfl rfl) rfl rfl ?_
          refine E.Ops.skip rfl rfl ?_
          refine E.Ops.skip rfl rfl ?_
          refine E.Ops.skip rfl rfl ?_
          refine E.Ops.skip rfl rfl ?_
          refine E.Ops.skip rfl rfl ?_
          refine E.Ops.q _ (E.q_pickF rfl rfl rfl) rfl rfl ?_
          refine E.Ops.nil ?_
          try simp only [E.tn, E.tx, E.tr, E.bn, E.br, E.bs]
          (repeat refine E.Run.seq ?_)
          (repeat refine E.Run.seq ?_); refine E.Run.condF rfl ?_
          refine E.Run.skip ?_
          try simp only [E.tn, E.tx, E.tr, E.bn, E.br, E.bs]
          (repeat refine E.Run.seq ?_)
          refine E.Run.region ?_
          refine E.Ops.q _ (E.q_struct rfl rfl pl_101 rfl) rfl rfl ?_
          refine E.Ops.loud rfl rfl ?_
          refine E.l_store rfl rfl rfl E.ixA 2 sz_101 (by rfl) (by rfl) (by rfl) (by rfl) ?_
          refine E.Ops.nil ?_
          try simp only [E.tn, E.tx, E.tr, E.bn, E.br, E.bs]
          refine E.Run.ret ?_
          try simp only [E.tn, E.tx, E.tr, E.bn, E.br, E.bs]
          exact ⟨_, _, _, E.ResOk.one rfl ⟨_, rfl, E.LoadAt.ownAgg E.ixA 2 ag_101 (by rfl) (by rfl)⟩, E.Ent.of E.entA, E.kEq hK (by simp [rmeet, vlV, *] <;> rfl)⟩
        case' T16 =>
          refine E.Ops.q _ (E.q_pickT rfl rfl rfl) rfl rfl ?_
          refine E.Ops.q _ (E.q_move rfl rfl) rfl rfl ?_
          first | refine E.Ops.q _ (E.q_fieldAddr' rfl rfl fo_101_1) rfl rfl ?_ | refine E.Ops.q _ (E.q_fieldAddr rfl rfl fo_101_1) rfl rfl ?_
          refine E.Ops.q _ (E.q_load rfl rfl (by first | refine E.LoadAt.own E.ixA sc_3 (by rfl) | exact E.LoadAt.ro sc_3 (by assumption) | exact E.LoadAt.arr E.ixA sc_3 (by assumption))) rfl rfl ?_
          first | refine E.Ops.q _ (E.q_fieldAddr' rfl rfl fo_101_1) rfl rfl ?_ | refine E.Ops.q _ (E.q_fieldAddr rfl rfl fo_101_1) rfl rfl ?_
          refine E.Ops.q _ (E.q_load rfl rfl (by first | refine E.LoadAt.own E.ixA sc_3 (by rfl) | exact E.LoadAt.ro sc_3 (by assumption) | exact E.LoadAt.arr E.ixA sc_3 (by assumption))) rfl rfl ?_
          refine E.Ops.part (E.q_eql rfl rfl rfl) rfl rfl (fun h5_13 => ?T17) (fun h5_13 => ?F17)
          case' F17 =>
            refine E.Ops.q _ (E.q_pickT rfl rfl rfl) rfl rfl ?_
            refine E.Ops.nil ?_
            try simp only [E.tn, E.tx, E.tr, E.bn, E.br, E.bs]
            (repeat refine E.Run.seq ?_)
            (repeat refine E.Run.seq ?_); refine E.Run.condF rfl ?_
            refine E.Run.skip ?_
            try simp only [E.tn, E.tx, E.tr, E.bn, E.br, E.bs]
            (repeat refine E.Run.seq ?_)
            refine E.Run.region ?_
            refine E.Ops.q _ (E.q_struct rfl rfl pl_101 rfl) rfl rfl ?_
            refine E.Ops.loud rfl rfl ?_
            refine E.l_store rfl rfl rfl E.ixA 2 sz_101 (by rfl) (by rfl) (by rfl) (by rfl) ?_
            refine E.Ops.nil ?_
            try simp only [E.tn, E.tx, E.tr, E.bn, E.br, E.bs]
            refine E.Run.ret ?_
            try simp only [E.tn, E.tx, E.tr, E.bn, E.br, E.bs]
            exact ⟨_, _, _, E.ResOk.one rfl ⟨_, rfl, E.LoadAt.ownAgg E.ixA 2 ag_101 (by rfl) (by rfl)⟩, E.Ent.of E.entA, E.kEq hK (by simp [rmeet, vlV, *] <;> rfl)⟩
          case' T17 =>
            refine E.Ops.q _ (E.q_pickT rfl rfl rfl) rfl rfl ?_
            refine E.Ops.nil ?_
            try simp only [E.tn, E.tx, E.tr, E.bn, E.br, E.bs]
            (repeat refine E.Run.seq ?_)
            (repeat refine E.Run.seq ?_); refine E.Run.condT rfl ?_
            (repeat refine E.Run.seq ?_)
            refine E.Run.region ?_
            refine E.Ops.q _ (E.q_load rfl rfl (by first | refine E.LoadAt.ownAgg E.ixA 2 ag_101 (by rfl) (by rfl) | exact E.LoadAt.roAgg ag_101 (by assumption) rfl)) rfl rfl ?_
            refine E.Ops.loud rfl rfl ?_
            refine E.l_store rfl rfl rfl E.ixA 2 sz_101 (by rfl) (by rfl) (by rfl) (by rfl) ?_
            refine E.Ops.nil ?_
            try simp only [E.tn, E.tx, E.tr, E.bn, E.br, E.bs]
            refine E.Run.ret ?_
            try simp only [E.tn, E.tx, E.tr, E.bn, E.br, E.bs]
            exact ⟨_, _, _, E.ResOk.one rfl ⟨_, rfl, E.LoadAt.ownAgg E.ixA 2 ag_101 (by rfl) (by rfl)⟩, E.Ent.of E.entA, E.kEq hK (by simp [rmeet, vlV, *] <;> rfl)⟩
    case' T14 =>
      refine E.Ops.nil ?_
      try simp only [E.tn, E.tx, E.tr, E.bn, E.br, E.bs]
      (repeat refine E.Run.seq ?_)
      (repeat refine E.Run.seq ?_); refine E.Run.condT rfl ?_
      (repeat refine E.Run.seq ?_)
      refine E.Run.region ?_
      refine E.Ops.q _ (E.q_load rfl rfl (by first | refine E.LoadAt.ownAgg E.ixA 2 ag_101 (by rfl) (by rfl) | exact E.LoadAt.roAgg ag_101 (by assumption) rfl)) rfl rfl ?_
      refine E.Ops.loud rfl rfl ?_
      refine E.l_store rfl rfl rfl E.ixA 2 sz_101 (by rfl) (by rfl) (by rfl) (by rfl) ?_
      refine E.Ops.nil ?_
      try simp only [E.tn, E.tx, E.tr, E.bn, E.br, E.bs]
      refine E.Run.ret ?_
      try simp only [E.tn, E.tx, E.tr, E.bn, E.br, E.bs]
      exact ⟨_, _, _, E.ResOk.one rfl ⟨_, rfl, E.LoadAt.ownAgg E.ixA 2 ag_101 (by rfl) (by rfl)⟩, E.Ent.of E.entA, E.kEq hK (by simp [rmeet, vlV, *] <;> rfl)⟩
  case' T13 =>
    refine E.Ops.nil ?_
    try simp only [E.tn, E.tx, E.tr, E.bn, E.br, E.bs]
    (repeat refine E.Run.seq ?_)
    (repeat refine E.Run.seq ?_); refine E.Run.condT rfl ?_
    (repeat refine E.Run.seq ?_)
    refine E.Run.region ?_
    refine E.Ops.q _ (E.q_load rfl rfl (by first | refine E.LoadAt.ownAgg E.ixA 2 ag_101 (by rfl) (by rfl) | exact E.LoadAt.roAgg ag_101 (by assumption) rfl)) rfl rfl ?_
    refine E.Ops.loud rfl rfl ?_
    refine E.l_store rfl rfl rfl E.ixA 2 sz_101 (by rfl) (by rfl) (by rfl) (by rfl) ?_
    refine E.Ops.nil ?_
    try simp only [E.tn, E.tx, E.tr, E.bn, E.br, E.bs]
    refine E.Run.ret ?_
    try simp only [E.tn, E.tx, E.tr, E.bn, E.br, E.bs]
    exact ⟨_, _, _, E.ResOk.one rfl ⟨_, rfl, E.LoadAt.ownAgg E.ixA 2 ag_101 (by rfl) (by rfl)⟩, E.Ent.of E.entA, E.kEq hK (by simp [rmeet, vlV, *] <;> rfl)⟩
end Go.Proofs.Ythpgjbdacknkgaa
