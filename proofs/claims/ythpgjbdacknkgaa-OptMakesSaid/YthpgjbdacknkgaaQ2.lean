/- sluiceref1: Name, Numbers, fits, None, Ints, Same; sluicelaw.vast: walked. No statement of the seat in it. -/
import Derived.Test.YthpgjbdacknkgaaQ1
import Derived.Test.YthpgjbdacknkgaaK1
set_option linter.unusedVariables false
set_option linter.unusedSimpArgs false
namespace Go.Proofs.Ythpgjbdacknkgaa
open Go
private theorem fo_25_0 : E.fieldOff Try.prog 25 0 = some 0 := by kernel_rfl
private theorem fo_25_1 : E.fieldOff Try.prog 25 1 = some 1 := by kernel_rfl
private theorem fo_25_2 : E.fieldOff Try.prog 25 2 = some 2 := by kernel_rfl
private theorem fo_25_3 : E.fieldOff Try.prog 25 3 = some 3 := by kernel_rfl
private theorem fo_44_1 : E.fieldOff Try.prog 44 1 = some 1 := by kernel_rfl
private theorem fo_44_2 : E.fieldOff Try.prog 44 2 = some 2 := by kernel_rfl
private theorem fo_44_3 : E.fieldOff Try.prog 44 3 = some 3 := by kernel_rfl
private theorem sc_22 : E.isScal Try.prog 22 = true := by kernel_rfl
private theorem sc_23 : E.isScal Try.prog 23 = true := by kernel_rfl
private theorem sc_3 : E.isScal Try.prog 3 = true := by kernel_rfl
private theorem sc_45 : E.isScal Try.prog 45 = true := by kernel_rfl
private theorem so_22 : E.sliceOf Try.prog 22 = some (45, 1) := by kernel_rfl
private theorem ty_3 : E.tyOf Try.prog 3 = some (some (.int .i64 0), 1, 8) := by kernel_rfl

theorem shp_none {op : Int} (h : op < 1 ∨ 18 < op) : shpOf op = none := by
  unfold shpOf
  rw [List.find?_eq_none.2]
  · rfl
  · intro x hx
    simp only [shp, List.mem_cons, List.not_mem_nil, or_false] at hx
    rcases hx with rfl | rfl | rfl | rfl | rfl | rfl | rfl | rfl | rfl | rfl | rfl | rfl | rfl | rfl | rfl | rfl | rfl | rfl <;> simp <;> omega
set_option maxRecDepth 100000 in
theorem rName {ρ : E.Ro} {M : List E.Asr} {K : Value → E.Ro → List E.Asr → Prop} (op : Int) (hK : K (.tuple #[.string ⟨((shpOf op).getD ([], [])).1.toArray⟩, .string ⟨((shpOf op).getD ([], [])).2.toArray⟩]) ρ M) : E.Hoa Try.prog 51 #[.int .i64 op] ρ M K := by
  refine E.Hoa.enter 41 Try.func51 rfl rfl rfl ?_
  (repeat refine E.Run.seq ?_)
  refine E.Run.region ?_
  refine E.Ops.q _ (E.q_mv rfl rfl) rfl rfl ?_
  refine E.Ops.q _ (E.q_mv rfl rfl) rfl rfl ?_
  refine E.Ops.nil ?_
  try simp only [E.tn, E.tx, E.tr, E.bn, E.br, E.bs]
  (repeat refine E.Run.seq ?_)
  refine E.Run.region ?_
  refine E.Ops.q _ (E.q_move rfl rfl) rfl rfl ?_
  refine E.Ops.nil ?_
  try simp only [E.tn, E.tx, E.tr, E.bn, E.br, E.bs]
  (repeat refine E.Run.seq ?_)
  (repeat refine E.Run.seq ?_); refine E.Run.block ?_
  (repeat refine E.Run.seq ?_)
  refine E.Run.region ?_
  refine E.Ops.part (E.q_eql rfl rfl rfl) rfl rfl (fun h2_0 => ?T1) (fun h2_0 => ?F1)
  case' F1 =>
    refine E.Ops.q _ (E.q_mv rfl rfl) rfl rfl ?_
    refine E.Ops.nil ?_
    try simp only [E.tn, E.tx, E.tr, E.bn, E.br, E.bs]
    (repeat refine E.Run.seq ?_)
    (repeat refine E.Run.seq ?_); refine E.Run.condF rfl ?_
    (repeat refine E.Run.seq ?_)
    refine E.Run.region ?_
    refine E.Ops.part (E.q_eql rfl rfl rfl) rfl rfl (fun h4_0 => ?T2) (fun h4_0 => ?F2)
    case' F2 =>
      refine E.Ops.q _ (E.q_mv rfl rfl) rfl rfl ?_
      refine E.Ops.nil ?_
      try simp only [E.tn, E.tx, E.tr, E.bn, E.br, E.bs]
      (repeat refine E.Run.seq ?_)
      (repeat refine E.Run.seq ?_); refine E.Run.condF rfl ?_
      (repeat refine E.Run.seq ?_)
      refine E.Run.region ?_
      refine E.Ops.part (E.q_eql rfl rfl rfl) rfl rfl (fun h6_0 => ?T3) (fun h6_0 => ?F3)
      case' F3 =>
        refine E.Ops.q _ (E.q_mv rfl rfl) rfl rfl ?_
        refine E.Ops.nil ?_
        try simp only [E.tn, E.tx, E.tr, E.bn, E.br, E.bs]
        (repeat refine E.Run.seq ?_)
        (repeat refine E.Run.seq ?_); refine E.Run.condF rfl ?_
        (repeat refine E.Run.seq ?_)
        refine E.Run.region ?_
        refine E.Ops.part (E.q_eql rfl rfl rfl) rfl rfl (fun h8_0 => ?T4) (fun h8_0 => ?F4)
        case' F4 =>
          refine E.Ops.q _ (E.q_mv rfl rfl) rfl rfl ?_
          refine E.Ops.nil ?_
          try simp only [E.tn, E.tx, E.tr, E.bn, E.br, E.bs]
          (repeat refine E.Run.seq ?_)
          (repeat refine E.Run.seq ?_); refine E.Run.condF rfl ?_
          (repeat refine E.Run.seq ?_)
          refine E.Run.region ?_
          refine E.Ops.part (E.q_eql rfl rfl rfl) rfl rfl (fun h10_0 => ?T5) (fun h10_0 => ?F5)
          case' F5 =>
            refine E.Ops.q _ (E.q_mv rfl rfl) rfl rfl ?_
            refine E.Ops.nil ?_
            try simp only [E.tn, E.tx, E.tr, E.bn, E.br, E.bs]
            (repeat refine E.Run.seq ?_)
            (repeat refine E.Run.seq ?_); refine E.Run.condF rfl ?_
            (repeat refine E.Run.seq ?_)
            refine E.Run.region ?_
            refine E.Ops.part (E.q_eql rfl rfl rfl) rfl rfl (fun h12_0 => ?T6) (fun h12_0 => ?F6)
            case' F6 =>
              refine E.Ops.q _ (E.q_mv rfl rfl) rfl rfl ?_
              refine E.Ops.nil ?_
              try simp only [E.tn, E.tx, E.tr, E.bn, E.br, E.bs]
              (repeat refine E.Run.seq ?_)
              (repeat refine E.Run.seq ?_); refine E.Run.condF rfl ?_
              (repeat refine E.Run.seq ?_)
              refine E.Run.region ?_
              refine E.Ops.part (E.q_eql rfl rfl rfl) rfl rfl (fun h14_0 => ?T7) (fun h14_0 => ?F7)
              case' F7 =>
                refine E.Ops.q _ (E.q_mv rfl rfl) rfl rfl ?_
                refine E.Ops.nil ?_
                try simp only [E.tn, E.tx, E.tr, E.bn, E.br, E.bs]
                (repeat refine E.Run.seq ?_)
                (repeat refine E.Run.seq ?_); refine E.Run.condF rfl ?_
                (repeat refine E.Run.seq ?_)
                refine E.Run.region ?_
                refine E.Ops.part (E.q_eql rfl rfl rfl) rfl rfl (fun h16_0 => ?T8) (fun h16_0 => ?F8)
                case' F8 =>
                  refine E.Ops.q _ (E.q_mv rfl rfl) rfl rfl ?_
                  refine E.Ops.nil ?_
                  try simp only [E.tn, E.tx, E.tr, E.bn, E.br, E.bs]
                  (repeat refine E.Run.seq ?_)
                  (repeat refine E.Run.seq ?_); refine E.Run.condF rfl ?_
                  (repeat refine E.Run.seq ?_)
                  refine E.Run.region ?_
                  refine E.Ops.part (E.q_eql rfl rfl rfl) rfl rfl (fun h18_0 => ?T9) (fun h18_0 => ?F9)
                  case' F9 =>
                    refine E.Ops.q _ (E.q_mv rfl rfl) rfl rfl ?_
                    refine E.Ops.nil ?_
                    try simp only [E.tn, E.tx, E.tr, E.bn, E.br, E.bs]
                    (repeat refine E.Run.seq ?_)
                    (repeat refine E.Run.seq ?_); refine E.Run.condF rfl ?_
                    (repeat refine E.Run.seq ?_)
                    refine E.Run.region ?_
                    refine E.Ops.part (E.q_eql rfl rfl rfl) rfl rfl (fun h20_0 => ?T10) (fun h20_0 => ?F10)
                    case' F10 =>
                      refine E.Ops.q _ (E.q_mv rfl rfl) rfl rfl ?_
                      refine E.Ops.nil ?_
                      try simp only [E.tn, E.tx, E.tr, E.bn, E.br, E.bs]
                      (repeat refine E.Run.seq ?_)
                      (repeat refine E.Run.seq ?_); refine E.Run.condF rfl ?_
                      (repeat refine E.Run.seq ?_)
                      refine E.Run.region ?_
                      refine E.Ops.part (E.q_eql rfl rfl rfl) rfl rfl (fun h22_0 => ?T11) (fun h22_0 => ?F11)
                      case' F11 =>
                        refine E.Ops.q _ (E.q_mv rfl rfl) rfl rfl ?_
                        refine E.Ops.nil ?_
                        try simp only [E.tn, E.tx, E.tr, E.bn, E.br, E.bs]
                        (repeat refine E.Run.seq ?_)
                        (repeat refine E.Run.seq ?_); refine E.Run.condF rfl ?_
                        (repeat refine E.Run.seq ?_)
                        refine E.Run.region ?_
                        refine E.Ops.part (E.q_eql rfl rfl rfl) rfl rfl (fun h24_0 => ?T12) (fun h24_0 => ?F12)
                        case' F12 =>
                          refine E.Ops.q _ (E.q_mv rfl rfl) rfl rfl ?_
                          refine E.Ops.nil ?_
                          try simp only [E.tn, E.tx, E.tr, E.bn, E.br, E.bs]
                          (repeat refine E.Run.seq ?_)
                          (repeat refine E.Run.seq ?_); refine E.Run.condF rfl ?_
                          (repeat refine E.Run.seq ?_)
                          refine E.Run.region ?_
                          refine E.Ops.part (E.q_eql rfl rfl rfl) rfl rfl (fun h26_0 => ?T13) (fun h26_0 => ?F13)
                          case' F13 =>
                            refine E.Ops.q _ (E.q_mv rfl rfl) rfl rfl ?_
                            refine E.Ops.nil ?_
                            try simp only [E.tn, E.tx, E.tr, E.bn, E.br, E.bs]
                            (repeat refine E.Run.seq ?_)
                            (repeat refine E.Run.seq ?_); refine E.Run.condF rfl ?_
                            (repeat refine E.Run.seq ?_)
                            refine E.Run.region ?_
                            refine E.Ops.part (E.q_eql rfl rfl rfl) rfl rfl (fun h28_0 => ?T14) (fun h28_0 => ?F14)
                            case' F14 =>
                              refine E.Ops.q _ (E.q_mv rfl rfl) rfl rfl ?_
                              refine E.Ops.nil ?_
                              try simp only [E.tn, E.tx, E.tr, E.bn, E.br, E.bs]
                              (repeat refine E.Run.seq ?_)
                              (repeat refine E.Run.seq ?_); refine E.Run.condF rfl ?_
                              (repeat refine E.Run.seq ?_)
                              refine E.Run.region ?_
                              refine E.Ops.part (E.q_eql rfl rfl rfl) rfl rfl (fun h30_0 => ?T15) (fun h30_0 => ?F15)
                              case' F15 =>
                                refine E.Ops.q _ (E.q_mv rfl rfl) rfl rfl ?_
                                refine E.Ops.nil ?_
                                try simp only [E.tn, E.tx, E.tr, E.bn, E.br, E.bs]
                                (repeat refine E.Run.seq ?_)
                                (repeat refine E.Run.seq ?_); refine E.Run.condF rfl ?_
                                (repeat refine E.Run.seq ?_)
                                refine E.Run.region ?_
                                refine E.Ops.part (E.q_eql rfl rfl rfl) rfl rfl (fun h32_0 => ?T16) (fun h32_0 => ?F16)
                                case' F16 =>
                                  refine E.Ops.q _ (E.q_mv rfl rfl) rfl rfl ?_
                                  refine E.Ops.nil ?_
                                  try simp only [E.tn, E.tx, E.tr, E.bn, E.br, E.bs]
                                  (repeat refine E.Run.seq ?_)
                                  (repeat refine E.Run.seq ?_); refine E.Run.condF rfl ?_
                                  (repeat refine E.Run.seq ?_)
                                  refine E.Run.region ?_
                                  refine E.Ops.part (E.q_eql rfl rfl rfl) rfl rfl (fun h34_0 => ?T17) (fun h34_0 => ?F17)
                                  case' F17 =>
                                    refine E.Ops.q _ (E.q_mv rfl rfl) rfl rfl ?_
                                    refine E.Ops.nil ?_
                                    try simp only [E.tn, E.tx, E.tr, E.bn, E.br, E.bs]
                                    (repeat refine E.Run.seq ?_)
                                    (repeat refine E.Run.seq ?_); refine E.Run.condF rfl ?_
                                    (repeat refine E.Run.seq ?_)
                                    refine E.Run.region ?_
                                    refine E.Ops.part (E.q_eql rfl rfl rfl) rfl rfl (fun h36_0 => ?T18) (fun h36_0 => ?F18)
                                    case' F18 =>
                                      refine E.Ops.q _ (E.q_mv rfl rfl) rfl rfl ?_
                                      refine E.Ops.nil ?_
                                      try simp only [E.tn, E.tx, E.tr, E.bn, E.br, E.bs]
                                      (repeat refine E.Run.seq ?_)
                                      (repeat refine E.Run.seq ?_); refine E.Run.condF rfl ?_
                                      refine E.Run.skip ?_
                                      try simp only [E.tn, E.tx, E.tr, E.bn, E.br, E.bs]
                                      (repeat refine E.Run.seq ?_)
                                      refine E.Run.region ?_
                                      refine E.Ops.q _ (E.q_mv rfl rfl) rfl rfl ?_
                                      refine E.Ops.q _ (E.q_mv rfl rfl) rfl rfl ?_
                                      refine E.Ops.nil ?_
                                      try simp only [E.tn, E.tx, E.tr, E.bn, E.br, E.bs]
                                      refine E.Run.ret ?_
                                      try simp only [E.tn, E.tx, E.tr, E.bn, E.br, E.bs]
                                      exact ⟨_, _, _, E.ResOk.two rfl rfl rfl, E.Ent.of E.entA, E.kEq hK (by first | (subst_vars; rfl) | (rw [shp_none (by omega)]; rfl))⟩
                                    case' T18 =>
                                      refine E.Ops.q _ (E.q_mv rfl rfl) rfl rfl ?_
                                      refine E.Ops.nil ?_
                                      try simp only [E.tn, E.tx, E.tr, E.bn, E.br, E.bs]
                                      (repeat refine E.Run.seq ?_)
                                      (repeat refine E.Run.seq ?_); refine E.Run.condT rfl ?_
                                      (repeat refine E.Run.seq ?_)
                                      refine E.Run.region ?_
                                      refine E.Ops.q _ (E.q_mv rfl rfl) rfl rfl ?_
                                      refine E.Ops.q _ (E.q_mv rfl rfl) rfl rfl ?_
                                      refine E.Ops.nil ?_
                                      try simp only [E.tn, E.tx, E.tr, E.bn, E.br, E.bs]
                                      refine E.Run.ret ?_
                                      try simp only [E.tn, E.tx, E.tr, E.bn, E.br, E.bs]
                                      exact ⟨_, _, _, E.ResOk.two rfl rfl rfl, E.Ent.of E.entA, E.kEq hK (by first | (subst_vars; rfl) | (rw [shp_none (by omega)]; rfl))⟩
                                  case' T17 =>
                                    refine E.Ops.q _ (E.q_mv rfl rfl) rfl rfl ?_
                                    refine E.Ops.nil ?_
                                    try simp only [E.tn, E.tx, E.tr, E.bn, E.br, E.bs]
                                    (repeat refine E.Run.seq ?_)
                                    (repeat refine E.Run.seq ?_); refine E.Run.condT rfl ?_
                                    (repeat refine E.Run.seq ?_)
                                    refine E.Run.region ?_
                                    refine E.Ops.q _ (E.q_mv rfl rfl) rfl rfl ?_
                                    refine E.Ops.q _ (E.q_mv rfl rfl) rfl rfl ?_
                                    refine E.Ops.nil ?_
                                    try simp only [E.tn, E.tx, E.tr, E.bn, E.br, E.bs]
                                    refine E.Run.ret ?_
                                    try simp only [E.tn, E.tx, E.tr, E.bn, E.br, E.bs]
                                    exact ⟨_, _, _, E.ResOk.two rfl rfl rfl, E.Ent.of E.entA, E.kEq hK (by first | (subst_vars; rfl) | (rw [shp_none (by omega)]; rfl))⟩
                                case' T16 =>
                                  refine E.Ops.q _ (E.q_mv rfl rfl) rfl rfl ?_
                                  refine E.Ops.nil ?_
                                  try simp only [E.tn, E.tx, E.tr, E.bn, E.br, E.bs]
                                  (repeat refine E.Run.seq ?_)
                                  (repeat refine E.Run.seq ?_); refine E.Run.condT rfl ?_
                                  (repeat refine E.Run.seq ?_)
                                  refine E.Run.region ?_
                                  refine E.Ops.q _ (E.q_mv rfl rfl) rfl rfl ?_
                                  refine E.Ops.q _ (E.q_mv rfl rfl) rfl rfl ?_
                                  refine E.Ops.nil ?_
                                  try simp only [E.tn, E.tx, E.tr, E.bn, E.br, E.bs]
                                  refine E.Run.ret ?_
                                  try simp only [E.tn, E.tx, E.tr, E.bn, E.br, E.bs]
                                  exact ⟨_, _, _, E.ResOk.two rfl rfl rfl, E.Ent.of E.entA, E.kEq hK (by first | (subst_vars; rfl) | (rw [shp_none (by omega)]; rfl))⟩
                              case' T15 =>
                                refine E.Ops.q _ (E.q_mv rfl rfl) rfl rfl ?_
                                refine E.Ops.nil ?_
                                try simp only [E.tn, E.tx, E.tr, E.bn, E.br, E.bs]
                                (repeat refine E.Run.seq ?_)
                                (repeat refine E.Run.seq ?_); refine E.Run.condT rfl ?_
                                (repeat refine E.Run.seq ?_)
                                refine E.Run.region ?_
                                refine E.Ops.q _ (E.q_mv rfl rfl) rfl rfl ?_
                                refine E.Ops.q _ (E.q_mv rfl rfl) rfl rfl ?_
                                refine E.Ops.nil ?_
                                try simp only [E.tn, E.tx, E.tr, E.bn, E.br, E.bs]
                                refine E.Run.ret ?_
                                try simp only [E.tn, E.tx, E.tr, E.bn, E.br, E.bs]
                                exact ⟨_, _, _, E.ResOk.two rfl rfl rfl, E.Ent.of E.entA, E.kEq hK (by first | (subst_vars; rfl) | (rw [shp_none (by omega)]; rfl))⟩
                            case' T14 =>
                              refine E.Ops.q _ (E.q_mv rfl rfl) rfl rfl ?_
                              refine E.Ops.nil ?_
                              try simp only [E.tn, E.tx, E.tr, E.bn, E.br, E.bs]
                              (repeat refine E.Run.seq ?_)
                              (repeat refine E.Run.seq ?_); refine E.Run.condT rfl ?_
                              (repeat refine E.Run.seq ?_)
                              refine E.Run.region ?_
                              refine E.Ops.q _ (E.q_mv rfl rfl) rfl rfl ?_
                              refine E.Ops.q _ (E.q_mv rfl rfl) rfl rfl ?_
                              refine E.Ops.nil ?_
                              try simp only [E.tn, E.tx, E.tr, E.bn, E.br, E.bs]
                              refine E.Run.ret ?_
                              try simp only [E.tn, E.tx, E.tr, E.bn, E.br, E.bs]
                              exact ⟨_, _, _, E.ResOk.two rfl rfl rfl, E.Ent.of E.entA, E.kEq hK (by first | (subst_vars; rfl) | (rw [shp_none (by omega)]; rfl))⟩
                          case' T13 =>
                            refine E.Ops.q _ (E.q_mv rfl rfl) rfl rfl ?_
                            refine E.Ops.nil ?_
                            try simp only [E.tn, E.tx, E.tr, E.bn, E.br, E.bs]
                            (repeat refine E.Run.seq ?_)
                            (repeat refine E.Run.seq ?_); refine E.Run.condT rfl ?_
                            (repeat refine E.Run.seq ?_)
                            refine E.Run.region ?_
                            refine E.Ops.q _ (E.q_mv rfl rfl) rfl rfl ?_
                            refine E.Ops.q _ (E.q_mv rfl rfl) rfl rfl ?_
                            refine E.Ops.nil ?_
                            try simp only [E.tn, E.tx, E.tr, E.bn, E.br, E.bs]
                            refine E.Run.ret ?_
                            try simp only [E.tn, E.tx, E.tr, E.bn, E.br, E.bs]
                            exact ⟨_, _, _, E.ResOk.two rfl rfl rfl, E.Ent.of E.entA, E.kEq hK (by first | (subst_vars; rfl) | (rw [shp_none (by omega)]; rfl))⟩
                        case' T12 =>
                          refine E.Ops.q _ (E.q_mv rfl rfl) rfl rfl ?_
                          refine E.Ops.nil ?_
                          try simp only [E.tn, E.tx, E.tr, E.bn, E.br, E.bs]
                          (repeat refine E.Run.seq ?_)
                          (repeat refine E.Run.seq ?_); refine E.Run.condT rfl ?_
                          (repeat refine E.Run.seq ?_)
                          refine E.Run.region ?_
                          refine E.Ops.q _ (E.q_mv rfl rfl) rfl rfl ?_
                          refine E.Ops.q _ (E.q_mv rfl rfl) rfl rfl ?_
                          refine E.Ops.nil ?_
                          try simp only [E.tn, E.tx, E.tr, E.bn, E.br, E.bs]
                          refine E.Run.ret ?_
                          try simp only [E.tn, E.tx, E.tr, E.bn, E.br, E.bs]
                          exact ⟨_, _, _, E.ResOk.two rfl rfl rfl, E.Ent.of E.entA, E.kEq hK (by first | (subst_vars; rfl) | (rw [shp_none (by omega)]; rfl))⟩
                      case' T11 =>
                        refine E.Ops.q _ (E.q_mv rfl rfl) rfl rfl ?_
                        refine E.Ops.nil ?_
                        try simp only [E.tn, E.tx, E.tr, E.bn, E.br, E.bs]
                        (repeat refine E.Run.seq ?_)
                        (repeat refine E.Run.seq ?_); refine E.Run.condT rfl ?_
                        (repeat refine E.Run.seq ?_)
                        refine E.Run.region ?_
                        refine E.Ops.q _ (E.q_mv rfl rfl) rfl rfl ?_
                        refine E.Ops.q _ (E.q_mv rfl rfl) rfl rfl ?_
                        refine E.Ops.nil ?_
                        try simp only [E.tn, E.tx, E.tr, E.bn, E.br, E.bs]
                        refine E.Run.ret ?_
                        try simp only [E.tn, E.tx, E.tr, E.bn, E.br, E.bs]
                        exact ⟨_, _, _, E.ResOk.two rfl rfl rfl, E.Ent.of E.entA, E.kEq hK (by first | (subst_vars; rfl) | (rw [shp_none (by omega)]; rfl))⟩
                    case' T10 =>
                      refine E.Ops.q _ (E.q_mv rfl rfl) rfl rfl ?_
                      refine E.Ops.nil ?_
                      try simp only [E.tn, E.tx, E.tr, E.bn, E.br, E.bs]
                      (repeat refine E.Run.seq ?_)
                      (repeat refine E.Run.seq ?_); refine E.Run.condT rfl ?_
                      (repeat refine E.Run.seq ?_)
                      refine E.Run.region ?_
                      refine E.Ops.q _ (E.q_mv rfl rfl) rfl rfl ?_
                      refine E.Ops.q _ (E.q_mv rfl rfl) rfl rfl ?_
                      refine E.Ops.nil ?_
                      try simp only [E.tn, E.tx, E.tr, E.bn, E.br, E.bs]
                      refine E.Run.ret ?_
                      try simp only [E.tn, E.tx, E.tr, E.bn, E.br, E.bs]
                      exact ⟨_, _, _, E.ResOk.two rfl rfl rfl, E.Ent.of E.entA, E.kEq hK (by first | (subst_vars; rfl) | (rw [shp_none (by omega)]; rfl))⟩
                  case' T9 =>
                    refine E.Ops.q _ (E.q_mv rfl rfl) rfl rfl ?_
                    refine E.Ops.nil ?_
                    try simp only [E.tn, E.tx, E.tr, E.bn, E.br, E.bs]
                    (repeat refine E.Run.seq ?_)
                    (repeat refine E.Run.seq ?_); refine E.Run.condT rfl ?_
                    (repeat refine E.Run.seq ?_)
                    refine E.Run.region ?_
                    refine E.Ops.q _ (E.q_mv rfl rfl) rfl rfl ?_
                    refine E.Ops.q _ (E.q_mv rfl rfl) rfl rfl ?_
                    refine E.Ops.nil ?_
                    try simp only [E.tn, E.tx, E.tr, E.bn, E.br, E.bs]
                    refine E.Run.ret ?_
                    try simp only [E.tn, E.tx, E.tr, E.bn, E.br, E.bs]
                    exact ⟨_, _, _, E.ResOk.two rfl rfl rfl, E.Ent.of E.entA, E.kEq hK (by first | (subst_vars; rfl) | (rw [shp_none (by omega)]; rfl))⟩
                case' T8 =>
                  refine E.Ops.q _ (E.q_mv rfl rfl) rfl rfl ?_
                  refine E.Ops.nil ?_
                  try simp only [E.tn, E.tx, E.tr, E.bn, E.br, E.bs]
                  (repeat refine E.Run.seq ?_)
                  (repeat refine E.Run.seq ?_); refine E.Run.condT rfl ?_
                  (repeat refine E.Run.seq ?_)
                  refine E.Run.region ?_
                  refine E.Ops.q _ (E.q_mv rfl rfl) rfl rfl ?_
                  refine E.Ops.q _ (E.q_mv rfl rfl) rfl rfl ?_
                  refine E.Ops.nil ?_
                  try simp only [E.tn, E.tx, E.tr, E.bn, E.br, E.bs]
                  refine E.Run.ret ?_
                  try simp only [E.tn, E.tx, E.tr, E.bn, E.br, E.bs]
                  exact ⟨_, _, _, E.ResOk.two rfl rfl rfl, E.Ent.of E.entA, E.kEq hK (by first | (subst_vars; rfl) | (rw [shp_none (by omega)]; rfl))⟩
              case' T7 =>
                refine E.Ops.q _ (E.q_mv rfl rfl) rfl rfl ?_
                refine E.Ops.nil ?_
                try simp only [E.tn, E.tx, E.tr, E.bn, E.br, E.bs]
                (repeat refine E.Run.seq ?_)
                (repeat refine E.Run.seq ?_); refine E.Run.condT rfl ?_
                (repeat refine E.Run.seq ?_)
                refine E.Run.region ?_
                refine E.Ops.q _ (E.q_mv rfl rfl) rfl rfl ?_
                refine E.Ops.q _ (E.q_mv rfl rfl) rfl rfl ?_
                refine E.Ops.nil ?_
                try simp only [E.tn, E.tx, E.tr, E.bn, E.br, E.bs]
                refine E.Run.ret ?_
                try simp only [E.tn, E.tx, E.tr, E.bn, E.br, E.bs]
                exact ⟨_, _, _, E.ResOk.two rfl rfl rfl, E.Ent.of E.entA, E.kEq hK (by first | (subst_vars; rfl) | (rw [shp_none (by omega)]; rfl))⟩
            case' T6 =>
              refine E.Ops.q _ (E.q_mv rfl rfl) rfl rfl ?_
              refine E.Ops.nil ?_
              try simp only [E.tn, E.tx, E.tr, E.bn, E.br, E.bs]
              (repeat refine E.Run.seq ?_)
              (repeat refine E.Run.seq ?_); refine E.Run.condT rfl ?_
              (repeat refine E.Run.seq ?_)
              refine E.Run.region ?_
              refine E.Ops.q _ (E.q_mv rfl rfl) rfl rfl ?_
              refine E.Ops.q _ (E.q_mv rfl rfl) rfl rfl ?_
              refine E.Ops.nil ?_
              try simp only [E.tn, E.tx, E.tr, E.bn, E.br, E.bs]
              refine E.Run.ret ?_
              try simp only [E.tn, E.tx, E.tr, E.bn, E.br, E.bs]
              exact ⟨_, _, _, E.ResOk.two rfl rfl rfl, E.Ent.of E.entA, E.kEq hK (by first | (subst_vars; rfl) | (rw [shp_none (by omega)]; rfl))⟩
          case' T5 =>
            refine E.Ops.q _ (E.q_mv rfl rfl) rfl rfl ?_
            refine E.Ops.nil ?_
            try simp only [E.tn, E.tx, E.tr, E.bn, E.br, E.bs]
            (repeat refine E.Run.seq ?_)
            (repeat refine E.Run.seq ?_); refine E.Run.condT rfl ?_
            (repeat refine E.Run.seq ?_)
            refine E.Run.region ?_
            refine E.Ops.q _ (E.q_mv rfl rfl) rfl rfl ?_
            refine E.Ops.q _ (E.q_mv rfl rfl) rfl rfl ?_
            refine E.Ops.nil ?_
            try simp only [E.tn, E.tx, E.tr, E.bn, E.br, E.bs]
            refine E.Run.ret ?_
            try simp only [E.tn, E.tx, E.tr, E.bn, E.br, E.bs]
            exact ⟨_, _, _, E.ResOk.two rfl rfl rfl, E.Ent.of E.entA, E.kEq hK (by first | (subst_vars; rfl) | (rw [shp_none (by omega)]; rfl))⟩
        case' T4 =>
          refine E.Ops.q _ (E.q_mv rfl rfl) rfl rfl ?_
          refine E.Ops.nil ?_
          try simp only [E.tn, E.tx, E.tr, E.bn, E.br, E.bs]
          (repeat refine E.Run.seq ?_)
          (repeat refine E.Run.seq ?_); refine E.Run.condT rfl ?_
          (repeat refine E.Run.seq ?_)
          refine E.Run.region ?_
          refine E.Ops.q _ (E.q_mv rfl rfl) rfl rfl ?_
          refine E.Ops.q _ (E.q_mv rfl rfl) rfl rfl ?_
          refine E.Ops.nil ?_
          try simp only [E.tn, E.tx, E.tr, E.bn, E.br, E.bs]
          refine E.Run.ret ?_
          try simp only [E.tn, E.tx, E.tr, E.bn, E.br, E.bs]
          exact ⟨_, _, _, E.ResOk.two rfl rfl rfl, E.Ent.of E.entA, E.kEq hK (by first | (subst_vars; rfl) | (rw [shp_none (by omega)]; rfl))⟩
      case' T3 =>
        refine E.Ops.q _ (E.q_mv rfl rfl) rfl rfl ?_
        refine E.Ops.nil ?_
        try simp only [E.tn, E.tx, E.tr, E.bn, E.br, E.bs]
        (repeat refine E.Run.seq ?_)
        (repeat refine E.Run.seq ?_); refine E.Run.condT rfl ?_
        (repeat refine E.Run.seq ?_)
        refine E.Run.region ?_
        refine E.Ops.q _ (E.q_mv rfl rfl) rfl rfl ?_
        refine E.Ops.q _ (E.q_mv rfl rfl) rfl rfl ?_
        refine E.Ops.nil ?_
        try simp only [E.tn, E.tx, E.tr, E.bn, E.br, E.bs]
        refine E.Run.ret ?_
        try simp only [E.tn, E.tx, E.tr, E.bn, E.br, E.bs]
        exact ⟨_, _, _, E.ResOk.two rfl rfl rfl, E.Ent.of E.entA, E.kEq hK (by first | (subst_vars; rfl) | (rw [shp_none (by omega)]; rfl))⟩
    case' T2 =>
      refine E.Ops.q _ (E.q_mv rfl rfl) rfl rfl ?_
      refine E.Ops.nil ?_
      try simp only [E.tn, E.tx, E.tr, E.bn, E.br, E.bs]
      (repeat refine E.Run.seq ?_)
      (repeat refine E.Run.seq ?_); refine E.Run.condT rfl ?_
      (repeat refine E.Run.seq ?_)
      refine E.Run.region ?_
      refine E.Ops.q _ (E.q_mv rfl rfl) rfl rfl ?_
      refine E.Ops.q _ (E.q_mv rfl rfl) rfl rfl ?_
      refine E.Ops.nil ?_
      try simp only [E.tn, E.tx, E.tr, E.bn, E.br, E.bs]
      refine E.Run.ret ?_
      try simp only [E.tn, E.tx, E.tr, E.bn, E.br, E.bs]
      exact ⟨_, _, _, E.ResOk.two rfl rfl rfl, E.Ent.of E.entA, E.kEq hK (by first | (subst_vars; rfl) | (rw [shp_none (by omega)]; rfl))⟩
  case' T1 =>
    refine E.Ops.q _ (E.q_mv rfl rfl) rfl rfl ?_
    refine E.Ops.nil ?_
    try simp only [E.tn, E.tx, E.tr, E.bn, E.br, E.bs]
    (repeat refine E.Run.seq ?_)
    (repeat refine E.Run.seq ?_); refine E.Run.condT rfl ?_
    (repeat refine E.Run.seq ?_)
    refine E.Run.region ?_
    refine E.Ops.q _ (E.q_mv rfl rfl) rfl rfl ?_
    refine E.Ops.q _ (E.q_mv rfl rfl) rfl rfl ?_
    refine E.Ops.nil ?_
    try simp only [E.tn, E.tx, E.tr, E.bn, E.br, E.bs]
    refine E.Run.ret ?_
    try simp only [E.tn, E.tx, E.tr, E.bn, E.br, E.bs]
    exact ⟨_, _, _, E.ResOk.two rfl rfl rfl, E.Ent.of E.entA, E.kEq hK (by first | (subst_vars; rfl) | (rw [shp_none (by omega)]; rfl))⟩
set_option maxRecDepth 100000 in
theorem rNumbers {ρ : E.Ro} {M : List E.Asr} {K : Value → E.Ro → List E.Asr → Prop} (i : E.Ins) (hK : ∀ g, K (.slice (some ⟨g, 0, none⟩) 3 3) ρ (E.arr 3 1 (some ⟨g, 0, none⟩) 3 3 [.int .i64 i.a, .int .i64 i.b, .int .i64 i.c] :: M)) : E.Hoa Try.prog 52 #[.agg (E.encIns i).toArray] ρ M K := by
  refine E.Hoa.enter 10 Try.func52 rfl rfl rfl ?_
  (repeat refine E.Run.seq ?_)
  refine E.Run.region ?_
  refine E.Ops.loud rfl rfl ?_
  refine E.l_box rfl rfl (fun b0_0 => ?_)
  refine E.Ops.q _ (E.q_mv rfl rfl) rfl rfl ?_
  refine E.Ops.nil ?_
  try simp only [E.tn, E.tx, E.tr, E.bn, E.br, E.bs]
  (repeat refine E.Run.seq ?_)
  refine E.Run.region ?_
  first | refine E.Ops.q _ (E.q_fieldAddr' rfl rfl fo_44_1) rfl rfl ?_ | refine E.Ops.q _ (E.q_fieldAddr rfl rfl fo_44_1) rfl rfl ?_
  refine E.Ops.q _ (E.q_load rfl rfl (by first | refine E.LoadAt.own E.ixA sc_3 (by rfl) | exact E.LoadAt.ro sc_3 (by assumption) | exact E.LoadAt.arr E.ixA sc_3 (by assumption))) rfl rfl ?_
  first | refine E.Ops.q _ (E.q_fieldAddr' rfl rfl fo_44_2) rfl rfl ?_ | refine E.Ops.q _ (E.q_fieldAddr rfl rfl fo_44_2) rfl rfl ?_
  refine E.Ops.q _ (E.q_load rfl rfl (by first | refine E.LoadAt.own E.ixA sc_3 (by rfl) | exact E.LoadAt.ro sc_3 (by assumption) | exact E.LoadAt.arr E.ixA sc_3 (by assumption))) rfl rfl ?_
  first | refine E.Ops.q _ (E.q_fieldAddr' rfl rfl fo_44_3) rfl rfl ?_ | refine E.Ops.q _ (E.q_fieldAddr rfl rfl fo_44_3) rfl rfl ?_
  refine E.Ops.q _ (E.q_load rfl rfl (by first | refine E.LoadAt.own E.ixA sc_3 (by rfl) | exact E.LoadAt.ro sc_3 (by assumption) | exact E.LoadAt.arr E.ixA sc_3 (by assumption))) rfl rfl ?_
  refine E.Ops.loud rfl rfl ?_
  refine E.l_slice rfl rfl Try.underlying23 ty_3 rfl rfl rfl rfl rfl rfl (fun g1_6 => ?_)
  refine E.Ops.q _ (E.q_mv rfl rfl) rfl rfl ?_
  refine E.Ops.nil ?_
  try simp only [E.tn, E.tx, E.tr, E.bn, E.br, E.bs]
  refine E.Run.ret ?_
  try simp only [E.tn, E.tx, E.tr, E.bn, E.br, E.bs]
  exact ⟨_, _, _, E.ResOk.one rfl rfl, E.Ent.of E.entA, hK g1_6⟩
set_option maxRecDepth 100000 in
theorem rFits {ρ : E.Ro} {M : List E.Asr} {K : Value → E.Ro → List E.Asr → Prop} (A A' : Option Addr) (c c' : Nat) (p : Prg) (size : Nat) (kind n : Int) (hs : size ≤ 4398046511104)
    (hK : K (.bool (fitB p.regs p.words.length p.locks size kind n)) ρ M) :
    E.Hoa Try.prog 53 #[prgV A c A' c' p, .int .i64 size, .int .u8 kind, .int .i64 n] ρ M K := by
  refine E.Hoa.enter 36 Try.func53 rfl rfl rfl ?_
  (repeat refine E.Run.seq ?_)
  refine E.Run.region ?_
  refine E.Ops.loud rfl rfl ?_
  refine E.l_box rfl rfl (fun b0_0 => ?_)
  refine E.Ops.q _ (E.q_mv rfl rfl) rfl rfl ?_
  refine E.Ops.nil ?_
  try simp only [E.tn, E.tx, E.tr, E.bn, E.br, E.bs]
  (repeat refine E.Run.seq ?_)
  refine E.Run.region ?_
  refine E.Ops.q _ (E.q_move rfl rfl) rfl rfl ?_
  refine E.Ops.part (E.q_eql rfl rfl rfl) rfl rfl (fun h1_1 => ?T19) (fun h1_1 => ?F19)
  case' F19 =>
    refine E.Ops.nil ?_
    try simp only [E.tn, E.tx, E.tr, E.bn, E.br, E.bs]
    (repeat refine E.Run.seq ?_)
    (repeat refine E.Run.seq ?_); refine E.Run.condF rfl ?_
    refine E.Run.skip ?_
    try simp only [E.tn, E.tx, E.tr, E.bn, E.br, E.bs]
    (repeat refine E.Run.seq ?_)
    refine E.Run.region ?_
    refine E.Ops.q _ (E.q_mv rfl rfl) rfl rfl ?_
    refine E.Ops.nil ?_
    try simp only [E.tn, E.tx, E.tr, E.bn, E.br, E.bs]
    (repeat refine E.Run.seq ?_)
    refine E.Run.region ?_
    refine E.Ops.q _ (E.q_move rfl rfl) rfl rfl ?_
    refine E.Ops.part (E.q_eql rfl rfl rfl) rfl rfl (fun h4_1 => ?T20) (fun h4_1 => ?F20)
    case' F20 =>
      refine E.Ops.nil ?_
      try simp only [E.tn, E.tx, E.tr, E.bn, E.br, E.bs]
      (repeat refine E.Run.seq ?_)
      (repeat refine E.Run.seq ?_); refine E.Run.condF rfl ?_
      refine E.Run.skip ?_
      try simp only [E.tn, E.tx, E.tr, E.bn, E.br, E.bs]
      (repeat refine E.Run.seq ?_)
      refine E.Run.region ?_
      refine E.Ops.q _ (E.q_move rfl rfl) rfl rfl ?_
      refine E.Ops.part (E.q_eql rfl rfl rfl) rfl rfl (fun h6_1 => ?T21) (fun h6_1 => ?F21)
      case' F21 =>
        refine E.Ops.nil ?_
        try simp only [E.tn, E.tx, E.tr, E.bn, E.br, E.bs]
        (repeat refine E.Run.seq ?_)
        (repeat refine E.Run.seq ?_); refine E.Run.condF rfl ?_
        refine E.Run.skip ?_
        try simp only [E.tn, E.tx, E.tr, E.bn, E.br, E.bs]
        (repeat refine E.Run.seq ?_)
        refine E.Run.region ?_
        refine E.Ops.q _ (E.q_move rfl rfl) rfl rfl ?_
        refine E.Ops.part (E.q_eql rfl rfl rfl) rfl rfl (fun h8_1 => ?T22) (fun h8_1 => ?F22)
        case' F22 =>
          refine E.Ops.nil ?_
          try simp only [E.tn, E.tx, E.tr, E.bn, E.br, E.bs]
          (repeat refine E.Run.seq ?_)
          (repeat refine E.Run.seq ?_); refine E.Run.condF rfl ?_
          refine E.Run.skip ?_
          try simp only [E.tn, E.tx, E.tr, E.bn, E.br, E.bs]
          (repeat refine E.Run.seq ?_)
          refine E.Run.region ?_
          refine E.Ops.q _ (E.q_move rfl rfl) rfl rfl ?_
          refine E.Ops.part (E.q_eql rfl rfl rfl) rfl rfl (fun h10_1 => ?T23) (fun h10_1 => ?F23)
          case' F23 =>
            refine E.Ops.nil ?_
            try simp only [E.tn, E.tx, E.tr, E.bn, E.br, E.bs]
            (repeat refine E.Run.seq ?_)
            (repeat refine E.Run.seq ?_); refine E.Run.condF rfl ?_
            refine E.Run.skip ?_
            try simp only [E.tn, E.tx, E.tr, E.bn, E.br, E.bs]
            (repeat refine E.Run.seq ?_)
            refine E.Run.region ?_
            refine E.Ops.q _ (E.q_move rfl rfl) rfl rfl ?_
            refine E.Ops.part (E.q_geq rfl rfl rfl) rfl rfl (fun h12_1 => ?T24) (fun h12_1 => ?F24)
            case' F24 =>
              refine E.Ops.q _ (E.q_move rfl rfl) rfl rfl ?_
              refine E.Ops.skip rfl rfl ?_
              refine E.Ops.skip rfl rfl ?_
              refine E.Ops.skip rfl rfl ?_
              refine E.Ops.q _ (E.q_pickF rfl rfl rfl) rfl rfl ?_
              refine E.Ops.q _ (E.q_mv rfl rfl) rfl rfl ?_
              refine E.Ops.nil ?_
              try simp only [E.tn, E.tx, E.tr, E.bn, E.br, E.bs]
              refine E.Run.ret ?_
              try simp only [E.tn, E.tx, E.tr, E.bn, E.br, E.bs]
              exact ⟨_, _, _, E.ResOk.one rfl rfl, E.Ent.of E.entA, E.kEq hK (by congr 1; unfold fitB; (repeat' split) <;> first | (exfalso; omega) | (exact decide_eq_true (by omega)) | (exact decide_eq_false (by omega)) | rfl)⟩
            case' T24 =>
              refine E.Ops.q _ (E.q_move rfl rfl) rfl rfl ?_
              refine E.Ops.q _ (E.q_move rfl rfl) rfl rfl ?_
              refine E.Ops.q _ (E.q_move rfl rfl) rfl rfl ?_
              refine E.Ops.part (E.q_lss rfl rfl rfl) rfl rfl (fun h12_5 => ?T25) (fun h12_5 => ?F25)
              case' F25 =>
                refine E.Ops.q _ (E.q_pickT rfl rfl rfl) rfl rfl ?_
                refine E.Ops.q _ (E.q_mv rfl rfl) rfl rfl ?_
                refine E.Ops.nil ?_
                try simp only [E.tn, E.tx, E.tr, E.bn, E.br, E.bs]
                refine E.Run.ret ?_
                try simp only [E.tn, E.tx, E.tr, E.bn, E.br, E.bs]
                exact ⟨_, _, _, E.ResOk.one rfl rfl, E.Ent.of E.entA, E.kEq hK (by congr 1; unfold fitB; (repeat' split) <;> first | (exfalso; omega) | (exact decide_eq_true (by omega)) | (exact decide_eq_false (by omega)) | rfl)⟩
              case' T25 =>
                refine E.Ops.q _ (E.q_pickT rfl rfl rfl) rfl rfl ?_
                refine E.Ops.q _ (E.q_mv rfl rfl) rfl rfl ?_
                refine E.Ops.nil ?_
                try simp only [E.tn, E.tx, E.tr, E.bn, E.br, E.bs]
                refine E.Run.ret ?_
                try simp only [E.tn, E.tx, E.tr, E.bn, E.br, E.bs]
                exact ⟨_, _, _, E.ResOk.one rfl rfl, E.Ent.of E.entA, E.kEq hK (by congr 1; unfold fitB; (repeat' split) <;> first | (exfalso; omega) | (exact decide_eq_true (by omega)) | (exact decide_eq_false (by omega)) | rfl)⟩
          case' T23 =>
            refine E.Ops.nil ?_
            try simp only [E.tn, E.tx, E.tr, E.bn, E.br, E.bs]
            (repeat refine E.Run.seq ?_)
            (repeat refine E.Run.seq ?_); refine E.Run.condT rfl ?_
            (repeat refine E.Run.seq ?_)
            refine E.Run.region ?_
            refine E.Ops.q _ (E.q_move rfl rfl) rfl rfl ?_
            first | refine E.Ops.q _ (E.q_incr rfl rfl (by omega)) rfl rfl ?_ | refine E.Ops.q _ (E.q_addFit rfl rfl rfl (by omega)) rfl rfl ?_ | refine E.Ops.q _ (E.q_add rfl rfl rfl) rfl rfl ?_
            refine E.Ops.q _ (E.q_mv rfl rfl) rfl rfl ?_
            refine E.Ops.nil ?_
            try simp only [E.tn, E.tx, E.tr, E.bn, E.br, E.bs]
            (repeat refine E.Run.seq ?_)
            refine E.Run.region ?_
            refine E.Ops.q _ (E.q_move rfl rfl) rfl rfl ?_
            refine E.Ops.part (E.q_geq rfl rfl rfl) rfl rfl (fun h12_1 => ?T26) (fun h12_1 => ?F26)
            case' F26 =>
              refine E.Ops.q _ (E.q_move rfl rfl) rfl rfl ?_
              refine E.Ops.skip rfl rfl ?_
              refine E.Ops.skip rfl rfl ?_
              refine E.Ops.skip rfl rfl ?_
              refine E.Ops.q _ (E.q_pickF rfl rfl rfl) rfl rfl ?_
              refine E.Ops.q _ (E.q_mv rfl rfl) rfl rfl ?_
              refine E.Ops.nil ?_
              try simp only [E.tn, E.tx, E.tr, E.bn, E.br, E.bs]
              refine E.Run.ret ?_
              try simp only [E.tn, E.tx, E.tr, E.bn, E.br, E.bs]
              exact ⟨_, _, _, E.ResOk.one rfl rfl, E.Ent.of E.entA, E.kEq hK (by congr 1; unfold fitB; (repeat' split) <;> first | (exfalso; omega) | (exact decide_eq_true (by omega)) | (exact decide_eq_false (by omega)) | rfl)⟩
            case' T26 =>
              refine E.Ops.q _ (E.q_move rfl rfl) rfl rfl ?_
              refine E.Ops.q _ (E.q_move rfl rfl) rfl rfl ?_
              refine E.Ops.q _ (E.q_move rfl rfl) rfl rfl ?_
              refine E.Ops.part (E.q_lss rfl rfl rfl) rfl rfl (fun h12_5 => ?T27) (fun h12_5 => ?F27)
              case' F27 =>
                refine E.Ops.q _ (E.q_pickT rfl rfl rfl) rfl rfl ?_
                refine E.Ops.q _ (E.q_mv rfl rfl) rfl rfl ?_
                refine E.Ops.nil ?_
                try simp only [E.tn, E.tx, E.tr, E.bn, E.br, E.bs]
                refine E.Run.ret ?_
                try simp only [E.tn, E.tx, E.tr, E.bn, E.br, E.bs]
                exact ⟨_, _, _, E.ResOk.one rfl rfl, E.Ent.of E.entA, E.kEq hK (by congr 1; unfold fitB; (repeat' split) <;> first | (exfalso; omega) | (exact decide_eq_true (by omega)) | (exact decide_eq_false (by omega)) | rfl)⟩
              case' T27 =>
                refine E.Ops.q _ (E.q_pickT rfl rfl rfl) rfl rfl ?_
                refine E.Ops.q _ (E.q_mv rfl rfl) rfl rfl ?_
                refine E.Ops.nil ?_
                try simp only [E.tn, E.tx, E.tr, E.bn, E.br, E.bs]
                refine E.Run.ret ?_
                try simp only [E.tn, E.tx, E.tr, E.bn, E.br, E.bs]
                exact ⟨_, _, _, E.ResOk.one rfl rfl, E.Ent.of E.entA, E.kEq hK (by congr 1; unfold fitB; (repeat' split) <;> first | (exfalso; omega) | (exact decide_eq_true (by omega)) | (exact decide_eq_false (by omega)) | rfl)⟩
        case' T22 =>
          refine E.Ops.nil ?_
          try simp only [E.tn, E.tx, E.tr, E.bn, E.br, E.bs]
          (repeat refine E.Run.seq ?_)
          (repeat refine E.Run.seq ?_); refine E.Run.condT rfl ?_
          (repeat refine E.Run.seq ?_)
          refine E.Run.region ?_
          first | refine E.Ops.q _ (E.q_fieldAddr' rfl rfl fo_25_2) rfl rfl ?_ | refine E.Ops.q _ (E.q_fieldAddr rfl rfl fo_25_2) rfl rfl ?_
          refine E.Ops.q _ (E.q_load rfl rfl (by first | refine E.LoadAt.own E.ixA sc_3 (by rfl) | exact E.LoadAt.ro sc_3 (by assumption) | exact E.LoadAt.arr E.ixA sc_3 (by assumption))) rfl rfl ?_
          refine E.Ops.q _ (E.q_mv rfl rfl) rfl rfl ?_
          refine E.Ops.nil ?_
          try simp only [E.tn, E.tx, E.tr, E.bn, E.br, E.bs]
          (repeat refine E.Run.seq ?_)
          refine E.Run.region ?_
          refine E.Ops.q _ (E.q_move rfl rfl) rfl rfl ?_
          refine E.Ops.part (E.q_eql rfl rfl rfl) rfl rfl (fun h10_1 => ?T28) (fun h10_1 => ?F28)
          case' F28 =>
            refine E.Ops.nil ?_
            try simp only [E.tn, E.tx, E.tr, E.bn, E.br, E.bs]
            (repeat refine E.Run.seq ?_)
            (repeat refine E.Run.seq ?_); refine E.Run.condF rfl ?_
            refine E.Run.skip ?_
            try simp only [E.tn, E.tx, E.tr, E.bn, E.br, E.bs]
            (repeat refine E.Run.seq ?_)
            refine E.Run.region ?_
            refine E.Ops.q _ (E.q_move rfl rfl) rfl rfl ?_
            refine E.Ops.part (E.q_geq rfl rfl rfl) rfl rfl (fun h12_1 => ?T29) (fun h12_1 => ?F29)
            case' F29 =>
              refine E.Ops.q _ (E.q_move rfl rfl) rfl rfl ?_
              refine E.Ops.skip rfl rfl ?_
              refine E.Ops.skip rfl rfl ?_
              refine E.Ops.skip rfl rfl ?_
              refine E.Ops.q _ (E.q_pickF rfl rfl rfl) rfl rfl ?_
              refine E.Ops.q _ (E.q_mv rfl rfl) rfl rfl ?_
              refine E.Ops.nil ?_
              try simp only [E.tn, E.tx, E.tr, E.bn, E.br, E.bs]
              refine E.Run.ret ?_
              try simp only [E.tn, E.tx, E.tr, E.bn, E.br, E.bs]
              exact ⟨_, _, _, E.ResOk.one rfl rfl, E.Ent.of E.entA, E.kEq hK (by congr 1; unfold fitB; (repeat' split) <;> first | (exfalso; omega) | (exact decide_eq_true (by omega)) | (exact decide_eq_false (by omega)) | rfl)⟩
            case' T29 =>
              refine E.Ops.q _ (E.q_move rfl rfl) rfl rfl ?_
              refine E.Ops.q _ (E.q_move rfl rfl) rfl rfl ?_
              refine E.Ops.q _ (E.q_move rfl rfl) rfl rfl ?_
              refine E.Ops.part (E.q_lss rfl rfl rfl) rfl rfl (fun h12_5 => ?T30) (fun h12_5 => ?F30)
              case' F30 =>
                refine E.Ops.q _ (E.q_pickT rfl rfl rfl) rfl rfl ?_
                refine E.Ops.q _ (E.q_mv rfl rfl) rfl rfl ?_
                refine E.Ops.nil ?_
                try simp only [E.tn, E.tx, E.tr, E.bn, E.br, E.bs]
                refine E.Run.ret ?_
                try simp only [E.tn, E.tx, E.tr, E.bn, E.br, E.bs]
                exact ⟨_, _, _, E.ResOk.one rfl rfl, E.Ent.of E.entA, E.kEq hK (by congr 1; unfold fitB; (repeat' split) <;> first | (exfalso; omega) | (exact decide_eq_true (by omega)) | (exact decide_eq_false (by omega)) | rfl)⟩
              case' T30 =>
                refine E.Ops.q _ (E.q_pickT rfl rfl rfl) rfl rfl ?_
                refine E.Ops.q _ (E.q_mv rfl rfl) rfl rfl ?_
                refine E.Ops.nil ?_
                try simp only [E.tn, E.tx, E.tr, E.bn, E.br, E.bs]
                refine E.Run.ret ?_
                try simp only [E.tn, E.tx, E.tr, E.bn, E.br, E.bs]
                exact ⟨_, _, _, E.ResOk.one rfl rfl, E.Ent.of E.entA, E.kEq hK (by congr 1; unfold fitB; (repeat' split) <;> first | (exfalso; omega) | (exact decide_eq_true (by omega)) | (exact decide_eq_false (by omega)) | rfl)⟩
          case' T28 =>
            refine E.Ops.nil ?_
            try simp only [E.tn, E.tx, E.tr, E.bn, E.br, E.bs]
            (repeat refine E.Run.seq ?_)
            (repeat refine E.Run.seq ?_); refine E.Run.condT rfl ?_
            (repeat refine E.Run.seq ?_)
            refine E.Run.region ?_
            refine E.Ops.q _ (E.q_move rfl rfl) rfl rfl ?_
            first | refine E.Ops.q _ (E.q_incr rfl rfl (by omega)) rfl rfl ?_ | refine E.Ops.q _ (E.q_addFit rfl rfl rfl (by omega)) rfl rfl ?_ | refine E.Ops.q _ (E.q_add rfl rfl rfl) rfl rfl ?_
            refine E.Ops.q _ (E.q_mv rfl rfl) rfl rfl ?_
            refine E.Ops.nil ?_
            try simp only [E.tn, E.tx, E.tr, E.bn, E.br, E.bs]
            (repeat refine E.Run.seq ?_)
            refine E.Run.region ?_
            refine E.Ops.q _ (E.q_move rfl rfl) rfl rfl ?_
            refine E.Ops.part (E.q_geq rfl rfl rfl) rfl rfl (fun h12_1 => ?T31) (fun h12_1 => ?F31)
            case' F31 =>
              refine E.Ops.q _ (E.q_move rfl rfl) rfl rfl ?_
              refine E.Ops.skip rfl rfl ?_
              refine E.Ops.skip rfl rfl ?_
              refine E.Ops.skip rfl rfl ?_
              refine E.Ops.q _ (E.q_pickF rfl rfl rfl) rfl rfl ?_
              refine E.Ops.q _ (E.q_mv rfl rfl) rfl rfl ?_
              refine E.Ops.nil ?_
              try simp only [E.tn, E.tx, E.tr, E.bn, E.br, E.bs]
              refine E.Run.ret ?_
              try simp only [E.tn, E.tx, E.tr, E.bn, E.br, E.bs]
              exact ⟨_, _, _, E.ResOk.one rfl rfl, E.Ent.of E.entA, E.kEq hK (by congr 1; unfold fitB; (repeat' split) <;> first | (exfalso; omega) | (exact decide_eq_true (by omega)) | (exact decide_eq_false (by omega)) | rfl)⟩
            case' T31 =>
              refine E.Ops.q _ (E.q_move rfl rfl) rfl rfl ?_
              refine E.Ops.q _ (E.q_move rfl rfl) rfl rfl ?_
              refine E.Ops.q _ (E.q_move rfl rfl) rfl rfl ?_
              refine E.Ops.part (E.q_lss rfl rfl rfl) rfl rfl (fun h12_5 => ?T32) (fun h12_5 => ?F32)
              case' F32 =>
                refine E.Ops.q _ (E.q_pickT rfl rfl rfl) rfl rfl ?_
                refine E.Ops.q _ (E.q_mv rfl rfl) rfl rfl ?_
                refine E.Ops.nil ?_
                try simp only [E.tn, E.tx, E.tr, E.bn, E.br, E.bs]
                refine E.Run.ret ?_
                try simp only [E.tn, E.tx, E.tr, E.bn, E.br, E.bs]
                exact ⟨_, _, _, E.ResOk.one rfl rfl, E.Ent.of E.entA, E.kEq hK (by congr 1; unfold fitB; (repeat' split) <;> first | (exfalso; omega) | (exact decide_eq_true (by omega)) | (exact decide_eq_false (by omega)) | rfl)⟩
              case' T32 =>
                refine E.Ops.q _ (E.q_pickT rfl rfl rfl) rfl rfl ?_
                refine E.Ops.q _ (E.q_mv rfl rfl) rfl rfl ?_
                refine E.Ops.nil ?_
                try simp only [E.tn, E.tx, E.tr, E.bn, E.br, E.bs]
                refine E.Run.ret ?_
                try simp only [E.tn, E.tx, E.tr, E.bn, E.br, E.bs]
                exact ⟨_, _, _, E.ResOk.one rfl rfl, E.Ent.of E.entA, E.kEq hK (by congr 1; unfold fitB; (repeat' split) <;> first | (exfalso; omega) | (exact decide_eq_true (by omega)) | (exact decide_eq_false (by omega)) | rfl)⟩
      case' T21 =>
        refine E.Ops.nil ?_
        try simp only [E.tn, E.tx, E.tr, E.bn, E.br, E.bs]
        (repeat refine E.Run.seq ?_)
        (repeat refine E.Run.seq ?_); refine E.Run.condT rfl ?_
        (repeat refine E.Run.seq ?_)
        refine E.Run.region ?_
        first | refine E.Ops.q _ (E.q_fieldAddr' rfl rfl fo_25_1) rfl rfl ?_ | refine E.Ops.q _ (E.q_fieldAddr rfl rfl fo_25_1) rfl rfl ?_
        refine E.Ops.q _ (E.q_load rfl rfl (by first | refine E.LoadAt.own E.ixA sc_23 (by rfl) | exact E.LoadAt.ro sc_23 (by assumption) | exact E.LoadAt.arr E.ixA sc_23 (by assumption))) rfl rfl ?_
        refine E.Ops.q _ (E.q_lenSlice rfl Try.underlying23) rfl rfl ?_
        refine E.Ops.q _ (E.q_mv rfl rfl) rfl rfl ?_
        refine E.Ops.nil ?_
        try simp only [E.tn, E.tx, E.tr, E.bn, E.br, E.bs]
        (repeat refine E.Run.seq ?_)
        refine E.Run.region ?_
        refine E.Ops.q _ (E.q_move rfl rfl) rfl rfl ?_
        refine E.Ops.part (E.q_eql rfl rfl rfl) rfl rfl (fun h8_1 => ?T33) (fun h8_1 => ?F33)
        case' F33 =>
          refine E.Ops.nil ?_
          try simp only [E.tn, E.tx, E.tr, E.bn, E.br, E.bs]
          (repeat refine E.Run.seq ?_)
          (repeat refine E.Run.seq ?_); refine E.Run.condF rfl ?_
          refine E.Run.skip ?_
          try simp only [E.tn, E.tx, E.tr, E.bn, E.br, E.bs]
          (repeat refine E.Run.seq ?_)
          refine E.Run.region ?_
          refine E.Ops.q _ (E.q_move rfl rfl) rfl rfl ?_
          refine E.Ops.part (E.q_eql rfl rfl rfl) rfl rfl (fun h10_1 => ?T34) (fun h10_1 => ?F34)
          case' F34 =>
            refine E.Ops.nil ?_
            try simp only [E.tn, E.tx, E.tr, E.bn, E.br, E.bs]
            (repeat refine E.Run.seq ?_)
            (repeat refine E.Run.seq ?_); refine E.Run.condF rfl ?_
            refine E.Run.skip ?_
            try simp only [E.tn, E.tx, E.tr, E.bn, E.br, E.bs]
            (repeat refine E.Run.seq ?_)
            refine E.Run.region ?_
            refine E.Ops.q _ (E.q_move rfl rfl) rfl rfl ?_
            refine E.Ops.part (E.q_geq rfl rfl rfl) rfl rfl (fun h12_1 => ?T35) (fun h12_1 => ?F35)
            case' F35 =>
              refine E.Ops.q _ (E.q_move rfl rfl) rfl rfl ?_
              refine E.Ops.skip rfl rfl ?_
              refine E.Ops.skip rfl rfl ?_
              refine E.Ops.skip rfl rfl ?_
              refine E.Ops.q _ (E.q_pickF rfl rfl rfl) rfl rfl ?_
              refine E.Ops.q _ (E.q_mv rfl rfl) rfl rfl ?_
              refine E.Ops.nil ?_
              try simp only [E.tn, E.tx, E.tr, E.bn, E.br, E.bs]
              refine E.Run.ret ?_
              try simp only [E.tn, E.tx, E.tr, E.bn, E.br, E.bs]
              exact ⟨_, _, _, E.ResOk.one rfl rfl, E.Ent.of E.entA, E.kEq hK (by congr 1; unfold fitB; (repeat' split) <;> first | (exfalso; omega) | (exact decide_eq_true (by omega)) | (exact decide_eq_false (by omega)) | rfl)⟩
            case' T35 =>
              refine E.Ops.q _ (E.q_move rfl rfl) rfl rfl ?_
              refine E.Ops.q _ (E.q_move rfl rfl) rfl rfl ?_
              refine E.Ops.q _ (E.q_move rfl rfl) rfl rfl ?_
              refine E.Ops.part (E.q_lss rfl rfl rfl) rfl rfl (fun h12_5 => ?T36) (fun h12_5 => ?F36)
              case' F36 =>
                refine E.Ops.q _ (E.q_pickT rfl rfl rfl) rfl rfl ?_
                refine E.Ops.q _ (E.q_mv rfl rfl) rfl rfl ?_
                refine E.Ops.nil ?_
                try simp only [E.tn, E.tx, E.tr, E.bn, E.br, E.bs]
                refine E.Run.ret ?_
                try simp only [E.tn, E.tx, E.tr, E.bn, E.br, E.bs]
                exact ⟨_, _, _, E.ResOk.one rfl rfl, E.Ent.of E.entA, E.kEq hK (by congr 1; unfold fitB; (repeat' split) <;> first | (exfalso; omega) | (exact decide_eq_true (by omega)) | (exact decide_eq_false (by omega)) | rfl)⟩
              case' T36 =>
                refine E.Ops.q _ (E.q_pickT rfl rfl rfl) rfl rfl ?_
                refine E.Ops.q _ (E.q_mv rfl rfl) rfl rfl ?_
                refine E.Ops.nil ?_
                try simp only [E.tn, E.tx, E.tr, E.bn, E.br, E.bs]
                refine E.Run.ret ?_
                try simp only [E.tn, E.tx, E.tr, E.bn, E.br, E.bs]
                exact ⟨_, _, _, E.ResOk.one rfl rfl, E.Ent.of E.entA, E.kEq hK (by congr 1; unfold fitB; (repeat' split) <;> first | (exfalso; omega) | (exact decide_eq_true (by omega)) | (exact decide_eq_false (by omega)) | rfl)⟩
          case' T34 =>
            refine E.Ops.nil ?_
            try simp only [E.tn, E.tx, E.tr, E.bn, E.br, E.bs]
            (repeat refine E.Run.seq ?_)
            (repeat refine E.Run.seq ?_); refine E.Run.condT rfl ?_
            (repeat refine E.Run.seq ?_)
            refine E.Run.region ?_
            refine E.Ops.q _ (E.q_move rfl rfl) rfl rfl ?_
            first | refine E.Ops.q _ (E.q_incr rfl rfl (by omega)) rfl rfl ?_ | refine E.Ops.q _ (E.q_addFit rfl rfl rfl (by omega)) rfl rfl ?_ | refine E.Ops.q _ (E.q_add rfl rfl rfl) rfl rfl ?_
            refine E.Ops.q _ (E.q_mv rfl rfl) rfl rfl ?_
            refine E.Ops.nil ?_
            try simp only [E.tn, E.tx, E.tr, E.bn, E.br, E.bs]
            (repeat refine E.Run.seq ?_)
            refine E.Run.region ?_
            refine E.Ops.q _ (E.q_move rfl rfl) rfl rfl ?_
            refine E.Ops.part (E.q_geq rfl rfl rfl) rfl rfl (fun h12_1 => ?T37) (fun h12_1 => ?F37)
            case' F37 =>
              refine E.Ops.q _ (E.q_move rfl rfl) rfl rfl ?_
              refine E.Ops.skip rfl rfl ?_
              refine E.Ops.skip rfl rfl ?_
              refine E.Ops.skip rfl rfl ?_
              refine E.Ops.q _ (E.q_pickF rfl rfl rfl) rfl rfl ?_
              refine E.Ops.q _ (E.q_mv rfl rfl) rfl rfl ?_
              refine E.Ops.nil ?_
              try simp only [E.tn, E.tx, E.tr, E.bn, E.br, E.bs]
              refine E.Run.ret ?_
              try simp only [E.tn, E.tx, E.tr, E.bn, E.br, E.bs]
              exact ⟨_, _, _, E.ResOk.one rfl rfl, E.Ent.of E.entA, E.kEq hK (by congr 1; unfold fitB; (repeat' split) <;> first | (exfalso; omega) | (exact decide_eq_true (by omega)) | (exact decide_eq_false (by omega)) | rfl)⟩
            case' T37 =>
              refine E.Ops.q _ (E.q_move rfl rfl) rfl rfl ?_
              refine E.Ops.q _ (E.q_move rfl rfl) rfl rfl ?_
              refine E.Ops.q _ (E.q_move rfl rfl) rfl rfl ?_
              refine E.Ops.part (E.q_lss rfl rfl rfl) rfl rfl (fun h12_5 => ?T38) (fun h12_5 => ?F38)
              case' F38 =>
                refine E.Ops.q _ (E.q_pickT rfl rfl rfl) rfl rfl ?_
                refine E.Ops.q _ (E.q_mv rfl rfl) rfl rfl ?_
                refine E.Ops.nil ?_
                try simp only [E.tn, E.tx, E.tr, E.bn, E.br, E.bs]
                refine E.Run.ret ?_
                try simp only [E.tn, E.tx, E.tr, E.bn, E.br, E.bs]
                exact ⟨_, _, _, E.ResOk.one rfl rfl, E.Ent.of E.entA, E.kEq hK (by congr 1; unfold fitB; (repeat' split) <;> first | (exfalso; omega) | (exact decide_eq_true (by omega)) | (exact decide_eq_false (by omega)) | rfl)⟩
              case' T38 =>
                refine E.Ops.q _ (E.q_pickT rfl rfl rfl) rfl rfl ?_
                refine E.Ops.q _ (E.q_mv rfl rfl) rfl rfl ?_
                refine E.Ops.nil ?_
                try simp only [E.tn, E.tx, E.tr, E.bn, E.br, E.bs]
                refine E.Run.ret ?_
                try simp only [E.tn, E.tx, E.tr, E.bn, E.br, E.bs]
                exact ⟨_, _, _, E.ResOk.one rfl rfl, E.Ent.of E.entA, E.kEq hK (by congr 1; unfold fitB; (repeat' split) <;> first | (exfalso; omega) | (exact decide_eq_true (by omega)) | (exact decide_eq_false (by omega)) | rfl)⟩
        case' T33 =>
          refine E.Ops.nil ?_
          try simp only [E.tn, E.tx, E.tr, E.bn, E.br, E.bs]
          (repeat refine E.Run.seq ?_)
          (repeat refine E.Run.seq ?_); refine E.Run.condT rfl ?_
          (repeat refine E.Run.seq ?_)
          refine E.Run.region ?_
          first | refine E.Ops.q _ (E.q_fieldAddr' rfl rfl fo_25_2) rfl rfl ?_ | refine E.Ops.q _ (E.q_fieldAddr rfl rfl fo_25_2) rfl rfl ?_
          refine E.Ops.q _ (E.q_load rfl rfl (by first | refine E.LoadAt.own E.ixA sc_3 (by rfl) | exact E.LoadAt.ro sc_3 (by assumption) | exact E.LoadAt.arr E.ixA sc_3 (by assumption))) rfl rfl ?_
          refine E.Ops.q _ (E.q_mv rfl rfl) rfl rfl ?_
          refine E.Ops.nil ?_
          try simp only [E.tn, E.tx, E.tr, E.bn, E.br, E.bs]
          (repeat refine E.Run.seq ?_)
          refine E.Run.region ?_
          refine E.Ops.q _ (E.q_move rfl rfl) rfl rfl ?_
          refine E.Ops.part (E.q_eql rfl rfl rfl) rfl rfl (fun h10_1 => ?T39) (fun h10_1 => ?F39)
          case' F39 =>
            refine E.Ops.nil ?_
            try simp only [E.tn, E.tx, E.tr, E.bn, E.br, E.bs]
            (repeat refine E.Run.seq ?_)
            (repeat refine E.Run.seq ?_); refine E.Run.condF rfl ?_
            refine E.Run.skip ?_
            try simp only [E.tn, E.tx, E.tr, E.bn, E.br, E.bs]
            (repeat refine E.Run.seq ?_)
            refine E.Run.region ?_
            refine E.Ops.q _ (E.q_move rfl rfl) rfl rfl ?_
            refine E.Ops.part (E.q_geq rfl rfl rfl) rfl rfl (fun h12_1 => ?T40) (fun h12_1 => ?F40)
            case' F40 =>
              refine E.Ops.q _ (E.q_move rfl rfl) rfl rfl ?_
              refine E.Ops.skip rfl rfl ?_
              refine E.Ops.skip rfl rfl ?_
              refine E.Ops.skip rfl rfl ?_
              refine E.Ops.q _ (E.q_pickF rfl rfl rfl) rfl rfl ?_
              refine E.Ops.q _ (E.q_mv rfl rfl) rfl rfl ?_
              refine E.Ops.nil ?_
              try simp only [E.tn, E.tx, E.tr, E.bn, E.br, E.bs]
              refine E.Run.ret ?_
              try simp only [E.tn, E.tx, E.tr, E.bn, E.br, E.bs]
              exact ⟨_, _, _, E.ResOk.one rfl rfl, E.Ent.of E.entA, E.kEq hK (by congr 1; unfold fitB; (repeat' split) <;> first | (exfalso; omega) | (exact decide_eq_true (by omega)) | (exact decide_eq_false (by omega)) | rfl)⟩
            case' T40 =>
              refine E.Ops.q _ (E.q_move rfl rfl) rfl rfl ?_
              refine E.Ops.q _ (E.q_move rfl rfl) rfl rfl ?_
              refine E.Ops.q _ (E.q_move rfl rfl) rfl rfl ?_
              refine E.Ops.part (E.q_lss rfl rfl rfl) rfl rfl (fun h12_5 => ?T41) (fun h12_5 => ?F41)
              case' F41 =>
                refine E.Ops.q _ (E.q_pickT rfl rfl rfl) rfl rfl ?_
                refine E.Ops.q _ (E.q_mv rfl rfl) rfl rfl ?_
                refine E.Ops.nil ?_
                try simp only [E.tn, E.tx, E.tr, E.bn, E.br, E.bs]
                refine E.Run.ret ?_
                try simp only [E.tn, E.tx, E.tr, E.bn, E.br, E.bs]
                exact ⟨_, _, _, E.ResOk.one rfl rfl, E.Ent.of E.entA, E.kEq hK (by congr 1; unfold fitB; (repeat' split) <;> first | (exfalso; omega) | (exact decide_eq_true (by omega)) | (exact decide_eq_false (by omega)) | rfl)⟩
              case' T41 =>
                refine E.Ops.q _ (E.q_pickT rfl rfl rfl) rfl rfl ?_
                refine E.Ops.q _ (E.q_mv rfl rfl) rfl rfl ?_
                refine E.Ops.nil ?_
                try simp only [E.tn, E.tx, E.tr, E.bn, E.br, E.bs]
                refine E.Run.ret ?_
                try simp only [E.tn, E.tx, E.tr, E.bn, E.br, E.bs]
                exact ⟨_, _, _, E.ResOk.one rfl rfl, E.Ent.of E.entA, E.kEq hK (by congr 1; unfold fitB; (repeat' split) <;> first | (exfalso; omega) | (exact decide_eq_true (by omega)) | (exact decide_eq_false (by omega)) | rfl)⟩
          case' T39 =>
            refine E.Ops.nil ?_
            try simp only [E.tn, E.tx, E.tr, E.bn, E.br, E.bs]
            (repeat refine E.Run.seq ?_)
            (repeat refine E.Run.seq ?_); refine E.Run.condT rfl ?_
            (repeat refine E.Run.seq ?_)
            refine E.Run.region ?_
            refine E.Ops.q _ (E.q_move rfl rfl) rfl rfl ?_
            first | refine E.Ops.q _ (E.q_incr rfl rfl (by omega)) rfl rfl ?_ | refine E.Ops.q _ (E.q_addFit rfl rfl rfl (by omega)) rfl rfl ?_ | refine E.Ops.q _ (E.q_add rfl rfl rfl) rfl rfl ?_
            refine E.Ops.q _ (E.q_mv rfl rfl) rfl rfl ?_
            refine E.Ops.nil ?_
            try simp only [E.tn, E.tx, E.tr, E.bn, E.br, E.bs]
            (repeat refine E.Run.seq ?_)
            refine E.Run.region ?_
            refine E.Ops.q _ (E.q_move rfl rfl) rfl rfl ?_
            refine E.Ops.part (E.q_geq rfl rfl rfl) rfl rfl (fun h12_1 => ?T42) (fun h12_1 => ?F42)
            case' F42 =>
              refine E.Ops.q _ (E.q_move rfl rfl) rfl rfl ?_
              refine E.Ops.skip rfl rfl ?_
              refine E.Ops.skip rfl rfl ?_
              refine E.Ops.skip rfl rfl ?_
              refine E.Ops.q _ (E.q_pickF rfl rfl rfl) rfl rfl ?_
              refine E.Ops.q _ (E.q_mv rfl rfl) rfl rfl ?_
              refine E.Ops.nil ?_
              try simp only [E.tn, E.tx, E.tr, E.bn, E.br, E.bs]
              refine E.Run.ret ?_
              try simp only [E.tn, E.tx, E.tr, E.bn, E.br, E.bs]
              exact ⟨_, _, _, E.ResOk.one rfl rfl, E.Ent.of E.entA, E.kEq hK (by congr 1; unfold fitB; (repeat' split) <;> first | (exfalso; omega) | (exact decide_eq_true (by omega)) | (exact decide_eq_false (by omega)) | rfl)⟩
            case' T42 =>
              refine E.Ops.q _ (E.q_move rfl rfl) rfl rfl ?_
              refine E.Ops.q _ (E.q_move rfl rfl) rfl rfl ?_
              refine E.Ops.q _ (E.q_move rfl rfl) rfl rfl ?_
              refine E.Ops.part (E.q_lss rfl rfl rfl) rfl rfl (fun h12_5 => ?T43) (fun h12_5 => ?F43)
              case' F43 =>
                refine E.Ops.q _ (E.q_pickT rfl rfl rfl) rfl rfl ?_
                refine E.Ops.q _ (E.q_mv rfl rfl) rfl rfl ?_
                refine E.Ops.nil ?_
                try simp only [E.tn, E.tx, E.tr, E.bn, E.br, E.bs]
                refine E.Run.ret ?_
                try simp only [E.tn, E.tx, E.tr, E.bn, E.br, E.bs]
                exact ⟨_, _, _, E.ResOk.one rfl rfl, E.Ent.of E.entA, E.kEq hK (by congr 1; unfold fitB; (repeat' split) <;> first | (exfalso; omega) | (exact decide_eq_true (by omega)) | (exact decide_eq_false (by omega)) | rfl)⟩
              case' T43 =>
                refine E.Ops.q _ (E.q_pickT rfl rfl rfl) rfl rfl ?_
                refine E.Ops.q _ (E.q_mv rfl rfl) rfl rfl ?_
                refine E.Ops.nil ?_
                try simp only [E.tn, E.tx, E.tr, E.bn, E.br, E.bs]
                refine E.Run.ret ?_
                try simp only [E.tn, E.tx, E.tr, E.bn, E.br, E.bs]
                exact ⟨_, _, _, E.ResOk.one rfl rfl, E.Ent.of E.entA, E.kEq hK (by congr 1; unfold fitB; (repeat' split) <;> first | (exfalso; omega) | (exact decide_eq_true (by omega)) | (exact decide_eq_false (by omega)) | rfl)⟩
    case' T20 =>
      refine E.Ops.nil ?_
      try simp only [E.tn, E.tx, E.tr, E.bn, E.br, E.bs]
      (repeat refine E.Run.seq ?_)
      (repeat refine E.Run.seq ?_); refine E.Run.condT rfl ?_
      (repeat refine E.Run.seq ?_)
      refine E.Run.region ?_
      first | refine E.Ops.q _ (E.q_fieldAddr' rfl rfl fo_25_3) rfl rfl ?_ | refine E.Ops.q _ (E.q_fieldAddr rfl rfl fo_25_3) rfl rfl ?_
      refine E.Ops.q _ (E.q_load rfl rfl (by first | refine E.LoadAt.own E.ixA sc_3 (by rfl) | exact E.LoadAt.ro sc_3 (by assumption) | exact E.LoadAt.arr E.ixA sc_3 (by assumption))) rfl rfl ?_
      refine E.Ops.q _ (E.q_mv rfl rfl) rfl rfl ?_
      refine E.Ops.nil ?_
      try simp only [E.tn, E.tx, E.tr, E.bn, E.br, E.bs]
      (repeat refine E.Run.seq ?_)
      refine E.Run.region ?_
      refine E.Ops.q _ (E.q_move rfl rfl) rfl rfl ?_
      refine E.Ops.part (E.q_eql rfl rfl rfl) rfl rfl (fun h6_1 => ?T44) (fun h6_1 => ?F44)
      case' F44 =>
        refine E.Ops.nil ?_
        try simp only [E.tn, E.tx, E.tr, E.bn, E.br, E.bs]
        (repeat refine E.Run.seq ?_)
        (repeat refine E.Run.seq ?_); refine E.Run.condF rfl ?_
        refine E.Run.skip ?_
        try simp only [E.tn, E.tx, E.tr, E.bn, E.br, E.bs]
        (repeat refine E.Run.seq ?_)
        refine E.Run.region ?_
        refine E.Ops.q _ (E.q_move rfl rfl) rfl rfl ?_
        refine E.Ops.part (E.q_eql rfl rfl rfl) rfl rfl (fun h8_1 => ?T45) (fun h8_1 => ?F45)
        case' F45 =>
          refine E.Ops.nil ?_
          try simp only [E.tn, E.tx, E.tr, E.bn, E.br, E.bs]
          (repeat refine E.Run.seq ?_)
          (repeat refine E.Run.seq ?_); refine E.Run.condF rfl ?_
          refine E.Run.skip ?_
          try simp only [E.tn, E.tx, E.tr, E.bn, E.br, E.bs]
          (repeat refine E.Run.seq ?_)
          refine E.Run.region ?_
          refine E.Ops.q _ (E.q_move rfl rfl) rfl rfl ?_
          refine E.Ops.part (E.q_eql rfl rfl rfl) rfl rfl (fun h10_1 => ?T46) (fun h10_1 => ?F46)
          case' F46 =>
            refine E.Ops.nil ?_
            try simp only [E.tn, E.tx, E.tr, E.bn, E.br, E.bs]
            (repeat refine E.Run.seq ?_)
            (repeat refine E.Run.seq ?_); refine E.Run.condF rfl ?_
            refine E.Run.skip ?_
            try simp only [E.tn, E.tx, E.tr, E.bn, E.br, E.bs]
            (repeat refine E.Run.seq ?_)
            refine E.Run.region ?_
            refine E.Ops.q _ (E.q_move rfl rfl) rfl rfl ?_
            refine E.Ops.part (E.q_geq rfl rfl rfl) rfl rfl (fun h12_1 => ?T47) (fun h12_1 => ?F47)
            case' F47 =>
              refine E.Ops.q _ (E.q_move rfl rfl) rfl rfl ?_
              refine E.Ops.skip rfl rfl ?_
              refine E.Ops.skip rfl rfl ?_
              refine E.Ops.skip rfl rfl ?_
              refine E.Ops.q _ (E.q_pickF rfl rfl rfl) rfl rfl ?_
              refine E.Ops.q _ (E.q_mv rfl rfl) rfl rfl ?_
              refine E.Ops.nil ?_
              try simp only [E.tn, E.tx, E.tr, E.bn, E.br, E.bs]
              refine E.Run.ret ?_
              try simp only [E.tn, E.tx, E.tr, E.bn, E.br, E.bs]
              exact ⟨_, _, _, E.ResOk.one rfl rfl, E.Ent.of E.entA, E.kEq hK (by congr 1; unfold fitB; (repeat' split) <;> first | (exfalso; omega) | (exact decide_eq_true (by omega)) | (exact decide_eq_false (by omega)) | rfl)⟩
            case' T47 =>
              refine E.Ops.q _ (E.q_move rfl rfl) rfl rfl ?_
              refine E.Ops.q _ (E.q_move rfl rfl) rfl rfl ?_
              refine E.Ops.q _ (E.q_move rfl rfl) rfl rfl ?_
              refine E.Ops.part (E.q_lss rfl rfl rfl) rfl rfl (fun h12_5 => ?T48) (fun h12_5 => ?F48)
              case' F48 =>
                refine E.Ops.q _ (E.q_pickT rfl rfl rfl) rfl rfl ?_
                refine E.Ops.q _ (E.q_mv rfl rfl) rfl rfl ?_
                refine E.Ops.nil ?_
                try simp only [E.tn, E.tx, E.tr, E.bn, E.br, E.bs]
                refine E.Run.ret ?_
                try simp only [E.tn, E.tx, E.tr, E.bn, E.br, E.bs]
                exact ⟨_, _, _, E.ResOk.one rfl rfl, E.Ent.of E.entA, E.kEq hK (by congr 1; unfold fitB; (repeat' split) <;> first | (exfalso; omega) | (exact decide_eq_true (by omega)) | (exact decide_eq_false (by omega)) | rfl)⟩
              case' T48 =>
                refine E.Ops.q _ (E.q_pickT rfl rfl rfl) rfl rfl ?_
                refine E.Ops.q _ (E.q_mv rfl rfl) rfl rfl ?_
                refine E.Ops.nil ?_
                try simp only [E.tn, E.tx, E.tr, E.bn, E.br, E.bs]
                refine E.Run.ret ?_
                try simp only [E.tn, E.tx, E.tr, E.bn, E.br, E.bs]
                exact ⟨_, _, _, E.ResOk.one rfl rfl, E.Ent.of E.entA, E.kEq hK (by congr 1; unfold fitB; (repeat' split) <;> first | (exfalso; omega) | (exact decide_eq_true (by omega)) | (exact decide_eq_false (by omega)) | rfl)⟩
          case' T46 =>
            refine E.Ops.nil ?_
            try simp only [E.tn, E.tx, E.tr, E.bn, E.br, E.bs]
            (repeat refine E.Run.seq ?_)
            (repeat refine E.Run.seq ?_); refine E.Run.condT rfl ?_
            (repeat refine E.Run.seq ?_)
            refine E.Run.region ?_
            refine E.Ops.q _ (E.q_move rfl rfl) rfl rfl ?_
            first | refine E.Ops.q _ (E.q_incr rfl rfl (by omega)) rfl rfl ?_ | refine E.Ops.q _ (E.q_addFit rfl rfl rfl (by omega)) rfl rfl ?_ | refine E.Ops.q _ (E.q_add rfl rfl rfl) rfl rfl ?_
            refine E.Ops.q _ (E.q_mv rfl rfl) rfl rfl ?_
            refine E.Ops.nil ?_
            try simp only [E.tn, E.tx, E.tr, E.bn, E.br, E.bs]
            (repeat refine E.Run.seq ?_)
            refine E.Run.region ?_
            refine E.Ops.q _ (E.q_move rfl rfl) rfl rfl ?_
            refine E.Ops.part (E.q_geq rfl rfl rfl) rfl rfl (fun h12_1 => ?T49) (fun h12_1 => ?F49)
            case' F49 =>
              refine E.Ops.q _ (E.q_move rfl rfl) rfl rfl ?_
              refine E.Ops.skip rfl rfl ?_
              refine E.Ops.skip rfl rfl ?_
              refine E.Ops.skip rfl rfl ?_
              refine E.Ops.q _ (E.q_pickF rfl rfl rfl) rfl rfl ?_
              refine E.Ops.q _ (E.q_mv rfl rfl) rfl rfl ?_
              refine E.Ops.nil ?_
              try simp only [E.tn, E.tx, E.tr, E.bn, E.br, E.bs]
              refine E.Run.ret ?_
              try simp only [E.tn, E.tx, E.tr, E.bn, E.br, E.bs]
              exact ⟨_, _, _, E.ResOk.one rfl rfl, E.Ent.of E.entA, E.kEq hK (by congr 1; unfold fitB; (repeat' split) <;> first | (exfalso; omega) | (exact decide_eq_true (by omega)) | (exact decide_eq_false (by omega)) | rfl)⟩
            case' T49 =>
              refine E.Ops.q _ (E.q_move rfl rfl) rfl rfl ?_
              refine E.Ops.q _ (E.q_move rfl rfl) rfl rfl ?_
              refine E.Ops.q _ (E.q_move rfl rfl) rfl rfl ?_
              refine E.Ops.part (E.q_lss rfl rfl rfl) rfl rfl (fun h12_5 => ?T50) (fun h12_5 => ?F50)
              case' F50 =>
                refine E.Ops.q _ (E.q_pickT rfl rfl rfl) rfl rfl ?_
                refine E.Ops.q _ (E.q_mv rfl rfl) rfl rfl ?_
                refine E.Ops.nil ?_
                try simp only [E.tn, E.tx, E.tr, E.bn, E.br, E.bs]
                refine E.Run.ret ?_
                try simp only [E.tn, E.tx, E.tr, E.bn, E.br, E.bs]
                exact ⟨_, _, _, E.ResOk.one rfl rfl, E.Ent.of E.entA, E.kEq hK (by congr 1; unfold fitB; (repeat' split) <;> first | (exfalso; omega) | (exact decide_eq_true (by omega)) | (exact decide_eq_false (by omega)) | rfl)⟩
              case' T50 =>
                refine E.Ops.q _ (E.q_pickT rfl rfl rfl) rfl rfl ?_
                refine E.Ops.q _ (E.q_mv rfl rfl) rfl rfl ?_
                refine E.Ops.nil ?_
                try simp only [E.tn, E.tx, E.tr, E.bn, E.br, E.bs]
                refine E.Run.ret ?_
                try simp only [E.tn, E.tx, E.tr, E.bn, E.br, E.bs]
                exact ⟨_, _, _, E.ResOk.one rfl rfl, E.Ent.of E.entA, E.kEq hK (by congr 1; unfold fitB; (repeat' split) <;> first | (exfalso; omega) | (exact decide_eq_true (by omega)) | (exact decide_eq_false (by omega)) | rfl)⟩
        case' T45 =>
          refine E.Ops.nil ?_
          try simp only [E.tn, E.tx, E.tr, E.bn, E.br, E.bs]
          (repeat refine E.Run.seq ?_)
          (repeat refine E.Run.seq ?_); refine E.Run.condT rfl ?_
          (repeat refine E.Run.seq ?_)
          refine E.Run.region ?_
          first | refine E.Ops.q _ (E.q_fieldAddr' rfl rfl fo_25_2) rfl rfl ?_ | refine E.Ops.q _ (E.q_fieldAddr rfl rfl fo_25_2) rfl rfl ?_
          refine E.Ops.q _ (E.q_load rfl rfl (by first | refine E.LoadAt.own E.ixA sc_3 (by rfl) | exact E.LoadAt.ro sc_3 (by assumption) | exact E.LoadAt.arr E.ixA sc_3 (by assumption))) rfl rfl ?_
          refine E.Ops.q _ (E.q_mv rfl rfl) rfl rfl ?_
          refine E.Ops.nil ?_
          try simp only [E.tn, E.tx, E.tr, E.bn, E.br, E.bs]
          (repeat refine E.Run.seq ?_)
          refine E.Run.region ?_
          refine E.Ops.q _ (E.q_move rfl rfl) rfl rfl ?_
          refine E.Ops.part (E.q_eql rfl rfl rfl) rfl rfl (fun h10_1 => ?T51) (fun h10_1 => ?F51)
          case' F51 =>
            refine E.Ops.nil ?_
            try simp only [E.tn, E.tx, E.tr, E.bn, E.br, E.bs]
            (repeat refine E.Run.seq ?_)
            (repeat refine E.Run.seq ?_); refine E.Run.condF rfl ?_
            refine E.Run.skip ?_
            try simp only [E.tn, E.tx, E.tr, E.bn, E.br, E.bs]
            (repeat refine E.Run.seq ?_)
            refine E.Run.region ?_
            refine E.Ops.q _ (E.q_move rfl rfl) rfl rfl ?_
            refine E.Ops.part (E.q_geq rfl rfl rfl) rfl rfl (fun h12_1 => ?T52) (fun h12_1 => ?F52)
            case' F52 =>
              refine E.Ops.q _ (E.q_move rfl rfl) rfl rfl ?_
              refine E.Ops.skip rfl rfl ?_
              refine E.Ops.skip rfl rfl ?_
              refine E.Ops.skip rfl rfl ?_
              refine E.Ops.q _ (E.q_pickF rfl rfl rfl) rfl rfl ?_
              refine E.Ops.q _ (E.q_mv rfl rfl) rfl rfl ?_
              refine E.Ops.nil ?_
              try simp only [E.tn, E.tx, E.tr, E.bn, E.br, E.bs]
              refine E.Run.ret ?_
              try simp only [E.tn, E.tx, E.tr, E.bn, E.br, E.bs]
              exact ⟨_, _, _, E.ResOk.one rfl rfl, E.Ent.of E.entA, E.kEq hK (by congr 1; unfold fitB; (repeat' split) <;> first | (exfalso; omega) | (exact decide_eq_true (by omega)) | (exact decide_eq_false (by omega)) | rfl)⟩
            case' T52 =>
              refine E.Ops.q _ (E.q_move rfl rfl) rfl rfl ?_
              refine E.Ops.q _ (E.q_move rfl rfl) rfl rfl ?_
              refine E.Ops.q _ (E.q_move rfl rfl) rfl rfl ?_
              refine E.Ops.part (E.q_lss rfl rfl rfl) rfl rfl (fun h12_5 => ?T53) (fun h12_5 => ?F53)
              case' F53 =>
                refine E.Ops.q _ (E.q_pickT rfl rfl rfl) rfl rfl ?_
                refine E.Ops.q _ (E.q_mv rfl rfl) rfl rfl ?_
                refine E.Ops.nil ?_
                try simp only [E.tn, E.tx, E.tr, E.bn, E.br, E.bs]
                refine E.Run.ret ?_
                try simp only [E.tn, E.tx, E.tr, E.bn, E.br, E.bs]
                exact ⟨_, _, _, E.ResOk.one rfl rfl, E.Ent.of E.entA, E.kEq hK (by congr 1; unfold fitB; (repeat' split) <;> first | (exfalso; omega) | (exact decide_eq_true (by omega)) | (exact decide_eq_false (by omega)) | rfl)⟩
              case' T53 =>
                refine E.Ops.q _ (E.q_pickT rfl rfl rfl) rfl rfl ?_
                refine E.Ops.q _ (E.q_mv rfl rfl) rfl rfl ?_
                refine E.Ops.nil ?_
                try simp only [E.tn, E.tx, E.tr, E.bn, E.br, E.bs]
                refine E.Run.ret ?_
                try simp only [E.tn, E.tx, E.tr, E.bn, E.br, E.bs]
                exact ⟨_, _, _, E.ResOk.one rfl rfl, E.Ent.of E.entA, E.kEq hK (by congr 1; unfold fitB; (repeat' split) <;> first | (exfalso; omega) | (exact decide_eq_true (by omega)) | (exact decide_eq_false (by omega)) | rfl)⟩
          case' T51 =>
            refine E.Ops.nil ?_
            try simp only [E.tn, E.tx, E.tr, E.bn, E.br, E.bs]
            (repeat refine E.Run.seq ?_)
            (repeat refine E.Run.seq ?_); refine E.Run.condT rfl ?_
            (repeat refine E.Run.seq ?_)
            refine E.Run.region ?_
            refine E.Ops.q _ (E.q_move rfl rfl) rfl rfl ?_
            first | refine E.Ops.q _ (E.q_incr rfl rfl (by omega)) rfl rfl ?_ | refine E.Ops.q _ (E.q_addFit rfl rfl rfl (by omega)) rfl rfl ?_ | refine E.Ops.q _ (E.q_add rfl rfl rfl) rfl rfl ?_
            refine E.Ops.q _ (E.q_mv rfl rfl) rfl rfl ?_
            refine E.Ops.nil ?_
            try simp only [E.tn, E.tx, E.tr, E.bn, E.br, E.bs]
            (repeat refine E.Run.seq ?_)
            refine E.Run.region ?_
            refine E.Ops.q _ (E.q_move rfl rfl) rfl rfl ?_
            refine E.Ops.part (E.q_geq rfl rfl rfl) rfl rfl (fun h12_1 => ?T54) (fun h12_1 => ?F54)
            case' F54 =>
              refine E.Ops.q _ (E.q_move rfl rfl) rfl rfl ?_
              refine E.Ops.skip rfl rfl ?_
              refine E.Ops.skip rfl rfl ?_
              refine E.Ops.skip rfl rfl ?_
              refine E.Ops.q _ (E.q_pickF rfl rfl rfl) rfl rfl ?_
              refine E.Ops.q _ (E.q_mv rfl rfl) rfl rfl ?_
              refine E.Ops.nil ?_
              try simp only [E.tn, E.tx, E.tr, E.bn, E.br, E.bs]
              refine E.Run.ret ?_
              try simp only [E.tn, E.tx, E.tr, E.bn, E.br, E.bs]
              exact ⟨_, _, _, E.ResOk.one rfl rfl, E.Ent.of E.entA, E.kEq hK (by congr 1; unfold fitB; (repeat' split) <;> first | (exfalso; omega) | (exact decide_eq_true (by omega)) | (exact decide_eq_false (by omega)) | rfl)⟩
            case' T54 =>
              refine E.Ops.q _ (E.q_move rfl rfl) rfl rfl ?_
              refine E.Ops.q _ (E.q_move rfl rfl) rfl rfl ?_
              refine E.Ops.q _ (E.q_move rfl rfl) rfl rfl ?_
              refine E.Ops.part (E.q_lss rfl rfl rfl) rfl rfl (fun h12_5 => ?T55) (fun h12_5 => ?F55)
              case' F55 =>
                refine E.Ops.q _ (E.q_pickT rfl rfl rfl) rfl rfl ?_
                refine E.Ops.q _ (E.q_mv rfl rfl) rfl rfl ?_
                refine E.Ops.nil ?_
                try simp only [E.tn, E.tx, E.tr, E.bn, E.br, E.bs]
                refine E.Run.ret ?_
                try simp only [E.tn, E.tx, E.tr, E.bn, E.br, E.bs]
                exact ⟨_, _, _, E.ResOk.one rfl rfl, E.Ent.of E.entA, E.kEq hK (by congr 1; unfold fitB; (repeat' split) <;> first | (exfalso; omega) | (exact decide_eq_true (by omega)) | (exact decide_eq_false (by omega)) | rfl)⟩
              case' T55 =>
                refine E.Ops.q _ (E.q_pickT rfl rfl rfl) rfl rfl ?_
                refine E.Ops.q _ (E.q_mv rfl rfl) rfl rfl ?_
                refine E.Ops.nil ?_
                try simp only [E.tn, E.tx, E.tr, E.bn, E.br, E.bs]
                refine E.Run.ret ?_
                try simp only [E.tn, E.tx, E.tr, E.bn, E.br, E.bs]
                exact ⟨_, _, _, E.ResOk.one rfl rfl, E.Ent.of E.entA, E.kEq hK (by congr 1; unfold fitB; (repeat' split) <;> first | (exfalso; omega) | (exact decide_eq_true (by omega)) | (exact decide_eq_false (by omega)) | rfl)⟩
      case' T44 =>
        refine E.Ops.nil ?_
        try simp only [E.tn, E.tx, E.tr, E.bn, E.br, E.bs]
        (repeat refine E.Run.seq ?_)
        (repeat refine E.Run.seq ?_); refine E.Run.condT rfl ?_
        (repeat refine E.Run.seq ?_)
        refine E.Run.region ?_
        first | refine E.Ops.q _ (E.q_fieldAddr' rfl rfl fo_25_1) rfl rfl ?_ | refine E.Ops.q _ (E.q_fieldAddr rfl rfl fo_25_1) rfl rfl ?_
        refine E.Ops.q _ (E.q_load rfl rfl (by first | refine E.LoadAt.own E.ixA sc_23 (by rfl) | exact E.LoadAt.ro sc_23 (by assumption) | exact E.LoadAt.arr E.ixA sc_23 (by assumption))) rfl rfl ?_
        refine E.Ops.q _ (E.q_lenSlice rfl Try.underlying23) rfl rfl ?_
        refine E.Ops.q _ (E.q_mv rfl rfl) rfl rfl ?_
        refine E.Ops.nil ?_
        try simp only [E.tn, E.tx, E.tr, E.bn, E.br, E.bs]
        (repeat refine E.Run.seq ?_)
        refine E.Run.region ?_
        refine E.Ops.q _ (E.q_move rfl rfl) rfl rfl ?_
        refine E.Ops.part (E.q_eql rfl rfl rfl) rfl rfl (fun h8_1 => ?T56) (fun h8_1 => ?F56)
        case' F56 =>
          refine E.Ops.nil ?_
          try simp only [E.tn, E.tx, E.tr, E.bn, E.br, E.bs]
          (repeat refine E.Run.seq ?_)
          (repeat refine E.Run.seq ?_); refine E.Run.condF rfl ?_
          refine E.Run.skip ?_
          try simp only [E.tn, E.tx, E.tr, E.bn, E.br, E.bs]
          (repeat refine E.Run.seq ?_)
          refine E.Run.region ?_
          refine E.Ops.q _ (E.q_move rfl rfl) rfl rfl ?_
          refine E.Ops.part (E.q_eql rfl rfl rfl) rfl rfl (fun h10_1 => ?T57) (fun h10_1 => ?F57)
          case' F57 =>
            refine E.Ops.nil ?_
            try simp only [E.tn, E.tx, E.tr, E.bn, E.br, E.bs]
            (repeat refine E.Run.seq ?_)
            (repeat refine E.Run.seq ?_); refine E.Run.condF rfl ?_
            refine E.Run.skip ?_
            try simp only [E.tn, E.tx, E.tr, E.bn, E.br, E.bs]
            (repeat refine E.Run.seq ?_)
            refine E.Run.region ?_
            refine E.Ops.q _ (E.q_move rfl rfl) rfl rfl ?_
            refine E.Ops.part (E.q_geq rfl rfl rfl) rfl rfl (fun h12_1 => ?T58) (fun h12_1 => ?F58)
            case' F58 =>
              refine E.Ops.q _ (E.q_move rfl rfl) rfl rfl ?_
              refine E.Ops.skip rfl rfl ?_
              refine E.Ops.skip rfl rfl ?_
              refine E.Ops.skip rfl rfl ?_
              refine E.Ops.q _ (E.q_pickF rfl rfl rfl) rfl rfl ?_
              refine E.Ops.q _ (E.q_mv rfl rfl) rfl rfl ?_
              refine E.Ops.nil ?_
              try simp only [E.tn, E.tx, E.tr, E.bn, E.br, E.bs]
              refine E.Run.ret ?_
              try simp only [E.tn, E.tx, E.tr, E.bn, E.br, E.bs]
              exact ⟨_, _, _, E.ResOk.one rfl rfl, E.Ent.of E.entA, E.kEq hK (by congr 1; unfold fitB; (repeat' split) <;> first | (exfalso; omega) | (exact decide_eq_true (by omega)) | (exact decide_eq_false (by omega)) | rfl)⟩
            case' T58 =>
              refine E.Ops.q _ (E.q_move rfl rfl) rfl rfl ?_
              refine E.Ops.q _ (E.q_move rfl rfl) rfl rfl ?_
              refine E.Ops.q _ (E.q_move rfl rfl) rfl rfl ?_
              refine E.Ops.part (E.q_lss rfl rfl rfl) rfl rfl (fun h12_5 => ?T59) (fun h12_5 => ?F59)
              case' F59 =>
                refine E.Ops.q _ (E.q_pickT rfl rfl rfl) rfl rfl ?_
                refine E.Ops.q _ (E.q_mv rfl rfl) rfl rfl ?_
                refine E.Ops.nil ?_
                try simp only [E.tn, E.tx, E.tr, E.bn, E.br, E.bs]
                refine E.Run.ret ?_
                try simp only [E.tn, E.tx, E.tr, E.bn, E.br, E.bs]
                exact ⟨_, _, _, E.ResOk.one rfl rfl, E.Ent.of E.entA, E.kEq hK (by congr 1; unfold fitB; (repeat' split) <;> first | (exfalso; omega) | (exact decide_eq_true (by omega)) | (exact decide_eq_false (by omega)) | rfl)⟩
              case' T59 =>
                refine E.Ops.q _ (E.q_pickT rfl rfl rfl) rfl rfl ?_
                refine E.Ops.q _ (E.q_mv rfl rfl) rfl rfl ?_
                refine E.Ops.nil ?_
                try simp only [E.tn, E.tx, E.tr, E.bn, E.br, E.bs]
                refine E.Run.ret ?_
                try simp only [E.tn, E.tx, E.tr, E.bn, E.br, E.bs]
                exact ⟨_, _, _, E.ResOk.one rfl rfl, E.Ent.of E.entA, E.kEq hK (by congr 1; unfold fitB; (repeat' split) <;> first | (exfalso; omega) | (exact decide_eq_true (by omega)) | (exact decide_eq_false (by omega)) | rfl)⟩
          case' T57 =>
            refine E.Ops.nil ?_
            try simp only [E.tn, E.tx, E.tr, E.bn, E.br, E.bs]
            (repeat refine E.Run.seq ?_)
            (repeat refine E.Run.seq ?_); refine E.Run.condT rfl ?_
            (repeat refine E.Run.seq ?_)
            refine E.Run.region ?_
            refine E.Ops.q _ (E.q_move rfl rfl) rfl rfl ?_
            first | refine E.Ops.q _ (E.q_incr rfl rfl (by omega)) rfl rfl ?_ | refine E.Ops.q _ (E.q_addFit rfl rfl rfl (by omega)) rfl rfl ?_ | refine E.Ops.q _ (E.q_add rfl rfl rfl) rfl rfl ?_
            refine E.Ops.q _ (E.q_mv rfl rfl) rfl rfl ?_
            refine E.Ops.nil ?_
            try simp only [E.tn, E.tx, E.tr, E.bn, E.br, E.bs]
            (repeat refine E.Run.seq ?_)
            refine E.Run.region ?_
            refine E.Ops.q _ (E.q_move rfl rfl) rfl rfl ?_
            refine E.Ops.part (E.q_geq rfl rfl rfl) rfl rfl (fun h12_1 => ?T60) (fun h12_1 => ?F60)
            case' F60 =>
              refine E.Ops.q _ (E.q_move rfl rfl) rfl rfl ?_
              refine E.Ops.skip rfl rfl ?_
              refine E.Ops.skip rfl rfl ?_
              refine E.Ops.skip rfl rfl ?_
              refine E.Ops.q _ (E.q_pickF rfl rfl rfl) rfl rfl ?_
              refine E.Ops.q _ (E.q_mv rfl rfl) rfl rfl ?_
              refine E.Ops.nil ?_
              try simp only [E.tn, E.tx, E.tr, E.bn, E.br, E.bs]
              refine E.Run.ret ?_
              try simp only [E.tn, E.tx, E.tr, E.bn, E.br, E.bs]
              exact ⟨_, _, _, E.ResOk.one rfl rfl, E.Ent.of E.entA, E.kEq hK (by congr 1; unfold fitB; (repeat' split) <;> first | (exfalso; omega) | (exact decide_eq_true (by omega)) | (exact decide_eq_false (by omega)) | rfl)⟩
            case' T60 =>
              refine E.Ops.q _ (E.q_move rfl rfl) rfl rfl ?_
              refine E.Ops.q _ (E.q_move rfl rfl) rfl rfl ?_
              refine E.Ops.q _ (E.q_move rfl rfl) rfl rfl ?_
              refine E.Ops.part (E.q_lss rfl rfl rfl) rfl rfl (fun h12_5 => ?T61) (fun h12_5 => ?F61)
              case' F61 =>
                refine E.Ops.q _ (E.q_pickT rfl rfl rfl) rfl rfl ?_
                refine E.Ops.q _ (E.q_mv rfl rfl) rfl rfl ?_
                refine E.Ops.nil ?_
                try simp only [E.tn, E.tx, E.tr, E.bn, E.br, E.bs]
                refine E.Run.ret ?_
                try simp only [E.tn, E.tx, E.tr, E.bn, E.br, E.bs]
                exact ⟨_, _, _, E.ResOk.one rfl rfl, E.Ent.of E.entA, E.kEq hK (by congr 1; unfold fitB; (repeat' split) <;> first | (exfalso; omega) | (exact decide_eq_true (by omega)) | (exact decide_eq_false (by omega)) | rfl)⟩
              case' T61 =>
                refine E.Ops.q _ (E.q_pickT rfl rfl rfl) rfl rfl ?_
                refine E.Ops.q _ (E.q_mv rfl rfl) rfl rfl ?_
                refine E.Ops.nil ?_
                try simp only [E.tn, E.tx, E.tr, E.bn, E.br, E.bs]
                refine E.Run.ret ?_
                try simp only [E.tn, E.tx, E.tr, E.bn, E.br, E.bs]
                exact ⟨_, _, _, E.ResOk.one rfl rfl, E.Ent.of E.entA, E.kEq hK (by congr 1; unfold fitB; (repeat' split) <;> first | (exfalso; omega) | (exact decide_eq_true (by omega)) | (exact decide_eq_false (by omega)) | rfl)⟩
        case' T56 =>
          refine E.Ops.nil ?_
          try simp only [E.tn, E.tx, E.tr, E.bn, E.br, E.bs]
          (repeat refine E.Run.seq ?_)
          (repeat refine E.Run.seq ?_); refine E.Run.condT rfl ?_
          (repeat refine E.Run.seq ?_)
          refine E.Run.region ?_
          first | refine E.Ops.q _ (E.q_fieldAddr' rfl rfl fo_25_2) rfl rfl ?_ | refine E.Ops.q _ (E.q_fieldAddr rfl rfl fo_25_2) rfl rfl ?_
          refine E.Ops.q _ (E.q_load rfl rfl (by first | refine E.LoadAt.own E.ixA sc_3 (by rfl) | exact E.LoadAt.ro sc_3 (by assumption) | exact E.LoadAt.arr E.ixA sc_3 (by assumption))) rfl rfl ?_
          refine E.Ops.q _ (E.q_mv rfl rfl) rfl rfl ?_
          refine E.Ops.nil ?_
          try simp only [E.tn, E.tx, E.tr, E.bn, E.br, E.bs]
          (repeat refine E.Run.seq ?_)
          refine E.Run.region ?_
          refine E.Ops.q _ (E.q_move rfl rfl) rfl rfl ?_
          refine E.Ops.part (E.q_eql rfl rfl rfl) rfl rfl (fun h10_1 => ?T62) (fun h10_1 => ?F62)
          case' F62 =>
            refine E.Ops.nil ?_
            try simp only [E.tn, E.tx, E.tr, E.bn, E.br, E.bs]
            (repeat refine E.Run.seq ?_)
            (repeat refine E.Run.seq ?_); refine E.Run.condF rfl ?_
            refine E.Run.skip ?_
            try simp only [E.tn, E.tx, E.tr, E.bn, E.br, E.bs]
            (repeat refine E.Run.seq ?_)
            refine E.Run.region ?_
            refine E.Ops.q _ (E.q_move rfl rfl) rfl rfl ?_
            refine E.Ops.part (E.q_geq rfl rfl rfl) rfl rfl (fun h12_1 => ?T63) (fun h12_1 => ?F63)
            case' F63 =>
              refine E.Ops.q _ (E.q_move rfl rfl) rfl rfl ?_
              refine E.Ops.skip rfl rfl ?_
              refine E.Ops.skip rfl rfl ?_
              refine E.Ops.skip rfl rfl ?_
              refine E.Ops.q _ (E.q_pickF rfl rfl rfl) rfl rfl ?_
              refine E.Ops.q _ (E.q_mv rfl rfl) rfl rfl ?_
              refine E.Ops.nil ?_
              try simp only [E.tn, E.tx, E.tr, E.bn, E.br, E.bs]
              refine E.Run.ret ?_
              try simp only [E.tn, E.tx, E.tr, E.bn, E.br, E.bs]
              exact ⟨_, _, _, E.ResOk.one rfl rfl, E.Ent.of E.entA, E.kEq hK (by congr 1; unfold fitB; (repeat' split) <;> first | (exfalso; omega) | (exact decide_eq_true (by omega)) | (exact decide_eq_false (by omega)) | rfl)⟩
            case' T63 =>
              refine E.Ops.q _ (E.q_move rfl rfl) rfl rfl ?_
              refine E.Ops.q _ (E.q_move rfl rfl) rfl rfl ?_
              refine E.Ops.q _ (E.q_move rfl rfl) rfl rfl ?_
              refine E.Ops.part (E.q_lss rfl rfl rfl) rfl rfl (fun h12_5 => ?T64) (fun h12_5 => ?F64)
              case' F64 =>
                refine E.Ops.q _ (E.q_pickT rfl rfl rfl) rfl rfl ?_
                refine E.Ops.q _ (E.q_mv rfl rfl) rfl rfl ?_
                refine E.Ops.nil ?_
                try simp only [E.tn, E.tx, E.tr, E.bn, E.br, E.bs]
                refine E.Run.ret ?_
                try simp only [E.tn, E.tx, E.tr, E.bn, E.br, E.bs]
                exact ⟨_, _, _, E.ResOk.one rfl rfl, E.Ent.of E.entA, E.kEq hK (by congr 1; unfold fitB; (repeat' split) <;> first | (exfalso; omega) | (exact decide_eq_true (by omega)) | (exact decide_eq_false (by omega)) | rfl)⟩
              case' T64 =>
                refine E.Ops.q _ (E.q_pickT rfl rfl rfl) rfl rfl ?_
                refine E.Ops.q _ (E.q_mv rfl rfl) rfl rfl ?_
                refine E.Ops.nil ?_
                try simp only [E.tn, E.tx, E.tr, E.bn, E.br, E.bs]
                refine E.Run.ret ?_
                try simp only [E.tn, E.tx, E.tr, E.bn, E.br, E.bs]
                exact ⟨_, _, _, E.ResOk.one rfl rfl, E.Ent.of E.entA, E.kEq hK (by congr 1; unfold fitB; (repeat' split) <;> first | (exfalso; omega) | (exact decide_eq_true (by omega)) | (exact decide_eq_false (by omega)) | rfl)⟩
          case' T62 =>
            refine E.Ops.nil ?_
            try simp only [E.tn, E.tx, E.tr, E.bn, E.br, E.bs]
            (repeat refine E.Run.seq ?_)
            (repeat refine E.Run.seq ?_); refine E.Run.condT rfl ?_
            (repeat refine E.Run.seq ?_)
            refine E.Run.region ?_
            refine E.Ops.q _ (E.q_move rfl rfl) rfl rfl ?_
            first | refine E.Ops.q _ (E.q_incr rfl rfl (by omega)) rfl rfl ?_ | refine E.Ops.q _ (E.q_addFit rfl rfl rfl (by omega)) rfl rfl ?_ | refine E.Ops.q _ (E.q_add rfl rfl rfl) rfl rfl ?_
            refine E.Ops.q _ (E.q_mv rfl rfl) rfl rfl ?_
            refine E.Ops.nil ?_
            try simp only [E.tn, E.tx, E.tr, E.bn, E.br, E.bs]
            (repeat refine E.Run.seq ?_)
            refine E.Run.region ?_
            refine E.Ops.q _ (E.q_move rfl rfl) rfl rfl ?_
            refine E.Ops.part (E.q_geq rfl rfl rfl) rfl rfl (fun h12_1 => ?T65) (fun h12_1 => ?F65)
            case' F65 =>
              refine E.Ops.q _ (E.q_move rfl rfl) rfl rfl ?_
              refine E.Ops.skip rfl rfl ?_
              refine E.Ops.skip rfl rfl ?_
              refine E.Ops.skip rfl rfl ?_
              refine E.Ops.q _ (E.q_pickF rfl rfl rfl) rfl rfl ?_
              refine E.Ops.q _ (E.q_mv rfl rfl) rfl rfl ?_
              refine E.Ops.nil ?_
              try simp only [E.tn, E.tx, E.tr, E.bn, E.br, E.bs]
              refine E.Run.ret ?_
              try simp only [E.tn, E.tx, E.tr, E.bn, E.br, E.bs]
              exact ⟨_, _, _, E.ResOk.one rfl rfl, E.Ent.of E.entA, E.kEq hK (by congr 1; unfold fitB; (repeat' split) <;> first | (exfalso; omega) | (exact decide_eq_true (by omega)) | (exact decide_eq_false (by omega)) | rfl)⟩
            case' T65 =>
              refine E.Ops.q _ (E.q_move rfl rfl) rfl rfl ?_
              refine E.Ops.q _ (E.q_move rfl rfl) rfl rfl ?_
              refine E.Ops.q _ (E.q_move rfl rfl) rfl rfl ?_
              refine E.Ops.part (E.q_lss rfl rfl rfl) rfl rfl (fun h12_5 => ?T66) (fun h12_5 => ?F66)
              case' F66 =>
                refine E.Ops.q _ (E.q_pickT rfl rfl rfl) rfl rfl ?_
                refine E.Ops.q _ (E.q_mv rfl rfl) rfl rfl ?_
                refine E.Ops.nil ?_
                try simp only [E.tn, E.tx, E.tr, E.bn, E.br, E.bs]
                refine E.Run.ret ?_
                try simp only [E.tn, E.tx, E.tr, E.bn, E.br, E.bs]
                exact ⟨_, _, _, E.ResOk.one rfl rfl, E.Ent.of E.entA, E.kEq hK (by congr 1; unfold fitB; (repeat' split) <;> first | (exfalso; omega) | (exact decide_eq_true (by omega)) | (exact decide_eq_false (by omega)) | rfl)⟩
              case' T66 =>
                refine E.Ops.q _ (E.q_pickT rfl rfl rfl) rfl rfl ?_
                refine E.Ops.q _ (E.q_mv rfl rfl) rfl rfl ?_
                refine E.Ops.nil ?_
                try simp only [E.tn, E.tx, E.tr, E.bn, E.br, E.bs]
                refine E.Run.ret ?_
                try simp only [E.tn, E.tx, E.tr, E.bn, E.br, E.bs]
                exact ⟨_, _, _, E.ResOk.one rfl rfl, E.Ent.of E.entA, E.kEq hK (by congr 1; unfold fitB; (repeat' split) <;> first | (exfalso; omega) | (exact decide_eq_true (by omega)) | (exact decide_eq_false (by omega)) | rfl)⟩
  case' T19 =>
    refine E.Ops.nil ?_
    try simp only [E.tn, E.tx, E.tr, E.bn, E.br, E.bs]
    (repeat refine E.Run.seq ?_)
    (repeat refine E.Run.seq ?_); refine E.Run.condT rfl ?_
    (repeat refine E.Run.seq ?_)
    refine E.Run.region ?_
    refine E.Ops.q _ (E.q_mv rfl rfl) rfl rfl ?_
    refine E.Ops.nil ?_
    try simp only [E.tn, E.tx, E.tr, E.bn, E.br, E.bs]
    refine E.Run.ret ?_
    try simp only [E.tn, E.tx, E.tr, E.bn, E.br, E.bs]
    exact ⟨_, _, _, E.ResOk.one rfl rfl, E.Ent.of E.entA, E.kEq hK (by congr 1; unfold fitB; (repeat' split) <;> first | (exfalso; omega) | (exact decide_eq_true (by omega)) | (exact decide_eq_false (by omega)) | rfl)⟩
set_option maxRecDepth 100000 in
theorem rNone {ρ : E.Ro} {M : List E.Asr} {K : Value → E.Ro → List E.Asr → Prop} (A A' : Option Addr) (c c' : Nat) (p : Prg) (h1 : p.code.length = 0) (h2 : p.words.length = 0) (h3 : p.locks = 0) (h4 : p.regs = 0) (hK : K (.bool true) ρ M) :
    E.Hoa Try.prog 16 #[prgV A c A' c' p] ρ M K := by
  refine E.Hoa.enter 21 Try.func16 rfl rfl rfl ?_
  (repeat refine E.Run.seq ?_)
  refine E.Run.region ?_
  refine E.Ops.loud rfl rfl ?_
  refine E.l_box rfl rfl (fun b0_0 => ?_)
  refine E.Ops.q _ (E.q_mv rfl rfl) rfl rfl ?_
  refine E.Ops.nil ?_
  try simp only [E.tn, E.tx, E.tr, E.bn, E.br, E.bs]
  (repeat refine E.Run.seq ?_)
  refine E.Run.region ?_
  first | refine E.Ops.q _ (E.q_fieldAddr' rfl rfl fo_25_0) rfl rfl ?_ | refine E.Ops.q _ (E.q_fieldAddr rfl rfl fo_25_0) rfl rfl ?_
  refine E.Ops.q _ (E.q_load rfl rfl (by first | refine E.LoadAt.own E.ixA sc_22 (by rfl) | exact E.LoadAt.ro sc_22 (by assumption) | exact E.LoadAt.arr E.ixA sc_22 (by assumption))) rfl rfl ?_
  refine E.Ops.q _ (E.q_lenSlice rfl Try.underlying22) rfl rfl ?_
  first | refine E.Ops.q _ (E.q_fieldAddr' rfl rfl fo_25_1) rfl rfl ?_ | refine E.Ops.q _ (E.q_fieldAddr rfl rfl fo_25_1) rfl rfl ?_
  refine E.Ops.q _ (E.q_load rfl rfl (by first | refine E.LoadAt.own E.ixA sc_23 (by rfl) | exact E.LoadAt.ro sc_23 (by assumption) | exact E.LoadAt.arr E.ixA sc_23 (by assumption))) rfl rfl ?_
  refine E.Ops.q _ (E.q_lenSlice rfl Try.underlying23) rfl rfl ?_
  first | refine E.Ops.q _ (E.q_incr rfl rfl (by omega)) rfl rfl ?_ | refine E.Ops.q _ (E.q_addFit rfl rfl rfl (by omega)) rfl rfl ?_ | refine E.Ops.q _ (E.q_add rfl rfl rfl) rfl rfl ?_
  refine E.Ops.q _ ((E.q_eql rfl rfl rfl).isT (by omega)) rfl rfl ?_
  refine E.Ops.q _ (E.q_move rfl rfl) rfl rfl ?_
  first | refine E.Ops.q _ (E.q_fieldAddr' rfl rfl fo_25_2) rfl rfl ?_ | refine E.Ops.q _ (E.q_fieldAddr rfl rfl fo_25_2) rfl rfl ?_
  refine E.Ops.q _ (E.q_load rfl rfl (by first | refine E.LoadAt.own E.ixA sc_3 (by rfl) | exact E.LoadAt.ro sc_3 (by assumption) | exact E.LoadAt.arr E.ixA sc_3 (by assumption))) rfl rfl ?_
  refine E.Ops.q _ ((E.q_eql rfl rfl rfl).isT (h3)) rfl rfl ?_
  refine E.Ops.q _ (E.q_pickT rfl rfl rfl) rfl rfl ?_
  refine E.Ops.q _ (E.q_move rfl rfl) rfl rfl ?_
  first | refine E.Ops.q _ (E.q_fieldAddr' rfl rfl fo_25_3) rfl rfl ?_ | refine E.Ops.q _ (E.q_fieldAddr rfl rfl fo_25_3) rfl rfl ?_
  refine E.Ops.q _ (E.q_load rfl rfl (by first | refine E.LoadAt.own E.ixA sc_3 (by rfl) | exact E.LoadAt.ro sc_3 (by assumption) | exact E.LoadAt.arr E.ixA sc_3 (by assumption))) rfl rfl ?_
  refine E.Ops.q _ ((E.q_eql rfl rfl rfl).isT (h4)) rfl rfl ?_
  refine E.Ops.q _ (E.q_pickT rfl rfl rfl) rfl rfl ?_
  refine E.Ops.q _ (E.q_mv rfl rfl) rfl rfl ?_
  refine E.Ops.nil ?_
  try simp only [E.tn, E.tx, E.tr, E.bn, E.br, E.bs]
  refine E.Run.ret ?_
  try simp only [E.tn, E.tx, E.tr, E.bn, E.br, E.bs]
  exact ⟨_, _, _, E.ResOk.one rfl rfl, E.Ent.of E.entA, E.kEq hK (by rfl)⟩
set_option maxRecDepth 100000 in
theorem lawVast {ρ : E.Ro} {M : List E.Asr} {K : Value → E.Ro → List E.Asr → Prop} (A A' : Option Addr) (c c' : Nat) (p : Prg) (hp : PrgW ρ.blk A A' p) (hK : K (.bool (vastS p)) ρ M) :
    E.Hoa Try.prog 12 #[prgV A c A' c' p] ρ M K := by
  have hs1 := hp.small
  have hs2 := hp.smallW
  have hsum := sizeP_le hp.smalls
  refine E.Hoa.enter 39 Try.func12 rfl rfl rfl ?_
  (repeat refine E.Run.seq ?_)
  refine E.Run.region ?_
  refine E.Ops.loud rfl rfl ?_
  refine E.l_box rfl rfl (fun b0_0 => ?_)
  refine E.Ops.q _ (E.q_mv rfl rfl) rfl rfl ?_
  refine E.Ops.nil ?_
  try simp only [E.tn, E.tx, E.tr, E.bn, E.br, E.bs]
  (repeat refine E.Run.seq ?_)
  refine E.Run.region ?_
  first | refine E.Ops.q _ (E.q_fieldAddr' rfl rfl fo_25_0) rfl rfl ?_ | refine E.Ops.q _ (E.q_fieldAddr rfl rfl fo_25_0) rfl rfl ?_
  refine E.Ops.q _ (E.q_load rfl rfl (by first | refine E.LoadAt.own E.ixA sc_22 (by rfl) | exact E.LoadAt.ro sc_22 (by assumption) | exact E.LoadAt.arr E.ixA sc_22 (by assumption))) rfl rfl ?_
  refine E.Ops.q _ (E.q_lenSlice rfl Try.underlying22) rfl rfl ?_
  first | refine E.Ops.q _ (E.q_fieldAddr' rfl rfl fo_25_1) rfl rfl ?_ | refine E.Ops.q _ (E.q_fieldAddr rfl rfl fo_25_1) rfl rfl ?_
  refine E.Ops.q _ (E.q_load rfl rfl (by first | refine E.LoadAt.own E.ixA sc_23 (by rfl) | exact E.LoadAt.ro sc_23 (by assumption) | exact E.LoadAt.arr E.ixA sc_23 (by assumption))) rfl rfl ?_
  refine E.Ops.q _ (E.q_lenSlice rfl Try.underlying23) rfl rfl ?_
  first | refine E.Ops.q _ (E.q_incr rfl rfl (by omega)) rfl rfl ?_ | refine E.Ops.q _ (E.q_addFit rfl rfl rfl (by omega)) rfl rfl ?_ | refine E.Ops.q _ (E.q_add rfl rfl rfl) rfl rfl ?_
  refine E.Ops.q _ (E.q_mv rfl rfl) rfl rfl ?_
  refine E.Ops.nil ?_
  try simp only [E.tn, E.tx, E.tr, E.bn, E.br, E.bs]
  refine E.Run.seqCut (fun L' ρ' M' => E.SubEnv [(1, .pointer (some ⟨b0_0, 0, none⟩)), (3, .int .i64 (sizeP p (min p.code.length 100)))] L' ∧ E.Ent ρ' M' ρ (E.pt b0_0 25 [.slice A p.code.length c, .slice A' p.words.length c', .int .i64 p.locks, .int .i64 p.regs] :: M)) ?_ ?_
  · (repeat refine E.Run.seq ?_)
    refine E.Run.region ?_
    refine E.Ops.q _ (E.q_mv rfl rfl) rfl rfl ?_
    refine E.Ops.nil ?_
    try simp only [E.tn, E.tx, E.tr, E.bn, E.br, E.bs]
    (repeat refine E.Run.seq ?_); refine E.Run.block ?_
    (repeat refine E.Run.seq ?_); refine E.Run.loopS (fun (t : Nat) => [(1, .pointer (some ⟨b0_0, 0, none⟩)), (3, .int .i64 (sizeP p t)), (4, .int .i64 t)]) ρ (fun t => E.pt b0_0 25 [.slice A p.code.length c, .slice A' p.words.length c', .int .i64 p.locks, .int .i64 p.regs] :: M)
      (fun t => t ≤ min p.code.length 100) (fun t => min p.code.length 100 - t) 0 (Nat.zero_le _) (by
        rw [show (sizeP p 0 : Int) = (p.code.length : Int) + p.words.length from by unfold sizeP sumN; omega]
        ((repeat refine E.SubEnv.cons rfl ?_); exact E.SubEnv.nil _)) (by exact E.Ent.of E.entA) ?_
    intro t ht
    have hst := hsum t
    refine E.Run.seqCut (fun L' ρ' M' => t < min p.code.length 100 ∧ E.SubEnv [(1, .pointer (some ⟨b0_0, 0, none⟩)), (3, .int .i64 (sizeP p t)), (4, .int .i64 t)] L' ∧ E.Ent ρ' M' ρ (E.pt b0_0 25 [.slice A p.code.length c, .slice A' p.words.length c', .int .i64 p.locks, .int .i64 p.regs] :: M)) ?_ ?_
    · refine E.Run.seqCut (fun L' ρ' M' => E.SubEnv [(1, .pointer (some ⟨b0_0, 0, none⟩)), (3, .int .i64 (sizeP p t)), (4, .int .i64 t), (20, .bool (decide (t < min p.code.length 100)))] L' ∧ E.Ent ρ' M' ρ (E.pt b0_0 25 [.slice A p.code.length c, .slice A' p.words.length c', .int .i64 p.locks, .int .i64 p.regs] :: M)) ?_ ?_
      · (repeat refine E.Run.seq ?_)
        refine E.Run.region ?_
        refine E.Ops.q _ (E.q_move rfl rfl) rfl rfl ?_
        first | refine E.Ops.q _ (E.q_fieldAddr' rfl rfl fo_25_0) rfl rfl ?_ | refine E.Ops.q _ (E.q_fieldAddr rfl rfl fo_25_0) rfl rfl ?_
        refine E.Ops.q _ (E.q_load rfl rfl (by first | refine E.LoadAt.own E.ixA sc_22 (by rfl) | exact E.LoadAt.ro sc_22 (by assumption) | exact E.LoadAt.arr E.ixA sc_22 (by assumption))) rfl rfl ?_
        refine E.Ops.q _ (E.q_lenSlice rfl Try.underlying22) rfl rfl ?_
        refine E.Ops.part (E.q_lss rfl rfl rfl) rfl rfl (fun h1 => ?T67) (fun h1 => ?F67)
        case' F67 =>
          refine E.Ops.q _ (E.q_move rfl rfl) rfl rfl ?_
          refine E.Ops.skip rfl rfl ?_
          refine E.Ops.skip rfl rfl ?_
          refine E.Ops.q _ (E.q_pickF rfl rfl rfl) rfl rfl ?_
          refine E.Ops.nil ?_
          try simp only [E.tn, E.tx, E.tr, E.bn, E.br, E.bs]
        case' T67 =>
          refine E.Ops.q _ (E.q_move rfl rfl) rfl rfl ?_
          refine E.Ops.q _ (E.q_move rfl rfl) rfl rfl ?_
          refine E.Ops.part (E.q_lss rfl rfl rfl) rfl rfl (fun h2 => ?T68) (fun h2 => ?F68)
          case' F68 =>
            refine E.Ops.q _ (E.q_pickT rfl rfl rfl) rfl rfl ?_
            refine E.Ops.nil ?_
            try simp only [E.tn, E.tx, E.tr, E.bn, E.br, E.bs]
          case' T68 =>
            refine E.Ops.q _ (E.q_pickT rfl rfl rfl) rfl rfl ?_
            refine E.Ops.nil ?_
            try simp only [E.tn, E.tx, E.tr, E.bn, E.br, E.bs]
        all_goals first
          | exact ⟨by rw [decide_eq_true (by omega)]; ((repeat refine E.SubEnv.cons rfl ?_); exact E.SubEnv.nil _), by exact E.Ent.of E.entA⟩
          | exact ⟨by rw [decide_eq_false (by omega)]; ((repeat refine E.SubEnv.cons rfl ?_); exact E.SubEnv.nil _), by exact E.Ent.of E.entA⟩
      rintro L1 ρ1 M1 ⟨hs, he⟩
      refine E.Run.sub hs (E.Run.ent he ?_)
      clear hs he
      (repeat refine E.Run.seq ?_); refine E.Run.condD rfl (fun h => ?_) (fun h => ?_)
      · refine E.Run.skip ?_
        try simp only [E.tn, E.tx, E.tr, E.bn, E.br, E.bs]
        exact ⟨h, by ((repeat refine E.SubEnv.cons rfl ?_); exact E.SubEnv.nil _), by exact E.Ent.of E.entA⟩
      · refine E.Run.exit ?_
        try simp only [E.tn, E.tx, E.tr, E.bn, E.br, E.bs]
        have : t = min p.code.length 100 := by omega
        subst this
        exact ⟨by ((repeat refine E.SubEnv.cons rfl ?_); exact E.SubEnv.nil _), by exact E.Ent.of E.entA⟩
    rintro L1 ρ1 M1 ⟨h, hs, he⟩
    refine E.Run.sub hs (E.Run.ent he ?_)
    clear hs he
    have ht' : t < p.code.length := by omega
    obtain ⟨ad, rfl, A1, c1, hcell, _⟩ := hp.code.thread ht'
    have hlt := hp.smalls _ (List.getElem_mem ht')
    have hsz : sizeP p (t + 1) = sizeP p t + p.code[t].length := by unfold sizeP; rw [sumN, lenAt_eq ht']; omega
    have hsb : sizeP p t ≤ 140737488351232 * 2 + 100 * 4398046511104 := by unfold sizeP; omega
    (repeat refine E.Run.seq ?_); refine E.Run.block ?_
    (repeat refine E.Run.seq ?_)
    refine E.Run.region ?_
    refine E.Ops.q _ (E.q_move rfl rfl) rfl rfl ?_
    first | refine E.Ops.q _ (E.q_fieldAddr' rfl rfl fo_25_0) rfl rfl ?_ | refine E.Ops.q _ (E.q_fieldAddr rfl rfl fo_25_0) rfl rfl ?_
    refine E.Ops.q _ (E.q_load rfl rfl (by first | refine E.LoadAt.own E.ixA sc_22 (by rfl) | exact E.LoadAt.ro sc_22 (by assumption) | exact E.LoadAt.arr E.ixA sc_22 (by assumption))) rfl rfl ?_
    refine E.Ops.q _ (E.q_move rfl rfl) rfl rfl ?_
    first | refine E.Ops.q _ (E.q_indexNat rfl rfl rfl so_22 (by first | assumption | omega)) rfl rfl ?_ | refine E.Ops.q _ (E.q_indexAddr rfl rfl rfl so_22 (by omega) (by omega)) rfl rfl ?_
    refine E.Ops.q _ (E.q_load rfl rfl (by exact E.LoadAt.ro sc_45 hcell)) rfl rfl ?_
    refine E.Ops.q _ (E.q_lenSlice rfl Try.underlying45) rfl rfl ?_
    first | refine E.Ops.q _ (E.q_incr rfl rfl (by omega)) rfl rfl ?_ | refine E.Ops.q _ (E.q_addFit rfl rfl rfl (by omega)) rfl rfl ?_ | refine E.Ops.q _ (E.q_add rfl rfl rfl) rfl rfl ?_
    refine E.Ops.q _ (E.q_mv rfl rfl) rfl rfl ?_
    refine E.Ops.nil ?_
    try simp only [E.tn, E.tx, E.tr, E.bn, E.br, E.bs]
    (repeat refine E.Run.seq ?_)
    refine E.Run.region ?_
    refine E.Ops.q _ (E.q_move rfl rfl) rfl rfl ?_
    first | refine E.Ops.q _ (E.q_incr rfl rfl (by omega)) rfl rfl ?_ | refine E.Ops.q _ (E.q_addFit rfl rfl rfl (by omega)) rfl rfl ?_ | refine E.Ops.q _ (E.q_add rfl rfl rfl) rfl rfl ?_
    refine E.Ops.q _ (E.q_mv rfl rfl) rfl rfl ?_
    refine E.Ops.nil ?_
    try simp only [E.tn, E.tx, E.tr, E.bn, E.br, E.bs]
    exact ⟨t + 1, by omega, by omega, by rw [show ((sizeP p (t + 1) : Nat) : Int) = (sizeP p t : Int) + (p.code[t].length : Int) from by omega]; ((repeat refine E.SubEnv.cons rfl ?_); exact E.SubEnv.nil _), by exact E.Ent.of E.entA⟩
  rintro L1 ρ1 M1 ⟨hs, he⟩
  refine E.Run.sub hs (E.Run.ent he ?_)
  clear hs he
  unfold vastS at hK
  refine E.Run.seqCut (fun L' ρ' M' => E.SubEnv [(2, .bool (decide (sizeP p (min p.code.length 100) > 5000 ∨ p.code.length > 100)))] L' ∧ E.Ent ρ' M' ρ M) ?_ ?_
  · (repeat refine E.Run.seq ?_)
    refine E.Run.region ?_
    refine E.Ops.q _ (E.q_move rfl rfl) rfl rfl ?_
    refine E.Ops.part (E.q_gtr rfl rfl rfl) rfl rfl (fun h1 => ?T69) (fun h1 => ?F69)
    case' F69 =>
      refine E.Ops.q _ (E.q_move rfl rfl) rfl rfl ?_
      first | refine E.Ops.q _ (E.q_fieldAddr' rfl rfl fo_25_0) rfl rfl ?_ | refine E.Ops.q _ (E.q_fieldAddr rfl rfl fo_25_0) rfl rfl ?_
      refine E.Ops.q _ (E.q_load rfl rfl (by first | refine E.LoadAt.own E.ixA sc_22 (by rfl) | exact E.LoadAt.ro sc_22 (by assumption) | exact E.LoadAt.arr E.ixA sc_22 (by assumption))) rfl rfl ?_
      refine E.Ops.q _ (E.q_lenSlice rfl Try.underlying22) rfl rfl ?_
      refine E.Ops.part (E.q_gtr rfl rfl rfl) rfl rfl (fun h2 => ?T70) (fun h2 => ?F70)
      case' F70 =>
        refine E.Ops.q _ (E.q_pickF rfl rfl rfl) rfl rfl ?_
        refine E.Ops.q _ (E.q_mv rfl rfl) rfl rfl ?_
        refine E.Ops.nil ?_
        try simp only [E.tn, E.tx, E.tr, E.bn, E.br, E.bs]
      case' T70 =>
        refine E.Ops.q _ (E.q_pickF rfl rfl rfl) rfl rfl ?_
        refine E.Ops.q _ (E.q_mv rfl rfl) rfl rfl ?_
        refine E.Ops.nil ?_
        try simp only [E.tn, E.tx, E.tr, E.bn, E.br, E.bs]
    case' T69 =>
      refine E.Ops.q _ (E.q_move rfl rfl) rfl rfl ?_
      refine E.Ops.skip rfl rfl ?_
      refine E.Ops.skip rfl rfl ?_
      refine E.Ops.skip rfl rfl ?_
      refine E.Ops.skip rfl rfl ?_
      refine E.Ops.q _ (E.q_pickT rfl rfl rfl) rfl rfl ?_
      refine E.Ops.q _ (E.q_mv rfl rfl) rfl rfl ?_
      refine E.Ops.nil ?_
      try simp only [E.tn, E.tx, E.tr, E.bn, E.br, E.bs]
    all_goals first
      | exact ⟨by rw [decide_eq_true (by omega)]; ((repeat refine E.SubEnv.cons rfl ?_); exact E.SubEnv.nil _), by exact E.Ent.of E.entA⟩
      | exact ⟨by rw [decide_eq_false (by omega)]; ((repeat refine E.SubEnv.cons rfl ?_); exact E.SubEnv.nil _), by exact E.Ent.of E.entA⟩
  rintro L1 ρ1 M1 ⟨hs, he⟩
  refine E.Run.sub hs (E.Run.ent he ?_)
  clear hs he
  refine E.Run.ret ?_
  try simp only [E.tn, E.tx, E.tr, E.bn, E.br, E.bs]
  exact ⟨_, _, _, E.ResOk.one rfl rfl, E.Ent.of E.entA, hK⟩
end Go.Proofs.Ythpgjbdacknkgaa
