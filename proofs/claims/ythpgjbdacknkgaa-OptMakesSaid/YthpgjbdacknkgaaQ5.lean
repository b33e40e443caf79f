/- sluiceref6.Nexts, sluiceref13.Reads, Ahead, walked. No statement of the seat in it. -/
import Derived.Test.YthpgjbdacknkgaaQ4
set_option linter.unusedVariables false
set_option linter.unusedSimpArgs false
namespace Go.Proofs.Ythpgjbdacknkgaa
open Go
private theorem ag_44 : E.isAggOf Try.prog 44 4 = true := by kernel_rfl
private theorem fo_44_0 : E.fieldOff Try.prog 44 0 = some 0 := by kernel_rfl
private theorem fo_44_1 : E.fieldOff Try.prog 44 1 = some 1 := by kernel_rfl
private theorem fo_44_2 : E.fieldOff Try.prog 44 2 = some 2 := by kernel_rfl
private theorem fo_44_3 : E.fieldOff Try.prog 44 3 = some 3 := by kernel_rfl
private theorem sc_3 : E.isScal Try.prog 3 = true := by kernel_rfl
private theorem so_45 : E.sliceOf Try.prog 45 = some (44, 4) := by kernel_rfl
private theorem sz_44 : (Try.prog.info? 44).map (·.size) = some 4 := by kernel_rfl
private theorem ty_3 : E.tyOf Try.prog 3 = some (some (.int .i64 0), 1, 8) := by kernel_rfl
private theorem ty_44 : E.tyOf Try.prog 44 = some (some (.agg #[.int .i64 0, .int .i64 0, .int .i64 0, .int .i64 0]), 4, 32) := by kernel_rfl

set_option maxRecDepth 100000 in
theorem rNexts {ρ : E.Ro} {M : List E.Asr} {K : Value → E.Ro → List E.Asr → Prop} (A : Option Addr) (c : Nat) (code : List E.Ins) (hc : E.RdF ρ.blk E.encIns 4 A code) (hs : code.length ≤ 4398046511104) (k : Nat) (hk : k < code.length)
    (hK : ∀ A' c' n, n = (insNexts k code[k]).length → K (.slice A' n c') ρ (E.arr 3 1 A' n c' ((insNexts k code[k]).flatMap E.encI) :: M)) :
    E.Hoa Try.prog 86 #[.slice A code.length c, .int .i64 k] ρ M K := by
  obtain ⟨ad, rfl, _, hc'⟩ := E.RdF.at hc hk
  generalize code[k] = i at *
  have nx1 : ∀ x, insNexts k i = [x] → ∀ g, K (.slice (some ⟨g, 0, none⟩) 1 1) ρ (E.arr 3 1 (some ⟨g, 0, none⟩) 1 1 [.int .i64 x] :: M) := fun x h g => by
    have := hK (some ⟨g, 0, none⟩) 1 1 (by rw [h]; rfl)
    rw [h] at this; exact this
  have nx2 : ∀ x y, insNexts k i = [x, y] → ∀ g, K (.slice (some ⟨g, 0, none⟩) 2 2) ρ (E.arr 3 1 (some ⟨g, 0, none⟩) 2 2 [.int .i64 x, .int .i64 y] :: M) := fun x y h g => by
    have := hK (some ⟨g, 0, none⟩) 2 2 (by rw [h]; rfl)
    rw [h] at this; exact this
  refine E.Hoa.enter 27 Try.func86 rfl rfl rfl ?_
  (repeat refine E.Run.seq ?_)
  refine E.Run.region ?_
  refine E.Ops.q _ (E.q_mv rfl rfl) rfl rfl ?_
  refine E.Ops.nil ?_
  try simp only [E.tn, E.tx, E.tr, E.bn, E.br, E.bs]
  (repeat refine E.Run.seq ?_)
  refine E.Run.region ?_
  refine E.Ops.q _ (E.q_move rfl rfl) rfl rfl ?_
  refine E.Ops.q _ (E.q_move rfl rfl) rfl rfl ?_
  first | refine E.Ops.q _ (E.q_indexNat rfl rfl rfl so_45 (by first | assumption | omega)) rfl rfl ?_ | refine E.Ops.q _ (E.q_indexAddr rfl rfl rfl so_45 (by omega) (by omega)) rfl rfl ?_
  refine E.Ops.q _ (E.q_load rfl rfl (by exact E.LoadAt.roAgg ag_44 hc' rfl)) rfl rfl ?_
  refine E.Ops.loud rfl rfl ?_
  refine E.l_alloc rfl ty_44 (fun b1_4 => ?_)
  refine E.Ops.loud rfl rfl ?_
  refine E.l_store rfl rfl rfl E.ixA 4 sz_44 (by rfl) (by rfl) (by rfl) (by rfl) ?_
  refine E.Ops.nil ?_
  try simp only [E.tn, E.tx, E.tr, E.bn, E.br, E.bs]
  (repeat refine E.Run.seq ?_)
  refine E.Run.region ?_
  first | refine E.Ops.q _ (E.q_fieldAddr' rfl rfl fo_44_0) rfl rfl ?_ | refine E.Ops.q _ (E.q_fieldAddr rfl rfl fo_44_0) rfl rfl ?_
  refine E.Ops.q _ (E.q_load rfl rfl (by first | refine E.LoadAt.own E.ixA sc_3 (by rfl) | exact E.LoadAt.ro sc_3 (by assumption) | exact E.LoadAt.arr E.ixA sc_3 (by assumption))) rfl rfl ?_
  refine E.Ops.part (E.q_eql rfl rfl rfl) rfl rfl (fun h2_2 => ?T1) (fun h2_2 => ?F1)
  case' F1 =>
    refine E.Ops.nil ?_
    try simp only [E.tn, E.tx, E.tr, E.bn, E.br, E.bs]
    (repeat refine E.Run.seq ?_)
    (repeat refine E.Run.seq ?_); refine E.Run.condF rfl ?_
    refine E.Run.skip ?_
    try simp only [E.tn, E.tx, E.tr, E.bn, E.br, E.bs]
    (repeat refine E.Run.seq ?_)
    refine E.Run.region ?_
    first | refine E.Ops.q _ (E.q_fieldAddr' rfl rfl fo_44_0) rfl rfl ?_ | refine E.Ops.q _ (E.q_fieldAddr rfl rfl fo_44_0) rfl rfl ?_
    refine E.Ops.q _ (E.q_load rfl rfl (by first | refine E.LoadAt.own E.ixA sc_3 (by rfl) | exact E.LoadAt.ro sc_3 (by assumption) | exact E.LoadAt.arr E.ixA sc_3 (by assumption))) rfl rfl ?_
    refine E.Ops.part (E.q_eql rfl rfl rfl) rfl rfl (fun h4_2 => ?T2) (fun h4_2 => ?F2)
    case' F2 =>
      refine E.Ops.nil ?_
      try simp only [E.tn, E.tx, E.tr, E.bn, E.br, E.bs]
      (repeat refine E.Run.seq ?_)
      (repeat refine E.Run.seq ?_); refine E.Run.condF rfl ?_
      refine E.Run.skip ?_
      try simp only [E.tn, E.tx, E.tr, E.bn, E.br, E.bs]
      (repeat refine E.Run.seq ?_)
      refine E.Run.region ?_
      refine E.Ops.q _ (E.q_move rfl rfl) rfl rfl ?_
      first | refine E.Ops.q _ (E.q_incr rfl rfl (by omega)) rfl rfl ?_ | refine E.Ops.q _ (E.q_addFit rfl rfl rfl (by omega)) rfl rfl ?_ | refine E.Ops.q _ (E.q_add rfl rfl rfl) rfl rfl ?_
      refine E.Ops.loud rfl rfl ?_
      refine E.l_slice rfl rfl Try.underlying23 ty_3 rfl rfl rfl rfl rfl rfl (fun g6_2 => ?_)
      refine E.Ops.q _ (E.q_mv rfl rfl) rfl rfl ?_
      refine E.Ops.nil ?_
      try simp only [E.tn, E.tx, E.tr, E.bn, E.br, E.bs]
      refine E.Run.ret ?_
      try simp only [E.tn, E.tx, E.tr, E.bn, E.br, E.bs]
      exact ⟨_, _, _, E.ResOk.one rfl rfl, E.Ent.of E.entA, nx1 (k + 1) (by unfold insNexts; (repeat' split) <;> first | rfl | (exfalso; omega)) _⟩
    case' T2 =>
      refine E.Ops.nil ?_
      try simp only [E.tn, E.tx, E.tr, E.bn, E.br, E.bs]
      (repeat refine E.Run.seq ?_)
      (repeat refine E.Run.seq ?_); refine E.Run.condT rfl ?_
      (repeat refine E.Run.seq ?_)
      refine E.Run.region ?_
      refine E.Ops.q _ (E.q_move rfl rfl) rfl rfl ?_
      first | refine E.Ops.q _ (E.q_incr rfl rfl (by omega)) rfl rfl ?_ | refine E.Ops.q _ (E.q_addFit rfl rfl rfl (by omega)) rfl rfl ?_ | refine E.Ops.q _ (E.q_add rfl rfl rfl) rfl rfl ?_
      first | refine E.Ops.q _ (E.q_fieldAddr' rfl rfl fo_44_2) rfl rfl ?_ | refine E.Ops.q _ (E.q_fieldAddr rfl rfl fo_44_2) rfl rfl ?_
      refine E.Ops.q _ (E.q_load rfl rfl (by first | refine E.LoadAt.own E.ixA sc_3 (by rfl) | exact E.LoadAt.ro sc_3 (by assumption) | exact E.LoadAt.arr E.ixA sc_3 (by assumption))) rfl rfl ?_
      refine E.Ops.loud rfl rfl ?_
      refine E.l_slice rfl rfl Try.underlying23 ty_3 rfl rfl rfl rfl rfl rfl (fun g5_4 => ?_)
      refine E.Ops.q _ (E.q_mv rfl rfl) rfl rfl ?_
      refine E.Ops.nil ?_
      try simp only [E.tn, E.tx, E.tr, E.bn, E.br, E.bs]
      refine E.Run.ret ?_
      try simp only [E.tn, E.tx, E.tr, E.bn, E.br, E.bs]
      exact ⟨_, _, _, E.ResOk.one rfl rfl, E.Ent.of E.entA, nx2 (k + 1) i.b (by unfold insNexts; (repeat' split) <;> first | rfl | (exfalso; omega)) _⟩
  case' T1 =>
    refine E.Ops.nil ?_
    try simp only [E.tn, E.tx, E.tr, E.bn, E.br, E.bs]
    (repeat refine E.Run.seq ?_)
    (repeat refine E.Run.seq ?_); refine E.Run.condT rfl ?_
    (repeat refine E.Run.seq ?_)
    refine E.Run.region ?_
    first | refine E.Ops.q _ (E.q_fieldAddr' rfl rfl fo_44_1) rfl rfl ?_ | refine E.Ops.q _ (E.q_fieldAddr rfl rfl fo_44_1) rfl rfl ?_
    refine E.Ops.q _ (E.q_load rfl rfl (by first | refine E.LoadAt.own E.ixA sc_3 (by rfl) | exact E.LoadAt.ro sc_3 (by assumption) | exact E.LoadAt.arr E.ixA sc_3 (by assumption))) rfl rfl ?_
    refine E.Ops.loud rfl rfl ?_
    refine E.l_slice rfl rfl Try.underlying23 ty_3 rfl rfl rfl rfl rfl rfl (fun g3_2 => ?_)
    refine E.Ops.q _ (E.q_mv rfl rfl) rfl rfl ?_
    refine E.Ops.nil ?_
    try simp only [E.tn, E.tx, E.tr, E.bn, E.br, E.bs]
    refine E.Run.ret ?_
    try simp only [E.tn, E.tx, E.tr, E.bn, E.br, E.bs]
    exact ⟨_, _, _, E.ResOk.one rfl rfl, E.Ent.of E.entA, nx1 i.a (by unfold insNexts; (repeat' split) <;> first | rfl | (exfalso; omega)) _⟩

/-- what the document says an order reads -/
def r13Reads (i : E.Ins) : List Int := if i.op = 2 ∨ i.op = 10 then [i.b] else if i.op = 3 ∨ i.op = 4 ∨ i.op = 5 ∨ i.op = 6 ∨ i.op = 7 ∨ i.op = 13 then [i.b, i.c] else if i.op = 9 then [i.b]
  else if i.op = 11 then [i.a, i.b] else if i.op = 16 ∨ i.op = 15 then [i.a] else []
set_option maxRecDepth 100000 in
theorem rReads {ρ : E.Ro} {M : List E.Asr} {K : Value → E.Ro → List E.Asr → Prop} (i : E.Ins)
    (hK : ∀ A c n, n = (r13Reads i).length → K (.slice A n c) ρ (E.arr 3 1 A n c ((r13Reads i).flatMap E.encI) :: M)) :
    E.Hoa Try.prog 138 #[.agg (E.encIns i).toArray] ρ M K := by
  have nx0 : r13Reads i = [] → K (.slice none 0 0) ρ (E.arr 3 1 none 0 0 [] :: M) := fun h => by
    have := hK none 0 0 (by rw [h]; rfl)
    rw [h] at this; exact this
  have nx1 : ∀ x, r13Reads i = [x] → ∀ g, K (.slice (some ⟨g, 0, none⟩) 1 1) ρ (E.arr 3 1 (some ⟨g, 0, none⟩) 1 1 [.int .i64 x] :: M) := fun x h g => by
    have := hK (some ⟨g, 0, none⟩) 1 1 (by rw [h]; rfl)
    rw [h] at this; exact this
  have nx2 : ∀ x y, r13Reads i = [x, y] → ∀ g, K (.slice (some ⟨g, 0, none⟩) 2 2) ρ (E.arr 3 1 (some ⟨g, 0, none⟩) 2 2 [.int .i64 x, .int .i64 y] :: M) := fun x y h g => by
    have := hK (some ⟨g, 0, none⟩) 2 2 (by rw [h]; rfl)
    rw [h] at this; exact this
  refine E.Hoa.enter 41 Try.func138 rfl rfl rfl ?_
  (repeat refine E.Run.seq ?_)
  refine E.Run.region ?_
  refine E.Ops.loud rfl rfl ?_
  refine E.l_box rfl rfl (fun b0_0 => ?_)
  refine E.Ops.q _ (E.q_mv rfl rfl) rfl rfl ?_
  refine E.Ops.nil ?_
  try simp only [E.tn, E.tx, E.tr, E.bn, E.br, E.bs]
  (repeat refine E.Run.seq ?_)
  refine E.Run.region ?_
  first | refine E.Ops.q _ (E.q_fieldAddr' rfl rfl fo_44_0) rfl rfl ?_ | refine E.Ops.q _ (E.q_fieldAddr rfl rfl fo_44_0) rfl rfl ?_
  refine E.Ops.q _ (E.q_load rfl rfl (by first | refine E.LoadAt.own E.ixA sc_3 (by rfl) | exact E.LoadAt.ro sc_3 (by assumption) | exact E.LoadAt.arr E.ixA sc_3 (by assumption))) rfl rfl ?_
  refine E.Ops.nil ?_
  try simp only [E.tn, E.tx, E.tr, E.bn, E.br, E.bs]
  (repeat refine E.Run.seq ?_)
  (repeat refine E.Run.seq ?_); refine E.Run.block ?_
  (repeat refine E.Run.seq ?_)
  refine E.Run.region ?_
  refine E.Ops.part (E.q_eql rfl rfl rfl) rfl rfl (fun h2_0 => ?T3) (fun h2_0 => ?F3)
  case' F3 =>
    refine E.Ops.q _ (E.q_mv rfl rfl) rfl rfl ?_
    refine E.Ops.nil ?_
    try simp only [E.tn, E.tx, E.tr, E.bn, E.br, E.bs]
    (repeat refine E.Run.seq ?_)
    (repeat refine E.Run.seq ?_); refine E.Run.condF rfl ?_
    (repeat refine E.Run.seq ?_)
    refine E.Run.region ?_
    refine E.Ops.part (E.q_eql rfl rfl rfl) rfl rfl (fun h3_0 => ?T4) (fun h3_0 => ?F4)
    case' F4 =>
      refine E.Ops.q _ (E.q_mv rfl rfl) rfl rfl ?_
      refine E.Ops.nil ?_
      try simp only [E.tn, E.tx, E.tr, E.bn, E.br, E.bs]
      (repeat refine E.Run.seq ?_)
      (repeat refine E.Run.seq ?_); refine E.Run.condF rfl ?_
      (repeat refine E.Run.seq ?_)
      refine E.Run.region ?_
      refine E.Ops.part (E.q_eql rfl rfl rfl) rfl rfl (fun h5_0 => ?T5) (fun h5_0 => ?F5)
      case' F5 =>
        refine E.Ops.q _ (E.q_mv rfl rfl) rfl rfl ?_
        refine E.Ops.nil ?_
        try simp only [E.tn, E.tx, E.tr, E.bn, E.br, E.bs]
        (repeat refine E.Run.seq ?_)
        (repeat refine E.Run.seq ?_); refine E.Run.condF rfl ?_
        (repeat refine E.Run.seq ?_)
        refine E.Run.region ?_
        refine E.Ops.part (E.q_eql rfl rfl rfl) rfl rfl (fun h6_0 => ?T6) (fun h6_0 => ?F6)
        case' F6 =>
          refine E.Ops.q _ (E.q_mv rfl rfl) rfl rfl ?_
          refine E.Ops.nil ?_
          try simp only [E.tn, E.tx, E.tr, E.bn, E.br, E.bs]
          (repeat refine E.Run.seq ?_)
          (repeat refine E.Run.seq ?_); refine E.Run.condF rfl ?_
          (repeat refine E.Run.seq ?_)
          refine E.Run.region ?_
          refine E.Ops.part (E.q_eql rfl rfl rfl) rfl rfl (fun h7_0 => ?T7) (fun h7_0 => ?F7)
          case' F7 =>
            refine E.Ops.q _ (E.q_mv rfl rfl) rfl rfl ?_
            refine E.Ops.nil ?_
            try simp only [E.tn, E.tx, E.tr, E.bn, E.br, E.bs]
            (repeat refine E.Run.seq ?_)
            (repeat refine E.Run.seq ?_); refine E.Run.condF rfl ?_
            (repeat refine E.Run.seq ?_)
            refine E.Run.region ?_
            refine E.Ops.part (E.q_eql rfl rfl rfl) rfl rfl (fun h8_0 => ?T8) (fun h8_0 => ?F8)
            case' F8 =>
              refine E.Ops.q _ (E.q_mv rfl rfl) rfl rfl ?_
              refine E.Ops.nil ?_
              try simp only [E.tn, E.tx, E.tr, E.bn, E.br, E.bs]
              (repeat refine E.Run.seq ?_)
              (repeat refine E.Run.seq ?_); refine E.Run.condF rfl ?_
              (repeat refine E.Run.seq ?_)
              refine E.Run.region ?_
              refine E.Ops.part (E.q_eql rfl rfl rfl) rfl rfl (fun h9_0 => ?T9) (fun h9_0 => ?F9)
              case' F9 =>
                refine E.Ops.q _ (E.q_mv rfl rfl) rfl rfl ?_
                refine E.Ops.nil ?_
                try simp only [E.tn, E.tx, E.tr, E.bn, E.br, E.bs]
                (repeat refine E.Run.seq ?_)
                (repeat refine E.Run.seq ?_); refine E.Run.condF rfl ?_
                (repeat refine E.Run.seq ?_)
                refine E.Run.region ?_
                refine E.Ops.part (E.q_eql rfl rfl rfl) rfl rfl (fun h10_0 => ?T10) (fun h10_0 => ?F10)
                case' F10 =>
                  refine E.Ops.q _ (E.q_mv rfl rfl) rfl rfl ?_
                  refine E.Ops.nil ?_
                  try simp only [E.tn, E.tx, E.tr, E.bn, E.br, E.bs]
                  (repeat refine E.Run.seq ?_)
                  (repeat refine E.Run.seq ?_); refine E.Run.condF rfl ?_
                  (repeat refine E.Run.seq ?_)
                  refine E.Run.region ?_
                  refine E.Ops.part (E.q_eql rfl rfl rfl) rfl rfl (fun h12_0 => ?T11) (fun h12_0 => ?F11)
                  case' F11 =>
                    refine E.Ops.q _ (E.q_mv rfl rfl) rfl rfl ?_
                    refine E.Ops.nil ?_
                    try simp only [E.tn, E.tx, E.tr, E.bn, E.br, E.bs]
                    (repeat refine E.Run.seq ?_)
                    (repeat refine E.Run.seq ?_); refine E.Run.condF rfl ?_
                    (repeat refine E.Run.seq ?_)
                    refine E.Run.region ?_
                    refine E.Ops.part (E.q_eql rfl rfl rfl) rfl rfl (fun h14_0 => ?T12) (fun h14_0 => ?F12)
                    case' F12 =>
                      refine E.Ops.q _ (E.q_mv rfl rfl) rfl rfl ?_
                      refine E.Ops.nil ?_
                      try simp only [E.tn, E.tx, E.tr, E.bn, E.br, E.bs]
                      (repeat refine E.Run.seq ?_)
                      (repeat refine E.Run.seq ?_); refine E.Run.condF rfl ?_
                      (repeat refine E.Run.seq ?_)
                      refine E.Run.region ?_
                      refine E.Ops.part (E.q_eql rfl rfl rfl) rfl rfl (fun h16_0 => ?T13) (fun h16_0 => ?F13)
                      case' F13 =>
                        refine E.Ops.q _ (E.q_mv rfl rfl) rfl rfl ?_
                        refine E.Ops.nil ?_
                        try simp only [E.tn, E.tx, E.tr, E.bn, E.br, E.bs]
                        (repeat refine E.Run.seq ?_)
                        (repeat refine E.Run.seq ?_); refine E.Run.condF rfl ?_
                        (repeat refine E.Run.seq ?_)
                        refine E.Run.region ?_
                        refine E.Ops.part (E.q_eql rfl rfl rfl) rfl rfl (fun h17_0 => ?T14) (fun h17_0 => ?F14)
                        case' F14 =>
                          refine E.Ops.q _ (E.q_mv rfl rfl) rfl rfl ?_
                          refine E.Ops.nil ?_
                          try simp only [E.tn, E.tx, E.tr, E.bn, E.br, E.bs]
                          (repeat refine E.Run.seq ?_)
                          (repeat refine E.Run.seq ?_); refine E.Run.condF rfl ?_
                          refine E.Run.skip ?_
                          try simp only [E.tn, E.tx, E.tr, E.bn, E.br, E.bs]
                          (repeat refine E.Run.seq ?_)
                          refine E.Run.region ?_
                          refine E.Ops.q _ (E.q_mv rfl rfl) rfl rfl ?_
                          refine E.Ops.nil ?_
                          try simp only [E.tn, E.tx, E.tr, E.bn, E.br, E.bs]
                          refine E.Run.ret ?_
                          try simp only [E.tn, E.tx, E.tr, E.bn, E.br, E.bs]
                          exact ⟨_, _, _, E.ResOk.one rfl rfl, E.Ent.of (E.SEnt.addNil E.entA), nx0 (by unfold r13Reads; (repeat' split) <;> first | rfl | (exfalso; omega))⟩
                        case' T14 =>
                          refine E.Ops.q _ (E.q_mv rfl rfl) rfl rfl ?_
                          refine E.Ops.nil ?_
                          try simp only [E.tn, E.tx, E.tr, E.bn, E.br, E.bs]
                          (repeat refine E.Run.seq ?_)
                          (repeat refine E.Run.seq ?_); refine E.Run.condT rfl ?_
                          (repeat refine E.Run.seq ?_)
                          refine E.Run.region ?_
                          first | refine E.Ops.q _ (E.q_fieldAddr' rfl rfl fo_44_1) rfl rfl ?_ | refine E.Ops.q _ (E.q_fieldAddr rfl rfl fo_44_1) rfl rfl ?_
                          refine E.Ops.q _ (E.q_load rfl rfl (by first | refine E.LoadAt.own E.ixA sc_3 (by rfl) | exact E.LoadAt.ro sc_3 (by assumption) | exact E.LoadAt.arr E.ixA sc_3 (by assumption))) rfl rfl ?_
                          refine E.Ops.loud rfl rfl ?_
                          refine E.l_slice rfl rfl Try.underlying23 ty_3 rfl rfl rfl rfl rfl rfl (fun g18_2 => ?_)
                          refine E.Ops.q _ (E.q_mv rfl rfl) rfl rfl ?_
                          refine E.Ops.nil ?_
                          try simp only [E.tn, E.tx, E.tr, E.bn, E.br, E.bs]
                          refine E.Run.ret ?_
                          try simp only [E.tn, E.tx, E.tr, E.bn, E.br, E.bs]
                          exact ⟨_, _, _, E.ResOk.one rfl rfl, E.Ent.of E.entA, nx1 i.a (by unfold r13Reads; (repeat' split) <;> first | rfl | (exfalso; omega)) _⟩
                      case' T13 =>
                        refine E.Ops.q _ (E.q_mv rfl rfl) rfl rfl ?_
                        refine E.Ops.nil ?_
                        try simp only [E.tn, E.tx, E.tr, E.bn, E.br, E.bs]
                        (repeat refine E.Run.seq ?_)
                        (repeat refine E.Run.seq ?_); refine E.Run.condT rfl ?_
                        refine E.Run.skip ?_
                        try simp only [E.tn, E.tx, E.tr, E.bn, E.br, E.bs]
                        (repeat refine E.Run.seq ?_)
                        (repeat refine E.Run.seq ?_); refine E.Run.condT rfl ?_
                        (repeat refine E.Run.seq ?_)
                        refine E.Run.region ?_
                        first | refine E.Ops.q _ (E.q_fieldAddr' rfl rfl fo_44_1) rfl rfl ?_ | refine E.Ops.q _ (E.q_fieldAddr rfl rfl fo_44_1) rfl rfl ?_
                        refine E.Ops.q _ (E.q_load rfl rfl (by first | refine E.LoadAt.own E.ixA sc_3 (by rfl) | exact E.LoadAt.ro sc_3 (by assumption) | exact E.LoadAt.arr E.ixA sc_3 (by assumption))) rfl rfl ?_
                        refine E.Ops.loud rfl rfl ?_
                        refine E.l_slice rfl rfl Try.underlying23 ty_3 rfl rfl rfl rfl rfl rfl (fun g18_2 => ?_)
                        refine E.Ops.q _ (E.q_mv rfl rfl) rfl rfl ?_
                        refine E.Ops.nil ?_
                        try simp only [E.tn, E.tx, E.tr, E.bn, E.br, E.bs]
                        refine E.Run.ret ?_
                        try simp only [E.tn, E.tx, E.tr, E.bn, E.br, E.bs]
                        exact ⟨_, _, _, E.ResOk.one rfl rfl, E.Ent.of E.entA, nx1 i.a (by unfold r13Reads; (repeat' split) <;> first | rfl | (exfalso; omega)) _⟩
                    case' T12 =>
                      refine E.Ops.q _ (E.q_mv rfl rfl) rfl rfl ?_
                      refine E.Ops.nil ?_
                      try simp only [E.tn, E.tx, E.tr, E.bn, E.br, E.bs]
                      (repeat refine E.Run.seq ?_)
                      (repeat refine E.Run.seq ?_); refine E.Run.condT rfl ?_
                      (repeat refine E.Run.seq ?_)
                      refine E.Run.region ?_
                      first | refine E.Ops.q _ (E.q_fieldAddr' rfl rfl fo_44_1) rfl rfl ?_ | refine E.Ops.q _ (E.q_fieldAddr rfl rfl fo_44_1) rfl rfl ?_
                      refine E.Ops.q _ (E.q_load rfl rfl (by first | refine E.LoadAt.own E.ixA sc_3 (by rfl) | exact E.LoadAt.ro sc_3 (by assumption) | exact E.LoadAt.arr E.ixA sc_3 (by assumption))) rfl rfl ?_
                      first | refine E.Ops.q _ (E.q_fieldAddr' rfl rfl fo_44_2) rfl rfl ?_ | refine E.Ops.q _ (E.q_fieldAddr rfl rfl fo_44_2) rfl rfl ?_
                      refine E.Ops.q _ (E.q_load rfl rfl (by first | refine E.LoadAt.own E.ixA sc_3 (by rfl) | exact E.LoadAt.ro sc_3 (by assumption) | exact E.LoadAt.arr E.ixA sc_3 (by assumption))) rfl rfl ?_
                      refine E.Ops.loud rfl rfl ?_
                      refine E.l_slice rfl rfl Try.underlying23 ty_3 rfl rfl rfl rfl rfl rfl (fun g15_4 => ?_)
                      refine E.Ops.q _ (E.q_mv rfl rfl) rfl rfl ?_
                      refine E.Ops.nil ?_
                      try simp only [E.tn, E.tx, E.tr, E.bn, E.br, E.bs]
                      refine E.Run.ret ?_
                      try simp only [E.tn, E.tx, E.tr, E.bn, E.br, E.bs]
                      exact ⟨_, _, _, E.ResOk.one rfl rfl, E.Ent.of E.entA, nx2 i.a i.b (by unfold r13Reads; (repeat' split) <;> first | rfl | (exfalso; omega)) _⟩
                  case' T11 =>
                    refine E.Ops.q _ (E.q_mv rfl rfl) rfl rfl ?_
                    refine E.Ops.nil ?_
                    try simp only [E.tn, E.tx, E.tr, E.bn, E.br, E.bs]
                    (repeat refine E.Run.seq ?_)
                    (repeat refine E.Run.seq ?_); refine E.Run.condT rfl ?_
                    (repeat refine E.Run.seq ?_)
                    refine E.Run.region ?_
                    first | refine E.Ops.q _ (E.q_fieldAddr' rfl rfl fo_44_2) rfl rfl ?_ | refine E.Ops.q _ (E.q_fieldAddr rfl rfl fo_44_2) rfl rfl ?_
                    refine E.Ops.q _ (E.q_load rfl rfl (by first | refine E.LoadAt.own E.ixA sc_3 (by rfl) | exact E.LoadAt.ro sc_3 (by assumption) | exact E.LoadAt.arr E.ixA sc_3 (by assumption))) rfl rfl ?_
                    refine E.Ops.loud rfl rfl ?_
                    refine E.l_slice rfl rfl Try.underlying23 ty_3 rfl rfl rfl rfl rfl rfl (fun g13_2 => ?_)
                    refine E.Ops.q _ (E.q_mv rfl rfl) rfl rfl ?_
                    refine E.Ops.nil ?_
                    try simp only [E.tn, E.tx, E.tr, E.bn, E.br, E.bs]
                    refine E.Run.ret ?_
                    try simp only [E.tn, E.tx, E.tr, E.bn, E.br, E.bs]
                    exact ⟨_, _, _, E.ResOk.one rfl rfl, E.Ent.of E.entA, nx1 i.b (by unfold r13Reads; (repeat' split) <;> first | rfl | (exfalso; omega)) _⟩
                case' T10 =>
                  refine E.Ops.q _ (E.q_mv rfl rfl) rfl rfl ?_
                  refine E.Ops.nil ?_
                  try simp only [E.tn, E.tx, E.tr, E.bn, E.br, E.bs]
                  (repeat refine E.Run.seq ?_)
                  (repeat refine E.Run.seq ?_); refine E.Run.condT rfl ?_
                  (repeat refine E.Run.seq ?_)
                  refine E.Run.region ?_
                  first | refine E.Ops.q _ (E.q_fieldAddr' rfl rfl fo_44_2) rfl rfl ?_ | refine E.Ops.q _ (E.q_fieldAddr rfl rfl fo_44_2) rfl rfl ?_
                  refine E.Ops.q _ (E.q_load rfl rfl (by first | refine E.LoadAt.own E.ixA sc_3 (by rfl) | exact E.LoadAt.ro sc_3 (by assumption) | exact E.LoadAt.arr E.ixA sc_3 (by assumption))) rfl rfl ?_
                  first | refine E.Ops.q _ (E.q_fieldAddr' rfl rfl fo_44_3) rfl rfl ?_ | refine E.Ops.q _ (E.q_fieldAddr rfl rfl fo_44_3) rfl rfl ?_
                  refine E.Ops.q _ (E.q_load rfl rfl (by first | refine E.LoadAt.own E.ixA sc_3 (by rfl) | exact E.LoadAt.ro sc_3 (by assumption) | exact E.LoadAt.arr E.ixA sc_3 (by assumption))) rfl rfl ?_
                  refine E.Ops.loud rfl rfl ?_
                  refine E.l_slice rfl rfl Try.underlying23 ty_3 rfl rfl rfl rfl rfl rfl (fun g11_4 => ?_)
                  refine E.Ops.q _ (E.q_mv rfl rfl) rfl rfl ?_
                  refine E.Ops.nil ?_
                  try simp only [E.tn, E.tx, E.tr, E.bn, E.br, E.bs]
                  refine E.Run.ret ?_
                  try simp only [E.tn, E.tx, E.tr, E.bn, E.br, E.bs]
                  exact ⟨_, _, _, E.ResOk.one rfl rfl, E.Ent.of E.entA, nx2 i.b i.c (by unfold r13Reads; (repeat' split) <;> first | rfl | (exfalso; omega)) _⟩
              case' T9 =>
                refine E.Ops.q _ (E.q_mv rfl rfl) rfl rfl ?_
                refine E.Ops.nil ?_
                try simp only [E.tn, E.tx, E.tr, E.bn, E.br, E.bs]
                (repeat refine E.Run.seq ?_)
                (repeat refine E.Run.seq ?_); refine E.Run.condT rfl ?_
                refine E.Run.skip ?_
                try simp only [E.tn, E.tx, E.tr, E.bn, E.br, E.bs]
                (repeat refine E.Run.seq ?_)
                (repeat refine E.Run.seq ?_); refine E.Run.condT rfl ?_
                (repeat refine E.Run.seq ?_)
                refine E.Run.region ?_
                first | refine E.Ops.q _ (E.q_fieldAddr' rfl rfl fo_44_2) rfl rfl ?_ | refine E.Ops.q _ (E.q_fieldAddr rfl rfl fo_44_2) rfl rfl ?_
                refine E.Ops.q _ (E.q_load rfl rfl (by first | refine E.LoadAt.own E.ixA sc_3 (by rfl) | exact E.LoadAt.ro sc_3 (by assumption) | exact E.LoadAt.arr E.ixA sc_3 (by assumption))) rfl rfl ?_
                first | refine E.Ops.q _ (E.q_fieldAddr' rfl rfl fo_44_3) rfl rfl ?_ | refine E.Ops.q _ (E.q_fieldAddr rfl rfl fo_44_3) rfl rfl ?_
                refine E.Ops.q _ (E.q_load rfl rfl (by first | refine E.LoadAt.own E.ixA sc_3 (by rfl) | exact E.LoadAt.ro sc_3 (by assumption) | exact E.LoadAt.arr E.ixA sc_3 (by assumption))) rfl rfl ?_
                refine E.Ops.loud rfl rfl ?_
                refine E.l_slice rfl rfl Try.underlying23 ty_3 rfl rfl rfl rfl rfl rfl (fun g11_4 => ?_)
                refine E.Ops.q _ (E.q_mv rfl rfl) rfl rfl ?_
                refine E.Ops.nil ?_
                try simp only [E.tn, E.tx, E.tr, E.bn, E.br, E.bs]
                refine E.Run.ret ?_
                try simp only [E.tn, E.tx, E.tr, E.bn, E.br, E.bs]
                exact ⟨_, _, _, E.ResOk.one rfl rfl, E.Ent.of E.entA, nx2 i.b i.c (by unfold r13Reads; (repeat' split) <;> first | rfl | (exfalso; omega)) _⟩
            case' T8 =>
              refine E.Ops.q _ (E.q_mv rfl rfl) rfl rfl ?_
              refine E.Ops.nil ?_
              try simp only [E.tn, E.tx, E.tr, E.bn, E.br, E.bs]
              (repeat refine E.Run.seq ?_)
              (repeat refine E.Run.seq ?_); refine E.Run.condT rfl ?_
              refine E.Run.skip ?_
              try simp only [E.tn, E.tx, E.tr, E.bn, E.br, E.bs]
              (repeat refine E.Run.seq ?_)
              (repeat refine E.Run.seq ?_); refine E.Run.condT rfl ?_
              (repeat refine E.Run.seq ?_)
              refine E.Run.region ?_
              first | refine E.Ops.q _ (E.q_fieldAddr' rfl rfl fo_44_2) rfl rfl ?_ | refine E.Ops.q _ (E.q_fieldAddr rfl rfl fo_44_2) rfl rfl ?_
              refine E.Ops.q _ (E.q_load rfl rfl (by first | refine E.LoadAt.own E.ixA sc_3 (by rfl) | exact E.LoadAt.ro sc_3 (by assumption) | exact E.LoadAt.arr E.ixA sc_3 (by assumption))) rfl rfl ?_
              first | refine E.Ops.q _ (E.q_fieldAddr' rfl rfl fo_44_3) rfl rfl ?_ | refine E.Ops.q _ (E.q_fieldAddr rfl rfl fo_44_3) rfl rfl ?_
              refine E.Ops.q _ (E.q_load rfl rfl (by first | refine E.LoadAt.own E.ixA sc_3 (by rfl) | exact E.LoadAt.ro sc_3 (by assumption) | exact E.LoadAt.arr E.ixA sc_3 (by assumption))) rfl rfl ?_
              refine E.Ops.loud rfl rfl ?_
              refine E.l_slice rfl rfl Try.underlying23 ty_3 rfl rfl rfl rfl rfl rfl (fun g11_4 => ?_)
              refine E.Ops.q _ (E.q_mv rfl rfl) rfl rfl ?_
              refine E.Ops.nil ?_
              try simp only [E.tn, E.tx, E.tr, E.bn, E.br, E.bs]
              refine E.Run.ret ?_
              try simp only [E.tn, E.tx, E.tr, E.bn, E.br, E.bs]
              exact ⟨_, _, _, E.ResOk.one rfl rfl, E.Ent.of E.entA, nx2 i.b i.c (by unfold r13Reads; (repeat' split) <;> first | rfl | (exfalso; omega)) _⟩
          case' T7 =>
            refine E.Ops.q _ (E.q_mv rfl rfl) rfl rfl ?_
            refine E.Ops.nil ?_
            try simp only [E.tn, E.tx, E.tr, E.bn, E.br, E.bs]
            (repeat refine E.Run.seq ?_)
            (repeat refine E.Run.seq ?_); refine E.Run.condT rfl ?_
            refine E.Run.skip ?_
            try simp only [E.tn, E.tx, E.tr, E.bn, E.br, E.bs]
            (repeat refine E.Run.seq ?_)
            (repeat refine E.Run.seq ?_); refine E.Run.condT rfl ?_
            (repeat refine E.Run.seq ?_)
            refine E.Run.region ?_
            first | refine E.Ops.q _ (E.q_fieldAddr' rfl rfl fo_44_2) rfl rfl ?_ | refine E.Ops.q _ (E.q_fieldAddr rfl rfl fo_44_2) rfl rfl ?_
            refine E.Ops.q _ (E.q_load rfl rfl (by first | refine E.LoadAt.own E.ixA sc_3 (by rfl) | exact E.LoadAt.ro sc_3 (by assumption) | exact E.LoadAt.arr E.ixA sc_3 (by assumption))) rfl rfl ?_
            first | refine E.Ops.q _ (E.q_fieldAddr' rfl rfl fo_44_3) rfl rfl ?_ | refine E.Ops.q _ (E.q_fieldAddr rfl rfl fo_44_3) rfl rfl ?_
            refine E.Ops.q _ (E.q_load rfl rfl (by first | refine E.LoadAt.own E.ixA sc_3 (by rfl) | exact E.LoadAt.ro sc_3 (by assumption) | exact E.LoadAt.arr E.ixA sc_3 (by assumption))) rfl rfl ?_
            refine E.Ops.loud rfl rfl ?_
            refine E.l_slice rfl rfl Try.underlying23 ty_3 rfl rfl rfl rfl rfl rfl (fun g11_4 => ?_)
            refine E.Ops.q _ (E.q_mv rfl rfl) rfl rfl ?_
            refine E.Ops.nil ?_
            try simp only [E.tn, E.tx, E.tr, E.bn, E.br, E.bs]
            refine E.Run.ret ?_
            try simp only [E.tn, E.tx, E.tr, E.bn, E.br, E.bs]
            exact ⟨_, _, _, E.ResOk.one rfl rfl, E.Ent.of E.entA, nx2 i.b i.c (by unfold r13Reads; (repeat' split) <;> first | rfl | (exfalso; omega)) _⟩
        case' T6 =>
          refine E.Ops.q _ (E.q_mv rfl rfl) rfl rfl ?_
          refine E.Ops.nil ?_
          try simp only [E.tn, E.tx, E.tr, E.bn, E.br, E.bs]
          (repeat refine E.Run.seq ?_)
          (repeat refine E.Run.seq ?_); refine E.Run.condT rfl ?_
          refine E.Run.skip ?_
          try simp only [E.tn, E.tx, E.tr, E.bn, E.br, E.bs]
          (repeat refine E.Run.seq ?_)
          (repeat refine E.Run.seq ?_); refine E.Run.condT rfl ?_
          (repeat refine E.Run.seq ?_)
          refine E.Run.region ?_
          first | refine E.Ops.q _ (E.q_fieldAddr' rfl rfl fo_44_2) rfl rfl ?_ | refine E.Ops.q _ (E.q_fieldAddr rfl rfl fo_44_2) rfl rfl ?_
          refine E.Ops.q _ (E.q_load rfl rfl (by first | refine E.LoadAt.own E.ixA sc_3 (by rfl) | exact E.LoadAt.ro sc_3 (by assumption) | exact E.LoadAt.arr E.ixA sc_3 (by assumption))) rfl rfl ?_
          first | refine E.Ops.q _ (E.q_fieldAddr' rfl rfl fo_44_3) rfl rfl ?_ | refine E.Ops.q _ (E.q_fieldAddr rfl rfl fo_44_3) rfl rfl ?_
          refine E.Ops.q _ (E.q_load rfl rfl (by first | refine E.LoadAt.own E.ixA sc_3 (by rfl) | exact E.LoadAt.ro sc_3 (by assumption) | exact E.LoadAt.arr E.ixA sc_3 (by assumption))) rfl rfl ?_
          refine E.Ops.loud rfl rfl ?_
          refine E.l_slice rfl rfl Try.underlying23 ty_3 rfl rfl rfl rfl rfl rfl (fun g11_4 => ?_)
          refine E.Ops.q _ (E.q_mv rfl rfl) rfl rfl ?_
          refine E.Ops.nil ?_
          try simp only [E.tn, E.tx, E.tr, E.bn, E.br, E.bs]
          refine E.Run.ret ?_
          try simp only [E.tn, E.tx, E.tr, E.bn, E.br, E.bs]
          exact ⟨_, _, _, E.ResOk.one rfl rfl, E.Ent.of E.entA, nx2 i.b i.c (by unfold r13Reads; (repeat' split) <;> first | rfl | (exfalso; omega)) _⟩
      case' T5 =>
        refine E.Ops.q _ (E.q_mv rfl rfl) rfl rfl ?_
        refine E.Ops.nil ?_
        try simp only [E.tn, E.tx, E.tr, E.bn, E.br, E.bs]
        (repeat refine E.Run.seq ?_)
        (repeat refine E.Run.seq ?_); refine E.Run.condT rfl ?_
        refine E.Run.skip ?_
        try simp only [E.tn, E.tx, E.tr, E.bn, E.br, E.bs]
        (repeat refine E.Run.seq ?_)
        (repeat refine E.Run.seq ?_); refine E.Run.condT rfl ?_
        (repeat refine E.Run.seq ?_)
        refine E.Run.region ?_
        first | refine E.Ops.q _ (E.q_fieldAddr' rfl rfl fo_44_2) rfl rfl ?_ | refine E.Ops.q _ (E.q_fieldAddr rfl rfl fo_44_2) rfl rfl ?_
        refine E.Ops.q _ (E.q_load rfl rfl (by first | refine E.LoadAt.own E.ixA sc_3 (by rfl) | exact E.LoadAt.ro sc_3 (by assumption) | exact E.LoadAt.arr E.ixA sc_3 (by assumption))) rfl rfl ?_
        first | refine E.Ops.q _ (E.q_fieldAddr' rfl rfl fo_44_3) rfl rfl ?_ | refine E.Ops.q _ (E.q_fieldAddr rfl rfl fo_44_3) rfl rfl ?_
        refine E.Ops.q _ (E.q_load rfl rfl (by first | refine E.LoadAt.own E.ixA sc_3 (by rfl) | exact E.LoadAt.ro sc_3 (by assumption) | exact E.LoadAt.arr E.ixA sc_3 (by assumption))) rfl rfl ?_
        refine E.Ops.loud rfl rfl ?_
        refine E.l_slice rfl rfl Try.underlying23 ty_3 rfl rfl rfl rfl rfl rfl (fun g11_4 => ?_)
        refine E.Ops.q _ (E.q_mv rfl rfl) rfl rfl ?_
        refine E.Ops.nil ?_
        try simp only [E.tn, E.tx, E.tr, E.bn, E.br, E.bs]
        refine E.Run.ret ?_
        try simp only [E.tn, E.tx, E.tr, E.bn, E.br, E.bs]
        exact ⟨_, _, _, E.ResOk.one rfl rfl, E.Ent.of E.entA, nx2 i.b i.c (by unfold r13Reads; (repeat' split) <;> first | rfl | (exfalso; omega)) _⟩
    case' T4 =>
      refine E.Ops.q _ (E.q_mv rfl rfl) rfl rfl ?_
      refine E.Ops.nil ?_
      try simp only [E.tn, E.tx, E.tr, E.bn, E.br, E.bs]
      (repeat refine E.Run.seq ?_)
      (repeat refine E.Run.seq ?_); refine E.Run.condT rfl ?_
      (repeat refine E.Run.seq ?_)
      refine E.Run.region ?_
      first | refine E.Ops.q _ (E.q_fieldAddr' rfl rfl fo_44_2) rfl rfl ?_ | refine E.Ops.q _ (E.q_fieldAddr rfl rfl fo_44_2) rfl rfl ?_
      refine E.Ops.q _ (E.q_load rfl rfl (by first | refine E.LoadAt.own E.ixA sc_3 (by rfl) | exact E.LoadAt.ro sc_3 (by assumption) | exact E.LoadAt.arr E.ixA sc_3 (by assumption))) rfl rfl ?_
      refine E.Ops.loud rfl rfl ?_
      refine E.l_slice rfl rfl Try.underlying23 ty_3 rfl rfl rfl rfl rfl rfl (fun g4_2 => ?_)
      refine E.Ops.q _ (E.q_mv rfl rfl) rfl rfl ?_
      refine E.Ops.nil ?_
      try simp only [E.tn, E.tx, E.tr, E.bn, E.br, E.bs]
      refine E.Run.ret ?_
      try simp only [E.tn, E.tx, E.tr, E.bn, E.br, E.bs]
      exact ⟨_, _, _, E.ResOk.one rfl rfl, E.Ent.of E.entA, nx1 i.b (by unfold r13Reads; (repeat' split) <;> first | rfl | (exfalso; omega)) _⟩
  case' T3 =>
    refine E.Ops.q _ (E.q_mv rfl rfl) rfl rfl ?_
    refine E.Ops.nil ?_
    try simp only [E.tn, E.tx, E.tr, E.bn, E.br, E.bs]
    (repeat refine E.Run.seq ?_)
    (repeat refine E.Run.seq ?_); refine E.Run.condT rfl ?_
    refine E.Run.skip ?_
    try simp only [E.tn, E.tx, E.tr, E.bn, E.br, E.bs]
    (repeat refine E.Run.seq ?_)
    (repeat refine E.Run.seq ?_); refine E.Run.condT rfl ?_
    (repeat refine E.Run.seq ?_)
    refine E.Run.region ?_
    first | refine E.Ops.q _ (E.q_fieldAddr' rfl rfl fo_44_2) rfl rfl ?_ | refine E.Ops.q _ (E.q_fieldAddr rfl rfl fo_44_2) rfl rfl ?_
    refine E.Ops.q _ (E.q_load rfl rfl (by first | refine E.LoadAt.own E.ixA sc_3 (by rfl) | exact E.LoadAt.ro sc_3 (by assumption) | exact E.LoadAt.arr E.ixA sc_3 (by assumption))) rfl rfl ?_
    refine E.Ops.loud rfl rfl ?_
    refine E.l_slice rfl rfl Try.underlying23 ty_3 rfl rfl rfl rfl rfl rfl (fun g4_2 => ?_)
    refine E.Ops.q _ (E.q_mv rfl rfl) rfl rfl ?_
    refine E.Ops.nil ?_
    try simp only [E.tn, E.tx, E.tr, E.bn, E.br, E.bs]
    refine E.Run.ret ?_
    try simp only [E.tn, E.tx, E.tr, E.bn, E.br, E.bs]
    exact ⟨_, _, _, E.ResOk.one rfl rfl, E.Ent.of E.entA, nx1 i.b (by unfold r13Reads; (repeat' split) <;> first | rfl | (exfalso; omega)) _⟩
end Go.Proofs.Ythpgjbdacknkgaa
