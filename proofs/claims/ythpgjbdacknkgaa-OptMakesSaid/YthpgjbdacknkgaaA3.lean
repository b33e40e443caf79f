/- asm.Check, walked. No statement of the seat in it. -/
import Derived.Test.YthpgjbdacknkgaaA2
set_option linter.unusedVariables false
set_option linter.unusedSimpArgs false
namespace Go.Proofs.Ythpgjbdacknkgaa
open Go
private theorem ag_25 : E.isAggOf Try.prog 25 4 = true := by kernel_rfl
private theorem ag_29 : E.isAggOf Try.prog 29 3 = true := by kernel_rfl
private theorem ag_44 : E.isAggOf Try.prog 44 4 = true := by kernel_rfl
private theorem ao_164 : E.arrayOf Try.prog 164 = some (3, 3, 1) := by kernel_rfl
private theorem fo_160_1 : E.fieldOff Try.prog 160 1 = some 1 := by kernel_rfl
private theorem fo_25_0 : E.fieldOff Try.prog 25 0 = some 0 := by kernel_rfl
private theorem fo_25_1 : E.fieldOff Try.prog 25 1 = some 1 := by kernel_rfl
private theorem fo_25_2 : E.fieldOff Try.prog 25 2 = some 2 := by kernel_rfl
private theorem fo_25_3 : E.fieldOff Try.prog 25 3 = some 3 := by kernel_rfl
private theorem fo_44_0 : E.fieldOff Try.prog 44 0 = some 0 := by kernel_rfl
private theorem ik_162 : E.isIntKey Try.prog 162 = some 160 := by kernel_rfl
private theorem nb_87 : Try.f87.body.isNone = false := by kernel_rfl
private theorem nb_88 : Try.f88.body.isNone = false := by kernel_rfl
private theorem nb_89 : Try.f89.body.isNone = false := by kernel_rfl
private theorem nm_87 : (Try.f87.name == "runtime.NumGoroutine") = false := by kernel_rfl
private theorem nm_88 : (Try.f88.name == "runtime.NumGoroutine") = false := by kernel_rfl
private theorem nm_89 : (Try.f89.name == "runtime.NumGoroutine") = false := by kernel_rfl
private theorem pl_29 : E.placesOf Try.prog 29 = some ([.int .i64 0, .int .i64 0, .int .i64 0], [(0, 1), (1, 1), (2, 1)]) := by kernel_rfl
private theorem sc_22 : E.isScal Try.prog 22 = true := by kernel_rfl
private theorem sc_23 : E.isScal Try.prog 23 = true := by kernel_rfl
private theorem sc_3 : E.isScal Try.prog 3 = true := by kernel_rfl
private theorem sc_45 : E.isScal Try.prog 45 = true := by kernel_rfl
private theorem sc_9 : E.isScal Try.prog 9 = true := by kernel_rfl
private theorem so_22 : E.sliceOf Try.prog 22 = some (45, 1) := by kernel_rfl
private theorem so_45 : E.sliceOf Try.prog 45 = some (44, 4) := by kernel_rfl
private theorem sz_160 : (Try.prog.info? 160).map (·.size) = some 2 := by kernel_rfl
private theorem sz_29 : (Try.prog.info? 29).map (·.size) = some 3 := by kernel_rfl
private theorem sz_44 : (Try.prog.info? 44).map (·.size) = some 4 := by kernel_rfl
private theorem ty_160 : E.tyOf Try.prog 160 = some (some (.agg #[.string ⟨#[]⟩, .string ⟨#[]⟩]), 2, 32) := by kernel_rfl
private theorem ty_29 : E.tyOf Try.prog 29 = some (some (.agg #[.int .i64 0, .int .i64 0, .int .i64 0]), 3, 24) := by kernel_rfl
private theorem ty_44 : E.tyOf Try.prog 44 = some (some (.agg #[.int .i64 0, .int .i64 0, .int .i64 0, .int .i64 0]), 4, 32) := by kernel_rfl

theorem badIns_some {p : Prg} {size : Nat} {i : E.Ins} {x : List UInt8 × List UInt8} (h : shpOf i.op = some x) :
    badIns p size i = if okNum p size x.2 0 i.a && okNum p size x.2 1 i.b && okNum p size x.2 2 i.c then none else some 3 := by
  unfold badIns; rw [h]
/-- an order's numbers, by place -/
def insNum (i : E.Ins) : Nat → Int
  | 0 => i.a
  | 1 => i.b
  | _ => i.c
theorem badIns_all {p : Prg} {size : Nat} {i : E.Ins} {x : List UInt8 × List UInt8} (h : shpOf i.op = some x) (hk : ∀ k, k < 3 → okNum p size x.2 k (insNum i k) = true) : badIns p size i = none := by
  rw [badIns_some h, show okNum p size x.2 0 i.a = true from hk 0 (by omega), show okNum p size x.2 1 i.b = true from hk 1 (by omega), show okNum p size x.2 2 i.c = true from hk 2 (by omega)]; rfl
theorem badIns_no {p : Prg} {size : Nat} {i : E.Ins} {x : List UInt8 × List UInt8} (h : shpOf i.op = some x) {k : Nat} (hk : k < 3) (hb : okNum p size x.2 k (insNum i k) = false) : badIns p size i = some 3 := by
  rw [badIns_some h]
  match k, hk with
  | 0, _ => rw [show okNum p size x.2 0 i.a = false from hb]; rfl
  | 1, _ => rw [show okNum p size x.2 1 i.b = false from hb]; simp
  | 2, _ => rw [show okNum p size x.2 2 i.c = false from hb]; simp

theorem okNum_in {p : Prg} {size : Nat} {ks : List UInt8} {k : Nat} {n : Int} (h : ((k : Int)).toNat < (⟨ks.toArray⟩ : ByteArray).size) :
    okNum p size ks k n = fitB p.regs p.words.length p.locks size ((⟨ks.toArray⟩ : ByteArray)[((k : Int)).toNat]'h).toNat n := by
  have h' : k < ks.length := by simpa [ByteArray.size] using h
  unfold okNum
  rw [List.getElem?_eq_getElem h']
  rfl
theorem okNum_out {p : Prg} {size : Nat} {ks : List UInt8} {k : Nat} {n : Int} (h : ¬ (k : Int) < ((⟨ks.toArray⟩ : ByteArray).size : Nat)) : okNum p size ks k n = decide (n = 0) := by
  have h' : ks.length ≤ k := by simp [ByteArray.size] at h; omega
  unfold okNum
  rw [List.getElem?_eq_none h']
theorem q_shapesT {P : Program} {L : E.Env} {ρ : E.Ro} {M : List E.Asr} {o : Oper} {t e : TypeId} {m x : Operand} {b : Nat} {k : Int} {v : List UInt8 × List UInt8} {z : Value} {sz by' : Nat} (hs : shpOf k = some v) (ho : o.op = .lookup t m x true) (hm : E.ev L m = some (.map (some b))) (hx : E.ev L x = some (.int .i64 k))
    (hk : E.MapIs ρ M b shpKvs) (ht : E.isIntKey P t = some e) (hz : E.tyOf P e = some (some z, sz, by')) : E.QOp P L ρ M o (.tuple #[shpV v, .bool true]) := by
  have h := E.q_lookupOk ho hm hx hk ht hz
  rw [getI_shp, hs] at h; exact h
theorem q_shapesF {P : Program} {L : E.Env} {ρ : E.Ro} {M : List E.Asr} {o : Oper} {t e : TypeId} {m x : Operand} {b : Nat} {k : Int} {z : Value} {sz by' : Nat} (hs : shpOf k = none) (ho : o.op = .lookup t m x true) (hm : E.ev L m = some (.map (some b))) (hx : E.ev L x = some (.int .i64 k))
    (hk : E.MapIs ρ M b shpKvs) (ht : E.isIntKey P t = some e) (hz : E.tyOf P e = some (some z, sz, by')) : E.QOp P L ρ M o (.tuple #[z, .bool false]) := by
  have h := E.q_lookupOk ho hm hx hk ht hz
  rw [getI_shp, hs] at h; exact h

set_option maxRecDepth 100000 in
theorem asmCheck {ρ : E.Ro} {M : List E.Asr} {K : Value → E.Ro → List E.Asr → Prop} (A A' : Option Addr) (c c' : Nat) (p : Prg) (hp : PrgAt ρ A A' p)
    (hK : K (fltV (chk p)) ρ M) :
    E.Hoa Try.prog 42 #[prgV A c A' c' p] ρ M K := by
  refine E.Hoa.enter 121 Try.func42 rfl rfl rfl ?_
  (repeat refine E.Run.seq ?_)
  refine E.Run.region ?_
  refine E.Ops.loud rfl rfl ?_
  refine E.l_box rfl rfl (fun b0_0 => ?_)
  refine E.Ops.loud rfl rfl ?_
  refine E.l_alloc rfl ty_29 (fun b0_1 => ?_)
  refine E.Ops.nil ?_
  try simp only [E.tn, E.tx, E.tr, E.bn, E.br, E.bs]
  refine E.Run.seqCut (fun L' ρ' M' => ¬ (p.code.length < 1 ∨ p.code.length > 4 ∨ p.words.length > 64) ∧ ¬ (p.locks < 0 ∨ p.locks > 4 ∨ p.regs < 1 ∨ p.regs > 200) ∧ E.SubEnv [(1, .pointer (some ⟨b0_0, 0, none⟩)), (2, .pointer (some ⟨b0_1, 0, none⟩))] L' ∧ E.Ent ρ' M' ρ (E.pt b0_1 29 [.int .i64 0, .int .i64 0, .int .i64 0] :: E.pt b0_0 25 [.slice A p.code.length c, .slice A' p.words.length c', .int .i64 p.locks, .int .i64 p.regs] :: M)) ?_ ?_
  · (repeat refine E.Run.seq ?_); refine E.Run.block ?_
    refine E.Run.seqCut (fun L' ρ' M' => E.SubEnv [(1, .pointer (some ⟨b0_0, 0, none⟩)), (2, .pointer (some ⟨b0_1, 0, none⟩)), (11, .bool (decide (p.code.length < 1 ∨ p.code.length > 4 ∨ p.words.length > 64)))] L' ∧ E.Ent ρ' M' ρ (E.pt b0_1 29 [.int .i64 0, .int .i64 0, .int .i64 0] :: E.pt b0_0 25 [.slice A p.code.length c, .slice A' p.words.length c', .int .i64 p.locks, .int .i64 p.regs] :: M)) ?_ ?_
    · (repeat refine E.Run.seq ?_)
      refine E.Run.region ?_
      first | refine E.Ops.q _ (E.q_fieldAddr' rfl rfl fo_25_0) rfl rfl ?_ | refine E.Ops.q _ (E.q_fieldAddr rfl rfl fo_25_0) rfl rfl ?_
      refine E.Ops.q _ (E.q_load rfl rfl (by first | refine E.LoadAt.own E.ixA sc_22 (by rfl) | exact E.LoadAt.ro sc_22 (by assumption) | exact E.LoadAt.arr E.ixA sc_22 (by assumption))) rfl rfl ?_
      refine E.Ops.q _ (E.q_lenSlice rfl Try.underlying22) rfl rfl ?_
      refine E.Ops.part (E.q_lss rfl rfl rfl) rfl rfl (fun h1_3 => ?T1) (fun h1_3 => ?F1)
      case' F1 =>
        refine E.Ops.q _ (E.q_move rfl rfl) rfl rfl ?_
        first | refine E.Ops.q _ (E.q_fieldAddr' rfl rfl fo_25_0) rfl rfl ?_ | refine E.Ops.q _ (E.q_fieldAddr rfl rfl fo_25_0) rfl rfl ?_
        refine E.Ops.q _ (E.q_load rfl rfl (by first | refine E.LoadAt.own E.ixA sc_22 (by rfl) | exact E.LoadAt.ro sc_22 (by assumption) | exact E.LoadAt.arr E.ixA sc_22 (by assumption))) rfl rfl ?_
        refine E.Ops.q _ (E.q_lenSlice rfl Try.underlying22) rfl rfl ?_
        refine E.Ops.part (E.q_gtr rfl rfl rfl) rfl rfl (fun h1_8 => ?T2) (fun h1_8 => ?F2)
        case' F2 =>
          refine E.Ops.q _ (E.q_pickF rfl rfl rfl) rfl rfl ?_
          refine E.Ops.q _ (E.q_move rfl rfl) rfl rfl ?_
          first | refine E.Ops.q _ (E.q_fieldAddr' rfl rfl fo_25_1) rfl rfl ?_ | refine E.Ops.q _ (E.q_fieldAddr rfl rfl fo_25_1) rfl rfl ?_
          refine E.Ops.q _ (E.q_load rfl rfl (by first | refine E.LoadAt.own E.ixA sc_23 (by rfl) | exact E.LoadAt.ro sc_23 (by assumption) | exact E.LoadAt.arr E.ixA sc_23 (by assumption))) rfl rfl ?_
          refine E.Ops.q _ (E.q_lenSlice rfl Try.underlying23) rfl rfl ?_
          refine E.Ops.part (E.q_gtr rfl rfl rfl) rfl rfl (fun h1_14 => ?T3) (fun h1_14 => ?F3)
          case' F3 =>
            refine E.Ops.q _ (E.q_pickF rfl rfl rfl) rfl rfl ?_
            refine E.Ops.q _ (E.q_mv rfl rfl) rfl rfl ?_
            refine E.Ops.nil ?_
            try simp only [E.tn, E.tx, E.tr, E.bn, E.br, E.bs]
          case' T3 =>
            refine E.Ops.q _ (E.q_pickF rfl rfl rfl) rfl rfl ?_
            refine E.Ops.q _ (E.q_mv rfl rfl) rfl rfl ?_
            refine E.Ops.nil ?_
            try simp only [E.tn, E.tx, E.tr, E.bn, E.br, E.bs]
        case' T2 =>
          refine E.Ops.q _ (E.q_pickF rfl rfl rfl) rfl rfl ?_
          refine E.Ops.q _ (E.q_move rfl rfl) rfl rfl ?_
          refine E.Ops.skip rfl rfl ?_
          refine E.Ops.skip rfl rfl ?_
          refine E.Ops.skip rfl rfl ?_
          refine E.Ops.skip rfl rfl ?_
          refine E.Ops.q _ (E.q_pickT rfl rfl rfl) rfl rfl ?_
          refine E.Ops.q _ (E.q_mv rfl rfl) rfl rfl ?_
          refine E.Ops.nil ?_
          try simp only [E.tn, E.tx, E.tr, E.bn, E.br, E.bs]
      case' T1 =>
        refine E.Ops.q _ (E.q_move rfl rfl) rfl rfl ?_
        refine E.Ops.skip rfl rfl ?_
        refine E.Ops.skip rfl rfl ?_
        refine E.Ops.skip rfl rfl ?_
        refine E.Ops.skip rfl rfl ?_
        refine E.Ops.q _ (E.q_pickT rfl rfl rfl) rfl rfl ?_
        refine E.Ops.q _ (E.q_move rfl rfl) rfl rfl ?_
        refine E.Ops.skip rfl rfl ?_
        refine E.Ops.skip rfl rfl ?_
        refine E.Ops.skip rfl rfl ?_
        refine E.Ops.skip rfl rfl ?_
        refine E.Ops.q _ (E.q_pickT rfl rfl rfl) rfl rfl ?_
        refine E.Ops.q _ (E.q_mv rfl rfl) rfl rfl ?_
        refine E.Ops.nil ?_
        try simp only [E.tn, E.tx, E.tr, E.bn, E.br, E.bs]
      · exact ⟨by rw [decide_eq_true (by omega)]; ((repeat refine E.SubEnv.cons rfl ?_); exact E.SubEnv.nil _), E.Ent.of E.entA⟩
      · exact ⟨by rw [decide_eq_true (by omega)]; ((repeat refine E.SubEnv.cons rfl ?_); exact E.SubEnv.nil _), E.Ent.of E.entA⟩
      · exact ⟨by rw [decide_eq_true (by omega)]; ((repeat refine E.SubEnv.cons rfl ?_); exact E.SubEnv.nil _), E.Ent.of E.entA⟩
      · exact ⟨by rw [decide_eq_false (by omega)]; ((repeat refine E.SubEnv.cons rfl ?_); exact E.SubEnv.nil _), E.Ent.of E.entA⟩
    rintro L ρ1 M1 ⟨hs, he⟩
    refine E.Run.sub hs (E.Run.ent he ?_)
    (repeat refine E.Run.seq ?_); refine E.Run.condD rfl (fun h1 => ?_) (fun h1 => ?_)
    · (repeat refine E.Run.seq ?_)
      refine E.Run.region ?_
      refine E.Ops.q _ (E.q_struct rfl rfl pl_29 rfl) rfl rfl ?_
      refine E.Ops.loud rfl rfl ?_
      refine E.l_store rfl rfl rfl E.ixA 3 sz_29 (by rfl) (by rfl) (by rfl) (by rfl) ?_
      refine E.Ops.nil ?_
      try simp only [E.tn, E.tx, E.tr, E.bn, E.br, E.bs]
      rw [show chk p = ⟨1, 0, 0⟩ from by unfold chk; rw [if_pos h1]] at hK
      refine E.Run.ret ?_
      try simp only [E.tn, E.tx, E.tr, E.bn, E.br, E.bs]
      exact ⟨_, _, _, E.ResOk.one rfl ⟨_, rfl, E.LoadAt.ownAgg E.ixA 3 ag_29 (by rfl) (by rfl)⟩, E.Ent.of E.entA, hK⟩
    refine E.Run.seqCut (fun L' ρ' M' => E.SubEnv [(1, .pointer (some ⟨b0_0, 0, none⟩)), (2, .pointer (some ⟨b0_1, 0, none⟩)), (29, .bool (decide (p.locks < 0 ∨ p.locks > 4 ∨ p.regs < 1 ∨ p.regs > 200)))] L' ∧ E.Ent ρ' M' ρ (E.pt b0_1 29 [.int .i64 0, .int .i64 0, .int .i64 0] :: E.pt b0_0 25 [.slice A p.code.length c, .slice A' p.words.length c', .int .i64 p.locks, .int .i64 p.regs] :: M)) ?_ ?_
    · (repeat refine E.Run.seq ?_)
      refine E.Run.region ?_
      first | refine E.Ops.q _ (E.q_fieldAddr' rfl rfl fo_25_2) rfl rfl ?_ | refine E.Ops.q _ (E.q_fieldAddr rfl rfl fo_25_2) rfl rfl ?_
      refine E.Ops.q _ (E.q_load rfl rfl (by first | refine E.LoadAt.own E.ixA sc_3 (by rfl) | exact E.LoadAt.ro sc_3 (by assumption) | exact E.LoadAt.arr E.ixA sc_3 (by assumption))) rfl rfl ?_
      refine E.Ops.part (E.q_lss rfl rfl rfl) rfl rfl (fun h3_2 => ?T4) (fun h3_2 => ?F4)
      case' F4 =>
        refine E.Ops.q _ (E.q_move rfl rfl) rfl rfl ?_
        first | refine E.Ops.q _ (E.q_fieldAddr' rfl rfl fo_25_2) rfl rfl ?_ | refine E.Ops.q _ (E.q_fieldAddr rfl rfl fo_25_2) rfl rfl ?_
        refine E.Ops.q _ (E.q_load rfl rfl (by first | refine E.LoadAt.own E.ixA sc_3 (by rfl) | exact E.LoadAt.ro sc_3 (by assumption) | exact E.LoadAt.arr E.ixA sc_3 (by assumption))) rfl rfl ?_
        refine E.Ops.part (E.q_gtr rfl rfl rfl) rfl rfl (fun h3_6 => ?T5) (fun h3_6 => ?F5)
        case' F5 =>
          refine E.Ops.q _ (E.q_pickF rfl rfl rfl) rfl rfl ?_
          refine E.Ops.q _ (E.q_move rfl rfl) rfl rfl ?_
          first | refine E.Ops.q _ (E.q_fieldAddr' rfl rfl fo_25_3) rfl rfl ?_ | refine E.Ops.q _ (E.q_fieldAddr rfl rfl fo_25_3) rfl rfl ?_
          refine E.Ops.q _ (E.q_load rfl rfl (by first | refine E.LoadAt.own E.ixA sc_3 (by rfl) | exact E.LoadAt.ro sc_3 (by assumption) | exact E.LoadAt.arr E.ixA sc_3 (by assumption))) rfl rfl ?_
          refine E.Ops.part (E.q_lss rfl rfl rfl) rfl rfl (fun h3_11 => ?T6) (fun h3_11 => ?F6)
          case' F6 =>
            refine E.Ops.q _ (E.q_pickF rfl rfl rfl) rfl rfl ?_
            refine E.Ops.q _ (E.q_move rfl rfl) rfl rfl ?_
            first | refine E.Ops.q _ (E.q_fieldAddr' rfl rfl fo_25_3) rfl rfl ?_ | refine E.Ops.q _ (E.q_fieldAddr rfl rfl fo_25_3) rfl rfl ?_
            refine E.Ops.q _ (E.q_load rfl rfl (by first | refine E.LoadAt.own E.ixA sc_3 (by rfl) | exact E.LoadAt.ro sc_3 (by assumption) | exact E.LoadAt.arr E.ixA sc_3 (by assumption))) rfl rfl ?_
            refine E.Ops.part (E.q_gtr rfl rfl rfl) rfl rfl (fun h3_16 => ?T7) (fun h3_16 => ?F7)
            case' F7 =>
              refine E.Ops.q _ (E.q_pickF rfl rfl rfl) rfl rfl ?_
              refine E.Ops.q _ (E.q_mv rfl rfl) rfl rfl ?_
              refine E.Ops.nil ?_
              try simp only [E.tn, E.tx, E.tr, E.bn, E.br, E.bs]
            case' T7 =>
              refine E.Ops.q _ (E.q_pickF rfl rfl rfl) rfl rfl ?_
              refine E.Ops.q _ (E.q_mv rfl rfl) rfl rfl ?_
              refine E.Ops.nil ?_
              try simp only [E.tn, E.tx, E.tr, E.bn, E.br, E.bs]
          case' T6 =>
            refine E.Ops.q _ (E.q_pickF rfl rfl rfl) rfl rfl ?_
            refine E.Ops.q _ (E.q_move rfl rfl) rfl rfl ?_
            refine E.Ops.skip rfl rfl ?_
            refine E.Ops.skip rfl rfl ?_
            refine E.Ops.skip rfl rfl ?_
            refine E.Ops.q _ (E.q_pickT rfl rfl rfl) rfl rfl ?_
            refine E.Ops.q _ (E.q_mv rfl rfl) rfl rfl ?_
            refine E.Ops.nil ?_
            try simp only [E.tn, E.tx, E.tr, E.bn, E.br, E.bs]
        case' T5 =>
          refine E.Ops.q _ (E.q_pickF rfl rfl rfl) rfl rfl ?_
          refine E.Ops.q _ (E.q_move rfl rfl) rfl rfl ?_
          refine E.Ops.skip rfl rfl ?_
          refine E.Ops.skip rfl rfl ?_
          refine E.Ops.skip rfl rfl ?_
          refine E.Ops.q _ (E.q_pickT rfl rfl rfl) rfl rfl ?_
          refine E.Ops.q _ (E.q_move rfl rfl) rfl rfl ?_
          refine E.Ops.skip rfl rfl ?_
          refine E.Ops.skip rfl rfl ?_
          refine E.Ops.skip rfl rfl ?_
          refine E.Ops.q _ (E.q_pickT rfl rfl rfl) rfl rfl ?_
          refine E.Ops.q _ (E.q_mv rfl rfl) rfl rfl ?_
          refine E.Ops.nil ?_
          try simp only [E.tn, E.tx, E.tr, E.bn, E.br, E.bs]
      case' T4 =>
        refine E.Ops.q _ (E.q_move rfl rfl) rfl rfl ?_
        refine E.Ops.skip rfl rfl ?_
        refine E.Ops.skip rfl rfl ?_
        refine E.Ops.skip rfl rfl ?_
        refine E.Ops.q _ (E.q_pickT rfl rfl rfl) rfl rfl ?_
        refine E.Ops.q _ (E.q_move rfl rfl) rfl rfl ?_
        refine E.Ops.skip rfl rfl ?_
        refine E.Ops.skip rfl rfl ?_
        refine E.Ops.skip rfl rfl ?_
        refine E.Ops.q _ (E.q_pickT rfl rfl rfl) rfl rfl ?_
        refine E.Ops.q _ (E.q_move rfl rfl) rfl rfl ?_
        refine E.Ops.skip rfl rfl ?_
        refine E.Ops.skip rfl rfl ?_
        refine E.Ops.skip rfl rfl ?_
        refine E.Ops.q _ (E.q_pickT rfl rfl rfl) rfl rfl ?_
        refine E.Ops.q _ (E.q_mv rfl rfl) rfl rfl ?_
        refine E.Ops.nil ?_
        try simp only [E.tn, E.tx, E.tr, E.bn, E.br, E.bs]
      · exact ⟨by rw [decide_eq_true (by omega)]; ((repeat refine E.SubEnv.cons rfl ?_); exact E.SubEnv.nil _), E.Ent.of E.entA⟩
      · exact ⟨by rw [decide_eq_true (by omega)]; ((repeat refine E.SubEnv.cons rfl ?_); exact E.SubEnv.nil _), E.Ent.of E.entA⟩
      · exact ⟨by rw [decide_eq_true (by omega)]; ((repeat refine E.SubEnv.cons rfl ?_); exact E.SubEnv.nil _), E.Ent.of E.entA⟩
      · exact ⟨by rw [decide_eq_true (by omega)]; ((repeat refine E.SubEnv.cons rfl ?_); exact E.SubEnv.nil _), E.Ent.of E.entA⟩
      · exact ⟨by rw [decide_eq_false (by omega)]; ((repeat refine E.SubEnv.cons rfl ?_); exact E.SubEnv.nil _), E.Ent.of E.entA⟩
    rintro L ρ1 M1 ⟨hs, he⟩
    refine E.Run.sub hs (E.Run.ent he ?_)
    (repeat refine E.Run.seq ?_); refine E.Run.condD rfl (fun h2 => ?_) (fun h2 => ?_)
    · (repeat refine E.Run.seq ?_)
      refine E.Run.region ?_
      refine E.Ops.q _ (E.q_struct rfl rfl pl_29 rfl) rfl rfl ?_
      refine E.Ops.loud rfl rfl ?_
      refine E.l_store rfl rfl rfl E.ixA 3 sz_29 (by rfl) (by rfl) (by rfl) (by rfl) ?_
      refine E.Ops.nil ?_
      try simp only [E.tn, E.tx, E.tr, E.bn, E.br, E.bs]
      rw [show chk p = ⟨3, 0, 0⟩ from by unfold chk; rw [if_neg h1, if_pos h2]] at hK
      refine E.Run.ret ?_
      try simp only [E.tn, E.tx, E.tr, E.bn, E.br, E.bs]
      exact ⟨_, _, _, E.ResOk.one rfl ⟨_, rfl, E.LoadAt.ownAgg E.ixA 3 ag_29 (by rfl) (by rfl)⟩, E.Ent.of E.entA, hK⟩
    refine E.Run.skip ?_
    try simp only [E.tn, E.tx, E.tr, E.bn, E.br, E.bs]
    exact ⟨h1, h2, by ((repeat refine E.SubEnv.cons rfl ?_); exact E.SubEnv.nil _), E.Ent.of E.entA⟩
  rintro L ρ1 M1 ⟨h1, h2, hs, he⟩
  refine E.Run.sub hs (E.Run.ent he ?_)
  have hchk : chk p = chkThr p 0 p.code := by unfold chk; rw [if_neg h1, if_neg h2]
  rw [hchk] at hK
  (repeat refine E.Run.seq ?_)
  refine E.Run.region ?_
  first | refine E.Ops.q _ (E.q_fieldAddr' rfl rfl fo_25_0) rfl rfl ?_ | refine E.Ops.q _ (E.q_fieldAddr rfl rfl fo_25_0) rfl rfl ?_
  refine E.Ops.q _ (E.q_load rfl rfl (by first | refine E.LoadAt.own E.ixA sc_22 (by rfl) | exact E.LoadAt.ro sc_22 (by assumption) | exact E.LoadAt.arr E.ixA sc_22 (by assumption))) rfl rfl ?_
  refine E.Ops.q _ (E.q_lenSlice rfl Try.underlying22) rfl rfl ?_
  refine E.Ops.q _ (E.q_move rfl rfl) rfl rfl ?_
  refine E.Ops.nil ?_
  try simp only [E.tn, E.tx, E.tr, E.bn, E.br, E.bs]
  (repeat refine E.Run.seq ?_)
  (repeat refine E.Run.seq ?_); refine E.Run.block ?_
  (repeat refine E.Run.seq ?_); refine E.Run.loopS (fun (t : Nat) => [(1, .pointer (some ⟨b0_0, 0, none⟩)), (2, .pointer (some ⟨b0_1, 0, none⟩)), (50, .slice A p.code.length c), (51, .int .i64 p.code.length), (52, .int .i64 t)]) ρ (fun _ => E.pt b0_1 29 [.int .i64 0, .int .i64 0, .int .i64 0] :: E.pt b0_0 25 [.slice A p.code.length c, .slice A' p.words.length c', .int .i64 p.locks, .int .i64 p.regs] :: M)
    (fun t => t ≤ p.code.length ∧ chkThr p t (p.code.drop t) = chkThr p 0 p.code) (fun t => p.code.length - t) 0 ⟨Nat.zero_le _, by simp⟩ (by ((repeat refine E.SubEnv.cons rfl ?_); exact E.SubEnv.nil _)) (by exact E.Ent.of E.entA) ?_
  rintro t ⟨ht, hinv⟩
  have hsm := hp.small
  (repeat refine E.Run.seq ?_)
  refine E.Run.region ?_
  refine E.Ops.q _ (E.q_lss rfl rfl rfl) rfl rfl ?_
  refine E.Ops.nil ?_
  try simp only [E.tn, E.tx, E.tr, E.bn, E.br, E.bs]
  (repeat refine E.Run.seq ?_)
  (repeat refine E.Run.seq ?_); refine E.Run.condD rfl (fun h6 => ?_) (fun h6 => ?_)
  · have ht' : t < p.code.length := by omega
    obtain ⟨ad, rfl, A1, c1, hcell, hrd⟩ := hp.thread ht'
    have hsize := hp.smalls _ (List.getElem_mem ht')
    refine E.Run.skip ?_
    try simp only [E.tn, E.tx, E.tr, E.bn, E.br, E.bs]
    (repeat refine E.Run.seq ?_)
    (repeat refine E.Run.seq ?_); refine E.Run.block ?_
    (repeat refine E.Run.seq ?_)
    refine E.Run.region ?_
    refine E.Ops.q _ (E.q_move rfl rfl) rfl rfl ?_
    first | refine E.Ops.q _ (E.q_indexNat rfl rfl rfl so_22 (by first | assumption | omega)) rfl rfl ?_ | refine E.Ops.q _ (E.q_indexAddr rfl rfl rfl so_22 (by omega) (by omega)) rfl rfl ?_
    refine E.Ops.q _ (E.q_load rfl rfl (by first | refine E.LoadAt.own E.ixA sc_45 (by rfl) | exact E.LoadAt.ro sc_45 (by assumption) | exact E.LoadAt.arr E.ixA sc_45 (by assumption))) rfl rfl ?_
    refine E.Ops.q _ (E.q_mv rfl rfl) rfl rfl ?_
    refine E.Ops.q _ (E.q_mv rfl rfl) rfl rfl ?_
    refine E.Ops.nil ?_
    try simp only [E.tn, E.tx, E.tr, E.bn, E.br, E.bs]
    rw [chkThr_drop p t p.code ht'] at hinv
    generalize hc : p.code[t] = code at *
    (repeat refine E.Run.seq ?_)
    refine E.Run.region ?_
    refine E.Ops.q _ (E.q_move rfl rfl) rfl rfl ?_
    refine E.Ops.q _ (E.q_lenSlice rfl Try.underlying45) rfl rfl ?_
    refine E.Ops.q _ (E.q_gtr rfl rfl rfl) rfl rfl ?_
    refine E.Ops.nil ?_
    try simp only [E.tn, E.tx, E.tr, E.bn, E.br, E.bs]
    (repeat refine E.Run.seq ?_)
    (repeat refine E.Run.seq ?_); refine E.Run.condD rfl (fun h8 => ?_) (fun h8 => ?_)
    · (repeat refine E.Run.seq ?_)
      refine E.Run.region ?_
      refine E.Ops.q _ (E.q_move rfl rfl) rfl rfl ?_
      refine E.Ops.q _ (E.q_struct rfl rfl pl_29 rfl) rfl rfl ?_
      refine E.Ops.loud rfl rfl ?_
      refine E.l_store rfl rfl rfl E.ixA 3 sz_29 (by rfl) (by rfl) (by rfl) (by rfl) ?_
      refine E.Ops.nil ?_
      try simp only [E.tn, E.tx, E.tr, E.bn, E.br, E.bs]
      rw [if_pos (by omega)] at hinv
      rw [← hinv] at hK
      refine E.Run.ret ?_
      try simp only [E.tn, E.tx, E.tr, E.bn, E.br, E.bs]
      exact ⟨_, _, _, E.ResOk.one rfl ⟨_, rfl, E.LoadAt.ownAgg E.ixA 3 ag_29 (by rfl) (by rfl)⟩, E.Ent.of E.entA, hK⟩
    refine E.Run.skip ?_
    try simp only [E.tn, E.tx, E.tr, E.bn, E.br, E.bs]
    rw [if_neg (by omega)] at hinv
    (repeat refine E.Run.seq ?_)
    refine E.Run.region ?_
    refine E.Ops.q _ (E.q_move rfl rfl) rfl rfl ?_
    refine E.Ops.q _ (E.q_lenSlice rfl Try.underlying45) rfl rfl ?_
    refine E.Ops.q _ (E.q_move rfl rfl) rfl rfl ?_
    refine E.Ops.nil ?_
    try simp only [E.tn, E.tx, E.tr, E.bn, E.br, E.bs]
    (repeat refine E.Run.seq ?_)
    (repeat refine E.Run.seq ?_); refine E.Run.block ?_
    (repeat refine E.Run.seq ?_); refine E.Run.loopS (fun (j : Nat) => [(1, .pointer (some ⟨b0_0, 0, none⟩)), (2, .pointer (some ⟨b0_1, 0, none⟩)), (3, .int .i64 t), (4, .slice A1 code.length c1), (50, .slice (some ad) p.code.length c), (51, .int .i64 p.code.length), (52, .int .i64 t), (62, .slice A1 code.length c1), (63, .int .i64 code.length), (64, .int .i64 j)]) ρ (fun _ => E.pt b0_1 29 [.int .i64 0, .int .i64 0, .int .i64 0] :: E.pt b0_0 25 [.slice (some ad) p.code.length c, .slice A' p.words.length c', .int .i64 p.locks, .int .i64 p.regs] :: M)
      (fun j => j ≤ code.length ∧ chkIns p code.length t j (code.drop j) = chkIns p code.length t 0 code) (fun j => code.length - j) 0 ⟨Nat.zero_le _, by simp⟩ (by ((repeat refine E.SubEnv.cons rfl ?_); exact E.SubEnv.nil _)) (by exact E.Ent.of E.entA) ?_
    rintro j ⟨hj, hinj⟩
    (repeat refine E.Run.seq ?_)
    refine E.Run.region ?_
    refine E.Ops.q _ (E.q_lss rfl rfl rfl) rfl rfl ?_
    refine E.Ops.nil ?_
    try simp only [E.tn, E.tx, E.tr, E.bn, E.br, E.bs]
    (repeat refine E.Run.seq ?_)
    (repeat refine E.Run.seq ?_); refine E.Run.condD rfl (fun h11 => ?_) (fun h11 => ?_)
    · have hj' : j < code.length := by omega
      obtain ⟨ad1, rfl, _, hrd1⟩ := E.RdF.at hrd hj'
      refine E.Run.skip ?_
      try simp only [E.tn, E.tx, E.tr, E.bn, E.br, E.bs]
      (repeat refine E.Run.seq ?_)
      (repeat refine E.Run.seq ?_); refine E.Run.block ?_
      (repeat refine E.Run.seq ?_)
      refine E.Run.region ?_
      refine E.Ops.q _ (E.q_move rfl rfl) rfl rfl ?_
      first | refine E.Ops.q _ (E.q_indexNat rfl rfl rfl so_45 (by first | assumption | omega)) rfl rfl ?_ | refine E.Ops.q _ (E.q_indexAddr rfl rfl rfl so_45 (by omega) (by omega)) rfl rfl ?_
      refine E.Ops.q _ (E.q_load rfl rfl (by first | refine E.LoadAt.ownAgg E.ixA 4 ag_44 (by rfl) (by rfl) | exact E.LoadAt.roAgg ag_44 hrd1 rfl | exact E.LoadAt.roAgg ag_44 (by assumption) rfl)) rfl rfl ?_
      refine E.Ops.loud rfl rfl ?_
      refine E.l_alloc rfl ty_44 (fun b12_3 => ?_)
      refine E.Ops.q _ (E.q_mv rfl rfl) rfl rfl ?_
      refine E.Ops.loud rfl rfl ?_
      refine E.l_store rfl rfl rfl E.ixA 4 sz_44 (by rfl) (by rfl) (by rfl) (by rfl) ?_
      refine E.Ops.nil ?_
      try simp only [E.tn, E.tx, E.tr, E.bn, E.br, E.bs]
      rw [chkIns_drop p code.length t j code hj'] at hinj
      generalize code[j] = ins at *
      cases hs : shpOf ins.op with
      | none =>
        rw [show badIns p code.length ins = some 2 from by unfold badIns; rw [hs]] at hinj
        rw [← hinj] at hinv
        rw [← hinv] at hK
        (repeat refine E.Run.seq ?_)
        refine E.Run.draw (.q 1 (.q 2 (.alt 0 7 (.q 3 (.q 4 (.q 5 (.q 6 (.l 7 (.l 8 (.q 9 (.nil)))))))) (.l 0 (.q 3 (.q 4 (.q 5 (.q 6 (.l 8 (.q 9 (.nil))))))))))) _ _ Try.mixed (by kernel_rfl) (E.Ent.refl _ _) ?_
        first | refine E.Plan.q _ rfl _ (E.q_fieldAddr' rfl rfl fo_44_0) rfl rfl ?_ | refine E.Plan.q _ rfl _ (E.q_fieldAddr rfl rfl fo_44_0) rfl rfl ?_
        refine E.Plan.q _ rfl _ (E.q_load rfl rfl (by first | refine E.LoadAt.own E.ixA sc_3 (by rfl) | exact E.LoadAt.ro sc_3 (by assumption) | exact E.LoadAt.arr E.ixA sc_3 (by assumption) | exact E.LoadAt.ro sc_3 (hrd1 _ _ rfl))) rfl rfl ?_
        refine E.Plan.alt ?S8_0 ?S8_1
        case' S8_1 =>
          refine E.StepA.loud _ rfl rfl rfl ?_
          refine E.l_alloc rfl ty_160 (fun b13_7 => ?_)
          refine ⟨E.Ent.of E.entA, ?_⟩
          refine E.Plan.re (E.Ent.of (by (repeat (first | (with_reducible apply E.SEnt.drop (P := E.pt b13_7 _ _)) | (with_reducible apply E.SEnt.keep))); first | exact E.SEnt.refl _ | exact E.SEnt.nil _)) (by exact E.Ent.of E.entA) ?_
          refine E.Plan.loud _ rfl rfl rfl ?_
          refine E.l_call Try.func87 nm_87 nb_87 rfl ?_; refine asmShapes (fun b13_0 => ?_)
          refine ⟨E.Ent.of E.entA, ?_⟩
          refine E.Plan.re (E.Ent.of (by (repeat (first | (with_reducible apply E.SEnt.drop (P := E.pt b13_7 _ _)) | (with_reducible apply E.SEnt.keep))); first | exact E.SEnt.refl _ | exact E.SEnt.nil _)) (by exact E.Ent.of E.entA) ?_
          refine E.Plan.q _ rfl _ (q_shapesF hs rfl rfl rfl (E.MapIs.own E.ixA) ik_162 ty_160) rfl rfl ?_
          refine E.Plan.q _ rfl _ (E.q_move rfl rfl) rfl rfl ?_
          refine E.Plan.q _ rfl _ (E.q_extract rfl rfl rfl) rfl rfl ?_
          refine E.Plan.q _ rfl _ (E.q_extract rfl rfl rfl) rfl rfl ?_
          refine E.Plan.loud _ rfl rfl rfl ?_
          refine E.l_store rfl rfl rfl E.ixA 2 sz_160 (by rfl) (by rfl) (by rfl) (by rfl) ?_
          refine ⟨E.Ent.of E.entA, ?_⟩
          refine E.Plan.q _ rfl _ (E.q_mv rfl rfl) rfl rfl ?_
          refine E.Plan.nil ?_
          try simp only [E.tn, E.tx, E.tr, E.bn, E.br, E.bs]
        case' S8_0 =>
          refine E.StepA.loud _ rfl rfl rfl ?_
          refine E.l_call Try.func87 nm_87 nb_87 rfl ?_; refine asmShapes (fun b13_0 => ?_)
          refine ⟨E.Ent.of E.entA, ?_⟩
          refine E.Plan.re (E.Ent.refl _ _) (by exact E.Ent.of E.entA) ?_
          refine E.Plan.q _ rfl _ (q_shapesF hs rfl rfl rfl (E.MapIs.own E.ixA) ik_162 ty_160) rfl rfl ?_
          refine E.Plan.q _ rfl _ (E.q_move rfl rfl) rfl rfl ?_
          refine E.Plan.q _ rfl _ (E.q_extract rfl rfl rfl) rfl rfl ?_
          refine E.Plan.q _ rfl _ (E.q_extract rfl rfl rfl) rfl rfl ?_
          refine E.Plan.loud _ rfl rfl rfl ?_
          refine E.l_alloc rfl ty_160 (fun b13_7 => ?_)
          refine ⟨E.Ent.of E.entA, ?_⟩
          refine E.Plan.loud _ rfl rfl rfl ?_
          refine E.l_store rfl rfl rfl E.ixA 2 sz_160 (by rfl) (by rfl) (by rfl) (by rfl) ?_
          refine ⟨E.Ent.of E.entA, ?_⟩
          refine E.Plan.q _ rfl _ (E.q_mv rfl rfl) rfl rfl ?_
          refine E.Plan.nil ?_
          try simp only [E.tn, E.tx, E.tr, E.bn, E.br, E.bs]
        all_goals (
          (repeat refine E.Run.seq ?_)
          refine E.Run.region ?_
          refine E.Ops.q _ (E.q_move rfl rfl) rfl rfl ?_
          refine E.Ops.q _ (E.q_not rfl rfl) rfl rfl ?_
          refine E.Ops.nil ?_
          try simp only [E.tn, E.tx, E.tr, E.bn, E.br, E.bs]
          (repeat refine E.Run.seq ?_)
          (repeat refine E.Run.seq ?_); refine E.Run.condT rfl ?_
          (repeat refine E.Run.seq ?_)
          refine E.Run.region ?_
          refine E.Ops.q _ (E.q_move rfl rfl) rfl rfl ?_
          refine E.Ops.q _ (E.q_move rfl rfl) rfl rfl ?_
          refine E.Ops.q _ (E.q_struct rfl rfl pl_29 rfl) rfl rfl ?_
          refine E.Ops.loud rfl rfl ?_
          refine E.l_store rfl rfl rfl E.ixA 3 sz_29 (by rfl) (by rfl) (by rfl) (by rfl) ?_
          refine E.Ops.nil ?_
          try simp only [E.tn, E.tx, E.tr, E.bn, E.br, E.bs]
          refine E.Run.ret ?_
          try simp only [E.tn, E.tx, E.tr, E.bn, E.br, E.bs]
          exact ⟨_, _, _, E.ResOk.one rfl ⟨_, rfl, E.LoadAt.ownAgg E.ixA 3 ag_29 (by rfl) (by rfl)⟩, E.Ent.of E.entA, hK⟩)
      | some x =>
        have hA : ∃ A0, A0 = some ad := ⟨_, rfl⟩
        refine E.Run.seqCut (fun L' ρ' M' => ∃ b7, E.SubEnv [(1, .pointer (some ⟨b0_0, 0, none⟩)), (2, .pointer (some ⟨b0_1, 0, none⟩)), (3, .int .i64 t), (4, .slice (some ad1) code.length c1), (5, .int .i64 j), (6, .pointer (some ⟨b12_3, 0, none⟩)), (7, .pointer (some ⟨b7, 0, none⟩)), (8, .bool true), (50, .slice (some ad) p.code.length c), (51, .int .i64 p.code.length), (52, .int .i64 t), (62, .slice (some ad1) code.length c1), (63, .int .i64 code.length), (64, .int .i64 j)] L' ∧ E.Ent ρ' M' ρ (E.pt b7 160 [.string ⟨x.1.toArray⟩, .string ⟨x.2.toArray⟩] :: E.pt b12_3 44 [.int .i64 ins.op, .int .i64 ins.a, .int .i64 ins.b, .int .i64 ins.c] :: E.pt b0_1 29 [.int .i64 0, .int .i64 0, .int .i64 0] :: E.pt b0_0 25 [.slice (some ad) p.code.length c, .slice A' p.words.length c', .int .i64 p.locks, .int .i64 p.regs] :: M)) ?_ ?_
        · (repeat refine E.Run.seq ?_)
          refine E.Run.draw (.q 1 (.q 2 (.alt 0 7 (.q 3 (.q 4 (.q 5 (.q 6 (.l 7 (.l 8 (.q 9 (.nil)))))))) (.l 0 (.q 3 (.q 4 (.q 5 (.q 6 (.l 8 (.q 9 (.nil))))))))))) _ _ Try.mixed (by kernel_rfl) (E.Ent.refl _ _) ?_
          first | refine E.Plan.q _ rfl _ (E.q_fieldAddr' rfl rfl fo_44_0) rfl rfl ?_ | refine E.Plan.q _ rfl _ (E.q_fieldAddr rfl rfl fo_44_0) rfl rfl ?_
          refine E.Plan.q _ rfl _ (E.q_load rfl rfl (by first | refine E.LoadAt.own E.ixA sc_3 (by rfl) | exact E.LoadAt.ro sc_3 (by assumption) | exact E.LoadAt.arr E.ixA sc_3 (by assumption) | exact E.LoadAt.ro sc_3 (hrd1 _ _ rfl))) rfl rfl ?_
          refine E.Plan.alt ?S9_0 ?S9_1
          case' S9_1 =>
            refine E.StepA.loud _ rfl rfl rfl ?_
            refine E.l_alloc rfl ty_160 (fun b13_7 => ?_)
            refine ⟨E.Ent.of E.entA, ?_⟩
            refine E.Plan.re (E.Ent.of (by (repeat (first | (with_reducible apply E.SEnt.drop (P := E.pt b13_7 _ _)) | (with_reducible apply E.SEnt.keep))); first | exact E.SEnt.refl _ | exact E.SEnt.nil _)) (by exact E.Ent.of E.entA) ?_
            refine E.Plan.loud _ rfl rfl rfl ?_
            refine E.l_call Try.func87 nm_87 nb_87 rfl ?_; refine asmShapes (fun b13_0 => ?_)
            refine ⟨E.Ent.of E.entA, ?_⟩
            refine E.Plan.re (E.Ent.of (by (repeat (first | (with_reducible apply E.SEnt.drop (P := E.pt b13_7 _ _)) | (with_reducible apply E.SEnt.keep))); first | exact E.SEnt.refl _ | exact E.SEnt.nil _)) (by exact E.Ent.of E.entA) ?_
            refine E.Plan.q _ rfl _ (q_shapesT hs rfl rfl rfl (E.MapIs.own E.ixA) ik_162 ty_160) rfl rfl ?_
            refine E.Plan.q _ rfl _ (E.q_move rfl rfl) rfl rfl ?_
            refine E.Plan.q _ rfl _ (E.q_extract rfl rfl rfl) rfl rfl ?_
            refine E.Plan.q _ rfl _ (E.q_extract rfl rfl rfl) rfl rfl ?_
            refine E.Plan.loud _ rfl rfl rfl ?_
            refine E.l_store rfl rfl rfl E.ixA 2 sz_160 (by rfl) (by rfl) (by rfl) (by rfl) ?_
            refine ⟨E.Ent.of E.entA, ?_⟩
            refine E.Plan.q _ rfl _ (E.q_mv rfl rfl) rfl rfl ?_
            refine E.Plan.nil ?_
            try simp only [E.tn, E.tx, E.tr, E.bn, E.br, E.bs]
          case' S9_0 =>
            refine E.StepA.loud _ rfl rfl rfl ?_
            refine E.l_call Try.func87 nm_87 nb_87 rfl ?_; refine asmShapes (fun b13_0 => ?_)
            refine ⟨E.Ent.of E.entA, ?_⟩
            refine E.Plan.re (E.Ent.refl _ _) (by exact E.Ent.of E.entA) ?_
            refine E.Plan.q _ rfl _ (q_shapesT hs rfl rfl rfl (E.MapIs.own E.ixA) ik_162 ty_160) rfl rfl ?_
            refine E.Plan.q _ rfl _ (E.q_move rfl rfl) rfl rfl ?_
            refine E.Plan.q _ rfl _ (E.q_extract rfl rfl rfl) rfl rfl ?_
            refine E.Plan.q _ rfl _ (E.q_extract rfl rfl rfl) rfl rfl ?_
            refine E.Plan.loud _ rfl rfl rfl ?_
            refine E.l_alloc rfl ty_160 (fun b13_7 => ?_)
            refine ⟨E.Ent.of E.entA, ?_⟩
            refine E.Plan.loud _ rfl rfl rfl ?_
            refine E.l_store rfl rfl rfl E.ixA 2 sz_160 (by rfl) (by rfl) (by rfl) (by rfl) ?_
            refine ⟨E.Ent.of E.entA, ?_⟩
            refine E.Plan.q _ rfl _ (E.q_mv rfl rfl) rfl rfl ?_
            refine E.Plan.nil ?_
            try simp only [E.tn, E.tx, E.tr, E.bn, E.br, E.bs]
          all_goals exact ⟨b13_7, by ((repeat refine E.SubEnv.cons rfl ?_); exact E.SubEnv.nil _), by exact E.Ent.of E.entA⟩
        rintro L4 ρ4 M4 ⟨b7, hs4, he4⟩
        refine E.Run.sub hs4 (E.Run.ent he4 ?_)
        (repeat refine E.Run.seq ?_)
        (repeat refine E.Run.seq ?_)
        refine E.Run.region ?_
        refine E.Ops.q _ (E.q_move rfl rfl) rfl rfl ?_
        refine E.Ops.q _ (E.q_not rfl rfl) rfl rfl ?_
        refine E.Ops.nil ?_
        try simp only [E.tn, E.tx, E.tr, E.bn, E.br, E.bs]
        (repeat refine E.Run.seq ?_)
        (repeat refine E.Run.seq ?_); refine E.Run.condF rfl ?_
        refine E.Run.skip ?_
        try simp only [E.tn, E.tx, E.tr, E.bn, E.br, E.bs]
        (repeat refine E.Run.seq ?_)
        refine E.Run.region ?_
        refine E.Ops.q _ (E.q_load rfl rfl (by first | refine E.LoadAt.ownAgg E.ixA 4 ag_44 (by rfl) (by rfl) | exact E.LoadAt.roAgg ag_44 hrd1 rfl | exact E.LoadAt.roAgg ag_44 (by assumption) rfl)) rfl rfl ?_
        refine E.Ops.loud rfl rfl ?_
        refine E.l_call Try.func88 nm_88 nb_88 rfl ?_; refine asmNumbers ins ?_
        refine E.Ops.q _ (E.q_move rfl rfl) rfl rfl ?_
        refine E.Ops.nil ?_
        try simp only [E.tn, E.tx, E.tr, E.bn, E.br, E.bs]
        (repeat refine E.Run.seq ?_)
        (repeat refine E.Run.seq ?_); refine E.Run.block ?_
        (repeat refine E.Run.seq ?_); refine E.Run.loopS (fun (k : Nat) => [(1, .pointer (some ⟨b0_0, 0, none⟩)), (2, .pointer (some ⟨b0_1, 0, none⟩)), (3, .int .i64 t), (4, .slice (some ad1) code.length c1), (5, .int .i64 j), (6, .pointer (some ⟨b12_3, 0, none⟩)), (7, .pointer (some ⟨b7, 0, none⟩)), (50, .slice (some ad) p.code.length c), (51, .int .i64 p.code.length), (52, .int .i64 t), (62, .slice (some ad1) code.length c1), (63, .int .i64 code.length), (64, .int .i64 j), (82, .agg #[.int .i64 ins.a, .int .i64 ins.b, .int .i64 ins.c]), (83, .int .i64 k)]) ρ (fun _ => E.pt b7 160 [.string ⟨x.1.toArray⟩, .string ⟨x.2.toArray⟩] :: E.pt b12_3 44 [.int .i64 ins.op, .int .i64 ins.a, .int .i64 ins.b, .int .i64 ins.c] :: E.pt b0_1 29 [.int .i64 0, .int .i64 0, .int .i64 0] :: E.pt b0_0 25 [.slice (some ad) p.code.length c, .slice A' p.words.length c', .int .i64 p.locks, .int .i64 p.regs] :: M)
          (fun k => k ≤ 3 ∧ ∀ k', k' < k → okNum p code.length x.2 k' (insNum ins k') = true) (fun k => 3 - k) 0 ⟨by omega, by omega⟩ (by ((repeat refine E.SubEnv.cons rfl ?_); exact E.SubEnv.nil _)) (by exact E.Ent.of E.entA) ?_
        rintro k ⟨hk, hkk⟩
        (repeat refine E.Run.seq ?_)
        refine E.Run.region ?_
        refine E.Ops.q _ (E.q_lss rfl rfl rfl) rfl rfl ?_
        refine E.Ops.nil ?_
        try simp only [E.tn, E.tx, E.tr, E.bn, E.br, E.bs]
        (repeat refine E.Run.seq ?_)
        (repeat refine E.Run.seq ?_); refine E.Run.condD rfl (fun h17 => ?_) (fun h17 => ?_)
        · have hk3 : k < 3 := by omega
          refine E.Run.skip ?_
          try simp only [E.tn, E.tx, E.tr, E.bn, E.br, E.bs]
          (repeat refine E.Run.seq ?_)
          (repeat refine E.Run.seq ?_); refine E.Run.block ?_
          (repeat refine E.Run.seq ?_)
          refine E.Run.region ?_
          refine E.Ops.q _ (E.q_move rfl rfl) rfl rfl ?_
          refine E.Ops.q _ (E.q_indexVal rfl rfl rfl ao_164 sc_3 hk3 (show _ = some (.int .i64 (insNum ins k)) from by match k, hk3 with | 0, _ => rfl | 1, _ => rfl | 2, _ => rfl)) rfl rfl ?_
          refine E.Ops.q _ (E.q_mv rfl rfl) rfl rfl ?_
          refine E.Ops.q _ (E.q_mv rfl rfl) rfl rfl ?_
          refine E.Ops.nil ?_
          try simp only [E.tn, E.tx, E.tr, E.bn, E.br, E.bs]
          refine E.Run.seqCut (fun L' ρ' M' => E.SubEnv [(1, .pointer (some ⟨b0_0, 0, none⟩)), (2, .pointer (some ⟨b0_1, 0, none⟩)), (3, .int .i64 t), (4, .slice (some ad1) code.length c1), (5, .int .i64 j), (6, .pointer (some ⟨b12_3, 0, none⟩)), (7, .pointer (some ⟨b7, 0, none⟩)), (50, .slice (some ad) p.code.length c), (51, .int .i64 p.code.length), (52, .int .i64 t), (62, .slice (some ad1) code.length c1), (63, .int .i64 code.length), (64, .int .i64 j), (82, .agg #[.int .i64 ins.a, .int .i64 ins.b, .int .i64 ins.c]), (83, .int .i64 k), (113, .bool (!okNum p code.length x.2 k (insNum ins k)))] L' ∧ E.Ent ρ' M' ρ (E.pt b7 160 [.string ⟨x.1.toArray⟩, .string ⟨x.2.toArray⟩] :: E.pt b12_3 44 [.int .i64 ins.op, .int .i64 ins.a, .int .i64 ins.b, .int .i64 ins.c] :: E.pt b0_1 29 [.int .i64 0, .int .i64 0, .int .i64 0] :: E.pt b0_0 25 [.slice (some ad) p.code.length c, .slice A' p.words.length c', .int .i64 p.locks, .int .i64 p.regs] :: M)) ?_ ?_
          · (repeat refine E.Run.seq ?_)
            refine E.Run.draw (.q 0 (.q 1 (.q 2 (.q 3 (.q 4 (.q 5 (.q 6 (.q 7 (.q 8 (.q 9 (.q 10 (.q 11 (.q 12 (.l 13 (.ph [14, 15, 16, 17, 18, 19, 20, 21, 22, 23, 24, 25, 26] (.nil)))))))))))))))) _ _ Try.mixed (by kernel_rfl) (E.Ent.refl _ _) ?_
            refine E.Plan.q _ rfl _ (E.q_move rfl rfl) rfl rfl ?_
            first | refine E.Plan.q _ rfl _ (E.q_fieldAddr' rfl rfl fo_160_1) rfl rfl ?_ | refine E.Plan.q _ rfl _ (E.q_fieldAddr rfl rfl fo_160_1) rfl rfl ?_
            refine E.Plan.q _ rfl _ (E.q_load rfl rfl (by first | refine E.LoadAt.own E.ixA sc_9 (by rfl) | exact E.LoadAt.ro sc_9 (by assumption) | exact E.LoadAt.arr E.ixA sc_9 (by assumption) | exact E.LoadAt.ro sc_9 (hrd1 _ _ rfl))) rfl rfl ?_
            refine E.Plan.q _ rfl _ (E.q_lenStr rfl Try.underlying9) rfl rfl ?_
            refine E.Plan.part _ rfl (E.q_lss rfl rfl rfl) rfl rfl (fun h19_4 => ?T10) (fun h19_4 => ?F10)
            case' F10 =>
              refine E.Plan.q _ rfl _ (E.q_move rfl rfl) rfl rfl ?_
              refine E.Plan.skip _ rfl rfl rfl ?_
              refine E.Plan.skip _ rfl rfl rfl ?_
              refine E.Plan.skip _ rfl rfl rfl ?_
              refine E.Plan.skip _ rfl rfl rfl ?_
              refine E.Plan.skip _ rfl rfl rfl ?_
              refine E.Plan.skip _ rfl rfl rfl ?_
              refine E.Plan.skip _ rfl rfl rfl ?_
              refine E.Plan.loudskip _ rfl rfl rfl ?_
              refine E.Plan.ph (by exact E.Ent.of E.entA) ?_
              refine E.PlanQ.skip _ rfl rfl rfl ?_
              refine E.PlanQ.q _ rfl _ (E.q_pickF rfl rfl rfl) rfl rfl ?_
              refine E.PlanQ.q _ rfl _ (E.q_move rfl rfl) rfl rfl ?_
              refine E.PlanQ.q _ rfl _ (E.q_move rfl rfl) rfl rfl ?_
              first | refine E.PlanQ.q _ rfl _ (E.q_fieldAddr' rfl rfl fo_160_1) rfl rfl ?_ | refine E.PlanQ.q _ rfl _ (E.q_fieldAddr rfl rfl fo_160_1) rfl rfl ?_
              refine E.PlanQ.q _ rfl _ (E.q_load rfl rfl (by first | refine E.LoadAt.own E.ixA sc_9 (by rfl) | exact E.LoadAt.ro sc_9 (by assumption) | exact E.LoadAt.arr E.ixA sc_9 (by assumption) | exact E.LoadAt.ro sc_9 (hrd1 _ _ rfl))) rfl rfl ?_
              refine E.PlanQ.q _ rfl _ (E.q_lenStr rfl Try.underlying9) rfl rfl ?_
              refine E.PlanQ.part _ rfl (E.q_geq rfl rfl rfl) rfl rfl (fun h19_21 => ?T11) (fun h19_21 => ?F11)
              case' F11 =>
                refine E.PlanQ.q _ rfl _ (E.q_move rfl rfl) rfl rfl ?_
                refine E.PlanQ.skip _ rfl rfl rfl ?_
                refine E.PlanQ.skip _ rfl rfl rfl ?_
                refine E.PlanQ.q _ rfl _ (E.q_pickF rfl rfl rfl) rfl rfl ?_
                refine E.PlanQ.q _ rfl _ (E.q_pickF rfl rfl rfl) rfl rfl ?_
                refine E.PlanQ.nil ?_
                refine E.Plan.nil ?_
                try simp only [E.tn, E.tx, E.tr, E.bn, E.br, E.bs]
              case' T11 =>
                refine E.PlanQ.q _ rfl _ (E.q_move rfl rfl) rfl rfl ?_
                refine E.PlanQ.q _ rfl _ (E.q_move rfl rfl) rfl rfl ?_
                refine E.PlanQ.q _ rfl _ (E.q_neq rfl rfl rfl) rfl rfl ?_
                refine E.PlanQ.q _ rfl _ (E.q_pickT rfl rfl rfl) rfl rfl ?_
                refine E.PlanQ.q _ rfl _ (E.q_pickF rfl rfl rfl) rfl rfl ?_
                refine E.PlanQ.nil ?_
                refine E.Plan.nil ?_
                try simp only [E.tn, E.tx, E.tr, E.bn, E.br, E.bs]
            case' T10 =>
              refine E.Plan.q _ rfl _ (E.q_move rfl rfl) rfl rfl ?_
              refine E.Plan.q _ rfl _ (E.q_load rfl rfl (by first | refine E.LoadAt.ownAgg E.ixA 4 ag_25 (by rfl) (by rfl) | exact E.LoadAt.roAgg ag_25 hrd1 rfl | exact E.LoadAt.roAgg ag_25 (by assumption) rfl)) rfl rfl ?_
              refine E.Plan.q _ rfl _ (E.q_move rfl rfl) rfl rfl ?_
              first | refine E.Plan.q _ rfl _ (E.q_fieldAddr' rfl rfl fo_160_1) rfl rfl ?_ | refine E.Plan.q _ rfl _ (E.q_fieldAddr rfl rfl fo_160_1) rfl rfl ?_
              refine E.Plan.q _ rfl _ (E.q_load rfl rfl (by first | refine E.LoadAt.own E.ixA sc_9 (by rfl) | exact E.LoadAt.ro sc_9 (by assumption) | exact E.LoadAt.arr E.ixA sc_9 (by assumption) | exact E.LoadAt.ro sc_9 (hrd1 _ _ rfl))) rfl rfl ?_
              refine E.Plan.q _ rfl _ (E.q_move rfl rfl) rfl rfl ?_
              refine E.Plan.q _ rfl _ (E.q_indexStr rfl rfl rfl Try.underlying9 (by omega) (by omega)) rfl rfl ?_
              refine E.Plan.q _ rfl _ (E.q_move rfl rfl) rfl rfl ?_
              refine E.Plan.loud _ rfl rfl rfl ?_
              refine E.l_call Try.func89 nm_89 nb_89 rfl ?_; refine asmFits _ _ _ _ _ _ p _ _ _ hsize ?_
              refine ⟨E.Ent.of E.entA, ?_⟩
              refine E.Plan.bool (fun h19_13 => ?T12) (fun h19_13 => ?F12)
              case' F12 =>
                refine E.Plan.ph (by exact E.Ent.of E.entA) ?_
                refine E.PlanQ.q _ rfl _ (E.q_not rfl rfl) rfl rfl ?_
                refine E.PlanQ.q _ rfl _ (E.q_pickT rfl rfl rfl) rfl rfl ?_
                refine E.PlanQ.q _ rfl _ (E.q_move rfl rfl) rfl rfl ?_
                refine E.PlanQ.skip _ rfl rfl rfl ?_
                refine E.PlanQ.skip _ rfl rfl rfl ?_
                refine E.PlanQ.skip _ rfl rfl rfl ?_
                refine E.PlanQ.skip _ rfl rfl rfl ?_
                refine E.PlanQ.skip _ rfl rfl rfl ?_
                refine E.PlanQ.skip _ rfl rfl rfl ?_
                refine E.PlanQ.skip _ rfl rfl rfl ?_
                refine E.PlanQ.skip _ rfl rfl rfl ?_
                refine E.PlanQ.skip _ rfl rfl rfl ?_
                refine E.PlanQ.q _ rfl _ (E.q_pickT rfl rfl rfl) rfl rfl ?_
                refine E.PlanQ.nil ?_
                refine E.Plan.nil ?_
                try simp only [E.tn, E.tx, E.tr, E.bn, E.br, E.bs]
              case' T12 =>
                refine E.Plan.ph (by exact E.Ent.of E.entA) ?_
                refine E.PlanQ.q _ rfl _ (E.q_not rfl rfl) rfl rfl ?_
                refine E.PlanQ.q _ rfl _ (E.q_pickT rfl rfl rfl) rfl rfl ?_
                refine E.PlanQ.q _ rfl _ (E.q_move rfl rfl) rfl rfl ?_
                refine E.PlanQ.q _ rfl _ (E.q_move rfl rfl) rfl rfl ?_
                first | refine E.PlanQ.q _ rfl _ (E.q_fieldAddr' rfl rfl fo_160_1) rfl rfl ?_ | refine E.PlanQ.q _ rfl _ (E.q_fieldAddr rfl rfl fo_160_1) rfl rfl ?_
                refine E.PlanQ.q _ rfl _ (E.q_load rfl rfl (by first | refine E.LoadAt.own E.ixA sc_9 (by rfl) | exact E.LoadAt.ro sc_9 (by assumption) | exact E.LoadAt.arr E.ixA sc_9 (by assumption) | exact E.LoadAt.ro sc_9 (hrd1 _ _ rfl))) rfl rfl ?_
                refine E.PlanQ.q _ rfl _ (E.q_lenStr rfl Try.underlying9) rfl rfl ?_
                refine E.PlanQ.part _ rfl (E.q_geq rfl rfl rfl) rfl rfl (fun h19_21 => ?T13) (fun h19_21 => ?F13)
                case' F13 =>
                  refine E.PlanQ.q _ rfl _ (E.q_move rfl rfl) rfl rfl ?_
                  refine E.PlanQ.skip _ rfl rfl rfl ?_
                  refine E.PlanQ.skip _ rfl rfl rfl ?_
                  refine E.PlanQ.q _ rfl _ (E.q_pickF rfl rfl rfl) rfl rfl ?_
                  refine E.PlanQ.q _ rfl _ (E.q_pickF rfl rfl rfl) rfl rfl ?_
                  refine E.PlanQ.nil ?_
                  refine E.Plan.nil ?_
                  try simp only [E.tn, E.tx, E.tr, E.bn, E.br, E.bs]
                case' T13 =>
                  refine E.PlanQ.q _ rfl _ (E.q_move rfl rfl) rfl rfl ?_
                  refine E.PlanQ.q _ rfl _ (E.q_move rfl rfl) rfl rfl ?_
                  refine E.PlanQ.q _ rfl _ (E.q_neq rfl rfl rfl) rfl rfl ?_
                  refine E.PlanQ.q _ rfl _ (E.q_pickT rfl rfl rfl) rfl rfl ?_
                  refine E.PlanQ.q _ rfl _ (E.q_pickF rfl rfl rfl) rfl rfl ?_
                  refine E.PlanQ.nil ?_
                  refine E.Plan.nil ?_
                  try simp only [E.tn, E.tx, E.tr, E.bn, E.br, E.bs]
            · exact absurd h19_21 (by omega)
            · refine ⟨?_, by exact E.Ent.of E.entA⟩
              rw [okNum_in (by omega), h19_13]
              ((repeat refine E.SubEnv.cons rfl ?_); exact E.SubEnv.nil _)
            · refine ⟨?_, by exact E.Ent.of E.entA⟩
              rw [okNum_in (by omega), h19_13]
              ((repeat refine E.SubEnv.cons rfl ?_); exact E.SubEnv.nil _)
            · refine ⟨?_, by exact E.Ent.of E.entA⟩
              rw [okNum_out h19_4, show (!decide (insNum ins k = 0)) = decide (insNum ins k ≠ 0) from by simp]
              ((repeat refine E.SubEnv.cons rfl ?_); exact E.SubEnv.nil _)
            · exact absurd h19_21 (by omega)
          rintro L5 ρ5 M5 ⟨hs5, he5⟩
          refine E.Run.sub hs5 (E.Run.ent he5 ?_)
          cases hok : okNum p code.length x.2 k (insNum ins k) with
          | false =>
            rw [badIns_no hs hk3 hok] at hinj
            rw [← hinj] at hinv
            rw [← hinv] at hK
            (repeat refine E.Run.seq ?_)
            (repeat refine E.Run.seq ?_); refine E.Run.condT rfl ?_
            (repeat refine E.Run.seq ?_)
            refine E.Run.region ?_
            refine E.Ops.q _ (E.q_move rfl rfl) rfl rfl ?_
            refine E.Ops.q _ (E.q_move rfl rfl) rfl rfl ?_
            refine E.Ops.q _ (E.q_struct rfl rfl pl_29 rfl) rfl rfl ?_
            refine E.Ops.loud rfl rfl ?_
            refine E.l_store rfl rfl rfl E.ixA 3 sz_29 (by rfl) (by rfl) (by rfl) (by rfl) ?_
            refine E.Ops.nil ?_
            try simp only [E.tn, E.tx, E.tr, E.bn, E.br, E.bs]
            refine E.Run.ret ?_
            try simp only [E.tn, E.tx, E.tr, E.bn, E.br, E.bs]
            exact ⟨_, _, _, E.ResOk.one rfl ⟨_, rfl, E.LoadAt.ownAgg E.ixA 3 ag_29 (by rfl) (by rfl)⟩, E.Ent.of E.entA, hK⟩
          | true =>
            (repeat refine E.Run.seq ?_)
            (repeat refine E.Run.seq ?_); refine E.Run.condF rfl ?_
            refine E.Run.skip ?_
            try simp only [E.tn, E.tx, E.tr, E.bn, E.br, E.bs]
            (repeat refine E.Run.seq ?_)
            refine E.Run.region ?_
            first | refine E.Ops.q _ (E.q_incr rfl rfl (by omega)) rfl rfl ?_ | refine E.Ops.q _ (E.q_addFit rfl rfl rfl (by omega)) rfl rfl ?_ | refine E.Ops.q _ (E.q_add rfl rfl rfl) rfl rfl ?_
            refine E.Ops.q _ (E.q_move rfl rfl) rfl rfl ?_
            refine E.Ops.nil ?_
            try simp only [E.tn, E.tx, E.tr, E.bn, E.br, E.bs]
            exact ⟨k + 1, ⟨by omega, fun k' hk' => by
              by_cases e : k' = k
              · rw [e]; exact hok
              · exact hkk k' (by omega)⟩, by omega, by ((repeat refine E.SubEnv.cons rfl ?_); exact E.SubEnv.nil _), by exact E.Ent.of E.entA⟩
        · refine E.Run.exit ?_
          try simp only [E.tn, E.tx, E.tr, E.bn, E.br, E.bs]
          rw [badIns_all hs (fun k' hk' => hkk k' (by omega))] at hinj
          (repeat refine E.Run.seq ?_)
          refine E.Run.region ?_
          first | refine E.Ops.q _ (E.q_incr rfl rfl (by omega)) rfl rfl ?_ | refine E.Ops.q _ (E.q_addFit rfl rfl rfl (by omega)) rfl rfl ?_ | refine E.Ops.q _ (E.q_add rfl rfl rfl) rfl rfl ?_
          refine E.Ops.q _ (E.q_move rfl rfl) rfl rfl ?_
          refine E.Ops.nil ?_
          try simp only [E.tn, E.tx, E.tr, E.bn, E.br, E.bs]
          exact ⟨j + 1, ⟨by omega, hinj⟩, by omega, by ((repeat refine E.SubEnv.cons rfl ?_); exact E.SubEnv.nil _), by exact E.Ent.of E.entA⟩
    · refine E.Run.exit ?_
      try simp only [E.tn, E.tx, E.tr, E.bn, E.br, E.bs]
      have : j = code.length := by omega
      subst this
      rw [List.drop_length] at hinj
      rw [← hinj] at hinv
      (repeat refine E.Run.seq ?_)
      refine E.Run.region ?_
      first | refine E.Ops.q _ (E.q_incr rfl rfl (by omega)) rfl rfl ?_ | refine E.Ops.q _ (E.q_addFit rfl rfl rfl (by omega)) rfl rfl ?_ | refine E.Ops.q _ (E.q_add rfl rfl rfl) rfl rfl ?_
      refine E.Ops.q _ (E.q_move rfl rfl) rfl rfl ?_
      refine E.Ops.nil ?_
      try simp only [E.tn, E.tx, E.tr, E.bn, E.br, E.bs]
      exact ⟨t + 1, ⟨by omega, hinv⟩, by omega, by ((repeat refine E.SubEnv.cons rfl ?_); exact E.SubEnv.nil _), by exact E.Ent.of E.entA⟩
  · refine E.Run.exit ?_
    try simp only [E.tn, E.tx, E.tr, E.bn, E.br, E.bs]
    have : t = p.code.length := by omega
    subst this
    rw [List.drop_length] at hinv
    rw [← hinv] at hK
    (repeat refine E.Run.seq ?_)
    refine E.Run.region ?_
    refine E.Ops.q _ (E.q_struct rfl rfl pl_29 rfl) rfl rfl ?_
    refine E.Ops.loud rfl rfl ?_
    refine E.l_store rfl rfl rfl E.ixA 3 sz_29 (by rfl) (by rfl) (by rfl) (by rfl) ?_
    refine E.Ops.nil ?_
    try simp only [E.tn, E.tx, E.tr, E.bn, E.br, E.bs]
    refine E.Run.ret ?_
    try simp only [E.tn, E.tx, E.tr, E.bn, E.br, E.bs]
    exact ⟨_, _, _, E.ResOk.one rfl ⟨_, rfl, E.LoadAt.ownAgg E.ixA 3 ag_29 (by rfl) (by rfl)⟩, E.Ent.of E.entA, hK⟩
end Go.Proofs.Ythpgjbdacknkgaa
