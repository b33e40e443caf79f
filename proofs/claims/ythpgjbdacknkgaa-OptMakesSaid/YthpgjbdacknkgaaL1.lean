/- asm.Kinds and live.Reads, walked. No statement of the seat in it. -/
import Derived.Test.YthpgjbdacknkgaaA3
import Derived.Test.YthpgjbdacknkgaaO1
import Derived.Test.YthpgjbdacknkgaaExt
import Derived.Test.YthpgjbdacknkgaaP3
set_option linter.unusedVariables false
set_option linter.unusedSimpArgs false
namespace Go.Proofs.Ythpgjbdacknkgaa
open Go
private theorem ag_44 : E.isAggOf Try.prog 44 4 = true := by kernel_rfl
private theorem fo_44_0 : E.fieldOff Try.prog 44 0 = some 0 := by kernel_rfl
private theorem fo_44_1 : E.fieldOff Try.prog 44 1 = some 1 := by kernel_rfl
private theorem fo_44_2 : E.fieldOff Try.prog 44 2 = some 2 := by kernel_rfl
private theorem fo_44_3 : E.fieldOff Try.prog 44 3 = some 3 := by kernel_rfl
private theorem fsc_160_1 : E.fieldScal Try.prog 160 1 = some 1 := by kernel_rfl
private theorem ik_162 : E.isIntKey Try.prog 162 = some 160 := by kernel_rfl
private theorem nb_124 : Try.f124.body.isNone = false := by kernel_rfl
private theorem nb_87 : Try.f87.body.isNone = false := by kernel_rfl
private theorem nb_94 : Try.f94.body.isNone = false := by kernel_rfl
private theorem nm_124 : (Try.f124.name == "runtime.NumGoroutine") = false := by kernel_rfl
private theorem nm_87 : (Try.f87.name == "runtime.NumGoroutine") = false := by kernel_rfl
private theorem nm_94 : (Try.f94.name == "runtime.NumGoroutine") = false := by kernel_rfl
private theorem sc_3 : E.isScal Try.prog 3 = true := by kernel_rfl
private theorem so_23 : E.sliceOf Try.prog 23 = some (3, 1) := by kernel_rfl
private theorem ty_160 : E.tyOf Try.prog 160 = some (some (.agg #[.string ⟨#[]⟩, .string ⟨#[]⟩]), 2, 32) := by kernel_rfl
private theorem ty_3 : E.tyOf Try.prog 3 = some (some (.int .i64 0), 1, 8) := by kernel_rfl

/-- the kinds of an order's numbers -/
def kindsOf (op : Int) : List UInt8 := ((shpOf op).getD ([], [])).2
theorem kinds_small (op : Int) : (kindsOf op).length ≤ 3 ∧ ∀ c ∈ kindsOf op, c.toNat < 128 := by
  unfold kindsOf
  cases h : shpOf op with
  | none => simp
  | some x =>
    have hm := shpOf_mem h
    obtain ⟨n, ks⟩ := x
    simp only [shp, List.mem_cons, List.not_mem_nil, or_false, Prod.mk.injEq] at hm
    rcases hm with ⟨_, _, rfl⟩ | ⟨_, _, rfl⟩ | ⟨_, _, rfl⟩ | ⟨_, _, rfl⟩ | ⟨_, _, rfl⟩ | ⟨_, _, rfl⟩ | ⟨_, _, rfl⟩ | ⟨_, _, rfl⟩ | ⟨_, _, rfl⟩ | ⟨_, _, rfl⟩ | ⟨_, _, rfl⟩ | ⟨_, _, rfl⟩ | ⟨_, _, rfl⟩ | ⟨_, _, rfl⟩ | ⟨_, _, rfl⟩ | ⟨_, _, rfl⟩ | ⟨_, _, rfl⟩ | ⟨_, _, rfl⟩ <;>
      (simp only [Option.getD_some]; exact ⟨by decide, by decide⟩)
theorem q_shapes {P : Program} {L : E.Env} {ρ : E.Ro} {M : List E.Asr} {o : Oper} {t e : TypeId} {m x : Operand} {b : Nat} {k : Int} {sz by' : Nat} (ho : o.op = .lookup t m x false) (hm : E.ev L m = some (.map (some b))) (hx : E.ev L x = some (.int .i64 k))
    (hk : E.MapIs ρ M b shpKvs) (ht : E.isIntKey P t = some e) (hz : E.tyOf P e = some (some (.agg #[.string ⟨#[]⟩, .string ⟨#[]⟩]), sz, by')) : E.QOp P L ρ M o (shpV ((shpOf k).getD ([], []))) := by
  have h := E.q_lookup ho hm hx hk ht hz
  rw [getI_shp] at h
  cases hs : shpOf k with
  | none => rw [hs] at h; exact h
  | some v => rw [hs] at h; exact h

set_option maxRecDepth 100000 in
theorem asmKinds {ρ : E.Ro} {M : List E.Asr} {K : Value → E.Ro → List E.Asr → Prop} (op : Int) (hK : K (.string ⟨(kindsOf op).toArray⟩) ρ M) :
    E.Hoa Try.prog 124 #[.int .i64 op] ρ M K := by
  refine E.Hoa.enter 7 Try.func124 rfl rfl rfl ?_
  (repeat refine E.Run.seq ?_)
  refine E.Run.region ?_
  refine E.Ops.q _ (E.q_mv rfl rfl) rfl rfl ?_
  refine E.Ops.nil ?_
  try simp only [E.tn, E.tx, E.tr, E.bn, E.br, E.bs]
  (repeat refine E.Run.seq ?_)
  refine E.Run.region ?_
  refine E.Ops.loud rfl rfl ?_
  refine E.l_call Try.func87 nm_87 nb_87 rfl ?_; refine asmShapes (fun b => ?_)
  refine E.Ops.q _ (E.q_move rfl rfl) rfl rfl ?_
  refine E.Ops.q _ (q_shapes rfl rfl rfl (E.MapIs.own E.ixA) ik_162 ty_160) rfl rfl ?_
  refine E.Ops.q _ (E.q_field rfl rfl fsc_160_1 rfl) rfl rfl ?_
  refine E.Ops.q _ (E.q_mv rfl rfl) rfl rfl ?_
  refine E.Ops.nil ?_
  try simp only [E.tn, E.tx, E.tr, E.bn, E.br, E.bs]
  refine E.Run.ret ?_
  try simp only [E.tn, E.tx, E.tr, E.bn, E.br, E.bs]
  exact ⟨_, _, _, E.ResOk.one rfl rfl, E.Ent.of E.entA, hK⟩

/-- the registers that an order reads, in order, the first n numbers -/
def rdsN (i : E.Ins) : Nat → List Int
  | 0 => []
  | n + 1 => rdsN i n ++ (match (kindsOf i.op)[n]? with
    | some c => if (c.toNat : Int) = 114 ∧ ¬(n = 0 ∧ i.op ≠ 13 ∧ insWrites i ≥ 0) then [insNum i n] else []
    | none => [])
def insReads (i : E.Ins) : List Int := rdsN i (kindsOf i.op).length
theorem rdsN_len (i : E.Ins) : ∀ n, (rdsN i n).length ≤ n
  | 0 => Nat.le_refl _
  | n + 1 => by
    have := rdsN_len i n
    unfold rdsN
    rw [List.length_append]
    split
    · split <;> simp <;> omega
    · simp; omega

set_option maxRecDepth 100000 in
theorem liveReads {ρ : E.Ro} {M : List E.Asr} {K : Value → E.Ro → List E.Asr → Prop} (i : E.Ins)
    (hK : ∀ A c n, n = (insReads i).length → K (.slice A n c) ρ (E.arr 3 1 A n c ((insReads i).flatMap E.encI) :: M)) :
    E.Hoa Try.prog 95 #[.agg (E.encIns i).toArray] ρ M K := by
  obtain ⟨hk3, hlow⟩ := kinds_small i.op
  have hrd : insReads i = rdsN i (kindsOf i.op).length := rfl
  have hrl := rdsN_len i
  refine E.Hoa.enter 47 Try.func95 rfl rfl rfl ?_
  (repeat refine E.Run.seq ?_)
  refine E.Run.region ?_
  refine E.Ops.loud rfl rfl ?_
  refine E.l_box rfl rfl (fun b0_0 => ?_)
  refine E.Ops.q _ (E.q_mv rfl rfl) rfl rfl ?_
  refine E.Ops.nil ?_
  try simp only [E.tn, E.tx, E.tr, E.bn, E.br, E.bs]
  (repeat refine E.Run.seq ?_)
  refine E.Run.region ?_
  refine E.Ops.q _ (E.q_mv rfl rfl) rfl rfl ?_
  refine E.Ops.nil ?_
  try simp only [E.tn, E.tx, E.tr, E.bn, E.br, E.bs]
  refine E.Run.seqCut (fun L' ρ' M' => ∃ AO CO, E.SubEnv [(3, .slice AO (insReads i).length CO)] L' ∧ E.Ent ρ' M' ρ (E.arr 3 1 AO (insReads i).length CO ((insReads i).flatMap E.encI) :: M)) ?_ ?_
  · (repeat refine E.Run.seq ?_)
    refine E.Run.region ?_
    first | refine E.Ops.q _ (E.q_fieldAddr' rfl rfl fo_44_0) rfl rfl ?_ | refine E.Ops.q _ (E.q_fieldAddr rfl rfl fo_44_0) rfl rfl ?_
    refine E.Ops.q _ (E.q_load rfl rfl (by first | refine E.LoadAt.own E.ixA sc_3 (by rfl) | exact E.LoadAt.ro sc_3 (by assumption) | exact E.LoadAt.arr E.ixA sc_3 (by assumption))) rfl rfl ?_
    refine E.Ops.loud rfl rfl ?_
    refine E.l_call Try.func124 nm_124 nb_124 rfl ?_; refine asmKinds i.op ?_
    refine E.Ops.loud rfl rfl ?_
    refine E.l_rangeStr rfl rfl Try.underlying9 (fun m2_3 => ?_)
    refine E.Ops.nil ?_
    try simp only [E.tn, E.tx, E.tr, E.bn, E.br, E.bs]
    generalize hks : kindsOf i.op = ks at *
    (repeat refine E.Run.seq ?_); refine E.Run.block ?_
    (repeat refine E.Run.seq ?_); refine E.Run.loopS (fun (x : Nat × Option Addr × Nat) => [(1, .pointer (some ⟨b0_0, 0, none⟩)), (3, .slice x.2.1 (rdsN i x.1).length x.2.2), (10, .pointer (some ⟨m2_3, 0, none⟩))]) ρ
      (fun x => E.sit m2_3 ⟨ks.toArray⟩ x.1 :: E.arr 3 1 x.2.1 (rdsN i x.1).length x.2.2 ((rdsN i x.1).flatMap E.encI) :: E.pt b0_0 44 (E.encIns i) :: M) (fun x => x.1 ≤ ks.length) (fun x => ks.length - x.1) (0, none, 0) (Nat.zero_le _) (by ((repeat refine E.SubEnv.cons rfl ?_); exact E.SubEnv.nil _)) (E.Ent.of (by
        refine E.SEnt.keep ?_
        exact E.SEnt.addNil E.entA)) ?_
    rintro ⟨k, AO, CO⟩ hk
    simp only at hk ⊢
    have hsz : (⟨ks.toArray⟩ : ByteArray).size = ks.length := by simp [ByteArray.size]
    have hget : ∀ (j : Nat) (h : j < (⟨ks.toArray⟩ : ByteArray).size) (h' : j < ks.length), (⟨ks.toArray⟩ : ByteArray)[j]'h = ks[j] := fun j h h' => rfl
    (repeat refine E.Run.seq ?_)
    refine E.Run.region ?_
    refine E.Ops.loud rfl rfl ?_
    refine E.l_nextStr rfl rfl E.ixA (fun h => by rw [hget k h (by omega)]; exact hlow _ (List.getElem_mem _)) (fun hover => ?T1) (fun hin => ?F1)
    case' F1 =>
      refine E.Ops.q _ (E.q_extract rfl rfl rfl) rfl rfl ?_
      refine E.Ops.nil ?_
      try simp only [E.tn, E.tx, E.tr, E.bn, E.br, E.bs]
    case' T1 =>
      refine E.Ops.q _ (E.q_extract rfl rfl rfl) rfl rfl ?_
      refine E.Ops.nil ?_
      try simp only [E.tn, E.tx, E.tr, E.bn, E.br, E.bs]
    · (repeat refine E.Run.seq ?_); refine E.Run.condF rfl ?_
      refine E.Run.exit ?_
      try simp only [E.tn, E.tx, E.tr, E.bn, E.br, E.bs]
      have : k = ks.length := by omega
      subst this
      rw [hrd]
      exact ⟨AO, CO, by ((repeat refine E.SubEnv.cons rfl ?_); exact E.SubEnv.nil _), by exact E.Ent.of E.entA⟩
    · have hk' : k < ks.length := by omega
      have hrd1 : rdsN i (k + 1) = rdsN i k ++ (if (ks[k].toNat : Int) = 114 ∧ ¬(k = 0 ∧ i.op ≠ 13 ∧ insWrites i ≥ 0) then [insNum i k] else []) := by
        show rdsN i k ++ _ = _
        rw [hks, List.getElem?_eq_getElem hk']
      (repeat refine E.Run.seq ?_); refine E.Run.condT rfl ?_
      refine E.Run.skip ?_
      try simp only [E.tn, E.tx, E.tr, E.bn, E.br, E.bs]
      have hel : (([(0, Value.int .i64 i.a), (1, Value.int .i64 i.b), (2, Value.int .i64 i.c)] : List (Nat × Value)).map (fun p => p.2.cells.toList)).flatten[k * 1]? = some (.int .i64 (insNum i k)) := by
        match k, hk' with
        | 0, _ => rfl
        | 1, _ => rfl
        | 2, _ => rfl
        | j + 3, h => omega
      rw [hget k hin hk']
      (repeat refine E.Run.seq ?_); refine E.Run.block ?_
      (repeat refine E.Run.seq ?_)
      refine E.Run.region ?_
      refine E.Ops.q _ (E.q_extract rfl rfl rfl) rfl rfl ?_
      refine E.Ops.q _ (E.q_extract rfl rfl rfl) rfl rfl ?_
      refine E.Ops.q _ (E.q_mv rfl rfl) rfl rfl ?_
      refine E.Ops.q _ (E.q_mv rfl rfl) rfl rfl ?_
      refine E.Ops.nil ?_
      try simp only [E.tn, E.tx, E.tr, E.bn, E.br, E.bs]
      (repeat refine E.Run.seq ?_)
      refine E.Run.region ?_
      first | refine E.Ops.q _ (E.q_fieldAddr' rfl rfl fo_44_1) rfl rfl ?_ | refine E.Ops.q _ (E.q_fieldAddr rfl rfl fo_44_1) rfl rfl ?_
      refine E.Ops.q _ (E.q_load rfl rfl (by first | refine E.LoadAt.own E.ixA sc_3 (by rfl) | exact E.LoadAt.ro sc_3 (by assumption) | exact E.LoadAt.arr E.ixA sc_3 (by assumption))) rfl rfl ?_
      first | refine E.Ops.q _ (E.q_fieldAddr' rfl rfl fo_44_2) rfl rfl ?_ | refine E.Ops.q _ (E.q_fieldAddr rfl rfl fo_44_2) rfl rfl ?_
      refine E.Ops.q _ (E.q_load rfl rfl (by first | refine E.LoadAt.own E.ixA sc_3 (by rfl) | exact E.LoadAt.ro sc_3 (by assumption) | exact E.LoadAt.arr E.ixA sc_3 (by assumption))) rfl rfl ?_
      first | refine E.Ops.q _ (E.q_fieldAddr' rfl rfl fo_44_3) rfl rfl ?_ | refine E.Ops.q _ (E.q_fieldAddr rfl rfl fo_44_3) rfl rfl ?_
      refine E.Ops.q _ (E.q_load rfl rfl (by first | refine E.LoadAt.own E.ixA sc_3 (by rfl) | exact E.LoadAt.ro sc_3 (by assumption) | exact E.LoadAt.arr E.ixA sc_3 (by assumption))) rfl rfl ?_
      refine E.Ops.loud rfl rfl ?_
      refine E.l_slice rfl rfl Try.underlying23 ty_3 rfl rfl rfl rfl rfl rfl (fun g5_6 => ?_)
      refine E.Ops.q _ (E.q_move rfl rfl) rfl rfl ?_
      refine E.Ops.q _ (E.q_indexNat rfl rfl rfl so_23 (by omega)) rfl rfl ?_
      refine E.Ops.q _ (E.q_load (v := .int .i64 (insNum i k)) rfl rfl (E.LoadAt.arr E.ixA sc_3 hel)) rfl rfl ?_
      refine E.Ops.q _ (E.q_mv rfl rfl) rfl rfl ?_
      refine E.Ops.nil ?_
      try simp only [E.tn, E.tx, E.tr, E.bn, E.br, E.bs]
      refine E.Run.seqCut (fun L' ρ' M' => E.SubEnv [(1, .pointer (some ⟨b0_0, 0, none⟩)), (3, .slice AO (rdsN i k).length CO), (10, .pointer (some ⟨m2_3, 0, none⟩)), (6, .int .i64 (insNum i k)), (41, .bool (decide ((ks[k].toNat : Int) = 114 ∧ ¬(k = 0 ∧ i.op ≠ 13 ∧ insWrites i ≥ 0))))] L' ∧
        E.Ent ρ' M' ρ (E.sit m2_3 ⟨ks.toArray⟩ (k + 1) :: E.arr 3 1 AO (rdsN i k).length CO ((rdsN i k).flatMap E.encI) :: E.pt b0_0 44 (E.encIns i) :: M)) ?_ ?_
      · (repeat refine E.Run.seq ?_)
        refine E.Run.region ?_
        refine E.Ops.q _ (E.q_move rfl rfl) rfl rfl ?_
        refine E.Ops.part (E.q_eql rfl rfl rfl) rfl rfl (fun h1 => ?T2) (fun h1 => ?F2)
        case' F2 =>
          refine E.Ops.q _ (E.q_move rfl rfl) rfl rfl ?_
          refine E.Ops.skip rfl rfl ?_
          refine E.Ops.skip rfl rfl ?_
          refine E.Ops.skip rfl rfl ?_
          refine E.Ops.skip rfl rfl ?_
          refine E.Ops.skip rfl rfl ?_
          refine E.Ops.skip rfl rfl ?_
          refine E.Ops.skip rfl rfl ?_
          refine E.Ops.skip rfl rfl ?_
          refine E.Ops.skip rfl rfl ?_
          refine E.Ops.skip rfl rfl ?_
          refine E.Ops.skip rfl rfl ?_
          refine E.Ops.skip rfl rfl ?_
          refine E.Ops.skip rfl rfl ?_
          refine E.Ops.q _ (E.q_pickF rfl rfl rfl) rfl rfl ?_
          refine E.Ops.nil ?_
          try simp only [E.tn, E.tx, E.tr, E.bn, E.br, E.bs]
        case' T2 =>
          refine E.Ops.q _ (E.q_move rfl rfl) rfl rfl ?_
          refine E.Ops.q _ (E.q_move rfl rfl) rfl rfl ?_
          refine E.Ops.part (E.q_eql rfl rfl rfl) rfl rfl (fun h2 => ?T3) (fun h2 => ?F3)
          case' F3 =>
            refine E.Ops.q _ (E.q_move rfl rfl) rfl rfl ?_
            refine E.Ops.skip rfl rfl ?_
            refine E.Ops.skip rfl rfl ?_
            refine E.Ops.skip rfl rfl ?_
            refine E.Ops.q _ (E.q_pickF rfl rfl rfl) rfl rfl ?_
            refine E.Ops.q _ (E.q_move rfl rfl) rfl rfl ?_
            refine E.Ops.skip rfl rfl ?_
            refine E.Ops.skip rfl rfl ?_
            refine E.Ops.skip rfl rfl ?_
            refine E.Ops.q _ (E.q_pickF rfl rfl rfl) rfl rfl ?_
            refine E.Ops.q _ (E.q_not rfl rfl) rfl rfl ?_
            refine E.Ops.q _ (E.q_pickT rfl rfl rfl) rfl rfl ?_
            refine E.Ops.nil ?_
            try simp only [E.tn, E.tx, E.tr, E.bn, E.br, E.bs]
          case' T3 =>
            refine E.Ops.q _ (E.q_move rfl rfl) rfl rfl ?_
            first | refine E.Ops.q _ (E.q_fieldAddr' rfl rfl fo_44_0) rfl rfl ?_ | refine E.Ops.q _ (E.q_fieldAddr rfl rfl fo_44_0) rfl rfl ?_
            refine E.Ops.q _ (E.q_load rfl rfl (by first | refine E.LoadAt.own E.ixA sc_3 (by rfl) | exact E.LoadAt.ro sc_3 (by assumption) | exact E.LoadAt.arr E.ixA sc_3 (by assumption))) rfl rfl ?_
            refine E.Ops.part (E.q_neq rfl rfl rfl) rfl rfl (fun h3 => ?T4) (fun h3 => ?F4)
            case' F4 =>
              refine E.Ops.q _ (E.q_pickT rfl rfl rfl) rfl rfl ?_
              refine E.Ops.q _ (E.q_move rfl rfl) rfl rfl ?_
              refine E.Ops.skip rfl rfl ?_
              refine E.Ops.skip rfl rfl ?_
              refine E.Ops.skip rfl rfl ?_
              refine E.Ops.q _ (E.q_pickF rfl rfl rfl) rfl rfl ?_
              refine E.Ops.q _ (E.q_not rfl rfl) rfl rfl ?_
              refine E.Ops.q _ (E.q_pickT rfl rfl rfl) rfl rfl ?_
              refine E.Ops.nil ?_
              try simp only [E.tn, E.tx, E.tr, E.bn, E.br, E.bs]
            case' T4 =>
              refine E.Ops.q _ (E.q_pickT rfl rfl rfl) rfl rfl ?_
              refine E.Ops.q _ (E.q_move rfl rfl) rfl rfl ?_
              refine E.Ops.q _ (E.q_load rfl rfl (by first | refine E.LoadAt.ownAgg E.ixA 4 ag_44 (by rfl) (by rfl) | exact E.LoadAt.roAgg ag_44 (by assumption) rfl)) rfl rfl ?_
              refine E.Ops.loud rfl rfl ?_
              refine E.l_call Try.func94 nm_94 nb_94 rfl ?_; refine liveWrites i ?_
              refine E.Ops.part (E.q_geq rfl rfl rfl) rfl rfl (fun h4 => ?T5) (fun h4 => ?F5)
              case' F5 =>
                refine E.Ops.q _ (E.q_pickT rfl rfl rfl) rfl rfl ?_
                refine E.Ops.q _ (E.q_not rfl rfl) rfl rfl ?_
                refine E.Ops.q _ (E.q_pickT rfl rfl rfl) rfl rfl ?_
                refine E.Ops.nil ?_
                try simp only [E.tn, E.tx, E.tr, E.bn, E.br, E.bs]
              case' T5 =>
                refine E.Ops.q _ (E.q_pickT rfl rfl rfl) rfl rfl ?_
                refine E.Ops.q _ (E.q_not rfl rfl) rfl rfl ?_
                refine E.Ops.q _ (E.q_pickT rfl rfl rfl) rfl rfl ?_
                refine E.Ops.nil ?_
                try simp only [E.tn, E.tx, E.tr, E.bn, E.br, E.bs]
        all_goals first
          | exact ⟨by rw [decide_eq_true (by omega)]; ((repeat refine E.SubEnv.cons rfl ?_); exact E.SubEnv.nil _), by exact E.Ent.of E.entA⟩
          | exact ⟨by rw [decide_eq_false (by omega)]; ((repeat refine E.SubEnv.cons rfl ?_); exact E.SubEnv.nil _), by exact E.Ent.of E.entA⟩
      rintro L1 ρ1 M1 ⟨hs, he⟩
      refine E.Run.sub hs (E.Run.ent he ?_)
      clear hs he
      (repeat refine E.Run.seq ?_); refine E.Run.condD rfl (fun h7 => ?_) (fun h7 => ?_)
      · rw [if_pos h7] at hrd1
        have hrl1 := hrl k
        (repeat refine E.Run.seq ?_)
        refine E.Run.region ?_
        refine E.Ops.q _ (E.q_move rfl rfl) rfl rfl ?_
        refine E.Ops.q _ (E.q_move rfl rfl) rfl rfl ?_
        refine E.Ops.loud rfl rfl ?_
        refine E.l_slice rfl rfl Try.underlying23 ty_3 rfl rfl rfl rfl rfl rfl (fun g7_2 => ?_)
        refine E.Ops.loud rfl rfl ?_
        refine E.l_append rfl rfl E.ixA Try.underlying23 ty_3 rfl (by decide) (E.SrcOf.arr E.ixA) (by intro u hu; simp only [List.map_cons, List.map_nil, List.flatten_cons, List.flatten_nil, List.append_nil, List.mem_cons, List.not_mem_nil, or_false] at hu; revert hu; simp [Value.cells]; try (intro e; subst e; rfl)) (by omega) (by omega) (fun A7_3 c7_3 => ?_)
        refine E.Ops.q _ (E.q_mv rfl rfl) rfl rfl ?_
        refine E.Ops.nil ?_
        try simp only [E.tn, E.tx, E.tr, E.bn, E.br, E.bs]
        have hl1 : (rdsN i (k + 1)).length = (rdsN i k).length + 1 := by rw [hrd1]; simp
        refine ⟨(k + 1, A7_3, c7_3), by simp only; omega, by simp only; omega, by
          simp only [hl1]
          ((repeat refine E.SubEnv.cons rfl ?_); exact E.SubEnv.nil _), ?_⟩
        simp only [hl1]
        rw [hrd1, List.flatMap_append]
        exact E.Ent.of E.entA
      · rw [if_neg h7, List.append_nil] at hrd1
        refine E.Run.skip ?_
        try simp only [E.tn, E.tx, E.tr, E.bn, E.br, E.bs]
        refine ⟨(k + 1, AO, CO), by simp only; omega, by simp only; omega, by
          simp only [hrd1]
          ((repeat refine E.SubEnv.cons rfl ?_); exact E.SubEnv.nil _), ?_⟩
        simp only [hrd1]
        exact E.Ent.of E.entA
  rintro L ρ1 M1 ⟨AO, CO, hs, he⟩
  refine E.Run.sub hs (E.Run.ent he ?_)
  clear hs he
  (repeat refine E.Run.seq ?_)
  refine E.Run.region ?_
  refine E.Ops.q _ (E.q_move rfl rfl) rfl rfl ?_
  refine E.Ops.q _ (E.q_mv rfl rfl) rfl rfl ?_
  refine E.Ops.nil ?_
  try simp only [E.tn, E.tx, E.tr, E.bn, E.br, E.bs]
  refine E.Run.ret ?_
  try simp only [E.tn, E.tx, E.tr, E.bn, E.br, E.bs]
  exact ⟨_, _, _, E.ResOk.one rfl rfl, E.Ent.of E.entA, hK AO CO _ rfl⟩
end Go.Proofs.Ythpgjbdacknkgaa
