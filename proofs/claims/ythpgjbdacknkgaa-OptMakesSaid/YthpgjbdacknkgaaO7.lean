/- opt.become, walked. No statement of the seat in it. -/
import Derived.Test.YthpgjbdacknkgaaO6
set_option linter.unusedVariables false
set_option linter.unusedSimpArgs false
namespace Go.Proofs.Ythpgjbdacknkgaa
open Go
private theorem ag_44 : E.isAggOf Try.prog 44 4 = true := by kernel_rfl
private theorem fo_169_1 : E.fieldOff Try.prog 169 1 = some 1 := by kernel_rfl
private theorem fo_172_0 : E.fieldOff Try.prog 172 0 = some 0 := by kernel_rfl
private theorem fo_172_1 : E.fieldOff Try.prog 172 1 = some 1 := by kernel_rfl
private theorem fo_44_0 : E.fieldOff Try.prog 44 0 = some 0 := by kernel_rfl
private theorem fo_44_1 : E.fieldOff Try.prog 44 1 = some 1 := by kernel_rfl
private theorem fo_44_2 : E.fieldOff Try.prog 44 2 = some 2 := by kernel_rfl
private theorem ik_167 : E.isIntKey Try.prog 167 = some 170 := by kernel_rfl
private theorem ik_170 : E.isIntKey Try.prog 170 = some 172 := by kernel_rfl
private theorem nb_92 : Try.f92.body.isNone = false := by kernel_rfl
private theorem nm_92 : (Try.f92.name == "runtime.NumGoroutine") = false := by kernel_rfl
private theorem pl_44 : E.placesOf Try.prog 44 = some ([.int .i64 0, .int .i64 0, .int .i64 0, .int .i64 0], [(0, 1), (1, 1), (2, 1), (3, 1)]) := by kernel_rfl
private theorem sc_167 : E.isScal Try.prog 167 = true := by kernel_rfl
private theorem sc_3 : E.isScal Try.prog 3 = true := by kernel_rfl
private theorem sz_172 : (Try.prog.info? 172).map (·.size) = some 2 := by kernel_rfl
private theorem ty_170 : E.tyOf Try.prog 170 = some (some (.map none), 1, 8) := by kernel_rfl
private theorem ty_172 : E.tyOf Try.prog 172 = some (some (.agg #[.int .i64 0, .int .i64 0]), 2, 16) := by kernel_rfl
private theorem ty_44 : E.tyOf Try.prog 44 = some (some (.agg #[.int .i64 0, .int .i64 0, .int .i64 0, .int .i64 0]), 4, 32) := by kernel_rfl

/-- what an order is then -/
def becomeS (St : StE) (k : Int) (i : E.Ins) : List E.Ins := match St k with
  | none => []
  | some V => if i.op ≠ 1 ∧ (reck i V).isSome = true ∧ ((reck i V).getD ⟨0, 0⟩).st = 1 then [⟨1, i.a, ((reck i V).getD ⟨0, 0⟩).n, 0⟩]
    else if i.op = 15 ∧ (V i.a).st = 1 then (if (V i.a).n ≠ 0 then [] else [⟨14, i.b, 0, 0⟩]) else [i]
def getE (R : Nat) (V : Int → Vl) (k : Int) : Vl := if 0 ≤ k ∧ k < R then V k else ⟨0, 0⟩
theorem q_lookupAny {P : Program} {L : E.Env} {ρ : E.Ro} {M : List E.Asr} {o : Oper} {t e : TypeId} {m x : Operand} {b n R : Nat} {V : Int → Vl} {k : Int} {sz by' : Nat} (hk : E.GIs ρ M b n (envG R V)) (ho : o.op = .lookup t m x false) (hm : E.ev L m = some (.map (some b))) (hx : E.ev L x = some (.int .i64 k))
    (ht : E.isIntKey P t = some e) (hz : E.tyOf P e = some (some (.agg #[.int .i64 0, .int .i64 0]), sz, by')) : E.QOp P L ρ M o (vlV (getE R V k)) := by
  have := E.q_lookupG ho hm hx hk ht hz
  unfold getE
  unfold envG at this
  by_cases h : 0 ≤ k ∧ k < R
  · rw [if_pos h] at this ⊢; exact this
  · rw [if_neg h] at this ⊢; exact this

set_option maxRecDepth 100000 in
theorem optBecome {ρ : E.Ro} {M : List E.Asr} {K : Value → E.Ro → List E.Asr → Prop} (bl R : Nat) (St : StE) (k : Int) (i : E.Ins) (hl : LookIs ρ R bl St) (hin : InsIn R i)
    (hK : ∀ A c n, n = (becomeS St k i).length → K (.slice A n c) ρ (E.arr 44 4 A n c ((becomeS St k i).flatMap E.encIns) :: M)) :
    E.Hoa Try.prog 47 #[.pointer (some ⟨bl, 0, none⟩), .int .i64 k, .agg (E.encIns i).toArray] ρ M K := by
  obtain ⟨cV, bA, nA, gA, wV, hcl, hbA, hA⟩ := hl
  obtain ⟨r, hr⟩ : ∃ r, gA k = r := ⟨_, rfl⟩
  have hK0 : becomeS St k i = [] → K (.slice none 0 0) ρ (E.arr 44 4 none 0 0 [] :: M) := fun h => by
    have := hK none 0 0 (by rw [h]; rfl)
    rwa [h] at this
  have hK1 : ∀ (j : E.Ins) g, becomeS St k i = [j] → K (.slice (some ⟨g, 0, none⟩) 1 1) ρ (E.arr 44 4 (some ⟨g, 0, none⟩) 1 1 [.int .i64 j.op, .int .i64 j.a, .int .i64 j.b, .int .i64 j.c] :: M) := fun j g h => by
    have := hK (some ⟨g, 0, none⟩) 1 1 (by rw [h]; rfl)
    rwa [h] at this
  refine E.Hoa.enter 67 Try.func47 rfl rfl rfl ?_
  (repeat refine E.Run.seq ?_)
  refine E.Run.region ?_
  refine E.Ops.loud rfl rfl ?_
  refine E.l_box rfl rfl (fun b0_0 => ?_)
  refine E.Ops.q _ (E.q_mv rfl rfl) rfl rfl ?_
  refine E.Ops.nil ?_
  try simp only [E.tn, E.tx, E.tr, E.bn, E.br, E.bs]
  (repeat refine E.Run.seq ?_)
  refine E.Run.region ?_
  refine E.Ops.q _ (E.q_move rfl rfl) rfl rfl ?_
  refine E.Ops.q _ (E.q_nilCheck rfl rfl) rfl rfl ?_
  first | refine E.Ops.q _ (E.q_fieldAddr' rfl rfl fo_169_1) rfl rfl ?_ | refine E.Ops.q _ (E.q_fieldAddr rfl rfl fo_169_1) rfl rfl ?_
  refine E.Ops.q _ (E.q_load rfl rfl (by exact E.LoadAt.ro sc_167 (hcl 1 _ rfl))) rfl rfl ?_
  refine E.Ops.q _ (E.q_move rfl rfl) rfl rfl ?_
  refine E.Ops.q _ (q_lookupOkV (E.GIs.ro hbA) hr rfl rfl rfl ik_167 ty_170) rfl rfl ?_
  refine E.Ops.q _ (E.q_move rfl rfl) rfl rfl ?_
  refine E.Ops.q _ (E.q_extract rfl rfl rfl) rfl rfl ?_
  refine E.Ops.q _ (E.q_extract rfl rfl rfl) rfl rfl ?_
  refine E.Ops.q _ (E.q_mv rfl rfl) rfl rfl ?_
  refine E.Ops.q _ (E.q_mv rfl rfl) rfl rfl ?_
  refine E.Ops.nil ?_
  try simp only [E.tn, E.tx, E.tr, E.bn, E.br, E.bs]
  rcases hA k with ⟨h1, h2⟩ | ⟨V, b, h1, h2, h3⟩
  · have : r = none := hr.symm.trans h2
    subst this
    (repeat refine E.Run.seq ?_)
    refine E.Run.region ?_
    refine E.Ops.q _ (E.q_move rfl rfl) rfl rfl ?_
    refine E.Ops.q _ (E.q_not rfl rfl) rfl rfl ?_
    refine E.Ops.nil ?_
    try simp only [E.tn, E.tx, E.tr, E.bn, E.br, E.bs]
    (repeat refine E.Run.seq ?_); refine E.Run.condT rfl ?_
    (repeat refine E.Run.seq ?_)
    refine E.Run.region ?_
    refine E.Ops.q _ (E.q_mv rfl rfl) rfl rfl ?_
    refine E.Ops.nil ?_
    try simp only [E.tn, E.tx, E.tr, E.bn, E.br, E.bs]
    refine E.Run.ret ?_
    try simp only [E.tn, E.tx, E.tr, E.bn, E.br, E.bs]
    exact ⟨_, _, _, E.ResOk.one rfl rfl, E.Ent.of (E.SEnt.addNil E.entA), hK0 (by unfold becomeS; rw [h1])⟩
  · have : r = some (.map (some b)) := hr.symm.trans h2
    subst this
    have hbec : becomeS St k i = if i.op ≠ 1 ∧ (reck i V).isSome = true ∧ ((reck i V).getD ⟨0, 0⟩).st = 1 then [⟨1, i.a, ((reck i V).getD ⟨0, 0⟩).n, 0⟩]
      else if i.op = 15 ∧ (V i.a).st = 1 then (if (V i.a).n ≠ 0 then [] else [⟨14, i.b, 0, 0⟩]) else [i] := by unfold becomeS; rw [h1]
    (repeat refine E.Run.seq ?_)
    refine E.Run.region ?_
    refine E.Ops.q _ (E.q_move rfl rfl) rfl rfl ?_
    refine E.Ops.q _ (E.q_not rfl rfl) rfl rfl ?_
    refine E.Ops.nil ?_
    try simp only [E.tn, E.tx, E.tr, E.bn, E.br, E.bs]
    (repeat refine E.Run.seq ?_); refine E.Run.condF rfl ?_
    refine E.Run.skip ?_
    try simp only [E.tn, E.tx, E.tr, E.bn, E.br, E.bs]
    (repeat refine E.Run.seq ?_)
    refine E.Run.region ?_
    refine E.Ops.q _ (E.q_load rfl rfl (by first | refine E.LoadAt.ownAgg E.ixA 4 ag_44 (by rfl) (by rfl) | exact E.LoadAt.roAgg ag_44 hcl rfl | exact E.LoadAt.roAgg ag_44 (by assumption) rfl)) rfl rfl ?_
    refine E.Ops.q _ (E.q_move rfl rfl) rfl rfl ?_
    refine E.Ops.loud rfl rfl ?_
    refine E.l_call Try.func92 nm_92 nb_92 rfl ?_; refine optReckon i b R V (E.GIs.ro h3) hin.reads ?_
    refine E.Ops.q _ (E.q_move rfl rfl) rfl rfl ?_
    refine E.Ops.q _ (E.q_extract rfl rfl rfl) rfl rfl ?_
    refine E.Ops.q _ (E.q_extract rfl rfl rfl) rfl rfl ?_
    refine E.Ops.loud rfl rfl ?_
    refine E.l_alloc rfl ty_172 (fun b4_6 => ?_)
    refine E.Ops.loud rfl rfl ?_
    refine E.l_store rfl rfl rfl E.ixA 2 sz_172 (by rfl) (by rfl) (by rfl) (by rfl) ?_
    refine E.Ops.q _ (E.q_mv rfl rfl) rfl rfl ?_
    refine E.Ops.nil ?_
    try simp only [E.tn, E.tx, E.tr, E.bn, E.br, E.bs]
    generalize hrv : (reck i V).getD ⟨0, 0⟩ = rv at *
    generalize hrs : (reck i V).isSome = rs at *
    refine E.Run.cut (fun L' ρ' M' => ¬ (i.op ≠ 1 ∧ rs = true ∧ rv.st = 1) ∧ E.SubEnv [(5, .pointer (some ⟨b0_0, 0, none⟩)), (7, .map (some b))] L' ∧ E.Ent ρ' M' ρ (E.pt b0_0 44 [.int .i64 i.op, .int .i64 i.a, .int .i64 i.b, .int .i64 i.c] :: M)) ?_ ?_
    · cases rs with
      | false =>
        (repeat refine E.Run.seq ?_)
        refine E.Run.region ?_
        refine E.Ops.q _ (E.q_move rfl rfl) rfl rfl ?_
        refine E.Ops.q _ (E.q_move rfl rfl) rfl rfl ?_
        refine E.Ops.skip rfl rfl ?_
        refine E.Ops.skip rfl rfl ?_
        refine E.Ops.skip rfl rfl ?_
        refine E.Ops.q _ (E.q_pickF rfl rfl rfl) rfl rfl ?_
        refine E.Ops.q _ (E.q_move rfl rfl) rfl rfl ?_
        refine E.Ops.skip rfl rfl ?_
        refine E.Ops.skip rfl rfl ?_
        refine E.Ops.skip rfl rfl ?_
        refine E.Ops.q _ (E.q_pickF rfl rfl rfl) rfl rfl ?_
        refine E.Ops.nil ?_
        try simp only [E.tn, E.tx, E.tr, E.bn, E.br, E.bs]
        (repeat refine E.Run.seq ?_); refine E.Run.condF rfl ?_
        refine E.Run.skip ?_
        try simp only [E.tn, E.tx, E.tr, E.bn, E.br, E.bs]
        exact ⟨by simp, by ((repeat refine E.SubEnv.cons rfl ?_); exact E.SubEnv.nil _), by exact E.Ent.of E.entA⟩
      | true =>
        (repeat refine E.Run.seq ?_)
        refine E.Run.region ?_
        refine E.Ops.q _ (E.q_move rfl rfl) rfl rfl ?_
        refine E.Ops.q _ (E.q_move rfl rfl) rfl rfl ?_
        first | refine E.Ops.q _ (E.q_fieldAddr' rfl rfl fo_44_0) rfl rfl ?_ | refine E.Ops.q _ (E.q_fieldAddr rfl rfl fo_44_0) rfl rfl ?_
        refine E.Ops.q _ (E.q_load rfl rfl (by first | refine E.LoadAt.own E.ixA sc_3 (by rfl) | exact E.LoadAt.ro sc_3 (by assumption) | exact E.LoadAt.arr E.ixA sc_3 (by assumption) | exact E.LoadAt.ro sc_3 (hcl _ _ rfl))) rfl rfl ?_
        refine E.Ops.part (E.q_neq rfl rfl rfl) rfl rfl (fun h5_4 => ?T1) (fun h5_4 => ?F1)
        case' F1 =>
          refine E.Ops.q _ (E.q_pickT rfl rfl rfl) rfl rfl ?_
          refine E.Ops.q _ (E.q_move rfl rfl) rfl rfl ?_
          refine E.Ops.skip rfl rfl ?_
          refine E.Ops.skip rfl rfl ?_
          refine E.Ops.skip rfl rfl ?_
          refine E.Ops.q _ (E.q_pickF rfl rfl rfl) rfl rfl ?_
          refine E.Ops.nil ?_
          try simp only [E.tn, E.tx, E.tr, E.bn, E.br, E.bs]
        case' T1 =>
          refine E.Ops.q _ (E.q_pickT rfl rfl rfl) rfl rfl ?_
          refine E.Ops.q _ (E.q_move rfl rfl) rfl rfl ?_
          first | refine E.Ops.q _ (E.q_fieldAddr' rfl rfl fo_172_0) rfl rfl ?_ | refine E.Ops.q _ (E.q_fieldAddr rfl rfl fo_172_0) rfl rfl ?_
          refine E.Ops.q _ (E.q_load rfl rfl (by first | refine E.LoadAt.own E.ixA sc_3 (by rfl) | exact E.LoadAt.ro sc_3 (by assumption) | exact E.LoadAt.arr E.ixA sc_3 (by assumption) | exact E.LoadAt.ro sc_3 (hcl _ _ rfl))) rfl rfl ?_
          refine E.Ops.q _ (E.q_eql rfl rfl rfl) rfl rfl ?_
          refine E.Ops.q _ (E.q_pickT rfl rfl rfl) rfl rfl ?_
          refine E.Ops.nil ?_
          try simp only [E.tn, E.tx, E.tr, E.bn, E.br, E.bs]
        · (repeat refine E.Run.seq ?_); refine E.Run.condD rfl (fun h6 => ?_) (fun h6 => ?_)
          · (repeat refine E.Run.seq ?_)
            refine E.Run.region ?_
            first | refine E.Ops.q _ (E.q_fieldAddr' rfl rfl fo_44_1) rfl rfl ?_ | refine E.Ops.q _ (E.q_fieldAddr rfl rfl fo_44_1) rfl rfl ?_
            refine E.Ops.q _ (E.q_load rfl rfl (by first | refine E.LoadAt.own E.ixA sc_3 (by rfl) | exact E.LoadAt.ro sc_3 (by assumption) | exact E.LoadAt.arr E.ixA sc_3 (by assumption) | exact E.LoadAt.ro sc_3 (hcl _ _ rfl))) rfl rfl ?_
            first | refine E.Ops.q _ (E.q_fieldAddr' rfl rfl fo_172_1) rfl rfl ?_ | refine E.Ops.q _ (E.q_fieldAddr rfl rfl fo_172_1) rfl rfl ?_
            refine E.Ops.q _ (E.q_load rfl rfl (by first | refine E.LoadAt.own E.ixA sc_3 (by rfl) | exact E.LoadAt.ro sc_3 (by assumption) | exact E.LoadAt.arr E.ixA sc_3 (by assumption) | exact E.LoadAt.ro sc_3 (hcl _ _ rfl))) rfl rfl ?_
            refine E.Ops.q _ (E.q_struct rfl rfl pl_44 rfl) rfl rfl ?_
            refine E.Ops.loud rfl rfl ?_
            refine E.l_slice rfl rfl Try.underlying45 ty_44 rfl rfl rfl rfl rfl rfl (fun g6_5 => ?_)
            refine E.Ops.q _ (E.q_mv rfl rfl) rfl rfl ?_
            refine E.Ops.nil ?_
            try simp only [E.tn, E.tx, E.tr, E.bn, E.br, E.bs]
            refine E.Run.ret ?_
            try simp only [E.tn, E.tx, E.tr, E.bn, E.br, E.bs]
            rw [if_pos ⟨h5_4, rfl, h6⟩] at hbec
            exact ⟨_, _, _, E.ResOk.one rfl rfl, E.Ent.of E.entA, hK1 _ _ hbec⟩
          · refine E.Run.skip ?_
            try simp only [E.tn, E.tx, E.tr, E.bn, E.br, E.bs]
            exact ⟨fun h => h6 h.2.2, by ((repeat refine E.SubEnv.cons rfl ?_); exact E.SubEnv.nil _), by exact E.Ent.of E.entA⟩
        · (repeat refine E.Run.seq ?_); refine E.Run.condF rfl ?_
          refine E.Run.skip ?_
          try simp only [E.tn, E.tx, E.tr, E.bn, E.br, E.bs]
          exact ⟨fun h => h5_4 h.1, by ((repeat refine E.SubEnv.cons rfl ?_); exact E.SubEnv.nil _), by exact E.Ent.of E.entA⟩
    rintro L ρ1 M1 ⟨hne, hs, he⟩
    try simp only [E.tn, E.tx, E.tr, E.bn, E.br, E.bs]
    refine E.Run.sub hs (E.Run.ent he ?_)
    rw [if_neg hne] at hbec
    have hz : i.op = 15 → getE R V i.a = V i.a := fun h => by unfold getE; rw [if_pos (hin.zero h)]
    (repeat refine E.Run.seq ?_)
    refine E.Run.region ?_
    refine E.Ops.q _ (E.q_move rfl rfl) rfl rfl ?_
    first | refine E.Ops.q _ (E.q_fieldAddr' rfl rfl fo_44_1) rfl rfl ?_ | refine E.Ops.q _ (E.q_fieldAddr rfl rfl fo_44_1) rfl rfl ?_
    refine E.Ops.q _ (E.q_load rfl rfl (by first | refine E.LoadAt.own E.ixA sc_3 (by rfl) | exact E.LoadAt.ro sc_3 (by assumption) | exact E.LoadAt.arr E.ixA sc_3 (by assumption) | exact E.LoadAt.ro sc_3 (hcl _ _ rfl))) rfl rfl ?_
    refine E.Ops.q _ (q_lookupAny (E.GIs.ro h3) rfl rfl rfl ik_170 ty_172) rfl rfl ?_
    refine E.Ops.loud rfl rfl ?_
    refine E.l_alloc rfl ty_172 (fun b7_4 => ?_)
    refine E.Ops.loud rfl rfl ?_
    refine E.l_store rfl rfl rfl E.ixA 2 sz_172 (by rfl) (by rfl) (by rfl) (by rfl) ?_
    refine E.Ops.nil ?_
    try simp only [E.tn, E.tx, E.tr, E.bn, E.br, E.bs]
    generalize hv : getE R V i.a = v at *
    (repeat refine E.Run.seq ?_)
    refine E.Run.region ?_
    first | refine E.Ops.q _ (E.q_fieldAddr' rfl rfl fo_44_0) rfl rfl ?_ | refine E.Ops.q _ (E.q_fieldAddr rfl rfl fo_44_0) rfl rfl ?_
    refine E.Ops.q _ (E.q_load rfl rfl (by first | refine E.LoadAt.own E.ixA sc_3 (by rfl) | exact E.LoadAt.ro sc_3 (by assumption) | exact E.LoadAt.arr E.ixA sc_3 (by assumption) | exact E.LoadAt.ro sc_3 (hcl _ _ rfl))) rfl rfl ?_
    refine E.Ops.part (E.q_eql rfl rfl rfl) rfl rfl (fun h8_2 => ?T2) (fun h8_2 => ?F2)
    case' F2 =>
      refine E.Ops.q _ (E.q_move rfl rfl) rfl rfl ?_
      refine E.Ops.skip rfl rfl ?_
      refine E.Ops.skip rfl rfl ?_
      refine E.Ops.skip rfl rfl ?_
      refine E.Ops.q _ (E.q_pickF rfl rfl rfl) rfl rfl ?_
      refine E.Ops.nil ?_
      try simp only [E.tn, E.tx, E.tr, E.bn, E.br, E.bs]
    case' T2 =>
      refine E.Ops.q _ (E.q_move rfl rfl) rfl rfl ?_
      first | refine E.Ops.q _ (E.q_fieldAddr' rfl rfl fo_172_0) rfl rfl ?_ | refine E.Ops.q _ (E.q_fieldAddr rfl rfl fo_172_0) rfl rfl ?_
      refine E.Ops.q _ (E.q_load rfl rfl (by first | refine E.LoadAt.own E.ixA sc_3 (by rfl) | exact E.LoadAt.ro sc_3 (by assumption) | exact E.LoadAt.arr E.ixA sc_3 (by assumption) | exact E.LoadAt.ro sc_3 (hcl _ _ rfl))) rfl rfl ?_
      refine E.Ops.q _ (E.q_eql rfl rfl rfl) rfl rfl ?_
      refine E.Ops.q _ (E.q_pickT rfl rfl rfl) rfl rfl ?_
      refine E.Ops.nil ?_
      try simp only [E.tn, E.tx, E.tr, E.bn, E.br, E.bs]
    · (repeat refine E.Run.seq ?_); refine E.Run.condD rfl (fun h9 => ?_) (fun h9 => ?_)
      · have hvv : v = V i.a := hz h8_2
        rw [if_pos ⟨h8_2, by rw [← hvv]; exact h9⟩, ← hvv] at hbec
        (repeat refine E.Run.seq ?_)
        refine E.Run.region ?_
        first | refine E.Ops.q _ (E.q_fieldAddr' rfl rfl fo_172_1) rfl rfl ?_ | refine E.Ops.q _ (E.q_fieldAddr rfl rfl fo_172_1) rfl rfl ?_
        refine E.Ops.q _ (E.q_load rfl rfl (by first | refine E.LoadAt.own E.ixA sc_3 (by rfl) | exact E.LoadAt.ro sc_3 (by assumption) | exact E.LoadAt.arr E.ixA sc_3 (by assumption) | exact E.LoadAt.ro sc_3 (hcl _ _ rfl))) rfl rfl ?_
        refine E.Ops.q _ (E.q_neq rfl rfl rfl) rfl rfl ?_
        refine E.Ops.nil ?_
        try simp only [E.tn, E.tx, E.tr, E.bn, E.br, E.bs]
        (repeat refine E.Run.seq ?_); refine E.Run.condD rfl (fun h10 => ?_) (fun h10 => ?_)
        · (repeat refine E.Run.seq ?_)
          refine E.Run.region ?_
          refine E.Ops.q _ (E.q_mv rfl rfl) rfl rfl ?_
          refine E.Ops.nil ?_
          try simp only [E.tn, E.tx, E.tr, E.bn, E.br, E.bs]
          refine E.Run.ret ?_
          try simp only [E.tn, E.tx, E.tr, E.bn, E.br, E.bs]
          rw [if_pos h10] at hbec
          exact ⟨_, _, _, E.ResOk.one rfl rfl, E.Ent.of (E.SEnt.addNil E.entA), hK0 hbec⟩
        · refine E.Run.skip ?_
          try simp only [E.tn, E.tx, E.tr, E.bn, E.br, E.bs]
          (repeat refine E.Run.seq ?_)
          refine E.Run.region ?_
          first | refine E.Ops.q _ (E.q_fieldAddr' rfl rfl fo_44_2) rfl rfl ?_ | refine E.Ops.q _ (E.q_fieldAddr rfl rfl fo_44_2) rfl rfl ?_
          refine E.Ops.q _ (E.q_load rfl rfl (by first | refine E.LoadAt.own E.ixA sc_3 (by rfl) | exact E.LoadAt.ro sc_3 (by assumption) | exact E.LoadAt.arr E.ixA sc_3 (by assumption) | exact E.LoadAt.ro sc_3 (hcl _ _ rfl))) rfl rfl ?_
          refine E.Ops.q _ (E.q_struct rfl rfl pl_44 rfl) rfl rfl ?_
          refine E.Ops.loud rfl rfl ?_
          refine E.l_slice rfl rfl Try.underlying45 ty_44 rfl rfl rfl rfl rfl rfl (fun g11_3 => ?_)
          refine E.Ops.q _ (E.q_mv rfl rfl) rfl rfl ?_
          refine E.Ops.nil ?_
          try simp only [E.tn, E.tx, E.tr, E.bn, E.br, E.bs]
          refine E.Run.ret ?_
          try simp only [E.tn, E.tx, E.tr, E.bn, E.br, E.bs]
          rw [if_neg h10] at hbec
          exact ⟨_, _, _, E.ResOk.one rfl rfl, E.Ent.of E.entA, hK1 _ _ hbec⟩
      · refine E.Run.skip ?_
        try simp only [E.tn, E.tx, E.tr, E.bn, E.br, E.bs]
        have hvv : v = V i.a := hz h8_2
        rw [if_neg (fun h => h9 (by rw [hvv]; exact h.2))] at hbec
        (repeat refine E.Run.seq ?_)
        refine E.Run.region ?_
        refine E.Ops.q _ (E.q_load rfl rfl (by first | refine E.LoadAt.ownAgg E.ixA 4 ag_44 (by rfl) (by rfl) | exact E.LoadAt.roAgg ag_44 hcl rfl | exact E.LoadAt.roAgg ag_44 (by assumption) rfl)) rfl rfl ?_
        refine E.Ops.loud rfl rfl ?_
        refine E.l_slice rfl rfl Try.underlying45 ty_44 rfl rfl rfl rfl rfl rfl (fun g12_1 => ?_)
        refine E.Ops.q _ (E.q_mv rfl rfl) rfl rfl ?_
        refine E.Ops.nil ?_
        try simp only [E.tn, E.tx, E.tr, E.bn, E.br, E.bs]
        refine E.Run.ret ?_
        try simp only [E.tn, E.tx, E.tr, E.bn, E.br, E.bs]
        exact ⟨_, _, _, E.ResOk.one rfl rfl, E.Ent.of E.entA, hK1 _ _ hbec⟩
    · (repeat refine E.Run.seq ?_); refine E.Run.condF rfl ?_
      refine E.Run.skip ?_
      try simp only [E.tn, E.tx, E.tr, E.bn, E.br, E.bs]
      rw [if_neg (fun h => h8_2 h.1)] at hbec
      (repeat refine E.Run.seq ?_)
      refine E.Run.region ?_
      refine E.Ops.q _ (E.q_load rfl rfl (by first | refine E.LoadAt.ownAgg E.ixA 4 ag_44 (by rfl) (by rfl) | exact E.LoadAt.roAgg ag_44 hcl rfl | exact E.LoadAt.roAgg ag_44 (by assumption) rfl)) rfl rfl ?_
      refine E.Ops.loud rfl rfl ?_
      refine E.l_slice rfl rfl Try.underlying45 ty_44 rfl rfl rfl rfl rfl rfl (fun g12_1 => ?_)
      refine E.Ops.q _ (E.q_mv rfl rfl) rfl rfl ?_
      refine E.Ops.nil ?_
      try simp only [E.tn, E.tx, E.tr, E.bn, E.br, E.bs]
      refine E.Run.ret ?_
      try simp only [E.tn, E.tx, E.tr, E.bn, E.br, E.bs]
      exact ⟨_, _, _, E.ResOk.one rfl rfl, E.Ent.of E.entA, hK1 _ _ hbec⟩
end Go.Proofs.Ythpgjbdacknkgaa
