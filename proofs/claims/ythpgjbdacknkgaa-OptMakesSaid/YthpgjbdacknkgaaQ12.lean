/- sluiceref13.Const, walked. No statement of the seat in it. -/
import Derived.Test.YthpgjbdacknkgaaQ11
set_option linter.unusedVariables false
set_option linter.unusedSimpArgs false
namespace Go.Proofs.Ythpgjbdacknkgaa
open Go
private theorem ag_101 : E.isAggOf Try.prog 101 2 = true := by kernel_rfl
private theorem ag_25 : E.isAggOf Try.prog 25 4 = true := by kernel_rfl
private theorem ag_44 : E.isAggOf Try.prog 44 4 = true := by kernel_rfl
private theorem fo_101_0 : E.fieldOff Try.prog 101 0 = some 0 := by kernel_rfl
private theorem fo_101_1 : E.fieldOff Try.prog 101 1 = some 1 := by kernel_rfl
private theorem fo_25_0 : E.fieldOff Try.prog 25 0 = some 0 := by kernel_rfl
private theorem fo_25_1 : E.fieldOff Try.prog 25 1 = some 1 := by kernel_rfl
private theorem fo_25_2 : E.fieldOff Try.prog 25 2 = some 2 := by kernel_rfl
private theorem fo_25_3 : E.fieldOff Try.prog 25 3 = some 3 := by kernel_rfl
private theorem fo_44_0 : E.fieldOff Try.prog 44 0 = some 0 := by kernel_rfl
private theorem fo_44_1 : E.fieldOff Try.prog 44 1 = some 1 := by kernel_rfl
private theorem fo_44_2 : E.fieldOff Try.prog 44 2 = some 2 := by kernel_rfl
private theorem fo_99_0 : E.fieldOff Try.prog 99 0 = some 0 := by kernel_rfl
private theorem fo_99_1 : E.fieldOff Try.prog 99 1 = some 1 := by kernel_rfl
private theorem nb_54 : Try.f54.body.isNone = false := by kernel_rfl
private theorem nb_55 : Try.f55.body.isNone = false := by kernel_rfl
private theorem nb_56 : Try.f56.body.isNone = false := by kernel_rfl
private theorem nb_57 : Try.f57.body.isNone = false := by kernel_rfl
private theorem nm_54 : (Try.f54.name == "runtime.NumGoroutine") = false := by kernel_rfl
private theorem nm_55 : (Try.f55.name == "runtime.NumGoroutine") = false := by kernel_rfl
private theorem nm_56 : (Try.f56.name == "runtime.NumGoroutine") = false := by kernel_rfl
private theorem nm_57 : (Try.f57.name == "runtime.NumGoroutine") = false := by kernel_rfl
private theorem pl_25 : E.placesOf Try.prog 25 = some ([.slice none 0 0, .slice none 0 0, .int .i64 0, .int .i64 0], [(0, 1), (1, 1), (2, 1), (3, 1)]) := by kernel_rfl
private theorem pl_44 : E.placesOf Try.prog 44 = some ([.int .i64 0, .int .i64 0, .int .i64 0, .int .i64 0], [(0, 1), (1, 1), (2, 1), (3, 1)]) := by kernel_rfl
private theorem sc_103 : E.isScal Try.prog 103 = true := by kernel_rfl
private theorem sc_22 : E.isScal Try.prog 22 = true := by kernel_rfl
private theorem sc_23 : E.isScal Try.prog 23 = true := by kernel_rfl
private theorem sc_3 : E.isScal Try.prog 3 = true := by kernel_rfl
private theorem sc_4 : E.isScal Try.prog 4 = true := by kernel_rfl
private theorem sc_45 : E.isScal Try.prog 45 = true := by kernel_rfl
private theorem sc_77 : E.isScal Try.prog 77 = true := by kernel_rfl
private theorem sc_97 : E.isScal Try.prog 97 = true := by kernel_rfl
private theorem so_103 : E.sliceOf Try.prog 103 = some (101, 2) := by kernel_rfl
private theorem so_22 : E.sliceOf Try.prog 22 = some (45, 1) := by kernel_rfl
private theorem so_45 : E.sliceOf Try.prog 45 = some (44, 4) := by kernel_rfl
private theorem so_77 : E.sliceOf Try.prog 77 = some (4, 1) := by kernel_rfl
private theorem so_97 : E.sliceOf Try.prog 97 = some (103, 1) := by kernel_rfl
private theorem sz_101 : (Try.prog.info? 101).map (·.size) = some 2 := by kernel_rfl
private theorem sz_22 : (Try.prog.info? 22).map (·.size) = some 1 := by kernel_rfl
private theorem sz_23 : (Try.prog.info? 23).map (·.size) = some 1 := by kernel_rfl
private theorem sz_25 : (Try.prog.info? 25).map (·.size) = some 4 := by kernel_rfl
private theorem sz_44 : (Try.prog.info? 44).map (·.size) = some 4 := by kernel_rfl
private theorem ty_101 : E.tyOf Try.prog 101 = some (some (.agg #[.int .i64 0, .int .i64 0]), 2, 16) := by kernel_rfl
private theorem ty_25 : E.tyOf Try.prog 25 = some (some (.agg #[.slice none 0 0, .slice none 0 0, .int .i64 0, .int .i64 0]), 4, 64) := by kernel_rfl
private theorem ty_3 : E.tyOf Try.prog 3 = some (some (.int .i64 0), 1, 8) := by kernel_rfl
private theorem ty_44 : E.tyOf Try.prog 44 = some (some (.agg #[.int .i64 0, .int .i64 0, .int .i64 0, .int .i64 0]), 4, 32) := by kernel_rfl
private theorem ty_45 : E.tyOf Try.prog 45 = some (some (.slice none 0 0), 1, 24) := by kernel_rfl

/-- a slice of orders of one's own -/
def thrA (x : ThrV) : E.Asr := E.arr 44 4 x.1 x.2.2.length x.2.1 (x.2.2.flatMap E.encIns)
/-- what an order becomes, step by step -/
def x1Of (goes : Bool) (V : Int → Vl) (i : E.Ins) : List E.Ins := if (1 ≤ i.op ∧ i.op ≤ 7) ∧ goes = true ∧ ((reck i V).getD ⟨0, 0⟩).st = 1 then [⟨1, i.a, ((reck i V).getD ⟨0, 0⟩).n, 0⟩] else [i]
def x2Of (goes : Bool) (V : Int → Vl) (i : E.Ins) : List E.Ins := if i.op = 15 ∧ goes = true ∧ (V i.a).st = 1 then (if (V i.a).n ≠ 0 then [] else [⟨14, i.b, 0, 0⟩]) else x1Of goes V i
def x3Of (goes : Bool) (V : Int → Vl) (i : E.Ins) : List E.Ins := if goes = true then x2Of goes V i else []
theorem x3_become {St : StE} {k : Int} {goes : Bool} {V : Int → Vl} {i : E.Ins} (h : St k = if goes = true then some V else none) (hc : i.op = 1 → i.c = 0) : x3Of goes V i = becomeS St k i := by
  unfold x3Of becomeS
  cases goes with
  | false => rw [h]; simp
  | true =>
    rw [h]
    simp only [if_true]
    unfold x2Of x1Of
    by_cases h7 : 1 ≤ i.op ∧ i.op ≤ 7
    · obtain ⟨v, hv⟩ := reck_isSome (V := V) h7
      rw [hv]
      simp only [Option.getD_some, Option.isSome_some]
      rw [if_neg (show ¬ (i.op = 15 ∧ _) by omega)]
      by_cases h1 : i.op = 1
      · have hv1 : v = ⟨1, i.b⟩ := by
          have : reck i V = some ⟨1, i.b⟩ := by unfold reck; rw [if_pos h1]
          rw [this] at hv; exact (Option.some.inj hv).symm
        have hi : (⟨1, i.a, v.n, 0⟩ : E.Ins) = i := by
          obtain ⟨op, a, b, c⟩ := i
          simp only at h1 hc hv1 ⊢
          rw [hv1, h1, hc h1]
        rw [if_pos ⟨h7, trivial, by rw [hv1]⟩, if_neg (by omega), if_neg (by omega), hi]
      · by_cases hs : v.st = 1
        · rw [if_pos ⟨h7, trivial, hs⟩, if_pos ⟨h1, trivial, hs⟩]
        · rw [if_neg (fun h => hs h.2.2), if_neg (fun h => hs h.2.2), if_neg (by omega)]
    · have hr : reck i V = none := by
        cases hr : reck i V with
        | none => rfl
        | some v => have := reck_op hr; omega
      rw [hr]
      simp only [Option.isSome_none]
      rw [if_neg (show ¬ (i.op ≠ 1 ∧ _) from fun h => by simp at h)]
      by_cases h15 : i.op = 15 ∧ (V i.a).st = 1
      · rw [if_pos ⟨h15.1, trivial, h15.2⟩, if_pos h15]
      · rw [if_neg (fun h => h15 ⟨h.1, h.2.2⟩), if_neg h15, if_neg (fun h => h7 h.1)]
theorem x1_len (g : Bool) (V : Int → Vl) (i : E.Ins) : (x1Of g V i).length ≤ 1 := by unfold x1Of; split <;> simp
theorem x2_len (g : Bool) (V : Int → Vl) (i : E.Ins) : (x2Of g V i).length ≤ 1 := by
  unfold x2Of
  split
  · split <;> simp
  · exact x1_len g V i
theorem x3_len (g : Bool) (V : Int → Vl) (i : E.Ins) : (x3Of g V i).length ≤ 1 := by
  unfold x3Of
  split
  · exact x2_len g V i
  · simp
theorem constS_lock {St : StE} {code : List E.Ins} : ∀ k (h : k < code.length), ∀ o ∈ becomeS St k code[k], o.op = 15 → code[k].op ≠ 17 := by
  intro k h o ho h15
  rcases become_cases (St := St) k code[k] with ⟨_, h'⟩ | ⟨V, _, ⟨_, v, _, _, h'⟩ | ⟨_, _, _, h'⟩ | ⟨_, _, _, h'⟩ | ⟨_, _, h'⟩⟩ <;> rw [h'] at ho <;> simp only [List.mem_singleton, List.not_mem_nil] at ho
  · subst ho; simp at h15
  · subst ho; simp at h15
  · subst ho; omega

/-- what the document's Const makes of a program -/
structure RConstOf (p q : Prg) : Prop where
  words : q.words = p.words
  locks : q.locks = p.locks
  regs : q.regs = p.regs
  len : q.code.length = p.code.length
  thr : ∀ t (h : t < p.code.length) (h' : t < q.code.length), ∃ St, LeastS p.regs.toNat p.code[t] St ∧ q.code[t] = constS St p.code[t]

set_option maxHeartbeats 4000000 in
set_option maxRecDepth 100000 in
theorem rConst {ρ : E.Ro} {M : List E.Asr} {K : Value → E.Ro → List E.Asr → Prop} (A A' : Option Addr) (c c' : Nat) (p : Prg) (hp : PrgAt ρ A A' p) (hpo : PrgOk p)
    (hK : ∀ ρ' B d B' d' q, E.Ro.le ρ ρ' → PrgAt ρ' B B' q → RConstOf p q → K (prgV B d B' d' q) ρ' M) :
    E.Hoa Try.prog 17 #[prgV A c A' c' p] ρ M K := by
  have hsmall := hp.small
  have hsmallW := hpo.words
  have hrg := hpo.regs
  have hn4 := hpo.four
  obtain ⟨R, hR⟩ : ∃ R : Nat, p.regs = R := Int.eq_ofNat_of_zero_le (by omega)
  have hRn : p.regs.toNat = R := by omega
  have hR1 : 1 ≤ R ∧ R ≤ 200 := by omega
  refine E.Hoa.enter 149 Try.func17 rfl rfl rfl ?_
  (repeat refine E.Run.seq ?_)
  refine E.Run.region ?_
  refine E.Ops.loud rfl rfl ?_
  refine E.l_box rfl rfl (fun b0_0 => ?_)
  refine E.Ops.loud rfl rfl ?_
  refine E.l_alloc rfl ty_25 (fun b0_1 => ?_)
  refine E.Ops.nil ?_
  try simp only [E.tn, E.tx, E.tr, E.bn, E.br, E.bs]
  (repeat refine E.Run.seq ?_)
  refine E.Run.region ?_
  first | refine E.Ops.q _ (E.q_fieldAddr' rfl rfl fo_25_2) rfl rfl ?_ | refine E.Ops.q _ (E.q_fieldAddr rfl rfl fo_25_2) rfl rfl ?_
  refine E.Ops.q _ (E.q_load rfl rfl (by first | refine E.LoadAt.own E.ixA sc_3 (by rfl) | exact E.LoadAt.ro sc_3 (by assumption) | exact E.LoadAt.arr E.ixA sc_3 (by assumption))) rfl rfl ?_
  first | refine E.Ops.q _ (E.q_fieldAddr' rfl rfl fo_25_3) rfl rfl ?_ | refine E.Ops.q _ (E.q_fieldAddr rfl rfl fo_25_3) rfl rfl ?_
  refine E.Ops.q _ (E.q_load rfl rfl (by first | refine E.LoadAt.own E.ixA sc_3 (by rfl) | exact E.LoadAt.ro sc_3 (by assumption) | exact E.LoadAt.arr E.ixA sc_3 (by assumption))) rfl rfl ?_
  refine E.Ops.q _ (E.q_struct rfl rfl pl_25 rfl) rfl rfl ?_
  refine E.Ops.loud rfl rfl ?_
  refine E.l_alloc rfl ty_25 (fun b1_5 => ?_)
  refine E.Ops.loud rfl rfl ?_
  refine E.l_store rfl rfl rfl E.ixA 4 sz_25 (by rfl) (by rfl) (by rfl) (by rfl) ?_
  refine E.Ops.nil ?_
  try simp only [E.tn, E.tx, E.tr, E.bn, E.br, E.bs]
  (repeat refine E.Run.seq ?_)
  refine E.Run.region ?_
  refine E.Ops.loud rfl rfl ?_
  refine E.l_slice0 rfl rfl Try.underlying23 ty_3 (fun g2_0 => ?_)
  first | refine E.Ops.q _ (E.q_fieldAddr' rfl rfl fo_25_1) rfl rfl ?_ | refine E.Ops.q _ (E.q_fieldAddr rfl rfl fo_25_1) rfl rfl ?_
  refine E.Ops.q _ (E.q_load rfl rfl (by first | refine E.LoadAt.own E.ixA sc_23 (by rfl) | exact E.LoadAt.ro sc_23 (by assumption) | exact E.LoadAt.arr E.ixA sc_23 (by assumption))) rfl rfl ?_
  refine E.Ops.loud rfl rfl ?_
  refine E.l_append rfl rfl E.ixA Try.underlying23 ty_3 rfl (by decide) (E.SrcOf.ro (fun _ => rfl) hp.words) (by intro u hu; obtain ⟨y, hy, hu⟩ := List.mem_flatMap.1 hu; simp only [E.encI, List.mem_cons, List.not_mem_nil, or_false] at hu; subst hu; rfl) (by omega) (by omega) (fun A2_3 c2_3 => ?_)
  first | refine E.Ops.q _ (E.q_fieldAddr' rfl rfl fo_25_1) rfl rfl ?_ | refine E.Ops.q _ (E.q_fieldAddr rfl rfl fo_25_1) rfl rfl ?_
  refine E.Ops.loud rfl rfl ?_
  refine E.l_store rfl rfl rfl E.ixA 1 sz_23 (by rfl) (by rfl) (by rfl) (by rfl) ?_
  refine E.Ops.nil ?_
  try simp only [E.tn, E.tx, E.tr, E.bn, E.br, E.bs]
  simp only [Nat.zero_add, List.nil_append]
  refine E.Run.ent (M1 := E.arr 3 1 A2_3 p.words.length c2_3 (p.words.flatMap E.encI) :: E.pt b1_5 25 [.slice none 0 0, .slice A2_3 p.words.length c2_3, .int .i64 p.locks, .int .i64 p.regs] :: E.pt b0_1 25 [.slice none 0 0, .slice none 0 0, .int .i64 0, .int .i64 0] :: E.pt b0_0 25 [.slice A p.code.length c, .slice A' p.words.length c', .int .i64 p.locks, .int .i64 p.regs] :: M) (by exact E.Ent.of E.entA) ?_
  refine E.Run.freeze fun ρ1 hle1 hfr1 => ?_
  have hwords := E.arr_frozen (enc := E.encI) (fun _ => rfl) hfr1 rfl
  refine E.Run.seqCut (fun L' ρ' M' => ∃ ρ3 AO CO, ∃ l : List ThrV, E.Ro.le ρ1 ρ3 ∧ l.length = p.code.length ∧ (∀ x ∈ l, E.RdF ρ3.blk E.encIns 4 x.1 x.2.2) ∧ (∀ t (h : t < p.code.length) (h' : t < l.length), ∃ St, LeastS R p.code[t] St ∧ l[t].2.2 = constS St p.code[t]) ∧
    E.SubEnv [(2, .pointer (some ⟨b0_1, 0, none⟩)), (3, .pointer (some ⟨b1_5, 0, none⟩))] L' ∧ E.Ent ρ' M' ρ3 (E.arr 45 1 AO l.length CO (l.flatMap encThr) :: E.pt b1_5 25 [.slice AO l.length CO, .slice A2_3 p.words.length c2_3, .int .i64 p.locks, .int .i64 p.regs] :: E.pt b0_1 25 [.slice none 0 0, .slice none 0 0, .int .i64 0, .int .i64 0] :: M)) ?_ ?_
  · (repeat refine E.Run.seq ?_)
    refine E.Run.region ?_
    refine E.Ops.q _ (E.q_mv rfl rfl) rfl rfl ?_
    refine E.Ops.nil ?_
    try simp only [E.tn, E.tx, E.tr, E.bn, E.br, E.bs]
    (repeat refine E.Run.seq ?_); refine E.Run.block ?_
    (repeat refine E.Run.seq ?_); refine E.Run.loopR (fun (x : E.Ro × Option Addr × Nat × List ThrV) => [(1, .pointer (some ⟨b0_0, 0, none⟩)), (2, .pointer (some ⟨b0_1, 0, none⟩)), (3, .pointer (some ⟨b1_5, 0, none⟩)), (4, .int .i64 x.2.2.2.length)]) (fun x => x.1) (fun x => E.arr 45 1 x.2.1 x.2.2.2.length x.2.2.1 (x.2.2.2.flatMap encThr) :: E.pt b1_5 25 [.slice x.2.1 x.2.2.2.length x.2.2.1, .slice A2_3 p.words.length c2_3, .int .i64 p.locks, .int .i64 p.regs] :: E.pt b0_1 25 [.slice none 0 0, .slice none 0 0, .int .i64 0, .int .i64 0] :: E.pt b0_0 25 [.slice A p.code.length c, .slice A' p.words.length c', .int .i64 p.locks, .int .i64 p.regs] :: M)
      (fun x => E.Ro.le ρ1 x.1 ∧ x.2.2.2.length ≤ p.code.length ∧ (∀ y ∈ x.2.2.2, E.RdF x.1.blk E.encIns 4 y.1 y.2.2) ∧ (∀ t (h : t < p.code.length) (h' : t < x.2.2.2.length), ∃ St, LeastS R p.code[t] St ∧ x.2.2.2[t].2.2 = constS St p.code[t])) (fun x => p.code.length - x.2.2.2.length) (ρ1, none, 0, [])
      ⟨E.Ro.le.refl _, Nat.zero_le _, (fun y hy => by cases hy), (fun t h h' => by cases h')⟩ (by ((repeat refine E.SubEnv.cons rfl ?_); exact E.SubEnv.nil _)) (E.Ent.of (E.SEnt.addNil E.entA)) ?_
    rintro ⟨ρ3, AO, CO, l⟩ ⟨hle3, hlen, hrd, hRt⟩
    simp only at hle3 hlen hrd hRt ⊢
    refine E.Run.seqCut (fun L' ρ' M' => l.length < p.code.length ∧ E.SubEnv [(1, .pointer (some ⟨b0_0, 0, none⟩)), (2, .pointer (some ⟨b0_1, 0, none⟩)), (3, .pointer (some ⟨b1_5, 0, none⟩)), (4, .int .i64 l.length)] L' ∧ E.Ent ρ' M' ρ3 (E.arr 45 1 AO l.length CO (l.flatMap encThr) :: E.pt b1_5 25 [.slice AO l.length CO, .slice A2_3 p.words.length c2_3, .int .i64 p.locks, .int .i64 p.regs] :: E.pt b0_1 25 [.slice none 0 0, .slice none 0 0, .int .i64 0, .int .i64 0] :: E.pt b0_0 25 [.slice A p.code.length c, .slice A' p.words.length c', .int .i64 p.locks, .int .i64 p.regs] :: M)) ?_ ?_
    · (repeat refine E.Run.seq ?_)
      refine E.Run.region ?_
      refine E.Ops.q _ (E.q_move rfl rfl) rfl rfl ?_
      first | refine E.Ops.q _ (E.q_fieldAddr' rfl rfl fo_25_0) rfl rfl ?_ | refine E.Ops.q _ (E.q_fieldAddr rfl rfl fo_25_0) rfl rfl ?_
      refine E.Ops.q _ (E.q_load rfl rfl (by first | refine E.LoadAt.own E.ixA sc_22 (by rfl) | exact E.LoadAt.ro sc_22 (by assumption) | exact E.LoadAt.arr E.ixA sc_22 (by assumption))) rfl rfl ?_
      refine E.Ops.q _ (E.q_lenSlice rfl Try.underlying22) rfl rfl ?_
      refine E.Ops.q _ (E.q_lss rfl rfl rfl) rfl rfl ?_
      refine E.Ops.nil ?_
      try simp only [E.tn, E.tx, E.tr, E.bn, E.br, E.bs]
      (repeat refine E.Run.seq ?_); refine E.Run.condD rfl (fun h6 => ?_) (fun h6 => ?_)
      · refine E.Run.skip ?_
        try simp only [E.tn, E.tx, E.tr, E.bn, E.br, E.bs]
        exact ⟨by omega, by ((repeat refine E.SubEnv.cons rfl ?_); exact E.SubEnv.nil _), by exact E.Ent.of E.entA⟩
      · refine E.Run.exit ?_
        try simp only [E.tn, E.tx, E.tr, E.bn, E.br, E.bs]
        exact ⟨ρ3, AO, CO, l, hle3, by omega, hrd, hRt, by ((repeat refine E.SubEnv.cons rfl ?_); exact E.SubEnv.nil _), by exact E.Ent.of E.entA⟩
    rintro L1 ρ1' M1 ⟨hk, hs, he⟩
    refine E.Run.sub hs (E.Run.ent he ?_)
    clear hs he
    obtain ⟨ad, hAd, A1, c1, hcell, hrd1⟩ := hp.thread hk
    subst hAd
    have hcell3 := E.cellOf_mono (hle1.trans hle3).blk hcell
    have hcode3 := hrd1.mono (hle1.trans hle3).blk
    have hth := hpo.thr _ (List.getElem_mem hk)
    have hok := codeOk_of hth.2 (by omega)
    rw [hRn] at hok
    have hopA : ∀ i ∈ p.code[l.length], 1 ≤ i.op := fun i hi => by have := badIns_kinds (hth.2 i hi) (by omega); omega
    have hcA : ∀ i ∈ p.code[l.length], i.op = 1 → i.c = 0 := fun i hi => by have := badIns_kinds (hth.2 i hi) (by omega); omega
    have hsz := hth.1
    have hRl := fun t (h : t < p.code.length) (h' : t < l.length) => hRt t h h'
    generalize hcd : p.code[l.length] = code at *
    refine E.Run.seqCut (fun L' ρ' M' => ∃ ρ4 AN CN, ∃ x : ThrV, E.Ro.le ρ3 ρ4 ∧ E.RdF ρ4.blk E.encIns 4 x.1 x.2.2 ∧ (∃ St, LeastS R code St ∧ x.2.2 = constS St code) ∧ E.SubEnv [(1, .pointer (some ⟨b0_0, 0, none⟩)), (2, .pointer (some ⟨b0_1, 0, none⟩)), (3, .pointer (some ⟨b1_5, 0, none⟩)), (4, .int .i64 l.length)] L' ∧ E.Ent ρ' M' ρ4 (E.arr 45 1 AN (l.length + 1) CN ((l ++ [x]).flatMap encThr) :: E.pt b1_5 25 [.slice AN (l.length + 1) CN, .slice A2_3 p.words.length c2_3, .int .i64 p.locks, .int .i64 p.regs] :: E.pt b0_1 25 [.slice none 0 0, .slice none 0 0, .int .i64 0, .int .i64 0] :: E.pt b0_0 25 [.slice (some ad) p.code.length c, .slice A' p.words.length c', .int .i64 p.locks, .int .i64 p.regs] :: M)) ?_ ?_
    · (repeat refine E.Run.seq ?_); refine E.Run.block ?_
      (repeat refine E.Run.seq ?_)
      refine E.Run.region ?_
      first | refine E.Ops.q _ (E.q_fieldAddr' rfl rfl fo_25_0) rfl rfl ?_ | refine E.Ops.q _ (E.q_fieldAddr rfl rfl fo_25_0) rfl rfl ?_
      refine E.Ops.q _ (E.q_load rfl rfl (by first | refine E.LoadAt.own E.ixA sc_22 (by rfl) | exact E.LoadAt.ro sc_22 (by assumption) | exact E.LoadAt.arr E.ixA sc_22 (by assumption))) rfl rfl ?_
      refine E.Ops.q _ (E.q_move rfl rfl) rfl rfl ?_
      first | refine E.Ops.q _ (E.q_indexNat rfl rfl rfl so_22 (by first | assumption | omega)) rfl rfl ?_ | refine E.Ops.q _ (E.q_indexAddr rfl rfl rfl so_22 (by omega) (by omega)) rfl rfl ?_
      refine E.Ops.q _ (E.q_load rfl rfl (by exact E.LoadAt.ro sc_45 hcell3)) rfl rfl ?_
      refine E.Ops.q _ (E.q_mv rfl rfl) rfl rfl ?_
      refine E.Ops.nil ?_
      try simp only [E.tn, E.tx, E.tr, E.bn, E.br, E.bs]
      (repeat refine E.Run.seq ?_)
      refine E.Run.region ?_
      refine E.Ops.q _ (E.q_move rfl rfl) rfl rfl ?_
      first | refine E.Ops.q _ (E.q_fieldAddr' rfl rfl fo_25_3) rfl rfl ?_ | refine E.Ops.q _ (E.q_fieldAddr rfl rfl fo_25_3) rfl rfl ?_
      refine E.Ops.q _ (E.q_load rfl rfl (by first | refine E.LoadAt.own E.ixA sc_3 (by rfl) | exact E.LoadAt.ro sc_3 (by assumption) | exact E.LoadAt.arr E.ixA sc_3 (by assumption))) rfl rfl ?_
      refine E.Ops.loud rfl rfl ?_
      refine E.l_call Try.func54 nm_54 nb_54 rfl ?_; refine rLookAt' A1 c1 code R p.regs hR hR1 hcode3 hsz hok hopA (fun ρ5 bl gs rows hle5 hlook htab hleast => ?_)
      refine E.Ops.q _ (E.q_mv rfl rfl) rfl rfl ?_
      refine E.Ops.nil ?_
      try simp only [E.tn, E.tx, E.tr, E.bn, E.br, E.bs]
      (repeat refine E.Run.seq ?_)
      refine E.Run.region ?_
      refine E.Ops.q _ (E.q_mv rfl rfl) rfl rfl ?_
      refine E.Ops.nil ?_
      try simp only [E.tn, E.tx, E.tr, E.bn, E.br, E.bs]
      have hcode5 := hcode3.mono hle5.blk
      obtain ⟨⟨gG, gA, cA, hlk, hgoes, houter⟩, hrowsR⟩ := hlook
      have hrl : rows.length = code.length + 1 := by have := htab.lv; rwa [List.length_map] at this
      refine E.Run.seqCut (fun L' ρ' M' => ∃ AB CB, ∃ lb : List ThrV, lb.length = code.length ∧ (∀ k (h : k < lb.length) (h' : k < code.length), lb[k].2.2 = becomeS (abs gs (rows.map (·.2))) k code[k]) ∧ E.SubEnv [(1, .pointer (some ⟨b0_0, 0, none⟩)), (2, .pointer (some ⟨b0_1, 0, none⟩)), (3, .pointer (some ⟨b1_5, 0, none⟩)), (4, .int .i64 l.length), (5, .slice A1 code.length c1), (7, .slice AB lb.length CB)] L' ∧ E.Ent ρ' M' ρ5 (E.arr 45 1 AB lb.length CB (lb.flatMap encThr) :: E.bag (lb.map thrA) :: E.arr 45 1 AO l.length CO (l.flatMap encThr) :: E.pt b1_5 25 [.slice AO l.length CO, .slice A2_3 p.words.length c2_3, .int .i64 p.locks, .int .i64 p.regs] :: E.pt b0_1 25 [.slice none 0 0, .slice none 0 0, .int .i64 0, .int .i64 0] :: E.pt b0_0 25 [.slice (some ad) p.code.length c, .slice A' p.words.length c', .int .i64 p.locks, .int .i64 p.regs] :: M)) ?_ ?_
      · (repeat refine E.Run.seq ?_)
        refine E.Run.region ?_
        refine E.Ops.q _ (E.q_mv rfl rfl) rfl rfl ?_
        refine E.Ops.nil ?_
        try simp only [E.tn, E.tx, E.tr, E.bn, E.br, E.bs]
        (repeat refine E.Run.seq ?_); refine E.Run.block ?_
        (repeat refine E.Run.seq ?_); refine E.Run.loopS (fun (x : Option Addr × Nat × List ThrV) => [(1, .pointer (some ⟨b0_0, 0, none⟩)), (2, .pointer (some ⟨b0_1, 0, none⟩)), (3, .pointer (some ⟨b1_5, 0, none⟩)), (4, .int .i64 l.length), (5, .slice A1 code.length c1), (6, .pointer (some ⟨bl, 0, none⟩)), (7, .slice x.1 x.2.2.length x.2.1), (8, .int .i64 x.2.2.length)]) ρ5 (fun x => E.arr 45 1 x.1 x.2.2.length x.2.1 (x.2.2.flatMap encThr) :: E.bag (x.2.2.map thrA) :: E.arr 45 1 AO l.length CO (l.flatMap encThr) :: E.pt b1_5 25 [.slice AO l.length CO, .slice A2_3 p.words.length c2_3, .int .i64 p.locks, .int .i64 p.regs] :: E.pt b0_1 25 [.slice none 0 0, .slice none 0 0, .int .i64 0, .int .i64 0] :: E.pt b0_0 25 [.slice (some ad) p.code.length c, .slice A' p.words.length c', .int .i64 p.locks, .int .i64 p.regs] :: M)
          (fun x => x.2.2.length ≤ code.length ∧ ∀ k (h : k < x.2.2.length) (h' : k < code.length), x.2.2[k].2.2 = becomeS (abs gs (rows.map (·.2))) k code[k]) (fun x => code.length - x.2.2.length) (none, 0, []) ⟨Nat.zero_le _, (fun k h => by cases h)⟩ (by ((repeat refine E.SubEnv.cons rfl ?_); exact E.SubEnv.nil _)) (E.Ent.of (E.SEnt.addNil (E.SEnt.bagNil E.entA))) ?_
        rintro ⟨AB, CB, lb⟩ ⟨hbl, hbk⟩
        simp only at hbl hbk ⊢
        refine E.Run.seqCut (fun L' ρ' M' => lb.length < code.length ∧ E.SubEnv [(1, .pointer (some ⟨b0_0, 0, none⟩)), (2, .pointer (some ⟨b0_1, 0, none⟩)), (3, .pointer (some ⟨b1_5, 0, none⟩)), (4, .int .i64 l.length), (5, .slice A1 code.length c1), (6, .pointer (some ⟨bl, 0, none⟩)), (7, .slice AB lb.length CB), (8, .int .i64 lb.length)] L' ∧ E.Ent ρ' M' ρ5 (E.arr 45 1 AB lb.length CB (lb.flatMap encThr) :: E.bag (lb.map thrA) :: E.arr 45 1 AO l.length CO (l.flatMap encThr) :: E.pt b1_5 25 [.slice AO l.length CO, .slice A2_3 p.words.length c2_3, .int .i64 p.locks, .int .i64 p.regs] :: E.pt b0_1 25 [.slice none 0 0, .slice none 0 0, .int .i64 0, .int .i64 0] :: E.pt b0_0 25 [.slice (some ad) p.code.length c, .slice A' p.words.length c', .int .i64 p.locks, .int .i64 p.regs] :: M)) ?_ ?_
        · (repeat refine E.Run.seq ?_)
          refine E.Run.region ?_
          refine E.Ops.q _ (E.q_move rfl rfl) rfl rfl ?_
          refine E.Ops.q _ (E.q_move rfl rfl) rfl rfl ?_
          refine E.Ops.q _ (E.q_lenSlice rfl Try.underlying45) rfl rfl ?_
          refine E.Ops.q _ (E.q_lss rfl rfl rfl) rfl rfl ?_
          refine E.Ops.nil ?_
          try simp only [E.tn, E.tx, E.tr, E.bn, E.br, E.bs]
          (repeat refine E.Run.seq ?_); refine E.Run.condD rfl (fun h6 => ?_) (fun h6 => ?_)
          · refine E.Run.skip ?_
            try simp only [E.tn, E.tx, E.tr, E.bn, E.br, E.bs]
            exact ⟨by omega, by ((repeat refine E.SubEnv.cons rfl ?_); exact E.SubEnv.nil _), by exact E.Ent.of E.entA⟩
          · refine E.Run.exit ?_
            try simp only [E.tn, E.tx, E.tr, E.bn, E.br, E.bs]
            exact ⟨AB, CB, lb, by omega, hbk, by ((repeat refine E.SubEnv.cons rfl ?_); exact E.SubEnv.nil _), by exact E.Ent.of E.entA⟩
        rintro L1 ρ1' M1 ⟨hk2, hs, he⟩
        refine E.Run.sub hs (E.Run.ent he ?_)
        clear hs he
        obtain ⟨adc, hAc, _, hcc⟩ := E.RdF.at hcode5 hk2
        subst hAc
        have hin := hok.ins _ hk2
        have hci := hcA _ (List.getElem_mem hk2)
        have hkr : lb.length < rows.length := by omega
        have hgo : E.cellOf ρ5.blk ((⟨gG, 0, none⟩ : Addr).add (lb.length * 1)) = some (.bool (gs.getD lb.length false)) := by
          obtain ⟨ad', e, _, hh⟩ := E.RdF.at hgoes (show lb.length < gs.length by have := htab.lg; omega)
          cases e
          rw [List.getD_eq_getElem?_getD, List.getElem?_eq_getElem (by have := htab.lg; omega)]
          exact hh 0 _ rfl
        have hou : E.cellOf ρ5.blk ((⟨gA, 0, none⟩ : Addr).add (lb.length * 1)) = some (rowV R rows[lb.length].1) := by
          obtain ⟨ad', e, _, hh⟩ := E.RdF.at houter (show lb.length < (rows.map fun x => rowV R x.1).length by rw [List.length_map]; exact hkr)
          cases e
          have := hh 0 _ rfl
          rw [List.getElem_map] at this
          exact this
        have hrow := hrowsR _ (List.getElem_mem hkr)
        have hrll := htab.lr _ (List.mem_map.2 ⟨_, List.getElem_mem hkr, rfl⟩)
        have habs := abs_nat (gs := gs) (vs := rows.map (·.2)) (k := lb.length) (by rw [List.length_map]; exact hkr)
        rw [List.getElem_map] at habs
        have hx3 := x3_become habs hci
        have hlc : lb.length < code.length + 1 := by omega
        generalize rows[lb.length] = row at *
        obtain ⟨gat, vat⟩ := row
        simp only at hou hrow hrll habs hx3
        have hvEl : ∀ q : Int, 0 ≤ q → q < R → ∀ j u, (encV (rowE vat q))[j]? = some u → E.cellOf ρ5.blk (((⟨gat, 0, none⟩ : Addr).add (q.toNat * 2)).add j) = some u := fun q q0 q1 j u hu => by
          obtain ⟨q', rfl⟩ := Int.eq_ofNat_of_zero_le q0
          obtain ⟨ad', e, _, hh⟩ := E.RdF.at hrow (show q' < vat.length by omega)
          cases e
          rw [rowE_nat (by omega)] at hu
          exact hh j u hu
        generalize gs.getD lb.length false = go at *
        refine E.Run.seqCut (fun L' ρ' M' => ∃ AB2 CB2, ∃ x : ThrV, x.2.2 = becomeS (abs gs (rows.map (·.2))) lb.length code[lb.length] ∧ E.SubEnv [(1, .pointer (some ⟨b0_0, 0, none⟩)), (2, .pointer (some ⟨b0_1, 0, none⟩)), (3, .pointer (some ⟨b1_5, 0, none⟩)), (4, .int .i64 l.length), (5, .slice (some adc) code.length c1), (6, .pointer (some ⟨bl, 0, none⟩)), (7, .slice AB2 (lb.length + 1) CB2), (8, .int .i64 lb.length)] L' ∧ E.Ent ρ' M' ρ5 (thrA x :: E.bag (lb.map thrA) :: E.arr 45 1 AB2 (lb.length + 1) CB2 ((lb ++ [x]).flatMap encThr) :: E.arr 45 1 AO l.length CO (l.flatMap encThr) :: E.pt b1_5 25 [.slice AO l.length CO, .slice A2_3 p.words.length c2_3, .int .i64 p.locks, .int .i64 p.regs] :: E.pt b0_1 25 [.slice none 0 0, .slice none 0 0, .int .i64 0, .int .i64 0] :: E.pt b0_0 25 [.slice (some ad) p.code.length c, .slice A' p.words.length c', .int .i64 p.locks, .int .i64 p.regs] :: M)) ?_ ?_
        · rw [← hx3]
          clear hx3 habs
          generalize code[lb.length] = i at *
          (repeat refine E.Run.seq ?_); refine E.Run.block ?_
          (repeat refine E.Run.seq ?_)
          refine E.Run.region ?_
          refine E.Ops.q _ (E.q_move rfl rfl) rfl rfl ?_
          refine E.Ops.q _ (E.q_move rfl rfl) rfl rfl ?_
          first | refine E.Ops.q _ (E.q_indexNat rfl rfl rfl so_45 (by first | assumption | omega)) rfl rfl ?_ | refine E.Ops.q _ (E.q_indexAddr rfl rfl rfl so_45 (by omega) (by omega)) rfl rfl ?_
          refine E.Ops.q _ (E.q_load rfl rfl (by exact E.LoadAt.roAgg ag_44 hcc rfl)) rfl rfl ?_
          refine E.Ops.loud rfl rfl ?_
          refine E.l_alloc rfl ty_44 (fun b12_4 => ?_)
          refine E.Ops.loud rfl rfl ?_
          refine E.l_store rfl rfl rfl E.ixA 4 sz_44 (by rfl) (by rfl) (by rfl) (by rfl) ?_
          refine E.Ops.nil ?_
          try simp only [E.tn, E.tx, E.tr, E.bn, E.br, E.bs]
          (repeat refine E.Run.seq ?_)
          refine E.Run.region ?_
          refine E.Ops.q _ (E.q_load rfl rfl (by first | refine E.LoadAt.ownAgg E.ixA 4 ag_44 (by rfl) (by rfl) | exact E.LoadAt.roAgg ag_44 (by assumption) rfl)) rfl rfl ?_
          refine E.Ops.loud rfl rfl ?_
          refine E.l_slice rfl rfl Try.underlying45 ty_44 rfl rfl rfl rfl rfl rfl (fun g13_1 => ?_)
          refine E.Ops.q _ (E.q_mv rfl rfl) rfl rfl ?_
          refine E.Ops.nil ?_
          try simp only [E.tn, E.tx, E.tr, E.bn, E.br, E.bs]
          (repeat refine E.Run.seq ?_)
          refine E.Run.region ?_
          first | refine E.Ops.q _ (E.q_fieldAddr' rfl rfl fo_44_0) rfl rfl ?_ | refine E.Ops.q _ (E.q_fieldAddr rfl rfl fo_44_0) rfl rfl ?_
          refine E.Ops.q _ (E.q_load rfl rfl (by first | refine E.LoadAt.own E.ixA sc_3 (by rfl) | exact E.LoadAt.ro sc_3 (by assumption) | exact E.LoadAt.arr E.ixA sc_3 (by assumption))) rfl rfl ?_
          refine E.Ops.loud rfl rfl ?_
          refine E.l_call Try.func55 nm_55 nb_55 rfl ?_; refine rReckons i.op ?_
          refine E.Ops.q _ (E.q_mv rfl rfl) rfl rfl ?_
          refine E.Ops.nil ?_
          try simp only [E.tn, E.tx, E.tr, E.bn, E.br, E.bs]
          -- the number that is always there
          refine E.Run.seqCut (fun L' ρ' M' => ∃ AX CX, E.SubEnv [(1, .pointer (some ⟨b0_0, 0, none⟩)), (2, .pointer (some ⟨b0_1, 0, none⟩)), (3, .pointer (some ⟨b1_5, 0, none⟩)), (4, .int .i64 l.length), (5, .slice (some adc) code.length c1), (6, .pointer (some ⟨bl, 0, none⟩)), (7, .slice AB lb.length CB), (8, .int .i64 lb.length), (9, .pointer (some ⟨b12_4, 0, none⟩)), (10, .slice AX (x1Of go (rowE vat) i).length CX)] L' ∧ E.Ent ρ' M' ρ5 (E.arr 44 4 AX (x1Of go (rowE vat) i).length CX ((x1Of go (rowE vat) i).flatMap E.encIns) :: E.pt b12_4 44 (E.encIns i) :: E.arr 45 1 AB lb.length CB (lb.flatMap encThr) :: E.bag (lb.map thrA) :: E.arr 45 1 AO l.length CO (l.flatMap encThr) :: E.pt b1_5 25 [.slice AO l.length CO, .slice A2_3 p.words.length c2_3, .int .i64 p.locks, .int .i64 p.regs] :: E.pt b0_1 25 [.slice none 0 0, .slice none 0 0, .int .i64 0, .int .i64 0] :: E.pt b0_0 25 [.slice (some ad) p.code.length c, .slice A' p.words.length c', .int .i64 p.locks, .int .i64 p.regs] :: M)) ?_ ?_
          · by_cases h7 : 1 ≤ i.op ∧ i.op ≤ 7
            · rw [decide_eq_true h7]
              cases go with
              | false =>
                rw [show x1Of false (rowE vat) i = [i] from by unfold x1Of; rw [if_neg (fun h => by simp at h)]]
                (repeat refine E.Run.seq ?_)
                refine E.Run.region ?_
                refine E.Ops.q _ (E.q_move rfl rfl) rfl rfl ?_
                refine E.Ops.q _ (E.q_move rfl rfl) rfl rfl ?_
                refine E.Ops.q _ (E.q_move rfl rfl) rfl rfl ?_
                refine E.Ops.q _ (E.q_nilCheck rfl rfl) rfl rfl ?_
                first | refine E.Ops.q _ (E.q_fieldAddr' rfl rfl fo_99_0) rfl rfl ?_ | refine E.Ops.q _ (E.q_fieldAddr rfl rfl fo_99_0) rfl rfl ?_
                refine E.Ops.q _ (E.q_load rfl rfl (by exact E.LoadAt.ro sc_77 (hlk 0 _ rfl))) rfl rfl ?_
                refine E.Ops.q _ (E.q_move rfl rfl) rfl rfl ?_
                refine E.Ops.q _ (E.q_indexNat rfl rfl rfl so_77 hlc) rfl rfl ?_
                refine E.Ops.q _ (E.q_load rfl rfl (by exact E.LoadAt.ro sc_4 hgo)) rfl rfl ?_
                refine E.Ops.q _ (E.q_pickT rfl rfl rfl) rfl rfl ?_
                refine E.Ops.nil ?_
                try simp only [E.tn, E.tx, E.tr, E.bn, E.br, E.bs]
                (repeat refine E.Run.seq ?_); refine E.Run.condF rfl ?_
                refine E.Run.skip ?_
                try simp only [E.tn, E.tx, E.tr, E.bn, E.br, E.bs]
                exact ⟨some ⟨g13_1, 0, none⟩, 1, by ((repeat refine E.SubEnv.cons rfl ?_); exact E.SubEnv.nil _), by exact E.Ent.of E.entA⟩
              | true =>
                (repeat refine E.Run.seq ?_)
                refine E.Run.region ?_
                refine E.Ops.q _ (E.q_move rfl rfl) rfl rfl ?_
                refine E.Ops.q _ (E.q_move rfl rfl) rfl rfl ?_
                refine E.Ops.q _ (E.q_move rfl rfl) rfl rfl ?_
                refine E.Ops.q _ (E.q_nilCheck rfl rfl) rfl rfl ?_
                first | refine E.Ops.q _ (E.q_fieldAddr' rfl rfl fo_99_0) rfl rfl ?_ | refine E.Ops.q _ (E.q_fieldAddr rfl rfl fo_99_0) rfl rfl ?_
                refine E.Ops.q _ (E.q_load rfl rfl (by exact E.LoadAt.ro sc_77 (hlk 0 _ rfl))) rfl rfl ?_
                refine E.Ops.q _ (E.q_move rfl rfl) rfl rfl ?_
                refine E.Ops.q _ (E.q_indexNat rfl rfl rfl so_77 hlc) rfl rfl ?_
                refine E.Ops.q _ (E.q_load rfl rfl (by exact E.LoadAt.ro sc_4 hgo)) rfl rfl ?_
                refine E.Ops.q _ (E.q_pickT rfl rfl rfl) rfl rfl ?_
                refine E.Ops.nil ?_
                try simp only [E.tn, E.tx, E.tr, E.bn, E.br, E.bs]
                (repeat refine E.Run.seq ?_); refine E.Run.condT rfl ?_
                refine E.Run.seqCut (fun L' ρ' M' => ∃ bv, E.SubEnv [(1, .pointer (some ⟨b0_0, 0, none⟩)), (2, .pointer (some ⟨b0_1, 0, none⟩)), (3, .pointer (some ⟨b1_5, 0, none⟩)), (4, .int .i64 l.length), (5, .slice (some adc) code.length c1), (6, .pointer (some ⟨bl, 0, none⟩)), (7, .slice AB lb.length CB), (8, .int .i64 lb.length), (9, .pointer (some ⟨b12_4, 0, none⟩)), (10, .slice (some ⟨g13_1, 0, none⟩) 1 1), (12, .pointer (some ⟨bv, 0, none⟩))] L' ∧ E.Ent ρ' M' ρ5 (E.pt bv 101 (encV ((reck i (rowE vat)).getD ⟨0, 0⟩)) :: E.arr 44 4 (some ⟨g13_1, 0, none⟩) 1 1 ([i].flatMap E.encIns) :: E.pt b12_4 44 (E.encIns i) :: E.arr 45 1 AB lb.length CB (lb.flatMap encThr) :: E.bag (lb.map thrA) :: E.arr 45 1 AO l.length CO (l.flatMap encThr) :: E.pt b1_5 25 [.slice AO l.length CO, .slice A2_3 p.words.length c2_3, .int .i64 p.locks, .int .i64 p.regs] :: E.pt b0_1 25 [.slice none 0 0, .slice none 0 0, .int .i64 0, .int .i64 0] :: E.pt b0_0 25 [.slice (some ad) p.code.length c, .slice A' p.words.length c', .int .i64 p.locks, .int .i64 p.regs] :: M)) ?_ ?_
                · (repeat refine E.Run.seq ?_)
                  refine E.Run.draw (.q 0 (.q 1 (.q 2 (.q 3 (.q 4 (.q 5 (.q 6 (.q 7 (.alt 8 9 (.l 9 (.l 10 (.nil))) (.l 8 (.l 10 (.nil)))))))))))) _ _ Try.mixed (by kernel_rfl) (E.Ent.refl _ _) ?_
                  refine E.Plan.q _ rfl _ (E.q_load rfl rfl (by first | refine E.LoadAt.ownAgg E.ixA 4 ag_44 (by rfl) (by rfl) | exact E.LoadAt.roAgg ag_44 (by assumption) rfl)) rfl rfl ?_
                  refine E.Plan.q _ rfl _ (E.q_move rfl rfl) rfl rfl ?_
                  refine E.Plan.q _ rfl _ (E.q_nilCheck rfl rfl) rfl rfl ?_
                  first | refine E.Plan.q _ rfl _ (E.q_fieldAddr' rfl rfl fo_99_1) rfl rfl ?_ | refine E.Plan.q _ rfl _ (E.q_fieldAddr rfl rfl fo_99_1) rfl rfl ?_
                  refine E.Plan.q _ rfl _ (E.q_load rfl rfl (by exact E.LoadAt.ro sc_97 (hlk 1 _ rfl))) rfl rfl ?_
                  refine E.Plan.q _ rfl _ (E.q_move rfl rfl) rfl rfl ?_
                  refine E.Plan.q _ rfl _ (E.q_indexNat rfl rfl rfl so_97 hlc) rfl rfl ?_
                  refine E.Plan.q _ rfl _ (E.q_load rfl rfl (by exact E.LoadAt.ro sc_103 hou)) rfl rfl ?_
                  refine E.Plan.alt ?S1_0 ?S1_1
                  case' S1_1 =>
                    refine E.StepA.loud _ rfl rfl rfl ?_
                    refine E.l_alloc rfl ty_101 (fun b16_9 => ?_)
                    refine ⟨E.Ent.of E.entA, ?_⟩
                    refine E.Plan.loud _ rfl rfl rfl ?_
                    refine E.l_call Try.func56 nm_56 nb_56 rfl ?_; refine rResult i R (rowE vat) _ _ h7 hin.reads (fun q q0 q1 => E.LoadAt.roAgg ag_101 (hvEl q q0 q1) (encV_len _)) ?_
                    refine ⟨E.Ent.of E.entA, ?_⟩
                    refine E.Plan.loud _ rfl rfl rfl ?_
                    refine E.l_store rfl rfl rfl E.ixA 2 sz_101 (by rfl) (by rfl) (by rfl) (by rfl) ?_
                    refine ⟨E.Ent.of E.entA, ?_⟩
                    refine E.Plan.nil ?_
                    try simp only [E.tn, E.tx, E.tr, E.bn, E.br, E.bs]
                  case' S1_0 =>
                    refine E.StepA.loud _ rfl rfl rfl ?_
                    refine E.l_call Try.func56 nm_56 nb_56 rfl ?_; refine rResult i R (rowE vat) _ _ h7 hin.reads (fun q q0 q1 => E.LoadAt.roAgg ag_101 (hvEl q q0 q1) (encV_len _)) ?_
                    refine ⟨E.Ent.of E.entA, ?_⟩
                    refine E.Plan.loud _ rfl rfl rfl ?_
                    refine E.l_alloc rfl ty_101 (fun b16_9 => ?_)
                    refine ⟨E.Ent.of E.entA, ?_⟩
                    refine E.Plan.loud _ rfl rfl rfl ?_
                    refine E.l_store rfl rfl rfl E.ixA 2 sz_101 (by rfl) (by rfl) (by rfl) (by rfl) ?_
                    refine ⟨E.Ent.of E.entA, ?_⟩
                    refine E.Plan.nil ?_
                    try simp only [E.tn, E.tx, E.tr, E.bn, E.br, E.bs]
                  all_goals exact ⟨b16_9, by ((repeat refine E.SubEnv.cons rfl ?_); exact E.SubEnv.nil _), by exact E.Ent.of E.entA⟩
                rintro L1 ρ1' M1 ⟨bv, hs, he⟩
                refine E.Run.sub hs (E.Run.ent he ?_)
                clear hs he
                generalize hv : (reck i (rowE vat)).getD ⟨0, 0⟩ = v
                (repeat refine E.Run.seq ?_)
                refine E.Run.region ?_
                first | refine E.Ops.q _ (E.q_fieldAddr' rfl rfl fo_101_0) rfl rfl ?_ | refine E.Ops.q _ (E.q_fieldAddr rfl rfl fo_101_0) rfl rfl ?_
                refine E.Ops.q _ (E.q_load rfl rfl (by first | refine E.LoadAt.own E.ixA sc_3 (by rfl) | exact E.LoadAt.ro sc_3 (by assumption) | exact E.LoadAt.arr E.ixA sc_3 (by assumption))) rfl rfl ?_
                refine E.Ops.q _ (E.q_eql rfl rfl rfl) rfl rfl ?_
                refine E.Ops.nil ?_
                try simp only [E.tn, E.tx, E.tr, E.bn, E.br, E.bs]
                (repeat refine E.Run.seq ?_); refine E.Run.condD rfl (fun h17 => ?_) (fun h17 => ?_)
                · rw [show x1Of true (rowE vat) i = [⟨1, i.a, v.n, 0⟩] from by unfold x1Of; rw [hv, if_pos ⟨h7, rfl, h17⟩]]
                  (repeat refine E.Run.seq ?_)
                  refine E.Run.region ?_
                  first | refine E.Ops.q _ (E.q_fieldAddr' rfl rfl fo_44_1) rfl rfl ?_ | refine E.Ops.q _ (E.q_fieldAddr rfl rfl fo_44_1) rfl rfl ?_
                  refine E.Ops.q _ (E.q_load rfl rfl (by first | refine E.LoadAt.own E.ixA sc_3 (by rfl) | exact E.LoadAt.ro sc_3 (by assumption) | exact E.LoadAt.arr E.ixA sc_3 (by assumption))) rfl rfl ?_
                  first | refine E.Ops.q _ (E.q_fieldAddr' rfl rfl fo_101_1) rfl rfl ?_ | refine E.Ops.q _ (E.q_fieldAddr rfl rfl fo_101_1) rfl rfl ?_
                  refine E.Ops.q _ (E.q_load rfl rfl (by first | refine E.LoadAt.own E.ixA sc_3 (by rfl) | exact E.LoadAt.ro sc_3 (by assumption) | exact E.LoadAt.arr E.ixA sc_3 (by assumption))) rfl rfl ?_
                  refine E.Ops.q _ (E.q_struct rfl rfl pl_44 rfl) rfl rfl ?_
                  refine E.Ops.loud rfl rfl ?_
                  refine E.l_slice rfl rfl Try.underlying45 ty_44 rfl rfl rfl rfl rfl rfl (fun g18_5 => ?_)
                  refine E.Ops.q _ (E.q_mv rfl rfl) rfl rfl ?_
                  refine E.Ops.nil ?_
                  try simp only [E.tn, E.tx, E.tr, E.bn, E.br, E.bs]
                  exact ⟨some ⟨g18_5, 0, none⟩, 1, by ((repeat refine E.SubEnv.cons rfl ?_); exact E.SubEnv.nil _), by exact E.Ent.of E.entA⟩
                · rw [show x1Of true (rowE vat) i = [i] from by unfold x1Of; rw [hv, if_neg (fun h => h17 h.2.2)]]
                  refine E.Run.skip ?_
                  try simp only [E.tn, E.tx, E.tr, E.bn, E.br, E.bs]
                  exact ⟨some ⟨g13_1, 0, none⟩, 1, by ((repeat refine E.SubEnv.cons rfl ?_); exact E.SubEnv.nil _), by exact E.Ent.of E.entA⟩
            · rw [decide_eq_false h7, show x1Of go (rowE vat) i = [i] from by unfold x1Of; rw [if_neg (fun h => h7 h.1)]]
              (repeat refine E.Run.seq ?_)
              refine E.Run.region ?_
              refine E.Ops.q _ (E.q_move rfl rfl) rfl rfl ?_
              refine E.Ops.q _ (E.q_move rfl rfl) rfl rfl ?_
              refine E.Ops.skip rfl rfl ?_
              refine E.Ops.skip rfl rfl ?_
              refine E.Ops.skip rfl rfl ?_
              refine E.Ops.skip rfl rfl ?_
              refine E.Ops.skip rfl rfl ?_
              refine E.Ops.skip rfl rfl ?_
              refine E.Ops.skip rfl rfl ?_
              refine E.Ops.q _ (E.q_pickF rfl rfl rfl) rfl rfl ?_
              refine E.Ops.nil ?_
              try simp only [E.tn, E.tx, E.tr, E.bn, E.br, E.bs]
              (repeat refine E.Run.seq ?_); refine E.Run.condF rfl ?_
              refine E.Run.skip ?_
              try simp only [E.tn, E.tx, E.tr, E.bn, E.br, E.bs]
              exact ⟨some ⟨g13_1, 0, none⟩, 1, by ((repeat refine E.SubEnv.cons rfl ?_); exact E.SubEnv.nil _), by exact E.Ent.of E.entA⟩
          rintro L1 ρ1' M1 ⟨AX, CX, hs, he⟩
          refine E.Run.sub hs (E.Run.ent he ?_)
          clear hs he
          refine E.Run.seqCut (fun L' ρ' M' => ∃ AX CX, E.SubEnv [(1, .pointer (some ⟨b0_0, 0, none⟩)), (2, .pointer (some ⟨b0_1, 0, none⟩)), (3, .pointer (some ⟨b1_5, 0, none⟩)), (4, .int .i64 l.length), (5, .slice (some adc) code.length c1), (6, .pointer (some ⟨bl, 0, none⟩)), (7, .slice AB lb.length CB), (8, .int .i64 lb.length), (9, .pointer (some ⟨b12_4, 0, none⟩)), (10, .slice AX (x2Of go (rowE vat) i).length CX)] L' ∧ E.Ent ρ' M' ρ5 (E.arr 44 4 AX (x2Of go (rowE vat) i).length CX ((x2Of go (rowE vat) i).flatMap E.encIns) :: E.pt b12_4 44 (E.encIns i) :: E.arr 45 1 AB lb.length CB (lb.flatMap encThr) :: E.bag (lb.map thrA) :: E.arr 45 1 AO l.length CO (l.flatMap encThr) :: E.pt b1_5 25 [.slice AO l.length CO, .slice A2_3 p.words.length c2_3, .int .i64 p.locks, .int .i64 p.regs] :: E.pt b0_1 25 [.slice none 0 0, .slice none 0 0, .int .i64 0, .int .i64 0] :: E.pt b0_0 25 [.slice (some ad) p.code.length c, .slice A' p.words.length c', .int .i64 p.locks, .int .i64 p.regs] :: M)) ?_ ?_
          · generalize hx1 : x1Of go (rowE vat) i = x1 at *
            by_cases h15 : i.op = 15
            · have hz := hin.zero h15
              cases go with
              | false =>
                rw [show x2Of false (rowE vat) i = x1 from by unfold x2Of; rw [if_neg (fun h => by simp at h), hx1]]
                (repeat refine E.Run.seq ?_)
                refine E.Run.draw (.ph [0, 1, 2, 3, 4, 5, 6, 7, 8, 9, 10, 11, 12, 13, 14, 15, 16, 17, 18, 19, 20, 21, 22, 23, 24, 25, 26] (.nil)) _ _ Try.mixed (by kernel_rfl) (E.Ent.nil _ _) ?_
                refine E.Plan.ph (by exact E.Ent.of E.entA) ?_
                first | refine E.PlanQ.q _ rfl _ (E.q_fieldAddr' rfl rfl fo_44_0) rfl rfl ?_ | refine E.PlanQ.q _ rfl _ (E.q_fieldAddr rfl rfl fo_44_0) rfl rfl ?_
                refine E.PlanQ.q _ rfl _ (E.q_load rfl rfl (by first | refine E.LoadAt.own E.ixA sc_3 (by rfl) | exact E.LoadAt.ro sc_3 (by assumption) | exact E.LoadAt.arr E.ixA sc_3 (by assumption))) rfl rfl ?_
                refine E.PlanQ.q _ rfl _ ((E.q_eql rfl rfl rfl).isT (h15)) rfl rfl ?_
                refine E.PlanQ.q _ rfl _ (E.q_move rfl rfl) rfl rfl ?_
                refine E.PlanQ.q _ rfl _ (E.q_move rfl rfl) rfl rfl ?_
                refine E.PlanQ.q _ rfl _ (E.q_nilCheck rfl rfl) rfl rfl ?_
                first | refine E.PlanQ.q _ rfl _ (E.q_fieldAddr' rfl rfl fo_99_0) rfl rfl ?_ | refine E.PlanQ.q _ rfl _ (E.q_fieldAddr rfl rfl fo_99_0) rfl rfl ?_
                refine E.PlanQ.q _ rfl _ (E.q_load rfl rfl (by exact E.LoadAt.ro sc_77 (hlk 0 _ rfl))) rfl rfl ?_
                refine E.PlanQ.q _ rfl _ (E.q_move rfl rfl) rfl rfl ?_
                refine E.PlanQ.q _ rfl _ (E.q_indexNat rfl rfl rfl so_77 hlc) rfl rfl ?_
                refine E.PlanQ.q _ rfl _ (E.q_load rfl rfl (by exact E.LoadAt.ro sc_4 hgo)) rfl rfl ?_
                refine E.PlanQ.q _ rfl _ (E.q_pickT rfl rfl rfl) rfl rfl ?_
                refine E.PlanQ.q _ rfl _ (E.q_move rfl rfl) rfl rfl ?_
                refine E.PlanQ.skip _ rfl rfl rfl ?_
                refine E.PlanQ.skip _ rfl rfl rfl ?_
                refine E.PlanQ.skip _ rfl rfl rfl ?_
                refine E.PlanQ.skip _ rfl rfl rfl ?_
                refine E.PlanQ.skip _ rfl rfl rfl ?_
                refine E.PlanQ.skip _ rfl rfl rfl ?_
                refine E.PlanQ.skip _ rfl rfl rfl ?_
                refine E.PlanQ.skip _ rfl rfl rfl ?_
                refine E.PlanQ.skip _ rfl rfl rfl ?_
                refine E.PlanQ.skip _ rfl rfl rfl ?_
                refine E.PlanQ.skip _ rfl rfl rfl ?_
                refine E.PlanQ.skip _ rfl rfl rfl ?_
                refine E.PlanQ.skip _ rfl rfl rfl ?_
                refine E.PlanQ.q _ rfl _ (E.q_pickF rfl rfl rfl) rfl rfl ?_
                refine E.PlanQ.nil ?_
                refine E.Plan.nil ?_
                try simp only [E.tn, E.tx, E.tr, E.bn, E.br, E.bs]
                (repeat refine E.Run.seq ?_); refine E.Run.condF rfl ?_
                refine E.Run.skip ?_
                try simp only [E.tn, E.tx, E.tr, E.bn, E.br, E.bs]
                exact ⟨AX, CX, by ((repeat refine E.SubEnv.cons rfl ?_); exact E.SubEnv.nil _), by exact E.Ent.of E.entA⟩
              | true =>
                (repeat refine E.Run.seq ?_)
                refine E.Run.draw (.ph [0, 1, 2, 3, 4, 5, 6, 7, 8, 9, 10, 11, 12, 13, 14, 15, 16, 17, 18, 19, 20, 21, 22, 23, 24, 25, 26] (.nil)) _ _ Try.mixed (by kernel_rfl) (E.Ent.nil _ _) ?_
                refine E.Plan.ph (by exact E.Ent.of E.entA) ?_
                first | refine E.PlanQ.q _ rfl _ (E.q_fieldAddr' rfl rfl fo_44_0) rfl rfl ?_ | refine E.PlanQ.q _ rfl _ (E.q_fieldAddr rfl rfl fo_44_0) rfl rfl ?_
                refine E.PlanQ.q _ rfl _ (E.q_load rfl rfl (by first | refine E.LoadAt.own E.ixA sc_3 (by rfl) | exact E.LoadAt.ro sc_3 (by assumption) | exact E.LoadAt.arr E.ixA sc_3 (by assumption))) rfl rfl ?_
                refine E.PlanQ.q _ rfl _ ((E.q_eql rfl rfl rfl).isT (h15)) rfl rfl ?_
                refine E.PlanQ.q _ rfl _ (E.q_move rfl rfl) rfl rfl ?_
                refine E.PlanQ.q _ rfl _ (E.q_move rfl rfl) rfl rfl ?_
                refine E.PlanQ.q _ rfl _ (E.q_nilCheck rfl rfl) rfl rfl ?_
                first | refine E.PlanQ.q _ rfl _ (E.q_fieldAddr' rfl rfl fo_99_0) rfl rfl ?_ | refine E.PlanQ.q _ rfl _ (E.q_fieldAddr rfl rfl fo_99_0) rfl rfl ?_
                refine E.PlanQ.q _ rfl _ (E.q_load rfl rfl (by exact E.LoadAt.ro sc_77 (hlk 0 _ rfl))) rfl rfl ?_
                refine E.PlanQ.q _ rfl _ (E.q_move rfl rfl) rfl rfl ?_
                refine E.PlanQ.q _ rfl _ (E.q_indexNat rfl rfl rfl so_77 hlc) rfl rfl ?_
                refine E.PlanQ.q _ rfl _ (E.q_load rfl rfl (by exact E.LoadAt.ro sc_4 hgo)) rfl rfl ?_
                refine E.PlanQ.q _ rfl _ (E.q_pickT rfl rfl rfl) rfl rfl ?_
                refine E.PlanQ.q _ rfl _ (E.q_move rfl rfl) rfl rfl ?_
                refine E.PlanQ.q _ rfl _ (E.q_move rfl rfl) rfl rfl ?_
                refine E.PlanQ.q _ rfl _ (E.q_nilCheck rfl rfl) rfl rfl ?_
                first | refine E.PlanQ.q _ rfl _ (E.q_fieldAddr' rfl rfl fo_99_1) rfl rfl ?_ | refine E.PlanQ.q _ rfl _ (E.q_fieldAddr rfl rfl fo_99_1) rfl rfl ?_
                refine E.PlanQ.q _ rfl _ (E.q_load rfl rfl (by exact E.LoadAt.ro sc_97 (hlk 1 _ rfl))) rfl rfl ?_
                refine E.PlanQ.q _ rfl _ (E.q_move rfl rfl) rfl rfl ?_
                refine E.PlanQ.q _ rfl _ (E.q_indexNat rfl rfl rfl so_97 hlc) rfl rfl ?_
                refine E.PlanQ.q _ rfl _ (E.q_load rfl rfl (by exact E.LoadAt.ro sc_103 hou)) rfl rfl ?_
                first | refine E.PlanQ.q _ rfl _ (E.q_fieldAddr' rfl rfl fo_44_1) rfl rfl ?_ | refine E.PlanQ.q _ rfl _ (E.q_fieldAddr rfl rfl fo_44_1) rfl rfl ?_
                refine E.PlanQ.q _ rfl _ (E.q_load rfl rfl (by first | refine E.LoadAt.own E.ixA sc_3 (by rfl) | exact E.LoadAt.ro sc_3 (by assumption) | exact E.LoadAt.arr E.ixA sc_3 (by assumption))) rfl rfl ?_
                refine E.PlanQ.q _ rfl _ (E.q_indexAddr rfl rfl rfl so_103 hz.1 hz.2) rfl rfl ?_
                first | refine E.PlanQ.q _ rfl _ (E.q_fieldAddr' rfl rfl fo_101_0) rfl rfl ?_ | refine E.PlanQ.q _ rfl _ (E.q_fieldAddr rfl rfl fo_101_0) rfl rfl ?_
                refine E.PlanQ.q _ rfl _ (E.q_load rfl rfl (by exact E.LoadAt.ro sc_3 (hvEl _ hz.1 hz.2 0 _ rfl))) rfl rfl ?_
                refine E.PlanQ.q _ rfl _ (E.q_eql rfl rfl rfl) rfl rfl ?_
                refine E.PlanQ.q _ rfl _ (E.q_pickT rfl rfl rfl) rfl rfl ?_
                refine E.PlanQ.nil ?_
                refine E.Plan.nil ?_
                try simp only [E.tn, E.tx, E.tr, E.bn, E.br, E.bs]
                (repeat refine E.Run.seq ?_); refine E.Run.condD rfl (fun h19 => ?_) (fun h19 => ?_)
                · (repeat refine E.Run.seq ?_)
                  refine E.Run.region ?_
                  first | refine E.Ops.q _ (E.q_fieldAddr' rfl rfl fo_44_2) rfl rfl ?_ | refine E.Ops.q _ (E.q_fieldAddr rfl rfl fo_44_2) rfl rfl ?_
                  refine E.Ops.q _ (E.q_load rfl rfl (by first | refine E.LoadAt.own E.ixA sc_3 (by rfl) | exact E.LoadAt.ro sc_3 (by assumption) | exact E.LoadAt.arr E.ixA sc_3 (by assumption))) rfl rfl ?_
                  refine E.Ops.q _ (E.q_struct rfl rfl pl_44 rfl) rfl rfl ?_
                  refine E.Ops.loud rfl rfl ?_
                  refine E.l_slice rfl rfl Try.underlying45 ty_44 rfl rfl rfl rfl rfl rfl (fun g20_3 => ?_)
                  refine E.Ops.q _ (E.q_mv rfl rfl) rfl rfl ?_
                  refine E.Ops.nil ?_
                  try simp only [E.tn, E.tx, E.tr, E.bn, E.br, E.bs]
                  (repeat refine E.Run.seq ?_)
                  refine E.Run.draw (.ph [0, 1, 2, 3, 4, 5, 6, 7, 8, 9, 10, 11, 12] (.nil)) _ _ Try.mixed (by kernel_rfl) (E.Ent.nil _ _) ?_
                  refine E.Plan.ph (by exact E.Ent.of E.entA) ?_
                  refine E.PlanQ.q _ rfl _ (E.q_move rfl rfl) rfl rfl ?_
                  refine E.PlanQ.q _ rfl _ (E.q_nilCheck rfl rfl) rfl rfl ?_
                  first | refine E.PlanQ.q _ rfl _ (E.q_fieldAddr' rfl rfl fo_99_1) rfl rfl ?_ | refine E.PlanQ.q _ rfl _ (E.q_fieldAddr rfl rfl fo_99_1) rfl rfl ?_
                  refine E.PlanQ.q _ rfl _ (E.q_load rfl rfl (by exact E.LoadAt.ro sc_97 (hlk 1 _ rfl))) rfl rfl ?_
                  refine E.PlanQ.q _ rfl _ (E.q_move rfl rfl) rfl rfl ?_
                  refine E.PlanQ.q _ rfl _ (E.q_indexNat rfl rfl rfl so_97 hlc) rfl rfl ?_
                  refine E.PlanQ.q _ rfl _ (E.q_load rfl rfl (by exact E.LoadAt.ro sc_103 hou)) rfl rfl ?_
                  first | refine E.PlanQ.q _ rfl _ (E.q_fieldAddr' rfl rfl fo_44_1) rfl rfl ?_ | refine E.PlanQ.q _ rfl _ (E.q_fieldAddr rfl rfl fo_44_1) rfl rfl ?_
                  refine E.PlanQ.q _ rfl _ (E.q_load rfl rfl (by first | refine E.LoadAt.own E.ixA sc_3 (by rfl) | exact E.LoadAt.ro sc_3 (by assumption) | exact E.LoadAt.arr E.ixA sc_3 (by assumption))) rfl rfl ?_
                  refine E.PlanQ.q _ rfl _ (E.q_indexAddr rfl rfl rfl so_103 hz.1 hz.2) rfl rfl ?_
                  first | refine E.PlanQ.q _ rfl _ (E.q_fieldAddr' rfl rfl fo_101_1) rfl rfl ?_ | refine E.PlanQ.q _ rfl _ (E.q_fieldAddr rfl rfl fo_101_1) rfl rfl ?_
                  refine E.PlanQ.q _ rfl _ (E.q_load rfl rfl (by exact E.LoadAt.ro sc_3 (hvEl _ hz.1 hz.2 1 _ rfl))) rfl rfl ?_
                  refine E.PlanQ.q _ rfl _ (E.q_neq rfl rfl rfl) rfl rfl ?_
                  refine E.PlanQ.nil ?_
                  refine E.Plan.nil ?_
                  try simp only [E.tn, E.tx, E.tr, E.bn, E.br, E.bs]
                  (repeat refine E.Run.seq ?_); refine E.Run.condD rfl (fun h21 => ?_) (fun h21 => ?_)
                  · rw [show x2Of true (rowE vat) i = [] from by unfold x2Of; rw [if_pos ⟨h15, rfl, h19⟩, if_pos h21]]
                    (repeat refine E.Run.seq ?_)
                    refine E.Run.region ?_
                    refine E.Ops.q _ (E.q_mv rfl rfl) rfl rfl ?_
                    refine E.Ops.nil ?_
                    try simp only [E.tn, E.tx, E.tr, E.bn, E.br, E.bs]
                    exact ⟨none, 0, by ((repeat refine E.SubEnv.cons rfl ?_); exact E.SubEnv.nil _), E.Ent.of (E.SEnt.addNil E.entA)⟩
                  · rw [show x2Of true (rowE vat) i = [⟨14, i.b, 0, 0⟩] from by unfold x2Of; rw [if_pos ⟨h15, rfl, h19⟩, if_neg h21]]
                    refine E.Run.skip ?_
                    try simp only [E.tn, E.tx, E.tr, E.bn, E.br, E.bs]
                    exact ⟨some ⟨g20_3, 0, none⟩, 1, by ((repeat refine E.SubEnv.cons rfl ?_); exact E.SubEnv.nil _), by exact E.Ent.of E.entA⟩
                · rw [show x2Of true (rowE vat) i = x1 from by unfold x2Of; rw [if_neg (fun h => h19 h.2.2), hx1]]
                  refine E.Run.skip ?_
                  try simp only [E.tn, E.tx, E.tr, E.bn, E.br, E.bs]
                  exact ⟨AX, CX, by ((repeat refine E.SubEnv.cons rfl ?_); exact E.SubEnv.nil _), by exact E.Ent.of E.entA⟩
            · rw [show x2Of go (rowE vat) i = x1 from by unfold x2Of; rw [if_neg (fun h => h15 h.1), hx1]]
              (repeat refine E.Run.seq ?_)
              refine E.Run.draw (.ph [0, 1, 2, 3, 4, 5, 6, 7, 8, 9, 10, 11, 12, 13, 14, 15, 16, 17, 18, 19, 20, 21, 22, 23, 24, 25, 26] (.nil)) _ _ Try.mixed (by kernel_rfl) (E.Ent.nil _ _) ?_
              refine E.Plan.ph (by exact E.Ent.of E.entA) ?_
              first | refine E.PlanQ.q _ rfl _ (E.q_fieldAddr' rfl rfl fo_44_0) rfl rfl ?_ | refine E.PlanQ.q _ rfl _ (E.q_fieldAddr rfl rfl fo_44_0) rfl rfl ?_
              refine E.PlanQ.q _ rfl _ (E.q_load rfl rfl (by first | refine E.LoadAt.own E.ixA sc_3 (by rfl) | exact E.LoadAt.ro sc_3 (by assumption) | exact E.LoadAt.arr E.ixA sc_3 (by assumption))) rfl rfl ?_
              refine E.PlanQ.q _ rfl _ ((E.q_eql rfl rfl rfl).isF (h15)) rfl rfl ?_
              refine E.PlanQ.q _ rfl _ (E.q_move rfl rfl) rfl rfl ?_
              refine E.PlanQ.skip _ rfl rfl rfl ?_
              refine E.PlanQ.skip _ rfl rfl rfl ?_
              refine E.PlanQ.skip _ rfl rfl rfl ?_
              refine E.PlanQ.skip _ rfl rfl rfl ?_
              refine E.PlanQ.skip _ rfl rfl rfl ?_
              refine E.PlanQ.skip _ rfl rfl rfl ?_
              refine E.PlanQ.skip _ rfl rfl rfl ?_
              refine E.PlanQ.q _ rfl _ (E.q_pickF rfl rfl rfl) rfl rfl ?_
              refine E.PlanQ.q _ rfl _ (E.q_move rfl rfl) rfl rfl ?_
              refine E.PlanQ.skip _ rfl rfl rfl ?_
              refine E.PlanQ.skip _ rfl rfl rfl ?_
              refine E.PlanQ.skip _ rfl rfl rfl ?_
              refine E.PlanQ.skip _ rfl rfl rfl ?_
              refine E.PlanQ.skip _ rfl rfl rfl ?_
              refine E.PlanQ.skip _ rfl rfl rfl ?_
              refine E.PlanQ.skip _ rfl rfl rfl ?_
              refine E.PlanQ.skip _ rfl rfl rfl ?_
              refine E.PlanQ.skip _ rfl rfl rfl ?_
              refine E.PlanQ.skip _ rfl rfl rfl ?_
              refine E.PlanQ.skip _ rfl rfl rfl ?_
              refine E.PlanQ.skip _ rfl rfl rfl ?_
              refine E.PlanQ.skip _ rfl rfl rfl ?_
              refine E.PlanQ.q _ rfl _ (E.q_pickF rfl rfl rfl) rfl rfl ?_
              refine E.PlanQ.nil ?_
              refine E.Plan.nil ?_
              try simp only [E.tn, E.tx, E.tr, E.bn, E.br, E.bs]
              (repeat refine E.Run.seq ?_); refine E.Run.condF rfl ?_
              refine E.Run.skip ?_
              try simp only [E.tn, E.tx, E.tr, E.bn, E.br, E.bs]
              exact ⟨AX, CX, by ((repeat refine E.SubEnv.cons rfl ?_); exact E.SubEnv.nil _), by exact E.Ent.of E.entA⟩
          rintro L1 ρ1' M1 ⟨AX, CX, hs, he⟩
          refine E.Run.sub hs (E.Run.ent he ?_)
          clear hs he
          refine E.Run.seqCut (fun L' ρ' M' => ∃ AX CX, E.SubEnv [(1, .pointer (some ⟨b0_0, 0, none⟩)), (2, .pointer (some ⟨b0_1, 0, none⟩)), (3, .pointer (some ⟨b1_5, 0, none⟩)), (4, .int .i64 l.length), (5, .slice (some adc) code.length c1), (6, .pointer (some ⟨bl, 0, none⟩)), (7, .slice AB lb.length CB), (8, .int .i64 lb.length), (9, .pointer (some ⟨b12_4, 0, none⟩)), (10, .slice AX (x3Of go (rowE vat) i).length CX)] L' ∧ E.Ent ρ' M' ρ5 (E.arr 44 4 AX (x3Of go (rowE vat) i).length CX ((x3Of go (rowE vat) i).flatMap E.encIns) :: E.pt b12_4 44 (E.encIns i) :: E.arr 45 1 AB lb.length CB (lb.flatMap encThr) :: E.bag (lb.map thrA) :: E.arr 45 1 AO l.length CO (l.flatMap encThr) :: E.pt b1_5 25 [.slice AO l.length CO, .slice A2_3 p.words.length c2_3, .int .i64 p.locks, .int .i64 p.regs] :: E.pt b0_1 25 [.slice none 0 0, .slice none 0 0, .int .i64 0, .int .i64 0] :: E.pt b0_0 25 [.slice (some ad) p.code.length c, .slice A' p.words.length c', .int .i64 p.locks, .int .i64 p.regs] :: M)) ?_ ?_
          · generalize hx2 : x2Of go (rowE vat) i = x2 at *
            (repeat refine E.Run.seq ?_)
            refine E.Run.region ?_
            refine E.Ops.q _ (E.q_move rfl rfl) rfl rfl ?_
            refine E.Ops.q _ (E.q_nilCheck rfl rfl) rfl rfl ?_
            first | refine E.Ops.q _ (E.q_fieldAddr' rfl rfl fo_99_0) rfl rfl ?_ | refine E.Ops.q _ (E.q_fieldAddr rfl rfl fo_99_0) rfl rfl ?_
            refine E.Ops.q _ (E.q_load rfl rfl (by exact E.LoadAt.ro sc_77 (hlk 0 _ rfl))) rfl rfl ?_
            refine E.Ops.q _ (E.q_move rfl rfl) rfl rfl ?_
            refine E.Ops.q _ (E.q_indexNat rfl rfl rfl so_77 hlc) rfl rfl ?_
            refine E.Ops.q _ (E.q_load rfl rfl (by exact E.LoadAt.ro sc_4 hgo)) rfl rfl ?_
            refine E.Ops.q _ (E.q_not rfl rfl) rfl rfl ?_
            refine E.Ops.nil ?_
            try simp only [E.tn, E.tx, E.tr, E.bn, E.br, E.bs]
            cases go with
            | true =>
              rw [show x3Of true (rowE vat) i = x2 from by unfold x3Of; rw [if_pos rfl, hx2]]
              (repeat refine E.Run.seq ?_); refine E.Run.condF rfl ?_
              refine E.Run.skip ?_
              try simp only [E.tn, E.tx, E.tr, E.bn, E.br, E.bs]
              exact ⟨AX, CX, by ((repeat refine E.SubEnv.cons rfl ?_); exact E.SubEnv.nil _), by exact E.Ent.of E.entA⟩
            | false =>
              rw [show x3Of false (rowE vat) i = [] from by unfold x3Of; rw [if_neg (by simp)]]
              (repeat refine E.Run.seq ?_); refine E.Run.condT rfl ?_
              (repeat refine E.Run.seq ?_)
              refine E.Run.region ?_
              refine E.Ops.q _ (E.q_mv rfl rfl) rfl rfl ?_
              refine E.Ops.nil ?_
              try simp only [E.tn, E.tx, E.tr, E.bn, E.br, E.bs]
              exact ⟨none, 0, by ((repeat refine E.SubEnv.cons rfl ?_); exact E.SubEnv.nil _), E.Ent.of (E.SEnt.addNil E.entA)⟩
          rintro L1 ρ1' M1 ⟨AX, CX, hs, he⟩
          refine E.Run.sub hs (E.Run.ent he ?_)
          clear hs he
          have hx3l := x3_len go (rowE vat) i
          generalize x3Of go (rowE vat) i = x3 at *
          (repeat refine E.Run.seq ?_)
          refine E.Run.region ?_
          refine E.Ops.q _ (E.q_move rfl rfl) rfl rfl ?_
          refine E.Ops.q _ (E.q_move rfl rfl) rfl rfl ?_
          refine E.Ops.loud rfl rfl ?_
          refine E.l_slice rfl rfl Try.underlying22 ty_45 rfl rfl rfl rfl rfl rfl (fun g25_2 => ?_)
          refine E.Ops.loud rfl rfl ?_
          refine E.l_append rfl rfl E.ixA Try.underlying22 ty_45 rfl (by decide) (E.SrcOf.arr E.ixA) (by intro u hu; simp only [List.map_cons, List.map_nil, List.flatten_cons, List.flatten_nil, List.append_nil, List.mem_cons, List.not_mem_nil, or_false] at hu; revert hu; simp [Value.cells]; try (intro e; subst e; rfl)) (by omega) (by omega) (fun A25_3 c25_3 => ?_)
          refine E.Ops.q _ (E.q_mv rfl rfl) rfl rfl ?_
          refine E.Ops.nil ?_
          try simp only [E.tn, E.tx, E.tr, E.bn, E.br, E.bs]
          refine ⟨A25_3, c25_3, (AX, CX, x3), rfl, by ((repeat refine E.SubEnv.cons rfl ?_); exact E.SubEnv.nil _), ?_⟩
          unfold thrA
          simp only
          rw [show (lb ++ [((AX, CX, x3) : ThrV)]).flatMap encThr = lb.flatMap encThr ++ [.slice AX x3.length CX] from by rw [List.flatMap_append]; rfl]
          exact E.Ent.of E.entA
        rintro L1 ρ1' M1 ⟨AB2, CB2, x, hx, hs, he⟩
        refine E.Run.sub hs (E.Run.ent he ?_)
        clear hs he
        (repeat refine E.Run.seq ?_)
        refine E.Run.region ?_
        refine E.Ops.q _ (E.q_move rfl rfl) rfl rfl ?_
        first | refine E.Ops.q _ (E.q_incr rfl rfl (by omega)) rfl rfl ?_ | refine E.Ops.q _ (E.q_addFit rfl rfl rfl (by omega)) rfl rfl ?_ | refine E.Ops.q _ (E.q_add rfl rfl rfl) rfl rfl ?_
        refine E.Ops.q _ (E.q_mv rfl rfl) rfl rfl ?_
        refine E.Ops.nil ?_
        try simp only [E.tn, E.tx, E.tr, E.bn, E.br, E.bs]
        have hlb1 : (lb ++ [x]).length = lb.length + 1 := by simp
        refine ⟨(AB2, CB2, lb ++ [x]), ⟨by simp only [hlb1]; omega, fun k h h' => ?_⟩, by simp only [hlb1]; omega, by simp only [hlb1]; ((repeat refine E.SubEnv.cons rfl ?_); exact E.SubEnv.nil _), ?_⟩
        · simp only at h ⊢
          by_cases hkl : k < lb.length
          · rw [List.getElem_append_left hkl]; exact hbk k hkl h'
          · have : k = lb.length := by omega
            subst this
            rw [List.getElem_append_right (Nat.le_refl _)]
            simpa using hx
        · simp only [hlb1]
          exact E.Ent.of (E.SEnt.trans (E.bagAdd (f := thrA) x _) (E.SEnt.take 1 rfl (E.SEnt.refl _)))
      rintro L1 ρ1' M1 ⟨AB, CB, lb, hbl, hbk, hs, he⟩
      refine E.Run.sub hs (E.Run.ent he ?_)
      clear hs he
      refine E.Run.freeze fun ρ6 hle6 hfr6 => ?_
      refine E.Run.freeze fun ρ7 hle7 hfr7 => ?_
      have hbec := thr_code ((E.arr_frozen (enc := encThr) (fun _ => rfl) hfr6 rfl).mono hle7.blk) (fun x hx => E.arr_frozen (enc := E.encIns) (fun _ => rfl) (bag_frozen hfr7 (thrA x) (List.mem_map.2 ⟨x, hx, rfl⟩)) rfl)
      have hcode7 := hcode5.mono (hle6.trans hle7).blk
      obtain ⟨bec, hbe⟩ : ∃ bec, bec = lb.map (·.2.2) := ⟨_, rfl⟩
      obtain ⟨g, hg⟩ : ∃ g : Nat → E.Ins → List E.Ins, g = fun (k : Nat) (i : E.Ins) => becomeS (abs gs (rows.map (·.2))) (k : Int) i := ⟨_, rfl⟩
      rw [← hbe] at hbec
      have hbl2 : bec.length = lb.length := by rw [hbe]; exact List.length_map _
      have hbg : ∀ k (h : k < bec.length) (h' : k < code.length), bec[k] = g k code[k] := by
        intro k h h'
        subst hbe
        rw [List.getElem_map, hg]
        exact hbk k (by rw [List.length_map] at h; exact h) h'
      have hgg : GoodG code g := by rw [hg]; exact become_good hok
      have hgl : ∀ k (h : k < code.length), ∀ o ∈ g k code[k], o.op = 15 → code[k].op ≠ 17 := by rw [hg]; exact constS_lock
      have hmvs : movedS code g = constS (abs gs (rows.map (·.2))) code := by rw [hg]; rfl
      have hshort : (movedS code g).length ≤ code.length := by rw [hmvs]; exact constS_short _ _
      have hblc : bec.length = code.length := by rw [hbl2]; exact hbl
      rw [← hbl2]
      clear hbe hg hbk hfr6 hfr7
      have hout1 : ∀ K', (∀ B d n, n = (movedS code g).length → K' (.slice B n d) ρ7 (E.arr 44 4 B n d ((movedS code g).flatMap E.encIns) :: E.arr 45 1 AO l.length CO (l.flatMap encThr) :: E.pt b1_5 25 [.slice AO l.length CO, .slice A2_3 p.words.length c2_3, .int .i64 p.locks, .int .i64 p.regs] :: E.pt b0_1 25 [.slice none 0 0, .slice none 0 0, .int .i64 0, .int .i64 0] :: E.pt b0_0 25 [.slice (some ad) p.code.length c, .slice A' p.words.length c', .int .i64 p.locks, .int .i64 p.regs] :: M)) → E.Hoa Try.prog 57 #[.slice AB bec.length CB, .slice A1 code.length c1] ρ7 (E.arr 45 1 AO l.length CO (l.flatMap encThr) :: E.pt b1_5 25 [.slice AO l.length CO, .slice A2_3 p.words.length c2_3, .int .i64 p.locks, .int .i64 p.regs] :: E.pt b0_1 25 [.slice none 0 0, .slice none 0 0, .int .i64 0, .int .i64 0] :: E.pt b0_0 25 [.slice (some ad) p.code.length c, .slice A' p.words.length c', .int .i64 p.locks, .int .i64 p.regs] :: M) K' := fun K' hK' => rPut AB A1 CB c1 code bec g hbec hblc hbg hcode7 hsz hgg hgl hK'
      generalize hmv : movedS code g = mv at *
      (repeat refine E.Run.seq ?_)
      refine E.Run.region ?_
      refine E.Ops.q _ (E.q_move rfl rfl) rfl rfl ?_
      refine E.Ops.q _ (E.q_move rfl rfl) rfl rfl ?_
      refine E.Ops.loud rfl rfl ?_
      refine E.l_call Try.func57 nm_57 nb_57 rfl ?_; refine hout1 _ (fun B d n hn => ?_)
      refine E.Ops.q _ (E.q_mv rfl rfl) rfl rfl ?_
      refine E.Ops.nil ?_
      try simp only [E.tn, E.tx, E.tr, E.bn, E.br, E.bs]
      subst hn
      refine E.Run.freeze fun ρ8 hle8 hfr8 => ?_
      have hout := E.arr_frozen (enc := E.encIns) (fun _ => rfl) hfr8 rfl
      have hset27 : ∀ (x : ThrV), (l ++ [x]).flatMap encThr = l.flatMap encThr ++ [.slice x.1 x.2.2.length x.2.1] := fun x => by rw [List.flatMap_append]; rfl
      refine E.Run.cut (fun L' ρ' M' => ∃ AN CN, E.SubEnv [(1, .pointer (some ⟨b0_0, 0, none⟩)), (2, .pointer (some ⟨b0_1, 0, none⟩)), (3, .pointer (some ⟨b1_5, 0, none⟩)), (4, .int .i64 l.length)] L' ∧ E.Ent ρ' M' ρ8 (E.arr 45 1 AN (l.length + 1) CN (l.flatMap encThr ++ [.slice B mv.length d]) :: E.pt b1_5 25 [.slice AN (l.length + 1) CN, .slice A2_3 p.words.length c2_3, .int .i64 p.locks, .int .i64 p.regs] :: E.pt b0_1 25 [.slice none 0 0, .slice none 0 0, .int .i64 0, .int .i64 0] :: E.pt b0_0 25 [.slice (some ad) p.code.length c, .slice A' p.words.length c', .int .i64 p.locks, .int .i64 p.regs] :: M)) ?_ ?_
      · (repeat refine E.Run.seq ?_)
        refine E.Run.region ?_
        first | refine E.Ops.q _ (E.q_fieldAddr' rfl rfl fo_25_0) rfl rfl ?_ | refine E.Ops.q _ (E.q_fieldAddr rfl rfl fo_25_0) rfl rfl ?_
        refine E.Ops.q _ (E.q_load rfl rfl (by first | refine E.LoadAt.own E.ixA sc_22 (by rfl) | exact E.LoadAt.ro sc_22 (by assumption) | exact E.LoadAt.arr E.ixA sc_22 (by assumption))) rfl rfl ?_
        refine E.Ops.q _ (E.q_move rfl rfl) rfl rfl ?_
        refine E.Ops.loud rfl rfl ?_
        refine E.l_slice rfl rfl Try.underlying22 ty_45 rfl rfl rfl rfl rfl rfl (fun g27_3 => ?_)
        refine E.Ops.loud rfl rfl ?_
        refine E.l_append rfl rfl E.ixA Try.underlying22 ty_45 rfl (by decide) (E.SrcOf.arr E.ixA) (by intro u hu; simp only [List.map_cons, List.map_nil, List.flatten_cons, List.flatten_nil, List.append_nil, List.mem_cons, List.not_mem_nil, or_false] at hu; revert hu; simp [Value.cells]; try (intro e; subst e; rfl)) (by omega) (by omega) (fun A27_4 c27_4 => ?_)
        first | refine E.Ops.q _ (E.q_fieldAddr' rfl rfl fo_25_0) rfl rfl ?_ | refine E.Ops.q _ (E.q_fieldAddr rfl rfl fo_25_0) rfl rfl ?_
        refine E.Ops.loud rfl rfl ?_
        refine E.l_store rfl rfl rfl E.ixA 1 sz_22 (by rfl) (by rfl) (by rfl) (by rfl) ?_
        refine E.Ops.nil ?_
        try simp only [E.tn, E.tx, E.tr, E.bn, E.br, E.bs]
        exact ⟨A27_4, c27_4, by ((repeat refine E.SubEnv.cons rfl ?_); exact E.SubEnv.nil _), by exact E.Ent.of E.entA⟩
      rintro L2 ρ2' M2 ⟨AN, CN, hs2, he2⟩
      try simp only [E.tn, E.tx, E.tr, E.bn, E.br, E.bs]
      refine ⟨ρ8, AN, CN, (B, d, mv), hle5.trans (hle6.trans (hle7.trans hle8)), hout, ⟨_, hleast, hmvs⟩, hs2, ?_⟩
      rw [hset27]
      exact he2
    rintro L1 ρ1' M1 ⟨ρ4, AN, CN, x, hle4, hrx, hRx, hs, he⟩
    refine E.Run.sub hs (E.Run.ent he ?_)
    clear hs he
    (repeat refine E.Run.seq ?_)
    refine E.Run.region ?_
    refine E.Ops.q _ (E.q_move rfl rfl) rfl rfl ?_
    first | refine E.Ops.q _ (E.q_incr rfl rfl (by omega)) rfl rfl ?_ | refine E.Ops.q _ (E.q_addFit rfl rfl rfl (by omega)) rfl rfl ?_ | refine E.Ops.q _ (E.q_add rfl rfl rfl) rfl rfl ?_
    refine E.Ops.q _ (E.q_mv rfl rfl) rfl rfl ?_
    refine E.Ops.nil ?_
    try simp only [E.tn, E.tx, E.tr, E.bn, E.br, E.bs]
    have hl1 : (l ++ [x]).length = l.length + 1 := by simp
    refine ⟨(ρ4, AN, CN, l ++ [x]), ⟨hle3.trans hle4, by simp only [hl1]; omega, fun y hy => ?_, fun t h h' => ?_⟩, by simp only [hl1]; omega, by
      simp only [hl1]
      ((repeat refine E.SubEnv.cons rfl ?_); exact E.SubEnv.nil _), by
      simp only [hl1]
      exact E.Ent.of E.entA⟩
    · simp only at hy ⊢
      rcases List.mem_append.1 hy with h | h
      · exact (hrd y h).mono hle4.blk
      · have := List.mem_singleton.1 h
        subst this; exact hrx
    · simp only at h' ⊢
      by_cases ht : t < l.length
      · rw [List.getElem_append_left ht]; exact hRt t h ht
      · have : t = l.length := by omega
        subst this
        rw [List.getElem_append_right (by omega), hcd]
        simpa using hRx
  rintro L1 ρ2 M2 ⟨ρ3, AO, CO, l, hle3, hlen, hrd, hRt, hs, he⟩
  refine E.Run.sub hs (E.Run.ent he ?_)
  clear hs he
  refine E.Run.freeze fun ρ4 hle4 hfr4 => ?_
  have hthr := thr_code (E.arr_frozen (enc := encThr) (fun _ => rfl) hfr4 rfl) (fun x hx => (hrd x hx).mono hle4.blk)
  (repeat refine E.Run.seq ?_)
  refine E.Run.region ?_
  refine E.Ops.q _ (E.q_load rfl rfl (by first | refine E.LoadAt.ownAgg E.ixA 4 ag_25 (by rfl) (by rfl) | exact E.LoadAt.roAgg ag_25 (by assumption) rfl)) rfl rfl ?_
  refine E.Ops.loud rfl rfl ?_
  refine E.l_store rfl rfl rfl E.ixA 4 sz_25 (by rfl) (by rfl) (by rfl) (by rfl) ?_
  refine E.Ops.nil ?_
  try simp only [E.tn, E.tx, E.tr, E.bn, E.br, E.bs]
  refine E.Run.ret ?_
  try simp only [E.tn, E.tx, E.tr, E.bn, E.br, E.bs]
  have hlm : (l.map (·.2.2)).length = l.length := List.length_map _
  have hfin := hK ρ4 AO CO A2_3 c2_3 ⟨l.map (·.2.2), p.words, p.locks, p.regs⟩ (hle1.trans (hle3.trans hle4)) ⟨hthr, (hwords.mono hle3.blk).mono hle4.blk, by simp only [hlm]; omega, by simp only; omega, fun x hx => by
      obtain ⟨t, ht, rfl⟩ := List.getElem_of_mem hx
      have ht' : t < l.length := by simpa using ht
      rw [List.getElem_map]
      obtain ⟨St, _, h2⟩ := hRt t (by omega) ht'
      rw [h2]
      exact Nat.le_trans (constS_short _ _) (hp.smalls _ (List.getElem_mem _))⟩ ⟨rfl, rfl, rfl, by simp only [hlm]; exact hlen, fun t h h' => by
        simp only [List.getElem_map]
        rw [hRn]
        exact hRt t h (by omega)⟩
  unfold prgV at hfin
  simp only [hlm] at hfin
  exact ⟨_, _, _, E.ResOk.one rfl ⟨_, rfl, E.LoadAt.ownAgg E.ixA 4 ag_25 (by rfl) (by rfl)⟩, E.Ent.of E.entA, hfin⟩
end Go.Proofs.Ythpgjbdacknkgaa
