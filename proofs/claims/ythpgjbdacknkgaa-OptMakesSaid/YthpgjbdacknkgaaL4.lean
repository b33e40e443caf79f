/- opt.Dead, walked. No statement of the seat in it. -/
import Derived.Test.YthpgjbdacknkgaaL3
import Derived.Test.YthpgjbdacknkgaaO11
set_option linter.unusedVariables false
set_option linter.unusedSimpArgs false
namespace Go.Proofs.Ythpgjbdacknkgaa
open Go
private theorem ag_25 : E.isAggOf Try.prog 25 4 = true := by kernel_rfl
private theorem ag_29 : E.isAggOf Try.prog 29 3 = true := by kernel_rfl
private theorem ag_44 : E.isAggOf Try.prog 44 4 = true := by kernel_rfl
private theorem ao_89 : E.arrayOf Try.prog 89 = some (200, 4, 1) := by kernel_rfl
private theorem fo_29_0 : E.fieldOff Try.prog 29 0 = some 0 := by kernel_rfl
private theorem fo_44_0 : E.fieldOff Try.prog 44 0 = some 0 := by kernel_rfl
private theorem fo_44_1 : E.fieldOff Try.prog 44 1 = some 1 := by kernel_rfl
private theorem nb_42 : Try.f42.body.isNone = false := by kernel_rfl
private theorem nb_43 : Try.f43.body.isNone = false := by kernel_rfl
private theorem nb_46 : Try.f46.body.isNone = false := by kernel_rfl
private theorem nb_48 : Try.f48.body.isNone = false := by kernel_rfl
private theorem nb_49 : Try.f49.body.isNone = false := by kernel_rfl
private theorem nb_50 : Try.f50.body.isNone = false := by kernel_rfl
private theorem nm_42 : (Try.f42.name == "runtime.NumGoroutine") = false := by kernel_rfl
private theorem nm_43 : (Try.f43.name == "runtime.NumGoroutine") = false := by kernel_rfl
private theorem nm_46 : (Try.f46.name == "runtime.NumGoroutine") = false := by kernel_rfl
private theorem nm_48 : (Try.f48.name == "runtime.NumGoroutine") = false := by kernel_rfl
private theorem nm_49 : (Try.f49.name == "runtime.NumGoroutine") = false := by kernel_rfl
private theorem nm_50 : (Try.f50.name == "runtime.NumGoroutine") = false := by kernel_rfl
private theorem pl_25 : E.placesOf Try.prog 25 = some ([.slice none 0 0, .slice none 0 0, .int .i64 0, .int .i64 0], [(0, 1), (1, 1), (2, 1), (3, 1)]) := by kernel_rfl
private theorem pl_29 : E.placesOf Try.prog 29 = some ([.int .i64 0, .int .i64 0, .int .i64 0], [(0, 1), (1, 1), (2, 1)]) := by kernel_rfl
private theorem sc_27 : E.isScal Try.prog 27 = true := by kernel_rfl
private theorem sc_3 : E.isScal Try.prog 3 = true := by kernel_rfl
private theorem sc_4 : E.isScal Try.prog 4 = true := by kernel_rfl
private theorem sc_86 : E.isScal Try.prog 86 = true := by kernel_rfl
private theorem so_86 : E.sliceOf Try.prog 86 = some (89, 200) := by kernel_rfl
private theorem sz_25 : (Try.prog.info? 25).map (·.size) = some 4 := by kernel_rfl
private theorem sz_29 : (Try.prog.info? 29).map (·.size) = some 3 := by kernel_rfl
private theorem sz_86 : (Try.prog.info? 86).map (·.size) = some 1 := by kernel_rfl
private theorem ty_25 : E.tyOf Try.prog 25 = some (some (.agg #[.slice none 0 0, .slice none 0 0, .int .i64 0, .int .i64 0]), 4, 64) := by kernel_rfl
private theorem ty_29 : E.tyOf Try.prog 29 = some (some (.agg #[.int .i64 0, .int .i64 0, .int .i64 0]), 3, 24) := by kernel_rfl
private theorem ty_44 : E.tyOf Try.prog 44 = some (some (.agg #[.int .i64 0, .int .i64 0, .int .i64 0, .int .i64 0]), 4, 32) := by kernel_rfl
private theorem ty_86 : E.tyOf Try.prog 86 = some (some (.slice none 0 0), 1, 24) := by kernel_rfl

/-- what stays of an order -/
def deadS (ys : List Bits) (k : Nat) (i : E.Ins) : List E.Ins := if i.op ≤ 8 ∧ atS ys ((k : Int) + 1) i.a.toNat = false then [] else [i]

set_option maxRecDepth 100000 in
theorem optDead2 {ρ : E.Ro} {M : List E.Asr} {K : Value → E.Ro → List E.Asr → Prop} (bc : Nat) (A : Option Addr) (c : Nat) (ys : List Bits) (k : Nat) (i : E.Ins) (hcell : E.cellOf ρ.blk ⟨bc, 0, none⟩ = some (.slice A ys.length c)) (hys : E.RdF ρ.blk E.encS 200 A ys)
    (hk : k + 1 < ys.length) (hyl : ys.length ≤ 401) (hin : i.op ≤ 8 → 0 ≤ i.a ∧ i.a < 200)
    (hK : ∀ B d n, n = (deadS ys k i).length → K (.slice B n d) ρ (E.arr 44 4 B n d ((deadS ys k i).flatMap E.encIns) :: M)) :
    E.Hoa Try.prog 50 #[.int .i64 k, .agg (E.encIns i).toArray, .pointer (some ⟨bc, 0, none⟩)] ρ M K := by
  have hK0 : deadS ys k i = [] → K (.slice none 0 0) ρ (E.arr 44 4 none 0 0 [] :: M) := fun h => by
    have := hK none 0 0 (by rw [h]; rfl)
    rwa [h] at this
  have hK1 : deadS ys k i = [i] → ∀ g, K (.slice (some ⟨g, 0, none⟩) 1 1) ρ (E.arr 44 4 (some ⟨g, 0, none⟩) 1 1 [.int .i64 i.op, .int .i64 i.a, .int .i64 i.b, .int .i64 i.c] :: M) := fun h g => by
    have := hK (some ⟨g, 0, none⟩) 1 1 (by rw [h]; rfl)
    rwa [h] at this
  obtain ⟨ad, rfl, _, hc⟩ := E.RdF.at hys hk
  have hat : ys[k + 1] = atS ys ((k : Int) + 1) := by
    have := atS_nat ys hk
    rw [← this]; rfl
  rw [hat] at hc
  refine E.Hoa.enter 22 Try.func50 rfl rfl rfl ?_
  (repeat refine E.Run.seq ?_)
  refine E.Run.region ?_
  refine E.Ops.loud rfl rfl ?_
  refine E.l_box rfl rfl (fun b0_0 => ?_)
  refine E.Ops.q _ (E.q_mv rfl rfl) rfl rfl ?_
  refine E.Ops.nil ?_
  try simp only [E.tn, E.tx, E.tr, E.bn, E.br, E.bs]
  refine E.Run.seqCut (fun L' ρ' M' => deadS ys k i = [i] ∧ E.SubEnv [(4, .pointer (some ⟨b0_0, 0, none⟩))] L' ∧ E.Ent ρ' M' ρ (E.pt b0_0 44 (E.encIns i) :: M)) ?_ ?_
  · refine E.Run.seqCut (fun L' ρ' M' => E.SubEnv [(4, .pointer (some ⟨b0_0, 0, none⟩)), (19, .bool (decide (i.op ≤ 8 ∧ atS ys ((k : Int) + 1) i.a.toNat = false)))] L' ∧ E.Ent ρ' M' ρ (E.pt b0_0 44 (E.encIns i) :: M)) ?_ ?_
    · by_cases h8 : i.op ≤ 8
      · obtain ⟨ha0, ha1⟩ := hin h8
        obtain ⟨a, ha⟩ := Int.eq_ofNat_of_zero_le ha0
        have ha2 : a < 200 := by omega
        have hb : E.cellOf ρ.blk ((ad.add ((k + 1) * 200)).add (i.a.toNat * 1)) = some (.bool (atS ys ((k : Int) + 1) i.a.toNat)) := by
          rw [Nat.mul_one]
          exact hc _ _ (E.encS_at _ (by omega))
        generalize atS ys ((k : Int) + 1) i.a.toNat = b at *
        (repeat refine E.Run.seq ?_)
        refine E.Run.draw (.ph [0, 1, 2, 3, 4, 5, 6, 7, 8, 9, 10, 11, 12, 13] (.nil)) _ _ Try.mixed (by kernel_rfl) (E.Ent.nil _ _) ?_
        refine E.Plan.ph (by exact E.Ent.of E.entA) ?_
        first | refine E.PlanQ.q _ rfl _ (E.q_fieldAddr' rfl rfl fo_44_0) rfl rfl ?_ | refine E.PlanQ.q _ rfl _ (E.q_fieldAddr rfl rfl fo_44_0) rfl rfl ?_
        refine E.PlanQ.q _ rfl _ (E.q_load rfl rfl (by first | refine E.LoadAt.own E.ixA sc_3 (by rfl) | exact E.LoadAt.ro sc_3 (by assumption) | exact E.LoadAt.arr E.ixA sc_3 (by assumption))) rfl rfl ?_
        refine E.PlanQ.q _ rfl _ ((E.q_leq rfl rfl rfl).isT (h8)) rfl rfl ?_
        refine E.PlanQ.q _ rfl _ (E.q_move rfl rfl) rfl rfl ?_
        refine E.PlanQ.q _ rfl _ (E.q_load rfl rfl (by exact E.LoadAt.ro sc_86 hcell)) rfl rfl ?_
        refine E.PlanQ.q _ rfl _ (E.q_move rfl rfl) rfl rfl ?_
        first | refine E.PlanQ.q _ rfl _ (E.q_incr rfl rfl (by omega)) rfl rfl ?_ | refine E.PlanQ.q _ rfl _ (E.q_addFit rfl rfl rfl (by omega)) rfl rfl ?_ | refine E.PlanQ.q _ rfl _ (E.q_add rfl rfl rfl) rfl rfl ?_
        first | refine E.PlanQ.q _ rfl _ (E.q_fieldAddr' rfl rfl fo_44_1) rfl rfl ?_ | refine E.PlanQ.q _ rfl _ (E.q_fieldAddr rfl rfl fo_44_1) rfl rfl ?_
        refine E.PlanQ.q _ rfl _ (E.q_load rfl rfl (by first | refine E.LoadAt.own E.ixA sc_3 (by rfl) | exact E.LoadAt.ro sc_3 (by assumption) | exact E.LoadAt.arr E.ixA sc_3 (by assumption))) rfl rfl ?_
        refine E.PlanQ.q _ rfl _ (E.q_indexNat rfl rfl rfl so_86 hk) rfl rfl ?_
        refine E.PlanQ.q _ rfl _ (E.q_indexArr rfl rfl rfl ao_89 (by omega) (by omega)) rfl rfl ?_
        refine E.PlanQ.q _ rfl _ (E.q_load (v := .bool b) rfl rfl (E.LoadAt.ro sc_4 hb)) rfl rfl ?_
        refine E.PlanQ.q _ rfl _ (E.q_not rfl rfl) rfl rfl ?_
        refine E.PlanQ.q _ rfl _ (E.q_pickT rfl rfl rfl) rfl rfl ?_
        refine E.PlanQ.nil ?_
        refine E.Plan.nil ?_
        try simp only [E.tn, E.tx, E.tr, E.bn, E.br, E.bs]
        exact ⟨by rw [show decide (i.op ≤ 8 ∧ b = false) = !b from by cases b <;> simp [h8]]; ((repeat refine E.SubEnv.cons rfl ?_); exact E.SubEnv.nil _), by exact E.Ent.of E.entA⟩
      · (repeat refine E.Run.seq ?_)
        refine E.Run.draw (.ph [0, 1, 2, 3, 4, 5, 6, 7, 8, 9, 10, 11, 12, 13] (.nil)) _ _ Try.mixed (by kernel_rfl) (E.Ent.nil _ _) ?_
        refine E.Plan.ph (by exact E.Ent.of E.entA) ?_
        first | refine E.PlanQ.q _ rfl _ (E.q_fieldAddr' rfl rfl fo_44_0) rfl rfl ?_ | refine E.PlanQ.q _ rfl _ (E.q_fieldAddr rfl rfl fo_44_0) rfl rfl ?_
        refine E.PlanQ.q _ rfl _ (E.q_load rfl rfl (by first | refine E.LoadAt.own E.ixA sc_3 (by rfl) | exact E.LoadAt.ro sc_3 (by assumption) | exact E.LoadAt.arr E.ixA sc_3 (by assumption))) rfl rfl ?_
        refine E.PlanQ.q _ rfl _ ((E.q_leq rfl rfl rfl).isF (h8)) rfl rfl ?_
        refine E.PlanQ.q _ rfl _ (E.q_move rfl rfl) rfl rfl ?_
        refine E.PlanQ.skip _ rfl rfl rfl ?_
        refine E.PlanQ.skip _ rfl rfl rfl ?_
        refine E.PlanQ.skip _ rfl rfl rfl ?_
        refine E.PlanQ.skip _ rfl rfl rfl ?_
        refine E.PlanQ.skip _ rfl rfl rfl ?_
        refine E.PlanQ.skip _ rfl rfl rfl ?_
        refine E.PlanQ.skip _ rfl rfl rfl ?_
        refine E.PlanQ.skip _ rfl rfl rfl ?_
        refine E.PlanQ.skip _ rfl rfl rfl ?_
        refine E.PlanQ.q _ rfl _ (E.q_pickF rfl rfl rfl) rfl rfl ?_
        refine E.PlanQ.nil ?_
        refine E.Plan.nil ?_
        try simp only [E.tn, E.tx, E.tr, E.bn, E.br, E.bs]
        exact ⟨by rw [decide_eq_false (fun h => h8 h.1)]; ((repeat refine E.SubEnv.cons rfl ?_); exact E.SubEnv.nil _), by exact E.Ent.of E.entA⟩
    rintro L1 ρ1 M1 ⟨hs, he⟩
    refine E.Run.sub hs (E.Run.ent he ?_)
    clear hs he
    (repeat refine E.Run.seq ?_); refine E.Run.condD rfl (fun h => ?_) (fun h => ?_)
    · (repeat refine E.Run.seq ?_)
      refine E.Run.region ?_
      refine E.Ops.q _ (E.q_mv rfl rfl) rfl rfl ?_
      refine E.Ops.nil ?_
      try simp only [E.tn, E.tx, E.tr, E.bn, E.br, E.bs]
      refine E.Run.ret ?_
      try simp only [E.tn, E.tx, E.tr, E.bn, E.br, E.bs]
      exact ⟨_, _, _, E.ResOk.one rfl rfl, E.Ent.of (E.SEnt.addNil E.entA), hK0 (by unfold deadS; rw [if_pos h])⟩
    · refine E.Run.skip ?_
      try simp only [E.tn, E.tx, E.tr, E.bn, E.br, E.bs]
      exact ⟨by unfold deadS; rw [if_neg h], by ((repeat refine E.SubEnv.cons rfl ?_); exact E.SubEnv.nil _), by exact E.Ent.of E.entA⟩
  rintro L1 ρ1 M1 ⟨hd, hs, he⟩
  refine E.Run.sub hs (E.Run.ent he ?_)
  clear hs he
  (repeat refine E.Run.seq ?_)
  refine E.Run.region ?_
  refine E.Ops.q _ (E.q_load rfl rfl (by first | refine E.LoadAt.ownAgg E.ixA 4 ag_44 (by rfl) (by rfl) | exact E.LoadAt.roAgg ag_44 (by assumption) rfl)) rfl rfl ?_
  refine E.Ops.loud rfl rfl ?_
  refine E.l_slice rfl rfl Try.underlying45 ty_44 rfl rfl rfl rfl rfl rfl (fun g3_1 => ?_)
  refine E.Ops.q _ (E.q_mv rfl rfl) rfl rfl ?_
  refine E.Ops.nil ?_
  try simp only [E.tn, E.tx, E.tr, E.bn, E.br, E.bs]
  refine E.Run.ret ?_
  try simp only [E.tn, E.tx, E.tr, E.bn, E.br, E.bs]
  exact ⟨_, _, _, E.ResOk.one rfl rfl, E.Ent.of E.entA, hK1 hd g3_1⟩

theorem dead_small (ys : List Bits) (k : Nat) (i : E.Ins) : (deadS ys k i).length ≤ 1 := by unfold deadS; split <;> simp
theorem dead_mem {ys : List Bits} {k : Nat} {i o : E.Ins} (h : o ∈ deadS ys k i) : o = i := by
  unfold deadS at h
  split at h
  · cases h
  · simpa using h
theorem dead_good {R : Nat} {code : List E.Ins} (hc : CodeOk R code) (ys : List Bits) : GoodG code (fun k i => deadS ys k i) := by
  refine ⟨fun k h => Nat.le_trans (dead_small _ _ _) (by decide), fun k h o ho h1 h2 => ?_, fun k h o ho h1 h2 => ?_⟩
  · have := dead_mem ho; subst this; exact hc.jump k h h1
  · have := dead_mem ho; subst this; exact hc.zero k h h1
/-- the orders of a thread that are needed -/
def deadT (ys : List Bits) (code : List E.Ins) : List E.Ins := movedS code (fun k i => deadS ys k i)
theorem deadT_short (ys : List Bits) (code : List E.Ins) : (deadT ys code).length ≤ code.length := moved_short fun k h => dead_small _ _ _

set_option maxRecDepth 100000 in
theorem optDead1 {ρ : E.Ro} {M : List E.Asr} {K : Value → E.Ro → List E.Asr → Prop} (cA : Option Addr) (cc R : Nat) (code : List E.Ins) (hcode : E.RdF ρ.blk E.encIns 4 cA code)
    (hsz : code.length ≤ 400) (hR : R ≤ 200) (hok : CodeOk R code) (hlv : LiveIn code) (h8 : ∀ i ∈ code, i.op ≤ 8 → 0 ≤ i.a ∧ i.a < 200)
    (hK : ∀ B d ys, LiveOf code ys → K (.slice B (deadT ys code).length d) ρ (E.arr 44 4 B (deadT ys code).length d ((deadT ys code).flatMap E.encIns) :: M)) :
    E.Hoa Try.prog 48 #[.slice cA code.length cc] ρ M K := by
  refine E.Hoa.enter 9 Try.func48 rfl rfl rfl ?_
  (repeat refine E.Run.seq ?_)
  refine E.Run.region ?_
  refine E.Ops.q _ (E.q_mv rfl rfl) rfl rfl ?_
  refine E.Ops.nil ?_
  try simp only [E.tn, E.tx, E.tr, E.bn, E.br, E.bs]
  (repeat refine E.Run.seq ?_)
  refine E.Run.region ?_
  refine E.Ops.q _ (E.q_move rfl rfl) rfl rfl ?_
  refine E.Ops.loud rfl rfl ?_
  refine E.l_call Try.func49 nm_49 nb_49 rfl ?_; refine liveSets cA cc code hcode hsz hlv (fun gs ys hys => ?_)
  refine E.Ops.loud rfl rfl ?_
  refine E.l_alloc rfl ty_86 (fun b1_2 => ?_)
  refine E.Ops.loud rfl rfl ?_
  refine E.l_store rfl rfl rfl E.ixA 1 sz_86 (by rfl) (by rfl) (by rfl) (by rfl) ?_
  refine E.Ops.nil ?_
  try simp only [E.tn, E.tx, E.tr, E.bn, E.br, E.bs]
  refine E.Run.freeze fun ρ1 hle1 hfr1 => ?_
  refine E.Run.freeze fun ρ2 hle2 hfr2 => ?_
  have hcell := E.cellOf_mono hle2.blk (E.pt_frozen hfr1 0 _ rfl)
  have hysr := E.arr_frozen (enc := E.encS) E.encS_len hfr2 rfl
  have hyl := hys.len
  (repeat refine E.Run.seq ?_)
  refine E.Run.region ?_
  refine E.Ops.q _ (E.q_move rfl rfl) rfl rfl ?_
  refine E.Ops.q _ (E.q_makeFunc rfl rfl rfl) rfl rfl ?_
  refine E.Ops.loud rfl rfl ?_
  refine E.l_call Try.func46 nm_46 nb_46 rfl ?_; refine fenceMoved cA cc code 50 _ [] [.pointer (some ⟨b1_2, 0, none⟩)] (fun k i => deadS ys k i) Try.func50 nm_50 nb_50 (hcode.mono (hle1.trans hle2).blk) hsz (dead_good hok ys) (fun k hk M K hK => optDead2 b1_2 _ _ ys k code[k] hcell hysr (by omega) (by omega) (h8 _ (List.getElem_mem hk)) hK) (fun B d n hn => ?_)
  refine E.Ops.q _ (E.q_mv rfl rfl) rfl rfl ?_
  refine E.Ops.nil ?_
  try simp only [E.tn, E.tx, E.tr, E.bn, E.br, E.bs]
  subst hn
  refine E.Run.ret ?_
  try simp only [E.tn, E.tx, E.tr, E.bn, E.br, E.bs]
  exact ⟨_, _, _, E.ResOk.one rfl rfl, E.Ent.weak (hle1.trans hle2) _, hK B d ys hys⟩

theorem rdsN_mem {i : E.Ins} {x : Int} : ∀ {n : Nat}, x ∈ rdsN i n → ∃ k c, (kindsOf i.op)[k]? = some c ∧ (c.toNat : Int) = 114 ∧ x = insNum i k
  | 0, h => by cases h
  | n + 1, h => by
    unfold rdsN at h
    rcases List.mem_append.1 h with h | h
    · exact rdsN_mem h
    · split at h
      · rename_i c hc
        split at h
        · rename_i hh
          exact ⟨n, c, hc, hh.1, by simpa using h⟩
        · cases h
      · cases h
theorem liveIn_of {p : Prg} {code : List E.Ins} (h : ∀ i ∈ code, badIns p code.length i = none) (hR : 0 ≤ p.regs) (hR2 : p.regs ≤ 200) : LiveIn code := by
  have hc := codeOk_of h hR
  have hr : ((p.regs.toNat : Nat) : Int) = p.regs := Int.toNat_of_nonneg hR
  refine ⟨fun k hk x hx => ?_, fun k hk hw => ?_, fun k hk x hx => ?_⟩
  · unfold insNexts at hx
    split at hx
    · rename_i h14; simp only [List.mem_singleton] at hx; subst hx; exact hc.jump k hk h14
    · split at hx
      · rename_i h15
        simp only [List.mem_cons, List.not_mem_nil, or_false] at hx
        rcases hx with rfl | rfl
        · omega
        · exact hc.zero k hk h15
      · simp only [List.mem_singleton] at hx; subst hx; omega
  · have := (hc.ins k hk).writes' hw
    omega
  · obtain ⟨j, c, h1, h2, h3⟩ := rdsN_mem hx
    obtain ⟨x', hx', o0, o1, o2⟩ := badIns_none (h _ (List.getElem_mem hk))
    have hkd : kindsOf code[k].op = x'.2 := by unfold kindsOf; rw [hx']; rfl
    have hj : j < 3 := by
      have := (List.getElem?_eq_some_iff.1 h1).1
      have := (kinds_small code[k].op).1
      omega
    have hok : okNum p code.length x'.2 j (insNum code[k] j) = true := by
      match j, hj with
      | 0, _ => exact o0
      | 1, _ => exact o1
      | 2, _ => exact o2
    rw [← hkd] at hok
    unfold okNum at hok
    rw [h1] at hok
    simp only [fitB, h2] at hok
    simp at hok
    rw [h3]; omega
theorem op8_of {p : Prg} {code : List E.Ins} (h : ∀ i ∈ code, badIns p code.length i = none) (hR : 0 ≤ p.regs) (hR2 : p.regs ≤ 200) : ∀ i ∈ code, i.op ≤ 8 → 0 ≤ i.a ∧ i.a < 200 := fun i hi h8 => by
  have := badIns_kinds (h i hi) hR
  omega

/-- what Dead makes of a program -/
structure DeadOf (p q : Prg) : Prop where
  words : q.words = p.words
  locks : q.locks = p.locks
  regs : q.regs = p.regs
  len : q.code.length = p.code.length
  thr : ∀ t (h : t < p.code.length) (h' : t < q.code.length), ∃ ys, LiveOf p.code[t] ys ∧ q.code[t] = deadT ys p.code[t]

set_option maxRecDepth 100000 in
theorem optDead {ρ : E.Ro} {M : List E.Asr} {K : Value → E.Ro → List E.Asr → Prop} (A A' : Option Addr) (c c' : Nat) (p : Prg) (hp : PrgAt ρ A A' p)
    (hbad : (chk p).code ≠ 0 → K (.tuple #[prgV none 0 none 0 prg0, fltV (chk p)]) ρ M)
    (hok : PrgOk p → ∀ ρ' B d B' d' q, E.Ro.le ρ ρ' → PrgAt ρ' B B' q → DeadOf p q → K (.tuple #[prgV B d B' d' q, fltV ⟨0, 0, 0⟩]) ρ' M) :
    E.Hoa Try.prog 14 #[prgV A c A' c' p] ρ M K := by
  refine E.Hoa.enter 15 Try.func14 rfl rfl rfl ?_
  (repeat refine E.Run.seq ?_)
  refine E.Run.region ?_
  refine E.Ops.loud rfl rfl ?_
  refine E.l_box rfl rfl (fun b0_0 => ?_)
  refine E.Ops.loud rfl rfl ?_
  refine E.l_alloc rfl ty_25 (fun b0_1 => ?_)
  refine E.Ops.loud rfl rfl ?_
  refine E.l_alloc rfl ty_29 (fun b0_2 => ?_)
  refine E.Ops.nil ?_
  try simp only [E.tn, E.tx, E.tr, E.bn, E.br, E.bs]
  refine E.Run.seqCut (fun L' ρ' M' => (chk p).code = 0 ∧ E.SubEnv [(1, .pointer (some ⟨b0_0, 0, none⟩)), (2, .pointer (some ⟨b0_1, 0, none⟩)), (3, .pointer (some ⟨b0_2, 0, none⟩))] L' ∧ E.Ent ρ' M' ρ (E.pt b0_0 25 [.slice A p.code.length c, .slice A' p.words.length c', .int .i64 p.locks, .int .i64 p.regs] :: E.pt b0_1 25 [.slice none 0 0, .slice none 0 0, .int .i64 0, .int .i64 0] :: E.pt b0_2 29 [.int .i64 0, .int .i64 0, .int .i64 0] :: M)) ?_ ?_
  · (repeat refine E.Run.seq ?_)
    refine E.Run.region ?_
    refine E.Ops.q _ (E.q_load rfl rfl (by first | refine E.LoadAt.ownAgg E.ixA 4 ag_25 (by rfl) (by rfl) | exact E.LoadAt.roAgg ag_25 (by assumption) rfl)) rfl rfl ?_
    refine E.Ops.loud rfl rfl ?_
    refine E.l_call Try.func42 nm_42 nb_42 rfl ?_; refine asmCheck A A' c c' p hp ?_
    refine E.Ops.loud rfl rfl ?_
    refine E.l_alloc rfl ty_29 (fun b1_2 => ?_)
    refine E.Ops.loud rfl rfl ?_
    refine E.l_store rfl rfl rfl E.ixA 3 sz_29 (by rfl) (by rfl) (by rfl) (by rfl) ?_
    refine E.Ops.nil ?_
    try simp only [E.tn, E.tx, E.tr, E.bn, E.br, E.bs]
    (repeat refine E.Run.seq ?_)
    refine E.Run.region ?_
    first | refine E.Ops.q _ (E.q_fieldAddr' rfl rfl fo_29_0) rfl rfl ?_ | refine E.Ops.q _ (E.q_fieldAddr rfl rfl fo_29_0) rfl rfl ?_
    refine E.Ops.q _ (E.q_load rfl rfl (by first | refine E.LoadAt.own E.ixA sc_27 (by rfl) | exact E.LoadAt.ro sc_27 (by assumption) | exact E.LoadAt.arr E.ixA sc_27 (by assumption))) rfl rfl ?_
    refine E.Ops.q _ (E.q_neq rfl rfl rfl) rfl rfl ?_
    refine E.Ops.nil ?_
    try simp only [E.tn, E.tx, E.tr, E.bn, E.br, E.bs]
    (repeat refine E.Run.seq ?_); refine E.Run.condD rfl (fun h9 => ?_) (fun h9 => ?_)
    · (repeat refine E.Run.seq ?_)
      refine E.Run.draw (.q 0 (.q 1 (.l 2 (.l 3 (.nil))))) _ _ Try.mixed (by kernel_rfl) (E.Ent.of (by (repeat (first | (with_reducible apply E.SEnt.drop (P := E.pt b0_1 _ _)) | (with_reducible apply E.SEnt.drop (P := E.pt b0_2 _ _)) | (with_reducible apply E.SEnt.keep))); first | exact E.SEnt.refl _ | exact E.SEnt.nil _)) ?_
      refine E.Plan.q _ rfl _ (E.q_struct rfl rfl pl_25 rfl) rfl rfl ?_
      refine E.Plan.q _ rfl _ (E.q_load rfl rfl (by first | refine E.LoadAt.ownAgg E.ixA 3 ag_29 (by rfl) (by rfl) | exact E.LoadAt.roAgg ag_29 (by assumption) rfl)) rfl rfl ?_
      refine E.Plan.loud _ rfl rfl rfl ?_
      refine E.l_store rfl rfl rfl E.ixA 4 sz_25 (by rfl) (by rfl) (by rfl) (by rfl) ?_
      refine ⟨E.Ent.of E.entA, ?_⟩
      refine E.Plan.loud _ rfl rfl rfl ?_
      refine E.l_store rfl rfl rfl E.ixA 3 sz_29 (by rfl) (by rfl) (by rfl) (by rfl) ?_
      refine ⟨E.Ent.of E.entA, ?_⟩
      refine E.Plan.nil ?_
      try simp only [E.tn, E.tx, E.tr, E.bn, E.br, E.bs]
      refine E.Run.ret ?_
      try simp only [E.tn, E.tx, E.tr, E.bn, E.br, E.bs]
      exact ⟨_, _, _, E.ResOk.two rfl ⟨_, rfl, E.LoadAt.ownAgg E.ixA 4 ag_25 (by rfl) (by rfl)⟩ ⟨_, rfl, E.LoadAt.ownAgg E.ixA 3 ag_29 (by rfl) (by rfl)⟩, E.Ent.of E.entA, hbad h9⟩
    · refine E.Run.skip ?_
      try simp only [E.tn, E.tx, E.tr, E.bn, E.br, E.bs]
      exact ⟨Classical.not_not.1 h9, by ((repeat refine E.SubEnv.cons rfl ?_); exact E.SubEnv.nil _), by exact E.Ent.of E.entA⟩
  rintro L ρ1 M1 ⟨h0, hs, he⟩
  refine E.Run.sub hs (E.Run.ent he ?_)
  clear hs he
  have hpo := chk_ok.1 h0
  have hrg := hpo.regs
  (repeat refine E.Run.seq ?_)
  refine E.Run.region ?_
  refine E.Ops.q _ (E.q_load rfl rfl (by first | refine E.LoadAt.ownAgg E.ixA 4 ag_25 (by rfl) (by rfl) | exact E.LoadAt.roAgg ag_25 (by assumption) rfl)) rfl rfl ?_
  refine E.Ops.loud rfl rfl ?_
  refine E.l_call Try.func43 nm_43 nb_43 rfl ?_; refine optAnew A A' c c' p hp hpo.four 48 _ [] [] (fun x out => ∃ ys, LiveOf x ys ∧ out = deadT ys x) Try.func48 nm_48 nb_48 (fun x hx out ⟨ys, _, h⟩ => by rw [h]; exact Nat.le_trans (deadT_short ys x) (hp.smalls x hx)) (fun x hx ρ3 hle3 A1 c1 hrd M K hK => optDead1 A1 c1 p.regs.toNat x hrd (hpo.thr x hx).1 (by omega) (codeOk_of (hpo.thr x hx).2 (by omega)) (liveIn_of (hpo.thr x hx).2 (by omega) hrg.2) (op8_of (hpo.thr x hx).2 (by omega) hrg.2) (fun B d ys hys => hK B d _ ⟨ys, hys, rfl⟩)) (fun ρ3 B d B' d' q hle3 hq w1 w2 w3 w4 w5 => ?_)
  refine E.Ops.q _ (E.q_struct rfl rfl pl_29 rfl) rfl rfl ?_
  refine E.Ops.loud rfl rfl ?_
  refine E.l_store rfl rfl rfl E.ixA 4 sz_25 (by rfl) (by rfl) (by rfl) (by rfl) ?_
  refine E.Ops.loud rfl rfl ?_
  refine E.l_store rfl rfl rfl E.ixA 3 sz_29 (by rfl) (by rfl) (by rfl) (by rfl) ?_
  refine E.Ops.nil ?_
  try simp only [E.tn, E.tx, E.tr, E.bn, E.br, E.bs]
  refine E.Run.ret ?_
  try simp only [E.tn, E.tx, E.tr, E.bn, E.br, E.bs]
  have hfin := hok hpo ρ3 B d B' d' q hle3 hq ⟨w1, w2, w3, w4, w5⟩
  exact ⟨_, _, _, E.ResOk.two rfl ⟨_, rfl, E.LoadAt.ownAgg E.ixA 4 ag_25 (by rfl) (by rfl)⟩ ⟨_, rfl, E.LoadAt.ownAgg E.ixA 3 ag_29 (by rfl) (by rfl)⟩, E.Ent.of E.entA, hfin⟩
end Go.Proofs.Ythpgjbdacknkgaa
