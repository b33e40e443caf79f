/- opt.Const, walked. No statement of the seat in it. -/
import Derived.Test.YthpgjbdacknkgaaO10
import Derived.Test.YthpgjbdacknkgaaP4
set_option linter.unusedVariables false
set_option linter.unusedSimpArgs false
namespace Go.Proofs.Ythpgjbdacknkgaa
open Go
private theorem ag_25 : E.isAggOf Try.prog 25 4 = true := by kernel_rfl
private theorem ag_29 : E.isAggOf Try.prog 29 3 = true := by kernel_rfl
private theorem fo_25_3 : E.fieldOff Try.prog 25 3 = some 3 := by kernel_rfl
private theorem fo_29_0 : E.fieldOff Try.prog 29 0 = some 0 := by kernel_rfl
private theorem nb_42 : Try.f42.body.isNone = false := by kernel_rfl
private theorem nb_43 : Try.f43.body.isNone = false := by kernel_rfl
private theorem nb_44 : Try.f44.body.isNone = false := by kernel_rfl
private theorem nb_45 : Try.f45.body.isNone = false := by kernel_rfl
private theorem nb_46 : Try.f46.body.isNone = false := by kernel_rfl
private theorem nb_47 : Try.f47.body.isNone = false := by kernel_rfl
private theorem nm_42 : (Try.f42.name == "runtime.NumGoroutine") = false := by kernel_rfl
private theorem nm_43 : (Try.f43.name == "runtime.NumGoroutine") = false := by kernel_rfl
private theorem nm_44 : (Try.f44.name == "runtime.NumGoroutine") = false := by kernel_rfl
private theorem nm_45 : (Try.f45.name == "runtime.NumGoroutine") = false := by kernel_rfl
private theorem nm_46 : (Try.f46.name == "runtime.NumGoroutine") = false := by kernel_rfl
private theorem nm_47 : (Try.f47.name == "runtime.NumGoroutine") = false := by kernel_rfl
private theorem pl_25 : E.placesOf Try.prog 25 = some ([.slice none 0 0, .slice none 0 0, .int .i64 0, .int .i64 0], [(0, 1), (1, 1), (2, 1), (3, 1)]) := by kernel_rfl
private theorem pl_29 : E.placesOf Try.prog 29 = some ([.int .i64 0, .int .i64 0, .int .i64 0], [(0, 1), (1, 1), (2, 1)]) := by kernel_rfl
private theorem sc_27 : E.isScal Try.prog 27 = true := by kernel_rfl
private theorem sc_3 : E.isScal Try.prog 3 = true := by kernel_rfl
private theorem sz_25 : (Try.prog.info? 25).map (·.size) = some 4 := by kernel_rfl
private theorem sz_29 : (Try.prog.info? 29).map (·.size) = some 3 := by kernel_rfl
private theorem ty_25 : E.tyOf Try.prog 25 = some (some (.agg #[.slice none 0 0, .slice none 0 0, .int .i64 0, .int .i64 0]), 4, 64) := by kernel_rfl
private theorem ty_29 : E.tyOf Try.prog 29 = some (some (.agg #[.int .i64 0, .int .i64 0, .int .i64 0]), 3, 24) := by kernel_rfl

theorem RdCode.mono {h h' : E.Hl} {A : Option Addr} {code : List (List E.Ins)} (hm : ∀ b o, h b = some o → h' b = some o) (H : RdCode h A code) : RdCode h' A code :=
  E.RdS.mono hm (fun x cs ⟨A1, c1, e, h1⟩ => ⟨A1, c1, e, h1.mono hm⟩) H
theorem PrgAt.mono {ρ ρ' : E.Ro} {A A' : Option Addr} {p : Prg} (hle : E.Ro.le ρ ρ') (h : PrgAt ρ A A' p) : PrgAt ρ' A A' p :=
  ⟨h.code.mono hle.blk, h.words.mono hle.blk, h.small, h.smallW, h.smalls⟩
set_option maxRecDepth 100000 in
theorem optConst1 {ρ : E.Ro} {M : List E.Asr} {K : Value → E.Ro → List E.Asr → Prop} (bp : Nat) (cA : Option Addr) (cc R : Nat) (code : List E.Ins) (hreg : E.cellOf ρ.blk ⟨bp, 3, none⟩ = some (.int .i64 R)) (hcode : E.RdF ρ.blk E.encIns 4 cA code)
    (hsz : code.length ≤ 400) (hR : R ≤ 200) (hok : CodeOk R code)
    (hK : ∀ B d St, Found R code St → K (.slice B (constS St code).length d) ρ (E.arr 44 4 B (constS St code).length d ((constS St code).flatMap E.encIns) :: M)) :
    E.Hoa Try.prog 44 #[.slice cA code.length cc, .pointer (some ⟨bp, 0, none⟩)] ρ M K := by
  refine E.Hoa.enter 13 Try.func44 rfl rfl rfl ?_
  (repeat refine E.Run.seq ?_)
  refine E.Run.region ?_
  refine E.Ops.q _ (E.q_mv rfl rfl) rfl rfl ?_
  refine E.Ops.nil ?_
  try simp only [E.tn, E.tx, E.tr, E.bn, E.br, E.bs]
  (repeat refine E.Run.seq ?_)
  refine E.Run.region ?_
  refine E.Ops.q _ (E.q_move rfl rfl) rfl rfl ?_
  first | refine E.Ops.q _ (E.q_fieldAddr' rfl rfl fo_25_3) rfl rfl ?_ | refine E.Ops.q _ (E.q_fieldAddr rfl rfl fo_25_3) rfl rfl ?_
  refine E.Ops.q _ (E.q_load rfl rfl (by exact E.LoadAt.ro sc_3 hreg)) rfl rfl ?_
  refine E.Ops.loud rfl rfl ?_
  refine E.l_call Try.func45 nm_45 nb_45 rfl ?_; refine optOf cA cc R code hcode hsz hR hok (fun ρ1 bl St hle hl hF => ?_)
  refine E.Ops.q _ (E.q_mv rfl rfl) rfl rfl ?_
  refine E.Ops.nil ?_
  try simp only [E.tn, E.tx, E.tr, E.bn, E.br, E.bs]
  (repeat refine E.Run.seq ?_)
  refine E.Run.region ?_
  refine E.Ops.q _ (E.q_move rfl rfl) rfl rfl ?_
  refine E.Ops.q _ (E.q_move rfl rfl) rfl rfl ?_
  refine E.Ops.q _ (E.q_makeFunc rfl rfl rfl) rfl rfl ?_
  refine E.Ops.loud rfl rfl ?_
  refine E.l_call Try.func46 nm_46 nb_46 rfl ?_; refine fenceMoved cA cc code 47 _ [.pointer (some ⟨bl, 0, none⟩)] [] (fun k i => becomeS St k i) Try.func47 nm_47 nb_47 (hcode.mono hle.blk) hsz (become_good hok) (fun k hk M K hK => optBecome bl R St k code[k] hl (hok.ins k hk) hK) (fun B d n hn => ?_)
  refine E.Ops.q _ (E.q_mv rfl rfl) rfl rfl ?_
  refine E.Ops.nil ?_
  try simp only [E.tn, E.tx, E.tr, E.bn, E.br, E.bs]
  subst hn
  refine E.Run.ret ?_
  try simp only [E.tn, E.tx, E.tr, E.bn, E.br, E.bs]
  exact ⟨_, _, _, E.ResOk.one rfl rfl, E.Ent.weak hle _, hK B d St hF⟩

/-- what Const makes of a program -/
structure ConstOf (p q : Prg) : Prop where
  words : q.words = p.words
  locks : q.locks = p.locks
  regs : q.regs = p.regs
  len : q.code.length = p.code.length
  thr : ∀ t (h : t < p.code.length) (h' : t < q.code.length), ∃ St, Found p.regs.toNat p.code[t] St ∧ q.code[t] = constS St p.code[t]
def prg0 : Prg := ⟨[], [], 0, 0⟩

set_option maxRecDepth 100000 in
theorem optConst {ρ : E.Ro} {M : List E.Asr} {K : Value → E.Ro → List E.Asr → Prop} (A A' : Option Addr) (c c' : Nat) (p : Prg) (hp : PrgAt ρ A A' p)
    (hbad : (chk p).code ≠ 0 → K (.tuple #[prgV none 0 none 0 prg0, fltV (chk p)]) ρ M)
    (hok : PrgOk p → ∀ ρ' B d B' d' q, E.Ro.le ρ ρ' → PrgAt ρ' B B' q → ConstOf p q → K (.tuple #[prgV B d B' d' q, fltV ⟨0, 0, 0⟩]) ρ' M) :
    E.Hoa Try.prog 13 #[prgV A c A' c' p] ρ M K := by
  refine E.Hoa.enter 16 Try.func13 rfl rfl rfl ?_
  (repeat refine E.Run.seq ?_)
  refine E.Run.region ?_
  refine E.Ops.loud rfl rfl ?_
  refine E.l_box rfl rfl (fun b0_0 => ?_)
  refine E.Ops.loud rfl rfl ?_
  refine E.l_alloc rfl ty_25 (fun b0_1 => ?_)
  refine E.Ops.loud rfl rfl ?_
  refine E.l_alloc rfl ty_29 (fun b0_2 => ?_)
  refine E.Ops.nil ?_
  try simp only [E.tn, E.tx, E.tr, E.bn, E.br, E.bs]
  refine E.Run.seqCut (fun L' ρ' M' => (chk p).code = 0 ∧ E.SubEnv [(1, .pointer (some ⟨b0_0, 0, none⟩)), (2, .pointer (some ⟨b0_1, 0, none⟩)), (3, .pointer (some ⟨b0_2, 0, none⟩))] L' ∧ E.Ent ρ' M' ρ (E.pt b0_0 25 [.slice A p.code.length c, .slice A' p.words.length c', .int .i64 p.locks, .int .i64 p.regs] :: E.pt b0_1 25 [.slice none 0 0, .slice none 0 0, .int .i64 0, .int .i64 0] :: E.pt b0_2 29 [.int .i64 0, .int .i64 0, .int .i64 0] :: M)) ?_ ?_
  · (repeat refine E.Run.seq ?_)
    refine E.Run.region ?_
    refine E.Ops.q _ (E.q_load rfl rfl (by first | refine E.LoadAt.ownAgg E.ixA 4 ag_25 (by rfl) (by rfl) | exact E.LoadAt.roAgg ag_25 (by assumption) rfl)) rfl rfl ?_
    refine E.Ops.loud rfl rfl ?_
    refine E.l_call Try.func42 nm_42 nb_42 rfl ?_; refine asmCheck A A' c c' p hp ?_
    refine E.Ops.loud rfl rfl ?_
    refine E.l_alloc rfl ty_29 (fun b1_2 => ?_)
    refine E.Ops.loud rfl rfl ?_
    refine E.l_store rfl rfl rfl E.ixA 3 sz_29 (by rfl) (by rfl) (by rfl) (by rfl) ?_
    refine E.Ops.nil ?_
    try simp only [E.tn, E.tx, E.tr, E.bn, E.br, E.bs]
    (repeat refine E.Run.seq ?_)
    refine E.Run.region ?_
    first | refine E.Ops.q _ (E.q_fieldAddr' rfl rfl fo_29_0) rfl rfl ?_ | refine E.Ops.q _ (E.q_fieldAddr rfl rfl fo_29_0) rfl rfl ?_
    refine E.Ops.q _ (E.q_load rfl rfl (by first | refine E.LoadAt.own E.ixA sc_27 (by rfl) | exact E.LoadAt.ro sc_27 (by assumption) | exact E.LoadAt.arr E.ixA sc_27 (by assumption))) rfl rfl ?_
    refine E.Ops.q _ (E.q_neq rfl rfl rfl) rfl rfl ?_
    refine E.Ops.nil ?_
    try simp only [E.tn, E.tx, E.tr, E.bn, E.br, E.bs]
    (repeat refine E.Run.seq ?_); refine E.Run.condD rfl (fun h9 => ?_) (fun h9 => ?_)
    · (repeat refine E.Run.seq ?_)
      refine E.Run.draw (.q 0 (.q 1 (.l 2 (.l 3 (.nil))))) _ _ Try.mixed (by kernel_rfl) (E.Ent.of (by (repeat (first | (with_reducible apply E.SEnt.drop (P := E.pt b0_1 _ _)) | (with_reducible apply E.SEnt.drop (P := E.pt b0_2 _ _)) | (with_reducible apply E.SEnt.keep))); first | exact E.SEnt.refl _ | exact E.SEnt.nil _)) ?_
      refine E.Plan.q _ rfl _ (E.q_struct rfl rfl pl_25 rfl) rfl rfl ?_
      refine E.Plan.q _ rfl _ (E.q_load rfl rfl (by first | refine E.LoadAt.ownAgg E.ixA 3 ag_29 (by rfl) (by rfl) | exact E.LoadAt.roAgg ag_29 (by assumption) rfl)) rfl rfl ?_
      refine E.Plan.loud _ rfl rfl rfl ?_
      refine E.l_store rfl rfl rfl E.ixA 4 sz_25 (by rfl) (by rfl) (by rfl) (by rfl) ?_
      refine ⟨E.Ent.of E.entA, ?_⟩
      refine E.Plan.loud _ rfl rfl rfl ?_
      refine E.l_store rfl rfl rfl E.ixA 3 sz_29 (by rfl) (by rfl) (by rfl) (by rfl) ?_
      refine ⟨E.Ent.of E.entA, ?_⟩
      refine E.Plan.nil ?_
      try simp only [E.tn, E.tx, E.tr, E.bn, E.br, E.bs]
      refine E.Run.ret ?_
      try simp only [E.tn, E.tx, E.tr, E.bn, E.br, E.bs]
      exact ⟨_, _, _, E.ResOk.two rfl ⟨_, rfl, E.LoadAt.ownAgg E.ixA 4 ag_25 (by rfl) (by rfl)⟩ ⟨_, rfl, E.LoadAt.ownAgg E.ixA 3 ag_29 (by rfl) (by rfl)⟩, E.Ent.of E.entA, hbad h9⟩
    · refine E.Run.skip ?_
      try simp only [E.tn, E.tx, E.tr, E.bn, E.br, E.bs]
      exact ⟨Classical.not_not.1 h9, by ((repeat refine E.SubEnv.cons rfl ?_); exact E.SubEnv.nil _), by exact E.Ent.of E.entA⟩
  rintro L ρ1 M1 ⟨h0, hs, he⟩
  refine E.Run.sub hs (E.Run.ent he ?_)
  clear hs he
  refine E.Run.freeze fun ρ2 hle2 hfr2 => ?_
  have hbox := E.pt_frozen_add hfr2
  have hpo := chk_ok.1 h0
  have hr : ((p.regs.toNat : Nat) : Int) = p.regs := Int.toNat_of_nonneg (by have := hpo.regs; omega)
  have hreg : E.cellOf ρ2.blk ⟨b0_0, 3, none⟩ = some (.int .i64 p.regs.toNat) := by
    rw [hr]; exact E.pt_frozen hfr2 3 _ rfl
  have hrl : p.regs.toNat ≤ 200 := by have := hpo.regs; omega
  (repeat refine E.Run.seq ?_)
  refine E.Run.region ?_
  refine E.Ops.q _ (E.q_load rfl rfl (by exact E.LoadAt.roAgg ag_25 (E.pt_frozen_add hfr2) rfl)) rfl rfl ?_
  refine E.Ops.q _ (E.q_makeFunc rfl rfl rfl) rfl rfl ?_
  refine E.Ops.loud rfl rfl ?_
  refine E.l_call Try.func43 nm_43 nb_43 rfl ?_; refine optAnew A A' c c' p (hp.mono hle2) hpo.four 44 _ [] [.pointer (some ⟨b0_0, 0, none⟩)] (fun x out => ∃ St, Found p.regs.toNat x St ∧ out = constS St x) Try.func44 nm_44 nb_44 (fun x hx out ⟨St, _, h⟩ => by rw [h]; exact Nat.le_trans (constS_short St x) (hp.smalls x hx)) (fun x hx ρ3 hle3 A1 c1 hrd M K hK => optConst1 b0_0 A1 c1 p.regs.toNat x (E.cellOf_mono hle3.blk hreg) hrd (hpo.thr x hx).1 hrl (codeOk_of (hpo.thr x hx).2 (by have := hpo.regs; omega)) (fun B d St hF => hK B d _ ⟨St, hF, rfl⟩)) (fun ρ3 B d B' d' q hle3 hq w1 w2 w3 w4 w5 => ?_)
  refine E.Ops.q _ (E.q_struct rfl rfl pl_29 rfl) rfl rfl ?_
  refine E.Ops.loud rfl rfl ?_
  refine E.l_store rfl rfl rfl E.ixA 4 sz_25 (by rfl) (by rfl) (by rfl) (by rfl) ?_
  refine E.Ops.loud rfl rfl ?_
  refine E.l_store rfl rfl rfl E.ixA 3 sz_29 (by rfl) (by rfl) (by rfl) (by rfl) ?_
  refine E.Ops.nil ?_
  try simp only [E.tn, E.tx, E.tr, E.bn, E.br, E.bs]
  refine E.Run.ret ?_
  try simp only [E.tn, E.tx, E.tr, E.bn, E.br, E.bs]
  have hfin := hok hpo ρ3 B d B' d' q (hle2.trans hle3) hq ⟨w1, w2, w3, w4, w5⟩
  exact ⟨_, _, _, E.ResOk.two rfl ⟨_, rfl, E.LoadAt.ownAgg E.ixA 4 ag_25 (by rfl) (by rfl)⟩ ⟨_, rfl, E.LoadAt.ownAgg E.ixA 3 ag_29 (by rfl) (by rfl)⟩, E.Ent.of E.entA, hfin⟩
end Go.Proofs.Ythpgjbdacknkgaa
