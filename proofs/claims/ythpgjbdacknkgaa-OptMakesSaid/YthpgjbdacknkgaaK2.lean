/- sluicekeep.OptLess, walked. No statement of the seat in it. -/
import Derived.Test.YthpgjbdacknkgaaK1
import Derived.Test.YthpgjbdacknkgaaP5
set_option linter.unusedVariables false
set_option linter.unusedSimpArgs false
namespace Go.Proofs.Ythpgjbdacknkgaa
open Go
private theorem ag_25 : E.isAggOf Try.prog 25 4 = true := by kernel_rfl
private theorem ag_29 : E.isAggOf Try.prog 29 3 = true := by kernel_rfl
private theorem ag_44 : E.isAggOf Try.prog 44 4 = true := by kernel_rfl
private theorem fo_25_0 : E.fieldOff Try.prog 25 0 = some 0 := by kernel_rfl
private theorem fo_29_0 : E.fieldOff Try.prog 29 0 = some 0 := by kernel_rfl
private theorem ist_29 : E.intStruct Try.prog 29 = some 3 := by kernel_rfl
private theorem ist_44 : E.intStruct Try.prog 44 = some 4 := by kernel_rfl
private theorem nb_13 : Try.f13.body.isNone = false := by kernel_rfl
private theorem nb_14 : Try.f14.body.isNone = false := by kernel_rfl
private theorem nb_22 : Try.f22.body.isNone = false := by kernel_rfl
private theorem nm_13 : (Try.f13.name == "runtime.NumGoroutine") = false := by kernel_rfl
private theorem nm_14 : (Try.f14.name == "runtime.NumGoroutine") = false := by kernel_rfl
private theorem nm_22 : (Try.f22.name == "runtime.NumGoroutine") = false := by kernel_rfl
private theorem pl_25 : E.placesOf Try.prog 25 = some ([.slice none 0 0, .slice none 0 0, .int .i64 0, .int .i64 0], [(0, 1), (1, 1), (2, 1), (3, 1)]) := by kernel_rfl
private theorem pl_44 : E.placesOf Try.prog 44 = some ([.int .i64 0, .int .i64 0, .int .i64 0, .int .i64 0], [(0, 1), (1, 1), (2, 1), (3, 1)]) := by kernel_rfl
private theorem sc_22 : E.isScal Try.prog 22 = true := by kernel_rfl
private theorem sc_27 : E.isScal Try.prog 27 = true := by kernel_rfl
private theorem sc_45 : E.isScal Try.prog 45 = true := by kernel_rfl
private theorem so_22 : E.sliceOf Try.prog 22 = some (45, 1) := by kernel_rfl
private theorem so_45 : E.sliceOf Try.prog 45 = some (44, 4) := by kernel_rfl
private theorem sz_25 : (Try.prog.info? 25).map (·.size) = some 4 := by kernel_rfl
private theorem sz_29 : (Try.prog.info? 29).map (·.size) = some 3 := by kernel_rfl
private theorem ty_25 : E.tyOf Try.prog 25 = some (some (.agg #[.slice none 0 0, .slice none 0 0, .int .i64 0, .int .i64 0]), 4, 64) := by kernel_rfl
private theorem ty_29 : E.tyOf Try.prog 29 = some (some (.agg #[.int .i64 0, .int .i64 0, .int .i64 0]), 3, 24) := by kernel_rfl
private theorem ty_44 : E.tyOf Try.prog 44 = some (some (.agg #[.int .i64 0, .int .i64 0, .int .i64 0, .int .i64 0]), 4, 32) := by kernel_rfl
private theorem ty_45 : E.tyOf Try.prog 45 = some (some (.slice none 0 0), 1, 24) := by kernel_rfl

theorem badIns_congr {p q : Prg} (h1 : q.regs = p.regs) (h2 : q.words = p.words) (h3 : q.locks = p.locks) (s : Nat) (i : E.Ins) : badIns q s i = badIns p s i := by
  unfold badIns okNum
  rw [h1, h2, h3]
theorem prgAt0 (ρ : E.Ro) : PrgAt ρ none none prg0 := ⟨E.RdS.nil _ _ _ _, E.RdS.nil _ _ _ _, by decide, by decide, fun c hc => by cases hc⟩
def ConstRes (p a : Prg) : Prop := ((chk p).code ≠ 0 ∧ a = prg0) ∨ (PrgOk p ∧ ConstOf p a)
def DeadRes (p a : Prg) : Prop := ((chk p).code ≠ 0 ∧ a = prg0) ∨ (PrgOk p ∧ DeadOf p a)
theorem ConstRes.len {p a : Prg} (h : ConstRes p a) : a.code.length = if (chk p).code ≠ 0 then 0 else p.code.length := by
  rcases h with ⟨h1, rfl⟩ | ⟨h1, h2⟩
  · rw [if_pos h1]; rfl
  · rw [if_neg (by rw [chk_ok.2 h1]; simp)]; exact h2.len
theorem DeadRes.len {p a : Prg} (h : DeadRes p a) : a.code.length = if (chk p).code ≠ 0 then 0 else p.code.length := by
  rcases h with ⟨h1, rfl⟩ | ⟨h1, h2⟩
  · rw [if_pos h1]; rfl
  · rw [if_neg (by rw [chk_ok.2 h1]; simp)]; exact h2.len
theorem optConst' {ρ : E.Ro} {M : List E.Asr} {K : Value → E.Ro → List E.Asr → Prop} (A A' : Option Addr) (c c' : Nat) (p : Prg) (hp : PrgAt ρ A A' p)
    (hK : ∀ ρ' B d B' d' a, E.Ro.le ρ ρ' → PrgAt ρ' B B' a → ConstRes p a → K (.tuple #[prgV B d B' d' a, fltV (chk p)]) ρ' M) : E.Hoa Try.prog 13 #[prgV A c A' c' p] ρ M K :=
  optConst A A' c c' p hp (fun h => hK ρ none 0 none 0 prg0 (E.Ro.le.refl _) (prgAt0 ρ) (.inl ⟨h, rfl⟩)) (fun h ρ' B d B' d' a h1 h2 h3 => by
    have := hK ρ' B d B' d' a h1 h2 (.inr ⟨h, h3⟩)
    rwa [chk_zero (chk_ok.2 h)] at this)
theorem optDead' {ρ : E.Ro} {M : List E.Asr} {K : Value → E.Ro → List E.Asr → Prop} (A A' : Option Addr) (c c' : Nat) (p : Prg) (hp : PrgAt ρ A A' p)
    (hK : ∀ ρ' B d B' d' a, E.Ro.le ρ ρ' → PrgAt ρ' B B' a → DeadRes p a → K (.tuple #[prgV B d B' d' a, fltV (chk p)]) ρ' M) : E.Hoa Try.prog 14 #[prgV A c A' c' p] ρ M K :=
  optDead A A' c c' p hp (fun h => hK ρ none 0 none 0 prg0 (E.Ro.le.refl _) (prgAt0 ρ) (.inl ⟨h, rfl⟩)) (fun h ρ' B d B' d' a h1 h2 h3 => by
    have := hK ρ' B d B' d' a h1 h2 (.inr ⟨h, h3⟩)
    rwa [chk_zero (chk_ok.2 h)] at this)
theorem ConstRes.of_ok {p a : Prg} (hp : PrgOk p) (h : ConstRes p a) : ConstOf p a := by
  rcases h with ⟨h, _⟩ | ⟨_, h⟩
  · exact absurd (chk_ok.2 hp) h
  · exact h
theorem ConstOf.ok {p a : Prg} (hp : PrgOk p) (h : ConstOf p a) : PrgOk a := by
  have hr := hp.regs
  refine ⟨by rw [h.len]; exact hp.one, by rw [h.len]; exact hp.four, by rw [h.words]; exact hp.words, by rw [h.locks]; exact hp.locks, by rw [h.regs]; exact hp.regs, fun x hx => ?_⟩
  obtain ⟨t, ht, rfl⟩ := List.getElem_of_mem hx
  have ht' : t < p.code.length := by rw [← h.len]; exact ht
  obtain ⟨St, hF, he⟩ := h.thr t ht' ht
  have hth := hp.thr _ (List.getElem_mem ht')
  rw [he]
  exact ⟨Nat.le_trans (constS_short _ _) hth.1, fun i hi => by rw [badIns_congr h.regs h.words h.locks]; exact constS_bad hth.2 (by omega) i hi⟩
theorem ConstOf.twice {p a c : Prg} (hp : PrgOk p) (h : ConstOf p a) (h' : ConstOf a c) : c.code = a.code := by
  have hr := hp.regs
  apply List.ext_getElem h'.len
  intro t h1 h2
  have ht' : t < p.code.length := by rw [← h.len]; exact h2
  obtain ⟨St, hF, he⟩ := h.thr t ht' h2
  obtain ⟨St', hF', he'⟩ := h'.thr t h2 h1
  rw [he', he]
  rw [he, h.regs] at hF'
  exact constS_twice (hp.thr _ (List.getElem_mem ht')).2 (by omega) hF hF'
theorem ex_made {q : Prg} (h : ConstOf exPrg q) : q.code = [[⟨1, 0, 2, 0⟩, ⟨1, 0, 4, 0⟩, ⟨16, 0, 0, 0⟩]] := by
  have hl : q.code.length = 1 := h.len
  obtain ⟨St, hF, he⟩ := h.thr 0 (by decide) (by omega)
  match hq : q.code, hl with
  | [x], _ =>
    have hx : q.code[0]'(by omega) = x := by simp [hq]
    rw [hx] at he
    rw [he]
    exact congrArg (fun z => [z]) (ex_const hF)

theorem ex_chk : chk exPrg = ⟨0, 0, 0⟩ := chk_zero (chk_ok.2 ex_ok)
theorem exAt {ρ1 ρ2 : E.Ro} {g3 g4 : Nat} (hle : E.Ro.le ρ1 ρ2) (h1 : E.RdF ρ1.blk encThr 1 (some ⟨g4, 0, none⟩) [(some ⟨g3, 0, none⟩, 3, exCode)]) (h2 : E.RdF ρ2.blk E.encIns 4 (some ⟨g3, 0, none⟩) exCode) : PrgAt ρ2 (some ⟨g4, 0, none⟩) none exPrg :=
  ⟨thr_code (h1.mono hle.blk) (fun x hx => by
    have := List.mem_singleton.1 hx
    subst this; exact h2), E.RdS.nil _ _ _ _, by decide, by decide, fun x hx => by
      have := List.mem_singleton.1 hx
      subst this; decide⟩
theorem ConstRes.ex {q : Prg} (h : ConstRes exPrg q) : q.code = [[⟨1, 0, 2, 0⟩, ⟨1, 0, 4, 0⟩, ⟨16, 0, 0, 0⟩]] := by
  rcases h with ⟨h1, _⟩ | ⟨_, h2⟩
  · exact absurd (chk_ok.2 ex_ok) h1
  · exact ex_made h2
theorem PrgW.mono {h h' : E.Hl} {A A' : Option Addr} {p : Prg} (hm : ∀ b o, h b = some o → h' b = some o) (H : PrgW h A A' p) : PrgW h' A A' p := ⟨H.code.mono hm, H.words.mono hm, H.small, H.smallW, H.smalls, H.locks, H.regs⟩
theorem PrgW.at {ρ : E.Ro} {A A' : Option Addr} {p : Prg} (H : PrgW ρ.blk A A' p) (h : vastS p = false) : PrgAt ρ A A' p := by
  obtain ⟨h1, h2, h3⟩ := vast_no h
  exact ⟨H.code, H.words, by omega, by omega, fun c hc => Nat.le_trans (h3 c hc) (by decide)⟩
set_option maxRecDepth 100000 in
theorem keepLess {ρ : E.Ro} {M : List E.Asr} {K : Value → E.Ro → List E.Asr → Prop} (A A' : Option Addr) (c c' : Nat) (p : Prg) (hp : PrgW ρ.blk A A' p) (hK : ∀ ρ', E.Ro.le ρ ρ' → K (.bool true) ρ' M) :
    E.Hoa Try.prog 5 #[prgV A c A' c' p] ρ M K := by
  refine E.Hoa.enter 178 Try.func5 rfl rfl rfl ?_
  (repeat refine E.Run.seq ?_)
  refine E.Run.region ?_
  refine E.Ops.loud rfl rfl ?_
  refine E.l_box rfl rfl (fun b0_0 => ?_)
  refine E.Ops.q _ (E.q_mv rfl rfl) rfl rfl ?_
  refine E.Ops.nil ?_
  try simp only [E.tn, E.tx, E.tr, E.bn, E.br, E.bs]
  (repeat refine E.Run.seq ?_)
  refine E.Run.region ?_
  refine E.Ops.q _ (E.q_struct rfl rfl pl_44 rfl) rfl rfl ?_
  refine E.Ops.q _ (E.q_struct rfl rfl pl_44 rfl) rfl rfl ?_
  refine E.Ops.q _ (E.q_struct rfl rfl pl_44 rfl) rfl rfl ?_
  refine E.Ops.loud rfl rfl ?_
  refine E.l_slice rfl rfl Try.underlying45 ty_44 rfl rfl rfl rfl rfl rfl (fun g1_3 => ?_)
  refine E.Ops.loud rfl rfl ?_
  refine E.l_slice rfl rfl Try.underlying22 ty_45 rfl rfl rfl rfl rfl rfl (fun g1_4 => ?_)
  refine E.Ops.q _ (E.q_struct rfl rfl pl_25 rfl) rfl rfl ?_
  refine E.Ops.loud rfl rfl ?_
  refine E.l_call Try.func13 nm_13 nb_13 rfl ?_; show E.Hoa _ _ _ _ (E.arr 45 1 (some ⟨g1_4, 0, none⟩) 1 1 (([(some ⟨g1_3, 0, none⟩, 3, exCode)] : List ThrV).flatMap encThr) :: E.arr 44 4 (some ⟨g1_3, 0, none⟩) 3 3 (exCode.flatMap E.encIns) :: _) _; refine E.Hoa.freeze fun ρ1 hle1 hfr1 => ?_; refine E.Hoa.freeze fun ρ2 hle2 hfr2 => ?_; refine optConst' (some ⟨g1_4, 0, none⟩) none 1 0 exPrg (exAt hle2 (E.arr_frozen (fun _ => rfl) hfr1 rfl) (E.arr_frozen (fun _ => rfl) hfr2 rfl)) (fun ρ3 B d B' d' q hle3 hq hcq => ?_); rw [ex_chk]; obtain ⟨qc, qw, ql, qr⟩ := q; obtain rfl : qc = _ := ConstRes.ex hcq
  refine E.Ops.q _ (E.q_move rfl rfl) rfl rfl ?_
  refine E.Ops.q _ (E.q_extract rfl rfl rfl) rfl rfl ?_
  refine E.Ops.q _ (E.q_extract rfl rfl rfl) rfl rfl ?_
  refine E.Ops.loud rfl rfl ?_
  refine E.l_alloc rfl ty_25 (fun b1_10 => ?_)
  refine E.Ops.loud rfl rfl ?_
  refine E.l_alloc rfl ty_29 (fun b1_11 => ?_)
  refine E.Ops.loud rfl rfl ?_
  refine E.l_store rfl rfl rfl E.ixA 4 sz_25 (by rfl) (by rfl) (by rfl) (by rfl) ?_
  refine E.Ops.loud rfl rfl ?_
  refine E.l_store rfl rfl rfl E.ixA 3 sz_29 (by rfl) (by rfl) (by rfl) (by rfl) ?_
  refine E.Ops.nil ?_
  try simp only [E.tn, E.tx, E.tr, E.bn, E.br, E.bs]
  have hle03 := hle1.trans (hle2.trans hle3)
  obtain ⟨adq, rfl, A1, c1, hcell, hrd⟩ := hq.thread (t := 0) Nat.zero_lt_one
  obtain ⟨ad1, rfl, _, hci⟩ := E.RdF.at hrd (i := 1) (show 1 < 3 by decide)
  refine E.Run.seqCut (fun L' ρ' M' => E.SubEnv [(1, .pointer (some ⟨b0_0, 0, none⟩)), (4, .pointer (some ⟨b1_11, 0, none⟩))] L' ∧ E.Ent ρ' M' ρ3 (E.pt b1_11 29 [.int .i64 0, .int .i64 0, .int .i64 0] :: E.pt b0_0 25 [.slice A p.code.length c, .slice A' p.words.length c', .int .i64 p.locks, .int .i64 p.regs] :: M)) ?_ ?_
  · (repeat refine E.Run.seq ?_)
    refine E.Run.region ?_
    first | refine E.Ops.q _ (E.q_fieldAddr' rfl rfl fo_29_0) rfl rfl ?_ | refine E.Ops.q _ (E.q_fieldAddr rfl rfl fo_29_0) rfl rfl ?_
    refine E.Ops.q _ (E.q_load rfl rfl (by first | refine E.LoadAt.own E.ixA sc_27 (by rfl) | exact E.LoadAt.ro sc_27 (by assumption) | exact E.LoadAt.arr E.ixA sc_27 (by assumption))) rfl rfl ?_
    refine E.Ops.q _ ((E.q_neq rfl rfl rfl).isF (by decide)) rfl rfl ?_
    refine E.Ops.q _ (E.q_move rfl rfl) rfl rfl ?_
    first | refine E.Ops.q _ (E.q_fieldAddr' rfl rfl fo_25_0) rfl rfl ?_ | refine E.Ops.q _ (E.q_fieldAddr rfl rfl fo_25_0) rfl rfl ?_
    refine E.Ops.q _ (E.q_load rfl rfl (by first | refine E.LoadAt.own E.ixA sc_22 (by rfl) | exact E.LoadAt.ro sc_22 (by assumption) | exact E.LoadAt.arr E.ixA sc_22 (by assumption))) rfl rfl ?_
    refine E.Ops.q _ (E.q_lenSlice rfl Try.underlying22) rfl rfl ?_
    refine E.Ops.q _ ((E.q_neq rfl rfl rfl).isF (by simp)) rfl rfl ?_
    refine E.Ops.q _ (E.q_pickF rfl rfl rfl) rfl rfl ?_
    refine E.Ops.q _ (E.q_move rfl rfl) rfl rfl ?_
    first | refine E.Ops.q _ (E.q_fieldAddr' rfl rfl fo_25_0) rfl rfl ?_ | refine E.Ops.q _ (E.q_fieldAddr rfl rfl fo_25_0) rfl rfl ?_
    refine E.Ops.q _ (E.q_load rfl rfl (by first | refine E.LoadAt.own E.ixA sc_22 (by rfl) | exact E.LoadAt.ro sc_22 (by assumption) | exact E.LoadAt.arr E.ixA sc_22 (by assumption))) rfl rfl ?_
    refine E.Ops.q _ (E.q_indexAddr rfl rfl rfl so_22 (by decide) (by simp)) rfl rfl ?_
    refine E.Ops.q _ (E.q_load rfl rfl (by exact E.LoadAt.ro sc_45 hcell)) rfl rfl ?_
    refine E.Ops.q _ (E.q_lenSlice rfl Try.underlying45) rfl rfl ?_
    refine E.Ops.q _ ((E.q_neq rfl rfl rfl).isF (by simp)) rfl rfl ?_
    refine E.Ops.q _ (E.q_pickF rfl rfl rfl) rfl rfl ?_
    refine E.Ops.q _ (E.q_move rfl rfl) rfl rfl ?_
    first | refine E.Ops.q _ (E.q_fieldAddr' rfl rfl fo_25_0) rfl rfl ?_ | refine E.Ops.q _ (E.q_fieldAddr rfl rfl fo_25_0) rfl rfl ?_
    refine E.Ops.q _ (E.q_load rfl rfl (by first | refine E.LoadAt.own E.ixA sc_22 (by rfl) | exact E.LoadAt.ro sc_22 (by assumption) | exact E.LoadAt.arr E.ixA sc_22 (by assumption))) rfl rfl ?_
    refine E.Ops.q _ (E.q_indexAddr rfl rfl rfl so_22 (by decide) (by simp)) rfl rfl ?_
    refine E.Ops.q _ (E.q_load rfl rfl (by exact E.LoadAt.ro sc_45 hcell)) rfl rfl ?_
    refine E.Ops.q _ (E.q_indexAddr rfl rfl rfl so_45 (by decide) (by simp)) rfl rfl ?_
    refine E.Ops.q _ (E.q_load rfl rfl (by exact E.LoadAt.roAgg ag_44 hci rfl)) rfl rfl ?_
    refine E.Ops.q _ (E.q_struct rfl rfl pl_44 rfl) rfl rfl ?_
    refine E.Ops.q _ ((E.q_neqInts (xs := [1, 0, 4, 0]) (ys := [1, 0, 4, 0]) rfl rfl rfl ist_44 rfl rfl).isF (by simp)) rfl rfl ?_
    refine E.Ops.q _ (E.q_pickF rfl rfl rfl) rfl rfl ?_
    refine E.Ops.nil ?_
    try simp only [E.tn, E.tx, E.tr, E.bn, E.br, E.bs]
    (repeat refine E.Run.seq ?_); refine E.Run.condF rfl ?_
    refine E.Run.skip ?_
    try simp only [E.tn, E.tx, E.tr, E.bn, E.br, E.bs]
    exact ⟨by ((repeat refine E.SubEnv.cons rfl ?_); exact E.SubEnv.nil _), by exact E.Ent.of E.entA⟩
  rintro L1 ρ1' M1 ⟨hs, he⟩
  refine E.Run.sub hs (E.Run.ent he ?_)
  clear hs he
  refine E.Run.seqCut (fun L' ρ' M' => vastS p = false ∧ E.SubEnv [(1, .pointer (some ⟨b0_0, 0, none⟩)), (4, .pointer (some ⟨b1_11, 0, none⟩))] L' ∧ E.Ent ρ' M' ρ3 (E.pt b1_11 29 [.int .i64 0, .int .i64 0, .int .i64 0] :: E.pt b0_0 25 [.slice A p.code.length c, .slice A' p.words.length c', .int .i64 p.locks, .int .i64 p.regs] :: M)) ?_ ?_
  · (repeat refine E.Run.seq ?_)
    refine E.Run.region ?_
    refine E.Ops.q _ (E.q_load rfl rfl (by first | refine E.LoadAt.ownAgg E.ixA 4 ag_25 (by rfl) (by rfl) | exact E.LoadAt.roAgg ag_25 (by assumption) rfl)) rfl rfl ?_
    refine E.Ops.loud rfl rfl ?_
    refine E.l_call Try.func22 nm_22 nb_22 rfl ?_; refine keepVast A A' c c' p (hp.mono hle03.blk) ?_
    refine E.Ops.nil ?_
    try simp only [E.tn, E.tx, E.tr, E.bn, E.br, E.bs]
    (repeat refine E.Run.seq ?_); refine E.Run.cond rfl (fun h4 => ?_) (fun h4 => ?_)
    · (repeat refine E.Run.seq ?_)
      refine E.Run.region ?_
      refine E.Ops.q _ (E.q_mv rfl rfl) rfl rfl ?_
      refine E.Ops.nil ?_
      try simp only [E.tn, E.tx, E.tr, E.bn, E.br, E.bs]
      refine E.Run.ret ?_
      try simp only [E.tn, E.tx, E.tr, E.bn, E.br, E.bs]
      exact ⟨_, _, _, E.ResOk.one rfl rfl, E.Ent.of E.entA, hK ρ3 hle03⟩
    · refine E.Run.skip ?_
      try simp only [E.tn, E.tx, E.tr, E.bn, E.br, E.bs]
      exact ⟨h4, by ((repeat refine E.SubEnv.cons rfl ?_); exact E.SubEnv.nil _), by exact E.Ent.of E.entA⟩
  rintro L1 ρ1' M1 ⟨hv, hs, he⟩
  refine E.Run.sub hs (E.Run.ent he ?_)
  clear hs he hfr1 hfr2 hcell hrd hci hq hcq
  have hpA := (hp.mono hle03.blk).at hv
  (repeat refine E.Run.seq ?_)
  refine E.Run.region ?_
  refine E.Ops.q _ (E.q_load rfl rfl (by first | refine E.LoadAt.ownAgg E.ixA 4 ag_25 (by rfl) (by rfl) | exact E.LoadAt.roAgg ag_25 (by assumption) rfl)) rfl rfl ?_
  refine E.Ops.loud rfl rfl ?_
  refine E.l_call Try.func13 nm_13 nb_13 rfl ?_; refine optConst' A A' c c' p hpA (fun ρ4 B d B' d' a hle4 ha hca => ?_)
  refine E.Ops.q _ (E.q_move rfl rfl) rfl rfl ?_
  refine E.Ops.q _ (E.q_extract rfl rfl rfl) rfl rfl ?_
  refine E.Ops.q _ (E.q_extract rfl rfl rfl) rfl rfl ?_
  refine E.Ops.loud rfl rfl ?_
  refine E.l_alloc rfl ty_25 (fun b6_5 => ?_)
  refine E.Ops.loud rfl rfl ?_
  refine E.l_store rfl rfl rfl E.ixA 4 sz_25 (by rfl) (by rfl) (by rfl) (by rfl) ?_
  refine E.Ops.loud rfl rfl ?_
  refine E.l_store rfl rfl rfl E.ixA 3 sz_29 (by rfl) (by rfl) (by rfl) (by rfl) ?_
  refine E.Ops.nil ?_
  try simp only [E.tn, E.tx, E.tr, E.bn, E.br, E.bs]
  (repeat refine E.Run.seq ?_)
  refine E.Run.region ?_
  refine E.Ops.q _ (E.q_load rfl rfl (by first | refine E.LoadAt.ownAgg E.ixA 4 ag_25 (by rfl) (by rfl) | exact E.LoadAt.roAgg ag_25 (by assumption) rfl)) rfl rfl ?_
  refine E.Ops.loud rfl rfl ?_
  refine E.l_call Try.func14 nm_14 nb_14 rfl ?_; refine optDead' A A' c c' p (hpA.mono hle4) (fun ρ5 B2 d2 B2' d2' b hle5 hb hcb => ?_)
  refine E.Ops.q _ (E.q_move rfl rfl) rfl rfl ?_
  refine E.Ops.q _ (E.q_extract rfl rfl rfl) rfl rfl ?_
  refine E.Ops.q _ (E.q_extract rfl rfl rfl) rfl rfl ?_
  refine E.Ops.loud rfl rfl ?_
  refine E.l_alloc rfl ty_25 (fun b7_5 => ?_)
  refine E.Ops.loud rfl rfl ?_
  refine E.l_alloc rfl ty_29 (fun b7_6 => ?_)
  refine E.Ops.loud rfl rfl ?_
  refine E.l_store rfl rfl rfl E.ixA 4 sz_25 (by rfl) (by rfl) (by rfl) (by rfl) ?_
  refine E.Ops.loud rfl rfl ?_
  refine E.l_store rfl rfl rfl E.ixA 3 sz_29 (by rfl) (by rfl) (by rfl) (by rfl) ?_
  refine E.Ops.nil ?_
  try simp only [E.tn, E.tx, E.tr, E.bn, E.br, E.bs]
  have hlen : a.code.length = b.code.length := by rw [hca.len, hcb.len]
  have hle35 := hle03.trans (hle4.trans hle5)
  refine E.Run.seqCut (fun L' ρ' M' => E.SubEnv [(1, .pointer (some ⟨b0_0, 0, none⟩)), (4, .pointer (some ⟨b1_11, 0, none⟩)), (5, .pointer (some ⟨b6_5, 0, none⟩)), (6, .pointer (some ⟨b7_5, 0, none⟩))] L' ∧ E.Ent ρ' M' ρ5 (E.pt b1_11 29 [.int .i64 (chk p).code, .int .i64 (chk p).thread, .int .i64 (chk p).at'] :: E.pt b6_5 25 [.slice B a.code.length d, .slice B' a.words.length d', .int .i64 a.locks, .int .i64 a.regs] :: E.pt b7_5 25 [.slice B2 b.code.length d2, .slice B2' b.words.length d2', .int .i64 b.locks, .int .i64 b.regs] :: E.pt b0_0 25 [.slice A p.code.length c, .slice A' p.words.length c', .int .i64 p.locks, .int .i64 p.regs] :: M)) ?_ ?_
  · (repeat refine E.Run.seq ?_)
    refine E.Run.region ?_
    refine E.Ops.q _ (E.q_load rfl rfl (by first | refine E.LoadAt.ownAgg E.ixA 3 ag_29 (by rfl) (by rfl) | exact E.LoadAt.roAgg ag_29 (by assumption) rfl)) rfl rfl ?_
    refine E.Ops.q _ (E.q_load rfl rfl (by first | refine E.LoadAt.ownAgg E.ixA 3 ag_29 (by rfl) (by rfl) | exact E.LoadAt.roAgg ag_29 (by assumption) rfl)) rfl rfl ?_
    refine E.Ops.q _ ((E.q_neqInts (xs := [(chk p).code, (chk p).thread, (chk p).at']) (ys := [(chk p).code, (chk p).thread, (chk p).at']) rfl rfl rfl ist_29 rfl rfl).isF (by simp)) rfl rfl ?_
    refine E.Ops.q _ (E.q_move rfl rfl) rfl rfl ?_
    first | refine E.Ops.q _ (E.q_fieldAddr' rfl rfl fo_25_0) rfl rfl ?_ | refine E.Ops.q _ (E.q_fieldAddr rfl rfl fo_25_0) rfl rfl ?_
    refine E.Ops.q _ (E.q_load rfl rfl (by first | refine E.LoadAt.own E.ixA sc_22 (by rfl) | exact E.LoadAt.ro sc_22 (by assumption) | exact E.LoadAt.arr E.ixA sc_22 (by assumption))) rfl rfl ?_
    refine E.Ops.q _ (E.q_lenSlice rfl Try.underlying22) rfl rfl ?_
    first | refine E.Ops.q _ (E.q_fieldAddr' rfl rfl fo_25_0) rfl rfl ?_ | refine E.Ops.q _ (E.q_fieldAddr rfl rfl fo_25_0) rfl rfl ?_
    refine E.Ops.q _ (E.q_load rfl rfl (by first | refine E.LoadAt.own E.ixA sc_22 (by rfl) | exact E.LoadAt.ro sc_22 (by assumption) | exact E.LoadAt.arr E.ixA sc_22 (by assumption))) rfl rfl ?_
    refine E.Ops.q _ (E.q_lenSlice rfl Try.underlying22) rfl rfl ?_
    refine E.Ops.q _ ((E.q_neq rfl rfl rfl).isF (by omega)) rfl rfl ?_
    refine E.Ops.q _ (E.q_pickF rfl rfl rfl) rfl rfl ?_
    refine E.Ops.nil ?_
    try simp only [E.tn, E.tx, E.tr, E.bn, E.br, E.bs]
    (repeat refine E.Run.seq ?_); refine E.Run.condF rfl ?_
    refine E.Run.skip ?_
    try simp only [E.tn, E.tx, E.tr, E.bn, E.br, E.bs]
    exact ⟨by ((repeat refine E.SubEnv.cons rfl ?_); exact E.SubEnv.nil _), by exact E.Ent.of E.entA⟩
  rintro L1 ρ1' M1 ⟨hs, he⟩
  refine E.Run.sub hs (E.Run.ent he ?_)
  clear hs he
  refine E.Run.seqCut (fun L' ρ' M' => (chk p).code = 0 ∧ E.SubEnv [(1, .pointer (some ⟨b0_0, 0, none⟩)), (4, .pointer (some ⟨b1_11, 0, none⟩)), (5, .pointer (some ⟨b6_5, 0, none⟩)), (6, .pointer (some ⟨b7_5, 0, none⟩))] L' ∧ E.Ent ρ' M' ρ5 (E.pt b1_11 29 [.int .i64 (chk p).code, .int .i64 (chk p).thread, .int .i64 (chk p).at'] :: E.pt b6_5 25 [.slice B a.code.length d, .slice B' a.words.length d', .int .i64 a.locks, .int .i64 a.regs] :: E.pt b7_5 25 [.slice B2 b.code.length d2, .slice B2' b.words.length d2', .int .i64 b.locks, .int .i64 b.regs] :: E.pt b0_0 25 [.slice A p.code.length c, .slice A' p.words.length c', .int .i64 p.locks, .int .i64 p.regs] :: M)) ?_ ?_
  · (repeat refine E.Run.seq ?_)
    refine E.Run.region ?_
    first | refine E.Ops.q _ (E.q_fieldAddr' rfl rfl fo_29_0) rfl rfl ?_ | refine E.Ops.q _ (E.q_fieldAddr rfl rfl fo_29_0) rfl rfl ?_
    refine E.Ops.q _ (E.q_load rfl rfl (by first | refine E.LoadAt.own E.ixA sc_27 (by rfl) | exact E.LoadAt.ro sc_27 (by assumption) | exact E.LoadAt.arr E.ixA sc_27 (by assumption))) rfl rfl ?_
    refine E.Ops.q _ (E.q_neq rfl rfl rfl) rfl rfl ?_
    refine E.Ops.nil ?_
    try simp only [E.tn, E.tx, E.tr, E.bn, E.br, E.bs]
    (repeat refine E.Run.seq ?_); refine E.Run.condD rfl (fun h10 => ?_) (fun h10 => ?_)
    · (repeat refine E.Run.seq ?_)
      refine E.Run.region ?_
      refine E.Ops.q _ (E.q_mv rfl rfl) rfl rfl ?_
      refine E.Ops.nil ?_
      try simp only [E.tn, E.tx, E.tr, E.bn, E.br, E.bs]
      refine E.Run.ret ?_
      try simp only [E.tn, E.tx, E.tr, E.bn, E.br, E.bs]
      exact ⟨_, _, _, E.ResOk.one rfl rfl, E.Ent.of E.entA, hK ρ5 hle35⟩
    · refine E.Run.skip ?_
      try simp only [E.tn, E.tx, E.tr, E.bn, E.br, E.bs]
      exact ⟨Classical.not_not.1 h10, by ((repeat refine E.SubEnv.cons rfl ?_); exact E.SubEnv.nil _), by exact E.Ent.of E.entA⟩
  rintro L1 ρ1' M1 ⟨h0, hs, he⟩
  refine E.Run.sub hs (E.Run.ent he ?_)
  clear hs he
  have hpo := chk_ok.1 h0
  have hca' : ConstOf p a := by
    rcases hca with ⟨h, _⟩ | ⟨_, h⟩
    · exact absurd h0 h
    · exact h
  have hcb' : DeadOf p b := by
    rcases hcb with ⟨h, _⟩ | ⟨_, h⟩
    · exact absurd h0 h
    · exact h
  have hao := hca'.ok hpo
  have hchka := chk_zero (chk_ok.2 hao)
  (repeat refine E.Run.seq ?_)
  refine E.Run.region ?_
  refine E.Ops.q _ (E.q_load rfl rfl (by first | refine E.LoadAt.ownAgg E.ixA 4 ag_25 (by rfl) (by rfl) | exact E.LoadAt.roAgg ag_25 (by assumption) rfl)) rfl rfl ?_
  refine E.Ops.loud rfl rfl ?_
  refine E.l_call Try.func13 nm_13 nb_13 rfl ?_; refine optConst' B B' d d' a (ha.mono hle5) (fun ρ6 B3 d3 B3' d3' q hle6 hq hcq => ?_); rw [hchka]; obtain ⟨qc, qw, ql, qr⟩ := q; obtain rfl : a.code = qc := (ConstOf.twice hpo hca' (ConstRes.of_ok hao hcq)).symm
  refine E.Ops.q _ (E.q_move rfl rfl) rfl rfl ?_
  refine E.Ops.q _ (E.q_extract rfl rfl rfl) rfl rfl ?_
  refine E.Ops.q _ (E.q_extract rfl rfl rfl) rfl rfl ?_
  refine E.Ops.loud rfl rfl ?_
  refine E.l_alloc rfl ty_25 (fun b12_5 => ?_)
  refine E.Ops.loud rfl rfl ?_
  refine E.l_store rfl rfl rfl E.ixA 4 sz_25 (by rfl) (by rfl) (by rfl) (by rfl) ?_
  refine E.Ops.loud rfl rfl ?_
  refine E.l_store rfl rfl rfl E.ixA 3 sz_29 (by rfl) (by rfl) (by rfl) (by rfl) ?_
  refine E.Ops.nil ?_
  try simp only [E.tn, E.tx, E.tr, E.bn, E.br, E.bs]
  have hp6 := (hpA.mono (hle4.trans hle5)).mono hle6
  have ha6 := (ha.mono hle5).mono hle6
  have hb6 := hb.mono hle6
  have hl1 := hca'.len
  have hl2 := hcb'.len
  have hn4 := hpo.four
  refine E.Run.seqCut (fun L' ρ' M' => E.SubEnv [(1, .pointer (some ⟨b0_0, 0, none⟩)), (5, .pointer (some ⟨b6_5, 0, none⟩)), (6, .pointer (some ⟨b7_5, 0, none⟩)), (8, .pointer (some ⟨b12_5, 0, none⟩))] L' ∧ E.Ent ρ' M' ρ6 (E.pt b12_5 25 [.slice B3 a.code.length d3, .slice B3' qw.length d3', .int .i64 ql, .int .i64 qr] :: E.pt b6_5 25 [.slice B a.code.length d, .slice B' a.words.length d', .int .i64 a.locks, .int .i64 a.regs] :: E.pt b7_5 25 [.slice B2 b.code.length d2, .slice B2' b.words.length d2', .int .i64 b.locks, .int .i64 b.regs] :: E.pt b0_0 25 [.slice A p.code.length c, .slice A' p.words.length c', .int .i64 p.locks, .int .i64 p.regs] :: M)) ?_ ?_
  · (repeat refine E.Run.seq ?_)
    refine E.Run.region ?_
    first | refine E.Ops.q _ (E.q_fieldAddr' rfl rfl fo_29_0) rfl rfl ?_ | refine E.Ops.q _ (E.q_fieldAddr rfl rfl fo_29_0) rfl rfl ?_
    refine E.Ops.q _ (E.q_load rfl rfl (by first | refine E.LoadAt.own E.ixA sc_27 (by rfl) | exact E.LoadAt.ro sc_27 (by assumption) | exact E.LoadAt.arr E.ixA sc_27 (by assumption))) rfl rfl ?_
    refine E.Ops.q _ ((E.q_neq rfl rfl rfl).isF (by simp)) rfl rfl ?_
    refine E.Ops.q _ (E.q_move rfl rfl) rfl rfl ?_
    first | refine E.Ops.q _ (E.q_fieldAddr' rfl rfl fo_25_0) rfl rfl ?_ | refine E.Ops.q _ (E.q_fieldAddr rfl rfl fo_25_0) rfl rfl ?_
    refine E.Ops.q _ (E.q_load rfl rfl (by first | refine E.LoadAt.own E.ixA sc_22 (by rfl) | exact E.LoadAt.ro sc_22 (by assumption) | exact E.LoadAt.arr E.ixA sc_22 (by assumption))) rfl rfl ?_
    refine E.Ops.q _ (E.q_lenSlice rfl Try.underlying22) rfl rfl ?_
    first | refine E.Ops.q _ (E.q_fieldAddr' rfl rfl fo_25_0) rfl rfl ?_ | refine E.Ops.q _ (E.q_fieldAddr rfl rfl fo_25_0) rfl rfl ?_
    refine E.Ops.q _ (E.q_load rfl rfl (by first | refine E.LoadAt.own E.ixA sc_22 (by rfl) | exact E.LoadAt.ro sc_22 (by assumption) | exact E.LoadAt.arr E.ixA sc_22 (by assumption))) rfl rfl ?_
    refine E.Ops.q _ (E.q_lenSlice rfl Try.underlying22) rfl rfl ?_
    refine E.Ops.q _ ((E.q_neq rfl rfl rfl).isF (by simp)) rfl rfl ?_
    refine E.Ops.q _ (E.q_pickF rfl rfl rfl) rfl rfl ?_
    refine E.Ops.q _ (E.q_move rfl rfl) rfl rfl ?_
    first | refine E.Ops.q _ (E.q_fieldAddr' rfl rfl fo_25_0) rfl rfl ?_ | refine E.Ops.q _ (E.q_fieldAddr rfl rfl fo_25_0) rfl rfl ?_
    refine E.Ops.q _ (E.q_load rfl rfl (by first | refine E.LoadAt.own E.ixA sc_22 (by rfl) | exact E.LoadAt.ro sc_22 (by assumption) | exact E.LoadAt.arr E.ixA sc_22 (by assumption))) rfl rfl ?_
    refine E.Ops.q _ (E.q_lenSlice rfl Try.underlying22) rfl rfl ?_
    first | refine E.Ops.q _ (E.q_fieldAddr' rfl rfl fo_25_0) rfl rfl ?_ | refine E.Ops.q _ (E.q_fieldAddr rfl rfl fo_25_0) rfl rfl ?_
    refine E.Ops.q _ (E.q_load rfl rfl (by first | refine E.LoadAt.own E.ixA sc_22 (by rfl) | exact E.LoadAt.ro sc_22 (by assumption) | exact E.LoadAt.arr E.ixA sc_22 (by assumption))) rfl rfl ?_
    refine E.Ops.q _ (E.q_lenSlice rfl Try.underlying22) rfl rfl ?_
    refine E.Ops.q _ ((E.q_neq rfl rfl rfl).isF (by omega)) rfl rfl ?_
    refine E.Ops.q _ (E.q_pickF rfl rfl rfl) rfl rfl ?_
    refine E.Ops.nil ?_
    try simp only [E.tn, E.tx, E.tr, E.bn, E.br, E.bs]
    (repeat refine E.Run.seq ?_); refine E.Run.condF rfl ?_
    refine E.Run.skip ?_
    try simp only [E.tn, E.tx, E.tr, E.bn, E.br, E.bs]
    exact ⟨by ((repeat refine E.SubEnv.cons rfl ?_); exact E.SubEnv.nil _), by exact E.Ent.of E.entA⟩
  rintro L1 ρ1' M1 ⟨hs, he⟩
  refine E.Run.sub hs (E.Run.ent he ?_)
  clear hs he
  refine E.Run.seqCut (fun L' ρ' M' => E.SubEnv [] L' ∧ E.Ent ρ' M' ρ6 M) ?_ ?_
  · (repeat refine E.Run.seq ?_)
    refine E.Run.region ?_
    refine E.Ops.q _ (E.q_mv rfl rfl) rfl rfl ?_
    refine E.Ops.nil ?_
    try simp only [E.tn, E.tx, E.tr, E.bn, E.br, E.bs]
    (repeat refine E.Run.seq ?_); refine E.Run.block ?_
    (repeat refine E.Run.seq ?_); refine E.Run.loopS (fun (t : Nat) => [(1, .pointer (some ⟨b0_0, 0, none⟩)), (5, .pointer (some ⟨b6_5, 0, none⟩)), (6, .pointer (some ⟨b7_5, 0, none⟩)), (8, .pointer (some ⟨b12_5, 0, none⟩)), (9, .int .i64 t)]) ρ6 (fun t => E.pt b12_5 25 [.slice B3 a.code.length d3, .slice B3' qw.length d3', .int .i64 ql, .int .i64 qr] :: E.pt b6_5 25 [.slice B a.code.length d, .slice B' a.words.length d', .int .i64 a.locks, .int .i64 a.regs] :: E.pt b7_5 25 [.slice B2 b.code.length d2, .slice B2' b.words.length d2', .int .i64 b.locks, .int .i64 b.regs] :: E.pt b0_0 25 [.slice A p.code.length c, .slice A' p.words.length c', .int .i64 p.locks, .int .i64 p.regs] :: M) (fun t => t ≤ p.code.length) (fun t => p.code.length - t) 0 (Nat.zero_le _) (by ((repeat refine E.SubEnv.cons rfl ?_); exact E.SubEnv.nil _)) (by exact E.Ent.of E.entA) ?_
    intro t ht
    refine E.Run.seqCut (fun L' ρ' M' => t < p.code.length ∧ E.SubEnv [(1, .pointer (some ⟨b0_0, 0, none⟩)), (5, .pointer (some ⟨b6_5, 0, none⟩)), (6, .pointer (some ⟨b7_5, 0, none⟩)), (8, .pointer (some ⟨b12_5, 0, none⟩)), (9, .int .i64 t)] L' ∧ E.Ent ρ' M' ρ6 (E.pt b12_5 25 [.slice B3 a.code.length d3, .slice B3' qw.length d3', .int .i64 ql, .int .i64 qr] :: E.pt b6_5 25 [.slice B a.code.length d, .slice B' a.words.length d', .int .i64 a.locks, .int .i64 a.regs] :: E.pt b7_5 25 [.slice B2 b.code.length d2, .slice B2' b.words.length d2', .int .i64 b.locks, .int .i64 b.regs] :: E.pt b0_0 25 [.slice A p.code.length c, .slice A' p.words.length c', .int .i64 p.locks, .int .i64 p.regs] :: M)) ?_ ?_
    · (repeat refine E.Run.seq ?_)
      refine E.Run.region ?_
      refine E.Ops.q _ (E.q_move rfl rfl) rfl rfl ?_
      first | refine E.Ops.q _ (E.q_fieldAddr' rfl rfl fo_25_0) rfl rfl ?_ | refine E.Ops.q _ (E.q_fieldAddr rfl rfl fo_25_0) rfl rfl ?_
      refine E.Ops.q _ (E.q_load rfl rfl (by first | refine E.LoadAt.own E.ixA sc_22 (by rfl) | exact E.LoadAt.ro sc_22 (by assumption) | exact E.LoadAt.arr E.ixA sc_22 (by assumption))) rfl rfl ?_
      refine E.Ops.q _ (E.q_lenSlice rfl Try.underlying22) rfl rfl ?_
      refine E.Ops.q _ (E.q_lss rfl rfl rfl) rfl rfl ?_
      refine E.Ops.nil ?_
      try simp only [E.tn, E.tx, E.tr, E.bn, E.br, E.bs]
      (repeat refine E.Run.seq ?_); refine E.Run.condD rfl (fun h16 => ?_) (fun h16 => ?_)
      · refine E.Run.skip ?_
        try simp only [E.tn, E.tx, E.tr, E.bn, E.br, E.bs]
        exact ⟨by omega, by ((repeat refine E.SubEnv.cons rfl ?_); exact E.SubEnv.nil _), by exact E.Ent.of E.entA⟩
      · refine E.Run.exit ?_
        try simp only [E.tn, E.tx, E.tr, E.bn, E.br, E.bs]
        exact ⟨by ((repeat refine E.SubEnv.cons rfl ?_); exact E.SubEnv.nil _), by exact E.Ent.of E.entA⟩
    rintro L1 ρ1' M1 ⟨ht', hs, he⟩
    refine E.Run.sub hs (E.Run.ent he ?_)
    clear hs he
    have hta : t < a.code.length := by omega
    have htb : t < b.code.length := by omega
    obtain ⟨adp, hAp, Ap, cp, hcp, hrp⟩ := hp6.thread ht'
    obtain ⟨ada, hAa, Aa, ca, hcca, hra⟩ := ha6.thread hta
    obtain ⟨adb, hAb, Ab, cb, hccb, hrb⟩ := hb6.thread htb
    obtain ⟨adc, hAc, Ac, cc, hccc, hrc⟩ := hq.thread hta
    subst hAp; subst hAa; subst hAb; subst hAc
    have hsa : a.code[t].length ≤ p.code[t].length := by
      obtain ⟨St, _, he⟩ := hca'.thr t ht' hta
      rw [he]; exact constS_short _ _
    have hsb : b.code[t].length ≤ p.code[t].length := by
      obtain ⟨ys, _, he⟩ := hcb'.thr t ht' htb
      rw [he]; exact deadT_short _ _
    have hs4 := (hpo.thr _ (List.getElem_mem ht')).1
    have hccc' : E.cellOf ρ6.blk (adc.add (t * 1)) = some (.slice Ac a.code[t].length cc) := hccc
    have hrc' : E.RdF ρ6.blk E.encIns 4 Ac a.code[t] := hrc
    clear hccc hrc
    refine E.Run.seqCut (fun L' ρ' M' => E.SubEnv [(1, .pointer (some ⟨b0_0, 0, none⟩)), (5, .pointer (some ⟨b6_5, 0, none⟩)), (6, .pointer (some ⟨b7_5, 0, none⟩)), (8, .pointer (some ⟨b12_5, 0, none⟩)), (9, .int .i64 t)] L' ∧ E.Ent ρ' M' ρ6 (E.pt b12_5 25 [.slice (some adc) a.code.length d3, .slice B3' qw.length d3', .int .i64 ql, .int .i64 qr] :: E.pt b6_5 25 [.slice (some ada) a.code.length d, .slice B' a.words.length d', .int .i64 a.locks, .int .i64 a.regs] :: E.pt b7_5 25 [.slice (some adb) b.code.length d2, .slice B2' b.words.length d2', .int .i64 b.locks, .int .i64 b.regs] :: E.pt b0_0 25 [.slice (some adp) p.code.length c, .slice A' p.words.length c', .int .i64 p.locks, .int .i64 p.regs] :: M)) ?_ ?_
    · (repeat refine E.Run.seq ?_); refine E.Run.block ?_
      refine E.Run.seqCut (fun L' ρ' M' => E.SubEnv [(1, .pointer (some ⟨b0_0, 0, none⟩)), (5, .pointer (some ⟨b6_5, 0, none⟩)), (6, .pointer (some ⟨b7_5, 0, none⟩)), (8, .pointer (some ⟨b12_5, 0, none⟩)), (9, .int .i64 t)] L' ∧ E.Ent ρ' M' ρ6 (E.pt b12_5 25 [.slice (some adc) a.code.length d3, .slice B3' qw.length d3', .int .i64 ql, .int .i64 qr] :: E.pt b6_5 25 [.slice (some ada) a.code.length d, .slice B' a.words.length d', .int .i64 a.locks, .int .i64 a.regs] :: E.pt b7_5 25 [.slice (some adb) b.code.length d2, .slice B2' b.words.length d2', .int .i64 b.locks, .int .i64 b.regs] :: E.pt b0_0 25 [.slice (some adp) p.code.length c, .slice A' p.words.length c', .int .i64 p.locks, .int .i64 p.regs] :: M)) ?_ ?_
      · (repeat refine E.Run.seq ?_)
        refine E.Run.draw (.ph [0, 1, 2, 3, 4, 5, 6, 7, 8, 9, 10, 11, 12, 13, 14, 15, 16, 17, 18, 19, 20, 21, 22, 23, 24, 25, 26, 27, 28, 29, 30, 31, 32, 33, 34, 35, 36, 37, 38, 39, 40, 41, 42] (.nil)) _ _ Try.mixed (by kernel_rfl) (E.Ent.nil _ _) ?_
        refine E.Plan.ph (by exact E.Ent.of E.entA) ?_
        first | refine E.PlanQ.q _ rfl _ (E.q_fieldAddr' rfl rfl fo_25_0) rfl rfl ?_ | refine E.PlanQ.q _ rfl _ (E.q_fieldAddr rfl rfl fo_25_0) rfl rfl ?_
        refine E.PlanQ.q _ rfl _ (E.q_load rfl rfl (by first | refine E.LoadAt.own E.ixA sc_22 (by rfl) | exact E.LoadAt.ro sc_22 (by assumption) | exact E.LoadAt.arr E.ixA sc_22 (by assumption))) rfl rfl ?_
        refine E.PlanQ.q _ rfl _ (E.q_move rfl rfl) rfl rfl ?_
        first | refine E.PlanQ.q _ rfl _ (E.q_indexNat rfl rfl rfl so_22 (by first | assumption | omega)) rfl rfl ?_ | refine E.PlanQ.q _ rfl _ (E.q_indexAddr rfl rfl rfl so_22 (by omega) (by omega)) rfl rfl ?_
        refine E.PlanQ.q _ rfl _ (E.q_load rfl rfl (by exact E.LoadAt.ro sc_45 hcca)) rfl rfl ?_
        refine E.PlanQ.q _ rfl _ (E.q_lenSlice rfl Try.underlying45) rfl rfl ?_
        first | refine E.PlanQ.q _ rfl _ (E.q_fieldAddr' rfl rfl fo_25_0) rfl rfl ?_ | refine E.PlanQ.q _ rfl _ (E.q_fieldAddr rfl rfl fo_25_0) rfl rfl ?_
        refine E.PlanQ.q _ rfl _ (E.q_load rfl rfl (by first | refine E.LoadAt.own E.ixA sc_22 (by rfl) | exact E.LoadAt.ro sc_22 (by assumption) | exact E.LoadAt.arr E.ixA sc_22 (by assumption))) rfl rfl ?_
        refine E.PlanQ.q _ rfl _ (E.q_move rfl rfl) rfl rfl ?_
        first | refine E.PlanQ.q _ rfl _ (E.q_indexNat rfl rfl rfl so_22 (by first | assumption | omega)) rfl rfl ?_ | refine E.PlanQ.q _ rfl _ (E.q_indexAddr rfl rfl rfl so_22 (by omega) (by omega)) rfl rfl ?_
        refine E.PlanQ.q _ rfl _ (E.q_load rfl rfl (by exact E.LoadAt.ro sc_45 hcp)) rfl rfl ?_
        refine E.PlanQ.q _ rfl _ (E.q_lenSlice rfl Try.underlying45) rfl rfl ?_
        refine E.PlanQ.q _ rfl _ ((E.q_gtr rfl rfl rfl).isF (by omega)) rfl rfl ?_
        refine E.PlanQ.q _ rfl _ (E.q_move rfl rfl) rfl rfl ?_
        first | refine E.PlanQ.q _ rfl _ (E.q_fieldAddr' rfl rfl fo_25_0) rfl rfl ?_ | refine E.PlanQ.q _ rfl _ (E.q_fieldAddr rfl rfl fo_25_0) rfl rfl ?_
        refine E.PlanQ.q _ rfl _ (E.q_load rfl rfl (by first | refine E.LoadAt.own E.ixA sc_22 (by rfl) | exact E.LoadAt.ro sc_22 (by assumption) | exact E.LoadAt.arr E.ixA sc_22 (by assumption))) rfl rfl ?_
        refine E.PlanQ.q _ rfl _ (E.q_move rfl rfl) rfl rfl ?_
        first | refine E.PlanQ.q _ rfl _ (E.q_indexNat rfl rfl rfl so_22 (by first | assumption | omega)) rfl rfl ?_ | refine E.PlanQ.q _ rfl _ (E.q_indexAddr rfl rfl rfl so_22 (by omega) (by omega)) rfl rfl ?_
        refine E.PlanQ.q _ rfl _ (E.q_load rfl rfl (by exact E.LoadAt.ro sc_45 hccb)) rfl rfl ?_
        refine E.PlanQ.q _ rfl _ (E.q_lenSlice rfl Try.underlying45) rfl rfl ?_
        first | refine E.PlanQ.q _ rfl _ (E.q_fieldAddr' rfl rfl fo_25_0) rfl rfl ?_ | refine E.PlanQ.q _ rfl _ (E.q_fieldAddr rfl rfl fo_25_0) rfl rfl ?_
        refine E.PlanQ.q _ rfl _ (E.q_load rfl rfl (by first | refine E.LoadAt.own E.ixA sc_22 (by rfl) | exact E.LoadAt.ro sc_22 (by assumption) | exact E.LoadAt.arr E.ixA sc_22 (by assumption))) rfl rfl ?_
        refine E.PlanQ.q _ rfl _ (E.q_move rfl rfl) rfl rfl ?_
        first | refine E.PlanQ.q _ rfl _ (E.q_indexNat rfl rfl rfl so_22 (by first | assumption | omega)) rfl rfl ?_ | refine E.PlanQ.q _ rfl _ (E.q_indexAddr rfl rfl rfl so_22 (by omega) (by omega)) rfl rfl ?_
        refine E.PlanQ.q _ rfl _ (E.q_load rfl rfl (by exact E.LoadAt.ro sc_45 hcp)) rfl rfl ?_
        refine E.PlanQ.q _ rfl _ (E.q_lenSlice rfl Try.underlying45) rfl rfl ?_
        refine E.PlanQ.q _ rfl _ ((E.q_gtr rfl rfl rfl).isF (by omega)) rfl rfl ?_
        refine E.PlanQ.q _ rfl _ (E.q_pickF rfl rfl rfl) rfl rfl ?_
        refine E.PlanQ.q _ rfl _ (E.q_move rfl rfl) rfl rfl ?_
        first | refine E.PlanQ.q _ rfl _ (E.q_fieldAddr' rfl rfl fo_25_0) rfl rfl ?_ | refine E.PlanQ.q _ rfl _ (E.q_fieldAddr rfl rfl fo_25_0) rfl rfl ?_
        refine E.PlanQ.q _ rfl _ (E.q_load rfl rfl (by first | refine E.LoadAt.own E.ixA sc_22 (by rfl) | exact E.LoadAt.ro sc_22 (by assumption) | exact E.LoadAt.arr E.ixA sc_22 (by assumption))) rfl rfl ?_
        refine E.PlanQ.q _ rfl _ (E.q_move rfl rfl) rfl rfl ?_
        first | refine E.PlanQ.q _ rfl _ (E.q_indexNat rfl rfl rfl so_22 (by first | assumption | omega)) rfl rfl ?_ | refine E.PlanQ.q _ rfl _ (E.q_indexAddr rfl rfl rfl so_22 (by omega) (by omega)) rfl rfl ?_
        refine E.PlanQ.q _ rfl _ (E.q_load rfl rfl (by exact E.LoadAt.ro sc_45 hccc')) rfl rfl ?_
        refine E.PlanQ.q _ rfl _ (E.q_lenSlice rfl Try.underlying45) rfl rfl ?_
        first | refine E.PlanQ.q _ rfl _ (E.q_fieldAddr' rfl rfl fo_25_0) rfl rfl ?_ | refine E.PlanQ.q _ rfl _ (E.q_fieldAddr rfl rfl fo_25_0) rfl rfl ?_
        refine E.PlanQ.q _ rfl _ (E.q_load rfl rfl (by first | refine E.LoadAt.own E.ixA sc_22 (by rfl) | exact E.LoadAt.ro sc_22 (by assumption) | exact E.LoadAt.arr E.ixA sc_22 (by assumption))) rfl rfl ?_
        refine E.PlanQ.q _ rfl _ (E.q_move rfl rfl) rfl rfl ?_
        first | refine E.PlanQ.q _ rfl _ (E.q_indexNat rfl rfl rfl so_22 (by first | assumption | omega)) rfl rfl ?_ | refine E.PlanQ.q _ rfl _ (E.q_indexAddr rfl rfl rfl so_22 (by omega) (by omega)) rfl rfl ?_
        refine E.PlanQ.q _ rfl _ (E.q_load rfl rfl (by exact E.LoadAt.ro sc_45 hcca)) rfl rfl ?_
        refine E.PlanQ.q _ rfl _ (E.q_lenSlice rfl Try.underlying45) rfl rfl ?_
        refine E.PlanQ.q _ rfl _ ((E.q_neq rfl rfl rfl).isF (by simp)) rfl rfl ?_
        refine E.PlanQ.q _ rfl _ (E.q_pickF rfl rfl rfl) rfl rfl ?_
        refine E.PlanQ.nil ?_
        refine E.Plan.nil ?_
        try simp only [E.tn, E.tx, E.tr, E.bn, E.br, E.bs]
        (repeat refine E.Run.seq ?_); refine E.Run.condF rfl ?_
        refine E.Run.skip ?_
        try simp only [E.tn, E.tx, E.tr, E.bn, E.br, E.bs]
        exact ⟨by ((repeat refine E.SubEnv.cons rfl ?_); exact E.SubEnv.nil _), by exact E.Ent.of E.entA⟩
      rintro L1 ρ1' M1 ⟨hs, he⟩
      refine E.Run.sub hs (E.Run.ent he ?_)
      clear hs he
      (repeat refine E.Run.seq ?_)
      refine E.Run.region ?_
      refine E.Ops.q _ (E.q_mv rfl rfl) rfl rfl ?_
      refine E.Ops.nil ?_
      try simp only [E.tn, E.tx, E.tr, E.bn, E.br, E.bs]
      (repeat refine E.Run.seq ?_); refine E.Run.block ?_
      (repeat refine E.Run.seq ?_); refine E.Run.loopS (fun (i : Nat) => [(1, .pointer (some ⟨b0_0, 0, none⟩)), (5, .pointer (some ⟨b6_5, 0, none⟩)), (6, .pointer (some ⟨b7_5, 0, none⟩)), (8, .pointer (some ⟨b12_5, 0, none⟩)), (9, .int .i64 t), (10, .int .i64 i)]) ρ6 (fun i => E.pt b12_5 25 [.slice (some adc) a.code.length d3, .slice B3' qw.length d3', .int .i64 ql, .int .i64 qr] :: E.pt b6_5 25 [.slice (some ada) a.code.length d, .slice B' a.words.length d', .int .i64 a.locks, .int .i64 a.regs] :: E.pt b7_5 25 [.slice (some adb) b.code.length d2, .slice B2' b.words.length d2', .int .i64 b.locks, .int .i64 b.regs] :: E.pt b0_0 25 [.slice (some adp) p.code.length c, .slice A' p.words.length c', .int .i64 p.locks, .int .i64 p.regs] :: M) (fun i => i ≤ a.code[t].length) (fun i => a.code[t].length - i) 0 (Nat.zero_le _) (by ((repeat refine E.SubEnv.cons rfl ?_); exact E.SubEnv.nil _)) (by exact E.Ent.of E.entA) ?_
      intro i hi
      refine E.Run.seqCut (fun L' ρ' M' => i < a.code[t].length ∧ E.SubEnv [(1, .pointer (some ⟨b0_0, 0, none⟩)), (5, .pointer (some ⟨b6_5, 0, none⟩)), (6, .pointer (some ⟨b7_5, 0, none⟩)), (8, .pointer (some ⟨b12_5, 0, none⟩)), (9, .int .i64 t), (10, .int .i64 i)] L' ∧ E.Ent ρ' M' ρ6 (E.pt b12_5 25 [.slice (some adc) a.code.length d3, .slice B3' qw.length d3', .int .i64 ql, .int .i64 qr] :: E.pt b6_5 25 [.slice (some ada) a.code.length d, .slice B' a.words.length d', .int .i64 a.locks, .int .i64 a.regs] :: E.pt b7_5 25 [.slice (some adb) b.code.length d2, .slice B2' b.words.length d2', .int .i64 b.locks, .int .i64 b.regs] :: E.pt b0_0 25 [.slice (some adp) p.code.length c, .slice A' p.words.length c', .int .i64 p.locks, .int .i64 p.regs] :: M)) ?_ ?_
      · (repeat refine E.Run.seq ?_)
        refine E.Run.region ?_
        refine E.Ops.q _ (E.q_move rfl rfl) rfl rfl ?_
        first | refine E.Ops.q _ (E.q_fieldAddr' rfl rfl fo_25_0) rfl rfl ?_ | refine E.Ops.q _ (E.q_fieldAddr rfl rfl fo_25_0) rfl rfl ?_
        refine E.Ops.q _ (E.q_load rfl rfl (by first | refine E.LoadAt.own E.ixA sc_22 (by rfl) | exact E.LoadAt.ro sc_22 (by assumption) | exact E.LoadAt.arr E.ixA sc_22 (by assumption))) rfl rfl ?_
        refine E.Ops.q _ (E.q_move rfl rfl) rfl rfl ?_
        first | refine E.Ops.q _ (E.q_indexNat rfl rfl rfl so_22 (by first | assumption | omega)) rfl rfl ?_ | refine E.Ops.q _ (E.q_indexAddr rfl rfl rfl so_22 (by omega) (by omega)) rfl rfl ?_
        refine E.Ops.q _ (E.q_load rfl rfl (by exact E.LoadAt.ro sc_45 hcca)) rfl rfl ?_
        refine E.Ops.q _ (E.q_lenSlice rfl Try.underlying45) rfl rfl ?_
        refine E.Ops.q _ (E.q_lss rfl rfl rfl) rfl rfl ?_
        refine E.Ops.nil ?_
        try simp only [E.tn, E.tx, E.tr, E.bn, E.br, E.bs]
        (repeat refine E.Run.seq ?_); refine E.Run.condD rfl (fun h21 => ?_) (fun h21 => ?_)
        · refine E.Run.skip ?_
          try simp only [E.tn, E.tx, E.tr, E.bn, E.br, E.bs]
          exact ⟨by omega, by ((repeat refine E.SubEnv.cons rfl ?_); exact E.SubEnv.nil _), by exact E.Ent.of E.entA⟩
        · refine E.Run.exit ?_
          try simp only [E.tn, E.tx, E.tr, E.bn, E.br, E.bs]
          exact ⟨by ((repeat refine E.SubEnv.cons rfl ?_); exact E.SubEnv.nil _), by exact E.Ent.of E.entA⟩
      rintro L1 ρ1' M1 ⟨hi', hs, he⟩
      refine E.Run.sub hs (E.Run.ent he ?_)
      clear hs he
      obtain ⟨adi, hAi, _, hai⟩ := hra.at hi'
      obtain ⟨adj, hAj, _, haj⟩ := hrc'.at hi'
      subst hAi; subst hAj
      generalize a.code[t][i] = x at hai haj
      (repeat refine E.Run.seq ?_); refine E.Run.block ?_
      (repeat refine E.Run.seq ?_)
      refine E.Run.draw (.ph [0, 1, 2, 3, 4, 5, 6, 7, 8, 9, 10, 11, 12, 13, 14, 15, 16] (.nil)) _ _ Try.mixed (by kernel_rfl) (E.Ent.nil _ _) ?_
      refine E.Plan.ph (by exact E.Ent.of E.entA) ?_
      first | refine E.PlanQ.q _ rfl _ (E.q_fieldAddr' rfl rfl fo_25_0) rfl rfl ?_ | refine E.PlanQ.q _ rfl _ (E.q_fieldAddr rfl rfl fo_25_0) rfl rfl ?_
      refine E.PlanQ.q _ rfl _ (E.q_load rfl rfl (by first | refine E.LoadAt.own E.ixA sc_22 (by rfl) | exact E.LoadAt.ro sc_22 (by assumption) | exact E.LoadAt.arr E.ixA sc_22 (by assumption))) rfl rfl ?_
      refine E.PlanQ.q _ rfl _ (E.q_move rfl rfl) rfl rfl ?_
      first | refine E.PlanQ.q _ rfl _ (E.q_indexNat rfl rfl rfl so_22 (by first | assumption | omega)) rfl rfl ?_ | refine E.PlanQ.q _ rfl _ (E.q_indexAddr rfl rfl rfl so_22 (by omega) (by omega)) rfl rfl ?_
      refine E.PlanQ.q _ rfl _ (E.q_load rfl rfl (by exact E.LoadAt.ro sc_45 hcca)) rfl rfl ?_
      refine E.PlanQ.q _ rfl _ (E.q_move rfl rfl) rfl rfl ?_
      first | refine E.PlanQ.q _ rfl _ (E.q_indexNat rfl rfl rfl so_45 (by first | assumption | omega)) rfl rfl ?_ | refine E.PlanQ.q _ rfl _ (E.q_indexAddr rfl rfl rfl so_45 (by omega) (by omega)) rfl rfl ?_
      refine E.PlanQ.q _ rfl _ (E.q_load rfl rfl (by exact E.LoadAt.roAgg ag_44 hai rfl)) rfl rfl ?_
      first | refine E.PlanQ.q _ rfl _ (E.q_fieldAddr' rfl rfl fo_25_0) rfl rfl ?_ | refine E.PlanQ.q _ rfl _ (E.q_fieldAddr rfl rfl fo_25_0) rfl rfl ?_
      refine E.PlanQ.q _ rfl _ (E.q_load rfl rfl (by first | refine E.LoadAt.own E.ixA sc_22 (by rfl) | exact E.LoadAt.ro sc_22 (by assumption) | exact E.LoadAt.arr E.ixA sc_22 (by assumption))) rfl rfl ?_
      refine E.PlanQ.q _ rfl _ (E.q_move rfl rfl) rfl rfl ?_
      first | refine E.PlanQ.q _ rfl _ (E.q_indexNat rfl rfl rfl so_22 (by first | assumption | omega)) rfl rfl ?_ | refine E.PlanQ.q _ rfl _ (E.q_indexAddr rfl rfl rfl so_22 (by omega) (by omega)) rfl rfl ?_
      refine E.PlanQ.q _ rfl _ (E.q_load rfl rfl (by exact E.LoadAt.ro sc_45 hccc')) rfl rfl ?_
      refine E.PlanQ.q _ rfl _ (E.q_move rfl rfl) rfl rfl ?_
      first | refine E.PlanQ.q _ rfl _ (E.q_indexNat rfl rfl rfl so_45 (by first | assumption | omega)) rfl rfl ?_ | refine E.PlanQ.q _ rfl _ (E.q_indexAddr rfl rfl rfl so_45 (by omega) (by omega)) rfl rfl ?_
      refine E.PlanQ.q _ rfl _ (E.q_load rfl rfl (by exact E.LoadAt.roAgg ag_44 haj rfl)) rfl rfl ?_
      refine E.PlanQ.q _ rfl _ ((E.q_neqInts (xs := [x.op, x.a, x.b, x.c]) (ys := [x.op, x.a, x.b, x.c]) rfl rfl rfl ist_44 rfl rfl).isF (by simp)) rfl rfl ?_
      refine E.PlanQ.nil ?_
      refine E.Plan.nil ?_
      try simp only [E.tn, E.tx, E.tr, E.bn, E.br, E.bs]
      (repeat refine E.Run.seq ?_); refine E.Run.condF rfl ?_
      refine E.Run.skip ?_
      try simp only [E.tn, E.tx, E.tr, E.bn, E.br, E.bs]
      (repeat refine E.Run.seq ?_)
      refine E.Run.region ?_
      refine E.Ops.q _ (E.q_move rfl rfl) rfl rfl ?_
      first | refine E.Ops.q _ (E.q_incr rfl rfl (by omega)) rfl rfl ?_ | refine E.Ops.q _ (E.q_addFit rfl rfl rfl (by omega)) rfl rfl ?_ | refine E.Ops.q _ (E.q_add rfl rfl rfl) rfl rfl ?_
      refine E.Ops.q _ (E.q_mv rfl rfl) rfl rfl ?_
      refine E.Ops.nil ?_
      try simp only [E.tn, E.tx, E.tr, E.bn, E.br, E.bs]
      exact ⟨i + 1, by omega, by omega, by ((repeat refine E.SubEnv.cons rfl ?_); exact E.SubEnv.nil _), by exact E.Ent.of E.entA⟩
    rintro L1 ρ1' M1 ⟨hs, he⟩
    refine E.Run.sub hs (E.Run.ent he ?_)
    clear hs he
    (repeat refine E.Run.seq ?_)
    refine E.Run.region ?_
    refine E.Ops.q _ (E.q_move rfl rfl) rfl rfl ?_
    first | refine E.Ops.q _ (E.q_incr rfl rfl (by omega)) rfl rfl ?_ | refine E.Ops.q _ (E.q_addFit rfl rfl rfl (by omega)) rfl rfl ?_ | refine E.Ops.q _ (E.q_add rfl rfl rfl) rfl rfl ?_
    refine E.Ops.q _ (E.q_mv rfl rfl) rfl rfl ?_
    refine E.Ops.nil ?_
    try simp only [E.tn, E.tx, E.tr, E.bn, E.br, E.bs]
    exact ⟨t + 1, by omega, by omega, by ((repeat refine E.SubEnv.cons rfl ?_); exact E.SubEnv.nil _), by exact E.Ent.of E.entA⟩
  rintro L1 ρ1' M1 ⟨hs, he⟩
  refine E.Run.sub hs (E.Run.ent he ?_)
  clear hs he
  (repeat refine E.Run.seq ?_)
  refine E.Run.region ?_
  refine E.Ops.q _ (E.q_mv rfl rfl) rfl rfl ?_
  refine E.Ops.nil ?_
  try simp only [E.tn, E.tx, E.tr, E.bn, E.br, E.bs]
  refine E.Run.ret ?_
  try simp only [E.tn, E.tx, E.tr, E.bn, E.br, E.bs]
  exact ⟨_, _, _, E.ResOk.one rfl rfl, E.Ent.of E.entA, hK ρ6 (hle35.trans hle6)⟩
end Go.Proofs.Ythpgjbdacknkgaa
