/- opt's order, walked. No statement of the seat in it. -/
import Derived.Test.YthpgjbdacknkgaaO4
set_option linter.unusedVariables false
set_option linter.unusedSimpArgs false
namespace Go.Proofs.Ythpgjbdacknkgaa
open Go
private theorem ag_172 : E.isAggOf Try.prog 172 2 = true := by kernel_rfl
private theorem ag_44 : E.isAggOf Try.prog 44 4 = true := by kernel_rfl
private theorem fo_169_0 : E.fieldOff Try.prog 169 0 = some 0 := by kernel_rfl
private theorem fo_169_1 : E.fieldOff Try.prog 169 1 = some 1 := by kernel_rfl
private theorem fo_172_0 : E.fieldOff Try.prog 172 0 = some 0 := by kernel_rfl
private theorem fo_172_1 : E.fieldOff Try.prog 172 1 = some 1 := by kernel_rfl
private theorem fo_44_0 : E.fieldOff Try.prog 44 0 = some 0 := by kernel_rfl
private theorem fo_44_1 : E.fieldOff Try.prog 44 1 = some 1 := by kernel_rfl
private theorem fo_44_2 : E.fieldOff Try.prog 44 2 = some 2 := by kernel_rfl
private theorem ik_167 : E.isIntKey Try.prog 167 = some 170 := by kernel_rfl
private theorem ik_170 : E.isIntKey Try.prog 170 = some 172 := by kernel_rfl
private theorem nb_133 : Try.f133.body.isNone = false := by kernel_rfl
private theorem nb_90 : Try.f90.body.isNone = false := by kernel_rfl
private theorem nb_92 : Try.f92.body.isNone = false := by kernel_rfl
private theorem nb_93 : Try.f93.body.isNone = false := by kernel_rfl
private theorem nb_94 : Try.f94.body.isNone = false := by kernel_rfl
private theorem nm_133 : (Try.f133.name == "runtime.NumGoroutine") = false := by kernel_rfl
private theorem nm_90 : (Try.f90.name == "runtime.NumGoroutine") = false := by kernel_rfl
private theorem nm_92 : (Try.f92.name == "runtime.NumGoroutine") = false := by kernel_rfl
private theorem nm_93 : (Try.f93.name == "runtime.NumGoroutine") = false := by kernel_rfl
private theorem nm_94 : (Try.f94.name == "runtime.NumGoroutine") = false := by kernel_rfl
private theorem pl_172 : E.placesOf Try.prog 172 = some ([.int .i64 0, .int .i64 0], [(0, 1), (1, 1)]) := by kernel_rfl
private theorem sc_167 : E.isScal Try.prog 167 = true := by kernel_rfl
private theorem sc_3 : E.isScal Try.prog 3 = true := by kernel_rfl
private theorem sc_45 : E.isScal Try.prog 45 = true := by kernel_rfl
private theorem so_23 : E.sliceOf Try.prog 23 = some (3, 1) := by kernel_rfl
private theorem so_45 : E.sliceOf Try.prog 45 = some (44, 4) := by kernel_rfl
private theorem sz_172 : (Try.prog.info? 172).map (·.size) = some 2 := by kernel_rfl
private theorem sz_44 : (Try.prog.info? 44).map (·.size) = some 4 := by kernel_rfl
private theorem ty_170 : E.tyOf Try.prog 170 = some (some (.map none), 1, 8) := by kernel_rfl
private theorem ty_172 : E.tyOf Try.prog 172 = some (some (.agg #[.int .i64 0, .int .i64 0]), 2, 16) := by kernel_rfl
private theorem ty_44 : E.tyOf Try.prog 44 = some (some (.agg #[.int .i64 0, .int .i64 0, .int .i64 0, .int .i64 0]), 4, 32) := by kernel_rfl

theorem l_updE {P : Program} {L : E.Env} {ρ : E.Ro} {M : List E.Asr} {o : Oper} {K : Value → E.Ro → List E.Asr → Prop} {t e : TypeId} {m x y : Operand} {b R : Nat} {V : Int → Vl} {k : Int} (v : Vl) {f : E.Asr → List E.Asr} (ho : o.op = .mapUpdate t m x y ∨ o.op = .insert t m x y) (hm : E.ev L m = some (.map (some b))) (hx : E.ev L x = some (.int .i64 k)) (hy : E.ev L y = some (vlV v))
    (hk : E.Ix M (E.mpG b R (envG R V)) f) (hin : 0 ≤ k ∧ k < R) (ht : E.isIntKey P t = some e) (h : K undef ρ (f (E.mpG b R (envG R (updE V k v))))) : E.LOp P L ρ M o K := by
  refine E.l_mapUpdateG ho hm hx hy hk ht ?_
  rw [envG_upd hin, if_pos (by rw [envG_in hin]; rfl)]
  exact h
theorem q_lookupV {P : Program} {L : E.Env} {ρ : E.Ro} {M : List E.Asr} {o : Oper} {t e : TypeId} {m x : Operand} {b n : Nat} {g : Int → Option Value} {k : Int} {z : Value} {sz by' : Nat} {r : Option Value} (hk : E.GIs ρ M b n g) (h : g k = r) (ho : o.op = .lookup t m x false) (hm : E.ev L m = some (.map (some b))) (hx : E.ev L x = some (.int .i64 k))
    (ht : E.isIntKey P t = some e) (hz : E.tyOf P e = some (some z, sz, by')) : E.QOp P L ρ M o (r.getD z) := by
  subst h
  exact E.q_lookupG ho hm hx hk ht hz

/-- registers behind an order -/
def flowV (i : E.Ins) (V : Int → Vl) : Int → Vl := match reck i V with
  | some v => updE V i.a v
  | none => if insWrites i ≥ 0 then updE V (insWrites i) ⟨2, 0⟩ else V
/-- what is led to by an order -/
def goesV (k : Int) (i : E.Ins) (V : Int → Vl) : List Int :=
  if i.op ≠ 15 then insNexts k i else
    (if (V i.a).st = 2 ∨ (V i.a).st = 1 ∧ (V i.a).n ≠ 0 then [k + 1] else []) ++ (if (V i.a).st = 2 ∨ (V i.a).st = 1 ∧ (V i.a).n = 0 then [i.b] else [])
def leadsS (R : Nat) (V : Int → Vl) (s : StE × List Int) (l : List Int) : StE × List Int := l.foldl (fun s to' => leadS R s to' V) s
theorem leadS_len (R : Nat) (s : StE × List Int) (to' : Int) (V : Int → Vl) : (leadS R s to' V).2.length ≤ s.2.length + 1 := by
  unfold leadS
  split
  · simp
  · split
    · omega
    · simp
theorem leadsS_len (R : Nat) (V : Int → Vl) : ∀ (l : List Int) (s : StE × List Int), (leadsS R V s l).2.length ≤ s.2.length + l.length
  | [], s => by simp [leadsS]
  | x :: l, s => by
    have h1 := leadS_len R s x V
    have h2 := leadsS_len R V l (leadS R s x V)
    have : leadsS R V s (x :: l) = leadsS R V (leadS R s x V) l := rfl
    rw [this, List.length_cons]; omega
/-- an order's registers are there -/
structure InsIn (R : Nat) (i : E.Ins) : Prop where
  reads : readsIn R i
  writes : (reck i (fun _ => ⟨2, 0⟩)).isSome = true → 0 ≤ i.a ∧ i.a < R
  writes' : insWrites i ≥ 0 → insWrites i < R
  zero : i.op = 15 → 0 ≤ i.a ∧ i.a < R
theorem reck_some (i : E.Ins) (V W : Int → Vl) : (reck i V).isSome = (reck i W).isSome := by
  unfold reck
  split
  · rfl
  · split
    · rfl
    · split
      · split <;> split <;> (try rfl) <;> split <;> (try rfl) <;> split <;> rfl
      · rfl

set_option maxRecDepth 100000 in
theorem optOrder {ρ : E.Ro} {M : List E.Asr} {K : Value → E.Ro → List E.Asr → Prop} (bl bA nA R : Nat) (cA : Option Addr) (cc : Nat) (code : List E.Ins) (wA : Option Addr) (wc : Nat) (gA : Int → Option Value) (St : StE) (ws : List Int) (k : Nat) (V : Int → Vl)
    (hcode : E.RdF ρ.blk E.encIns 4 cA code) (hsz : code.length ≤ 4398046511104) (hk : k < code.length) (hin : InsIn R code[k])
    (hA : AhRel ρ R gA St) (hV : St k = some V) (hw : ws.length ≤ 2199023255552)
    (hK : ∀ ρ' wA' wc' nA' gA', E.Ro.le ρ ρ' → AhRel ρ' R gA' (leadsS R (flowV code[k] V) (St, ws) (goesV k code[k] V)).1 → K (.tuple #[]) ρ' (E.pt bl 169 [.slice cA code.length cc, .map (some bA), .slice wA' (leadsS R (flowV code[k] V) (St, ws) (goesV k code[k] V)).2.length wc'] :: E.mpG bA nA' gA' :: E.arr 3 1 wA' (leadsS R (flowV code[k] V) (St, ws) (goesV k code[k] V)).2.length wc' ((leadsS R (flowV code[k] V) (St, ws) (goesV k code[k] V)).2.flatMap E.encI) :: M)) :
    E.Hoa Try.prog 91 #[.pointer (some ⟨bl, 0, none⟩), .int .i64 k] ρ (E.pt bl 169 [.slice cA code.length cc, .map (some bA), .slice wA ws.length wc] :: E.mpG bA nA gA :: E.arr 3 1 wA ws.length wc (ws.flatMap E.encI) :: M) K := by
  obtain ⟨ad, rfl, _, hc⟩ := E.RdF.at hcode hk
  have hVb : ∃ b0, gA k = some (.map (some b0)) ∧ E.RoG ρ b0 R (envG R V) := by
    rcases hA k with ⟨h, _⟩ | ⟨V', b, h1, h2, h3⟩
    · rw [hV] at h; cases h
    · rw [hV] at h1; cases h1; exact ⟨b, h2, h3⟩
  obtain ⟨b0, hb0, hro⟩ := hVb
  generalize hi : code[k] = i at *
  refine E.Hoa.enter 103 Try.func91 rfl rfl rfl ?_
  refine E.Run.seqCut (fun L' ρ' M' => ∃ b4, E.SubEnv [(0, .pointer (some ⟨bl, 0, none⟩)), (1, .int .i64 k), (4, .pointer (some ⟨b4, 0, none⟩))] L' ∧ E.Ent ρ' M' ρ (E.pt b4 44 [.int .i64 i.op, .int .i64 i.a, .int .i64 i.b, .int .i64 i.c] :: E.pt bl 169 [.slice (some ad) code.length cc, .map (some bA), .slice wA ws.length wc] :: E.mpG bA nA gA :: E.arr 3 1 wA ws.length wc (ws.flatMap E.encI) :: M)) ?_ ?_
  · (repeat refine E.Run.seq ?_)
    refine E.Run.region ?_
    refine E.Ops.q _ (E.q_move rfl rfl) rfl rfl ?_
    refine E.Ops.q _ (E.q_nilCheck rfl rfl) rfl rfl ?_
    first | refine E.Ops.q _ (E.q_fieldAddr' rfl rfl fo_169_0) rfl rfl ?_ | refine E.Ops.q _ (E.q_fieldAddr rfl rfl fo_169_0) rfl rfl ?_
    refine E.Ops.q _ (E.q_load rfl rfl (by first | refine E.LoadAt.own E.ixA sc_45 (by rfl) | exact E.LoadAt.ro sc_45 (by assumption) | exact E.LoadAt.arr E.ixA sc_45 (by assumption) | exact E.LoadAt.ro sc_45 (hc _ _ rfl))) rfl rfl ?_
    refine E.Ops.q _ (E.q_move rfl rfl) rfl rfl ?_
    first | refine E.Ops.q _ (E.q_indexNat rfl rfl rfl so_45 (by first | assumption | omega)) rfl rfl ?_ | refine E.Ops.q _ (E.q_indexAddr rfl rfl rfl so_45 (by omega) (by omega)) rfl rfl ?_
    refine E.Ops.q _ (E.q_load rfl rfl (by first | refine E.LoadAt.ownAgg E.ixA 4 ag_44 (by rfl) (by rfl) | exact E.LoadAt.roAgg ag_44 hc rfl | exact E.LoadAt.roAgg ag_44 (by assumption) rfl)) rfl rfl ?_
    refine E.Ops.loud rfl rfl ?_
    refine E.l_alloc rfl ty_44 (fun b0_7 => ?_)
    refine E.Ops.loud rfl rfl ?_
    refine E.l_store rfl rfl rfl E.ixA 4 sz_44 (by rfl) (by rfl) (by rfl) (by rfl) ?_
    refine E.Ops.nil ?_
    try simp only [E.tn, E.tx, E.tr, E.bn, E.br, E.bs]
    exact ⟨b0_7, by ((repeat refine E.SubEnv.cons rfl ?_); exact E.SubEnv.nil _), by exact E.Ent.of E.entA⟩
  rintro L ρ1 M1 ⟨b4, hs, he⟩
  refine E.Run.sub hs (E.Run.ent he ?_)
  clear hs he
  (repeat refine E.Run.seq ?_)
  refine E.Run.region ?_
  refine E.Ops.q _ (E.q_move rfl rfl) rfl rfl ?_
  refine E.Ops.q _ (E.q_nilCheck rfl rfl) rfl rfl ?_
  first | refine E.Ops.q _ (E.q_fieldAddr' rfl rfl fo_169_1) rfl rfl ?_ | refine E.Ops.q _ (E.q_fieldAddr rfl rfl fo_169_1) rfl rfl ?_
  refine E.Ops.q _ (E.q_load rfl rfl (by first | refine E.LoadAt.own E.ixA sc_167 (by rfl) | exact E.LoadAt.ro sc_167 (by assumption) | exact E.LoadAt.arr E.ixA sc_167 (by assumption) | exact E.LoadAt.ro sc_167 (hc _ _ rfl))) rfl rfl ?_
  refine E.Ops.q _ (E.q_move rfl rfl) rfl rfl ?_
  refine E.Ops.q _ (q_lookupV (E.GIs.own E.ixA) hb0 rfl rfl rfl ik_167 ty_170) rfl rfl ?_
  refine E.Ops.loud rfl rfl ?_
  refine E.l_call Try.func133 nm_133 nb_133 rfl ?_; refine mapsClone b0 R _ hro (fun be => ?_)
  refine E.Ops.q _ (E.q_mv rfl rfl) rfl rfl ?_
  refine E.Ops.nil ?_
  try simp only [E.tn, E.tx, E.tr, E.bn, E.br, E.bs]
  refine E.Run.seqCut (fun L' ρ' M' => E.SubEnv [(0, .pointer (some ⟨bl, 0, none⟩)), (1, .int .i64 k), (4, .pointer (some ⟨b4, 0, none⟩)), (5, .map (some be))] L' ∧ E.Ent ρ' M' ρ (E.mpG be R (envG R (flowV i V)) :: E.pt b4 44 [.int .i64 i.op, .int .i64 i.a, .int .i64 i.b, .int .i64 i.c] :: E.pt bl 169 [.slice (some ad) code.length cc, .map (some bA), .slice wA ws.length wc] :: E.mpG bA nA gA :: E.arr 3 1 wA ws.length wc (ws.flatMap E.encI) :: M)) ?_ ?_
  · unfold flowV
    cases hrk : reck i V with
    | some v =>
      have hin' := hin.writes (by rw [reck_some i _ V, hrk]; rfl)
      (repeat refine E.Run.seq ?_)
      refine E.Run.region ?_
      refine E.Ops.q _ (E.q_load rfl rfl (by first | refine E.LoadAt.ownAgg E.ixA 4 ag_44 (by rfl) (by rfl) | exact E.LoadAt.roAgg ag_44 hc rfl | exact E.LoadAt.roAgg ag_44 (by assumption) rfl)) rfl rfl ?_
      refine E.Ops.q _ (E.q_move rfl rfl) rfl rfl ?_
      refine E.Ops.loud rfl rfl ?_
      refine E.l_call Try.func92 nm_92 nb_92 rfl ?_; refine optReckon i be R V (E.GIs.own E.ixA) hin.reads ?_; rw [hrk]
      refine E.Ops.q _ (E.q_move rfl rfl) rfl rfl ?_
      refine E.Ops.q _ (E.q_extract rfl rfl rfl) rfl rfl ?_
      refine E.Ops.q _ (E.q_extract rfl rfl rfl) rfl rfl ?_
      refine E.Ops.loud rfl rfl ?_
      refine E.l_alloc rfl ty_172 (fun b2_6 => ?_)
      refine E.Ops.loud rfl rfl ?_
      refine E.l_store rfl rfl rfl E.ixA 2 sz_172 (by rfl) (by rfl) (by rfl) (by rfl) ?_
      refine E.Ops.q _ (E.q_mv rfl rfl) rfl rfl ?_
      refine E.Ops.nil ?_
      try simp only [E.tn, E.tx, E.tr, E.bn, E.br, E.bs]
      (repeat refine E.Run.seq ?_)
      refine E.Run.region ?_
      refine E.Ops.q _ (E.q_move rfl rfl) rfl rfl ?_
      refine E.Ops.nil ?_
      try simp only [E.tn, E.tx, E.tr, E.bn, E.br, E.bs]
      (repeat refine E.Run.seq ?_); refine E.Run.condT rfl ?_
      (repeat refine E.Run.seq ?_)
      refine E.Run.region ?_
      refine E.Ops.q _ (E.q_move rfl rfl) rfl rfl ?_
      first | refine E.Ops.q _ (E.q_fieldAddr' rfl rfl fo_44_1) rfl rfl ?_ | refine E.Ops.q _ (E.q_fieldAddr rfl rfl fo_44_1) rfl rfl ?_
      refine E.Ops.q _ (E.q_load rfl rfl (by first | refine E.LoadAt.own E.ixA sc_3 (by rfl) | exact E.LoadAt.ro sc_3 (by assumption) | exact E.LoadAt.arr E.ixA sc_3 (by assumption) | exact E.LoadAt.ro sc_3 (hc _ _ rfl))) rfl rfl ?_
      refine E.Ops.q _ (E.q_load rfl rfl (by first | refine E.LoadAt.ownAgg E.ixA 2 ag_172 (by rfl) (by rfl) | exact E.LoadAt.roAgg ag_172 hc rfl | exact E.LoadAt.roAgg ag_172 (by assumption) rfl)) rfl rfl ?_
      refine E.Ops.loud rfl rfl ?_
      refine l_updE v (.inl rfl) rfl rfl rfl E.ixA hin' ik_170 ?_
      refine E.Ops.nil ?_
      try simp only [E.tn, E.tx, E.tr, E.bn, E.br, E.bs]
      exact ⟨by ((repeat refine E.SubEnv.cons rfl ?_); exact E.SubEnv.nil _), by exact E.Ent.of E.entA⟩
    | none =>
      (repeat refine E.Run.seq ?_)
      refine E.Run.region ?_
      refine E.Ops.q _ (E.q_load rfl rfl (by first | refine E.LoadAt.ownAgg E.ixA 4 ag_44 (by rfl) (by rfl) | exact E.LoadAt.roAgg ag_44 hc rfl | exact E.LoadAt.roAgg ag_44 (by assumption) rfl)) rfl rfl ?_
      refine E.Ops.q _ (E.q_move rfl rfl) rfl rfl ?_
      refine E.Ops.loud rfl rfl ?_
      refine E.l_call Try.func92 nm_92 nb_92 rfl ?_; refine optReckon i be R V (E.GIs.own E.ixA) hin.reads ?_; rw [hrk]
      refine E.Ops.q _ (E.q_move rfl rfl) rfl rfl ?_
      refine E.Ops.q _ (E.q_extract rfl rfl rfl) rfl rfl ?_
      refine E.Ops.q _ (E.q_extract rfl rfl rfl) rfl rfl ?_
      refine E.Ops.loud rfl rfl ?_
      refine E.l_alloc rfl ty_172 (fun b2_6 => ?_)
      refine E.Ops.loud rfl rfl ?_
      refine E.l_store rfl rfl rfl E.ixA 2 sz_172 (by rfl) (by rfl) (by rfl) (by rfl) ?_
      refine E.Ops.q _ (E.q_mv rfl rfl) rfl rfl ?_
      refine E.Ops.nil ?_
      try simp only [E.tn, E.tx, E.tr, E.bn, E.br, E.bs]
      (repeat refine E.Run.seq ?_)
      refine E.Run.region ?_
      refine E.Ops.q _ (E.q_move rfl rfl) rfl rfl ?_
      refine E.Ops.nil ?_
      try simp only [E.tn, E.tx, E.tr, E.bn, E.br, E.bs]
      (repeat refine E.Run.seq ?_); refine E.Run.condF rfl ?_
      (repeat refine E.Run.seq ?_)
      refine E.Run.region ?_
      refine E.Ops.q _ (E.q_load rfl rfl (by first | refine E.LoadAt.ownAgg E.ixA 4 ag_44 (by rfl) (by rfl) | exact E.LoadAt.roAgg ag_44 hc rfl | exact E.LoadAt.roAgg ag_44 (by assumption) rfl)) rfl rfl ?_
      refine E.Ops.loud rfl rfl ?_
      refine E.l_call Try.func94 nm_94 nb_94 rfl ?_; refine liveWrites i ?_
      refine E.Ops.q _ (E.q_mv rfl rfl) rfl rfl ?_
      refine E.Ops.nil ?_
      try simp only [E.tn, E.tx, E.tr, E.bn, E.br, E.bs]
      (repeat refine E.Run.seq ?_)
      refine E.Run.region ?_
      refine E.Ops.q _ (E.q_move rfl rfl) rfl rfl ?_
      refine E.Ops.q _ (E.q_geq rfl rfl rfl) rfl rfl ?_
      refine E.Ops.nil ?_
      try simp only [E.tn, E.tx, E.tr, E.bn, E.br, E.bs]
      (repeat refine E.Run.seq ?_); refine E.Run.condD rfl (fun h6 => ?_) (fun h6 => ?_)
      · have hin' := hin.writes' h6
        (repeat refine E.Run.seq ?_)
        refine E.Run.region ?_
        refine E.Ops.q _ (E.q_move rfl rfl) rfl rfl ?_
        refine E.Ops.q _ (E.q_move rfl rfl) rfl rfl ?_
        refine E.Ops.q _ (E.q_struct rfl rfl pl_172 rfl) rfl rfl ?_
        refine E.Ops.loud rfl rfl ?_
        refine l_updE ⟨2, 0⟩ (.inl rfl) rfl rfl rfl E.ixA ⟨h6, hin'⟩ ik_170 ?_
        refine E.Ops.nil ?_
        try simp only [E.tn, E.tx, E.tr, E.bn, E.br, E.bs]
        simp only [if_pos h6]
        exact ⟨by ((repeat refine E.SubEnv.cons rfl ?_); exact E.SubEnv.nil _), by exact E.Ent.of E.entA⟩
      · refine E.Run.skip ?_
        try simp only [E.tn, E.tx, E.tr, E.bn, E.br, E.bs]
        simp only [if_neg h6]
        exact ⟨by ((repeat refine E.SubEnv.cons rfl ?_); exact E.SubEnv.nil _), by exact E.Ent.of E.entA⟩
  rintro L ρ1 M1 ⟨hs, he⟩
  refine E.Run.sub hs (E.Run.ent he ?_)
  clear hs he
  refine E.Run.freeze fun ρ1 hle1 hfr => ?_
  have hbe : E.RoG ρ1 be R (envG R (flowV i V)) := E.mpG_frozen hfr
  have hA1 := hA.mono hle1
  (repeat refine E.Run.seq ?_)
  refine E.Run.region ?_
  first | refine E.Ops.q _ (E.q_fieldAddr' rfl rfl fo_44_0) rfl rfl ?_ | refine E.Ops.q _ (E.q_fieldAddr rfl rfl fo_44_0) rfl rfl ?_
  refine E.Ops.q _ (E.q_load rfl rfl (by first | refine E.LoadAt.own E.ixA sc_3 (by rfl) | exact E.LoadAt.ro sc_3 (by assumption) | exact E.LoadAt.arr E.ixA sc_3 (by assumption) | exact E.LoadAt.ro sc_3 (hc _ _ rfl))) rfl rfl ?_
  refine E.Ops.q _ (E.q_neq rfl rfl rfl) rfl rfl ?_
  refine E.Ops.nil ?_
  try simp only [E.tn, E.tx, E.tr, E.bn, E.br, E.bs]
  (repeat refine E.Run.seq ?_); refine E.Run.condD rfl (fun h8 => ?_) (fun h8 => ?_)
  · have hgo : goesV k i V = insNexts k i := by unfold goesV; rw [if_pos h8]
    (repeat refine E.Run.seq ?_)
    refine E.Run.region ?_
    refine E.Ops.q _ (E.q_move rfl rfl) rfl rfl ?_
    refine E.Ops.q _ (E.q_nilCheck rfl rfl) rfl rfl ?_
    first | refine E.Ops.q _ (E.q_fieldAddr' rfl rfl fo_169_0) rfl rfl ?_ | refine E.Ops.q _ (E.q_fieldAddr rfl rfl fo_169_0) rfl rfl ?_
    refine E.Ops.q _ (E.q_load rfl rfl (by first | refine E.LoadAt.own E.ixA sc_45 (by rfl) | exact E.LoadAt.ro sc_45 (by assumption) | exact E.LoadAt.arr E.ixA sc_45 (by assumption) | exact E.LoadAt.ro sc_45 (hc _ _ rfl))) rfl rfl ?_
    refine E.Ops.q _ (E.q_move rfl rfl) rfl rfl ?_
    refine E.Ops.loud rfl rfl ?_
    refine E.l_call Try.func93 nm_93 nb_93 rfl ?_; refine fenceNexts (some ad) cc code (hcode.mono hle1.blk) hsz k hk (fun nA' nc nn hnn => ?_); rw [hi] at hnn ⊢
    refine E.Ops.q _ (E.q_lenSlice rfl Try.underlying23) rfl rfl ?_
    refine E.Ops.q _ (E.q_move rfl rfl) rfl rfl ?_
    refine E.Ops.nil ?_
    try simp only [E.tn, E.tx, E.tr, E.bn, E.br, E.bs]
    refine E.Run.freeze fun ρ2 hle2 hfr2 => ?_
    have hnx : E.RdF ρ2.blk E.encI 1 nA' (insNexts k i) := E.arr_frozen (fun _ => rfl) hfr2 hnn
    have hA2 := hA1.mono hle2
    have hbe2 := hbe.mono hle2
    rw [hgo] at hK
    generalize hlx : insNexts k i = lnx at *
    have hl2 : lnx.length ≤ 2 := by rw [← hlx]; unfold insNexts; split <;> (try split) <;> simp
    subst hnn
    (repeat refine E.Run.seq ?_); refine E.Run.block ?_
    (repeat refine E.Run.seq ?_); refine E.Run.loopR (fun (x : Nat × E.Ro × Option Addr × Nat × Nat × (Int → Option Value)) => [(0, .pointer (some ⟨bl, 0, none⟩)), (5, .map (some be)), (52, .slice nA' lnx.length nc), (53, .int .i64 lnx.length), (54, .int .i64 x.1)]) (fun x => x.2.1)
      (fun x => E.pt bl 169 [.slice (some ad) code.length cc, .map (some bA), .slice x.2.2.1 (leadsS R (flowV i V) (St, ws) (lnx.take x.1)).2.length x.2.2.2.1] :: E.mpG bA x.2.2.2.2.1 x.2.2.2.2.2 :: E.arr 3 1 x.2.2.1 (leadsS R (flowV i V) (St, ws) (lnx.take x.1)).2.length x.2.2.2.1 ((leadsS R (flowV i V) (St, ws) (lnx.take x.1)).2.flatMap E.encI) :: M)
      (fun x => x.1 ≤ lnx.length ∧ E.Ro.le ρ2 x.2.1 ∧ AhRel x.2.1 R x.2.2.2.2.2 (leadsS R (flowV i V) (St, ws) (lnx.take x.1)).1) (fun x => lnx.length - x.1) (0, ρ2, wA, wc, nA, gA) ⟨Nat.zero_le _, E.Ro.le.refl _, hA2⟩ (by ((repeat refine E.SubEnv.cons rfl ?_); exact E.SubEnv.nil _)) (by exact E.Ent.of E.entA) ?_
    rintro ⟨j, ρ3, wA3, wc3, nA3, gA3⟩ ⟨hj, hle3, hA3⟩
    simp only at hj hle3 hA3 ⊢
    (repeat refine E.Run.seq ?_)
    refine E.Run.region ?_
    refine E.Ops.q _ (E.q_lss rfl rfl rfl) rfl rfl ?_
    refine E.Ops.nil ?_
    try simp only [E.tn, E.tx, E.tr, E.bn, E.br, E.bs]
    (repeat refine E.Run.seq ?_); refine E.Run.condD rfl (fun h10 => ?_) (fun h10 => ?_)
    · have hj' : j < lnx.length := by omega
      have htk : leadsS R (flowV i V) (St, ws) (lnx.take (j + 1)) = leadS R (leadsS R (flowV i V) (St, ws) (lnx.take j)) lnx[j] (flowV i V) := by
        unfold leadsS
        rw [List.take_succ_eq_append_getElem hj', List.foldl_append]; rfl
      have hlen := leadsS_len R (flowV i V) (lnx.take j) (St, ws)
      have htl : (lnx.take j).length ≤ 2 := by rw [List.length_take]; omega
      obtain ⟨adn, rfl, _, hn⟩ := E.RdF.at (hnx.mono hle3.blk) hj'
      generalize hsj : leadsS R (flowV i V) (St, ws) (lnx.take j) = sj at *
      refine E.Run.skip ?_
      try simp only [E.tn, E.tx, E.tr, E.bn, E.br, E.bs]
      (repeat refine E.Run.seq ?_); refine E.Run.block ?_
      have hn0 : E.cellOf ρ3.blk (adn.add (j * 1)) = some (.int .i64 lnx[j]) := hn 0 _ rfl
      (repeat refine E.Run.seq ?_)
      refine E.Run.region ?_
      first | refine E.Ops.q _ (E.q_indexNat rfl rfl rfl so_23 (by first | assumption | omega)) rfl rfl ?_ | refine E.Ops.q _ (E.q_indexAddr rfl rfl rfl so_23 (by omega) (by omega)) rfl rfl ?_
      refine E.Ops.q _ (E.q_load rfl rfl (by first | refine E.LoadAt.own E.ixA sc_3 (by rfl) | exact E.LoadAt.ro sc_3 (by assumption) | exact E.LoadAt.arr E.ixA sc_3 (by assumption) | exact E.LoadAt.ro sc_3 (hc _ _ rfl))) rfl rfl ?_
      refine E.Ops.q _ (E.q_mv rfl rfl) rfl rfl ?_
      refine E.Ops.nil ?_
      try simp only [E.tn, E.tx, E.tr, E.bn, E.br, E.bs]
      (repeat refine E.Run.seq ?_)
      refine E.Run.region ?_
      refine E.Ops.q _ (E.q_move rfl rfl) rfl rfl ?_
      refine E.Ops.q _ (E.q_move rfl rfl) rfl rfl ?_
      refine E.Ops.q _ (E.q_move rfl rfl) rfl rfl ?_
      refine E.Ops.loud rfl rfl ?_
      refine E.l_call Try.func90 nm_90 nb_90 rfl ?_; refine optLead bl bA nA3 R be _ rfl wA3 wc3 gA3 sj.1 sj.2 lnx[j] (flowV i V) hA3 (hbe2.mono hle3) (by simp only at hlen; omega) (fun ρ4 wA4 wc4 nA4 gA4 hle4 hA4 => ?_)
      refine E.Ops.nil ?_
      try simp only [E.tn, E.tx, E.tr, E.bn, E.br, E.bs]
      (repeat refine E.Run.seq ?_)
      refine E.Run.region ?_
      first | refine E.Ops.q _ (E.q_incr rfl rfl (by omega)) rfl rfl ?_ | refine E.Ops.q _ (E.q_addFit rfl rfl rfl (by omega)) rfl rfl ?_ | refine E.Ops.q _ (E.q_add rfl rfl rfl) rfl rfl ?_
      refine E.Ops.q _ (E.q_move rfl rfl) rfl rfl ?_
      refine E.Ops.nil ?_
      try simp only [E.tn, E.tx, E.tr, E.bn, E.br, E.bs]
      rw [show ((sj.1, sj.2) : StE × List Int) = sj from rfl] at *
      refine ⟨(j + 1, ρ4, wA4, wc4, nA4, gA4), ⟨by omega, hle3.trans hle4, by rw [htk]; exact hA4⟩, by simp only; omega, by ((repeat refine E.SubEnv.cons rfl ?_); exact E.SubEnv.nil _), ?_⟩
      simp only [htk]
      exact E.Ent.of E.entA
    · refine E.Run.exit ?_
      try simp only [E.tn, E.tx, E.tr, E.bn, E.br, E.bs]
      refine E.Run.ret ?_
      try simp only [E.tn, E.tx, E.tr, E.bn, E.br, E.bs]
      have : j = lnx.length := by omega
      subst this
      rw [List.take_length] at hA3 ⊢
      exact ⟨_, _, _, E.ResOk.none rfl, E.Ent.of E.entA, hK ρ3 _ _ _ _ (hle1.trans (hle2.trans hle3)) hA3⟩
  · refine E.Run.skip ?_
    try simp only [E.tn, E.tx, E.tr, E.bn, E.br, E.bs]
    have h15 : i.op = 15 := Classical.not_not.1 h8
    have hfl : flowV i V = V := by
      unfold flowV reck insWrites
      rw [h15]
      simp
    rw [hfl] at hK hbe
    have hza := hin.zero h15
    generalize hv : V i.a = v at *
    have hgo : goesV k i V = (if v.st = 2 ∨ v.st = 1 ∧ v.n ≠ 0 then [(k : Int) + 1] else []) ++ (if v.st = 2 ∨ v.st = 1 ∧ v.n = 0 then [i.b] else []) := by
      unfold goesV; rw [if_neg h8, hv]
    rw [hgo] at hK
    refine E.Run.seqCut (fun L' ρ' M' => ∃ b11, E.SubEnv [(0, .pointer (some ⟨bl, 0, none⟩)), (1, .int .i64 k), (4, .pointer (some ⟨b4, 0, none⟩)), (5, .map (some be)), (11, .pointer (some ⟨b11, 0, none⟩))] L' ∧ E.Ent ρ' M' ρ1 (E.pt b11 172 [.int .i64 v.st, .int .i64 v.n] :: E.pt b4 44 [.int .i64 i.op, .int .i64 i.a, .int .i64 i.b, .int .i64 i.c] :: E.pt bl 169 [.slice (some ad) code.length cc, .map (some bA), .slice wA ws.length wc] :: E.mpG bA nA gA :: E.arr 3 1 wA ws.length wc (ws.flatMap E.encI) :: M)) ?_ ?_
    · (repeat refine E.Run.seq ?_)
      refine E.Run.region ?_
      refine E.Ops.q _ (E.q_move rfl rfl) rfl rfl ?_
      first | refine E.Ops.q _ (E.q_fieldAddr' rfl rfl fo_44_1) rfl rfl ?_ | refine E.Ops.q _ (E.q_fieldAddr rfl rfl fo_44_1) rfl rfl ?_
      refine E.Ops.q _ (E.q_load rfl rfl (by first | refine E.LoadAt.own E.ixA sc_3 (by rfl) | exact E.LoadAt.ro sc_3 (by assumption) | exact E.LoadAt.arr E.ixA sc_3 (by assumption) | exact E.LoadAt.ro sc_3 (hc _ _ rfl))) rfl rfl ?_
      refine E.Ops.q _ (q_lookupE (E.GIs.ro hbe) hza rfl rfl rfl ik_170 ty_172) rfl rfl ?_
      refine E.Ops.loud rfl rfl ?_
      refine E.l_alloc rfl ty_172 (fun b14_4 => ?_)
      refine E.Ops.loud rfl rfl ?_
      refine E.l_store rfl rfl rfl E.ixA 2 sz_172 (by rfl) (by rfl) (by rfl) (by rfl) ?_
      refine E.Ops.nil ?_
      try simp only [E.tn, E.tx, E.tr, E.bn, E.br, E.bs]
      rw [← hv]
      exact ⟨b14_4, by ((repeat refine E.SubEnv.cons rfl ?_); exact E.SubEnv.nil _), by exact E.Ent.of E.entA⟩
    rintro L5 ρ5 M5 ⟨b11, hs, he⟩
    refine E.Run.sub hs (E.Run.ent he ?_)
    clear hs he
    have hP : ∃ s1 : StE × List Int, s1 = leadsS R V (St, ws) (if v.st = 2 ∨ v.st = 1 ∧ v.n ≠ 0 then [(k : Int) + 1] else []) := ⟨_, rfl⟩
    obtain ⟨s1, hs1⟩ := hP
    have hs2 : leadsS R V (St, ws) ((if v.st = 2 ∨ v.st = 1 ∧ v.n ≠ 0 then [(k : Int) + 1] else []) ++ (if v.st = 2 ∨ v.st = 1 ∧ v.n = 0 then [i.b] else [])) = leadsS R V s1 (if v.st = 2 ∨ v.st = 1 ∧ v.n = 0 then [i.b] else []) := by
      rw [hs1]; unfold leadsS; rw [List.foldl_append]
    rw [hs2] at hK
    refine E.Run.seqCut (fun L' ρ' M' => ∃ ρ2 wA2 wc2 nA2 gA2, E.Ro.le ρ1 ρ2 ∧ AhRel ρ2 R gA2 s1.1 ∧ s1.2.length ≤ ws.length + 1 ∧ E.SubEnv [(0, .pointer (some ⟨bl, 0, none⟩)), (4, .pointer (some ⟨b4, 0, none⟩)), (5, .map (some be)), (11, .pointer (some ⟨b11, 0, none⟩))] L' ∧ E.Ent ρ' M' ρ2 (E.pt b11 172 [.int .i64 v.st, .int .i64 v.n] :: E.pt b4 44 [.int .i64 i.op, .int .i64 i.a, .int .i64 i.b, .int .i64 i.c] :: E.pt bl 169 [.slice (some ad) code.length cc, .map (some bA), .slice wA2 s1.2.length wc2] :: E.mpG bA nA2 gA2 :: E.arr 3 1 wA2 s1.2.length wc2 (s1.2.flatMap E.encI) :: M)) ?_ ?_
    · refine E.Run.seqCut (fun L' ρ' M' => E.SubEnv [(0, .pointer (some ⟨bl, 0, none⟩)), (1, .int .i64 k), (4, .pointer (some ⟨b4, 0, none⟩)), (5, .map (some be)), (11, .pointer (some ⟨b11, 0, none⟩)), (79, .bool (decide (v.st = 2 ∨ v.st = 1 ∧ v.n ≠ 0)))] L' ∧ E.Ent ρ' M' ρ1 (E.pt b11 172 [.int .i64 v.st, .int .i64 v.n] :: E.pt b4 44 [.int .i64 i.op, .int .i64 i.a, .int .i64 i.b, .int .i64 i.c] :: E.pt bl 169 [.slice (some ad) code.length cc, .map (some bA), .slice wA ws.length wc] :: E.mpG bA nA gA :: E.arr 3 1 wA ws.length wc (ws.flatMap E.encI) :: M)) ?_ ?_
      · (repeat refine E.Run.seq ?_)
        refine E.Run.region ?_
        first | refine E.Ops.q _ (E.q_fieldAddr' rfl rfl fo_172_0) rfl rfl ?_ | refine E.Ops.q _ (E.q_fieldAddr rfl rfl fo_172_0) rfl rfl ?_
        refine E.Ops.q _ (E.q_load rfl rfl (by first | refine E.LoadAt.own E.ixA sc_3 (by rfl) | exact E.LoadAt.ro sc_3 (by assumption) | exact E.LoadAt.arr E.ixA sc_3 (by assumption) | exact E.LoadAt.ro sc_3 (hc _ _ rfl))) rfl rfl ?_
        refine E.Ops.part (E.q_eql rfl rfl rfl) rfl rfl (fun h15_2 => ?T1) (fun h15_2 => ?F1)
        case' F1 =>
          refine E.Ops.q _ (E.q_move rfl rfl) rfl rfl ?_
          first | refine E.Ops.q _ (E.q_fieldAddr' rfl rfl fo_172_0) rfl rfl ?_ | refine E.Ops.q _ (E.q_fieldAddr rfl rfl fo_172_0) rfl rfl ?_
          refine E.Ops.q _ (E.q_load rfl rfl (by first | refine E.LoadAt.own E.ixA sc_3 (by rfl) | exact E.LoadAt.ro sc_3 (by assumption) | exact E.LoadAt.arr E.ixA sc_3 (by assumption) | exact E.LoadAt.ro sc_3 (hc _ _ rfl))) rfl rfl ?_
          refine E.Ops.part (E.q_eql rfl rfl rfl) rfl rfl (fun h15_6 => ?T2) (fun h15_6 => ?F2)
          case' F2 =>
            refine E.Ops.q _ (E.q_move rfl rfl) rfl rfl ?_
            refine E.Ops.skip rfl rfl ?_
            refine E.Ops.skip rfl rfl ?_
            refine E.Ops.skip rfl rfl ?_
            refine E.Ops.q _ (E.q_pickF rfl rfl rfl) rfl rfl ?_
            refine E.Ops.q _ (E.q_pickF rfl rfl rfl) rfl rfl ?_
            refine E.Ops.nil ?_
            try simp only [E.tn, E.tx, E.tr, E.bn, E.br, E.bs]
          case' T2 =>
            refine E.Ops.q _ (E.q_move rfl rfl) rfl rfl ?_
            first | refine E.Ops.q _ (E.q_fieldAddr' rfl rfl fo_172_1) rfl rfl ?_ | refine E.Ops.q _ (E.q_fieldAddr rfl rfl fo_172_1) rfl rfl ?_
            refine E.Ops.q _ (E.q_load rfl rfl (by first | refine E.LoadAt.own E.ixA sc_3 (by rfl) | exact E.LoadAt.ro sc_3 (by assumption) | exact E.LoadAt.arr E.ixA sc_3 (by assumption) | exact E.LoadAt.ro sc_3 (hc _ _ rfl))) rfl rfl ?_
            refine E.Ops.q _ (E.q_neq rfl rfl rfl) rfl rfl ?_
            refine E.Ops.q _ (E.q_pickT rfl rfl rfl) rfl rfl ?_
            refine E.Ops.q _ (E.q_pickF rfl rfl rfl) rfl rfl ?_
            refine E.Ops.nil ?_
            try simp only [E.tn, E.tx, E.tr, E.bn, E.br, E.bs]
        case' T1 =>
          refine E.Ops.q _ (E.q_move rfl rfl) rfl rfl ?_
          refine E.Ops.skip rfl rfl ?_
          refine E.Ops.skip rfl rfl ?_
          refine E.Ops.skip rfl rfl ?_
          refine E.Ops.skip rfl rfl ?_
          refine E.Ops.skip rfl rfl ?_
          refine E.Ops.skip rfl rfl ?_
          refine E.Ops.skip rfl rfl ?_
          refine E.Ops.skip rfl rfl ?_
          refine E.Ops.q _ (E.q_pickT rfl rfl rfl) rfl rfl ?_
          refine E.Ops.nil ?_
          try simp only [E.tn, E.tx, E.tr, E.bn, E.br, E.bs]
        · exact ⟨by rw [decide_eq_true (p := v.st = 2 ∨ v.st = 1 ∧ v.n ≠ 0) (by omega)]; ((repeat refine E.SubEnv.cons rfl ?_); exact E.SubEnv.nil _), by exact E.Ent.of E.entA⟩
        · exact ⟨by rw [show decide (v.st = 2 ∨ v.st = 1 ∧ v.n ≠ 0) = decide (v.n ≠ 0) from decide_eq_decide.2 (by omega)]; ((repeat refine E.SubEnv.cons rfl ?_); exact E.SubEnv.nil _), by exact E.Ent.of E.entA⟩
        · exact ⟨by rw [decide_eq_false (p := v.st = 2 ∨ v.st = 1 ∧ v.n ≠ 0) (by omega)]; ((repeat refine E.SubEnv.cons rfl ?_); exact E.SubEnv.nil _), by exact E.Ent.of E.entA⟩
      rintro L6 ρ6 M6 ⟨hs, he⟩
      refine E.Run.sub hs (E.Run.ent he ?_)
      (repeat refine E.Run.seq ?_); refine E.Run.condD rfl (fun h15 => ?_) (fun h15 => ?_)
      · rw [if_pos h15] at hs1
        have hs1' : s1 = leadS R (St, ws) ((k + 1 : Nat) : Int) V := hs1
        (repeat refine E.Run.seq ?_)
        refine E.Run.region ?_
        refine E.Ops.q _ (E.q_move rfl rfl) rfl rfl ?_
        refine E.Ops.q _ (E.q_move rfl rfl) rfl rfl ?_
        first | refine E.Ops.q _ (E.q_incr rfl rfl (by omega)) rfl rfl ?_ | refine E.Ops.q _ (E.q_addFit rfl rfl rfl (by omega)) rfl rfl ?_ | refine E.Ops.q _ (E.q_add rfl rfl rfl) rfl rfl ?_
        refine E.Ops.q _ (E.q_move rfl rfl) rfl rfl ?_
        refine E.Ops.loud rfl rfl ?_
        refine E.l_call Try.func90 nm_90 nb_90 rfl ?_; refine E.Hoa.ent (M1 := E.pt bl 169 [.slice (some ad) code.length cc, .map (some bA), .slice wA ws.length wc] :: E.mpG bA nA gA :: E.arr 3 1 wA ws.length wc (ws.flatMap E.encI) :: E.pt b11 172 [.int .i64 v.st, .int .i64 v.n] :: E.pt b4 44 [.int .i64 i.op, .int .i64 i.a, .int .i64 i.b, .int .i64 i.c] :: M) (by exact E.Ent.of E.entA) ?_; refine optLead bl bA nA R be (.slice (some ad) code.length cc) rfl wA wc gA St ws ((k + 1 : Nat) : Int) V hA1 hbe (by omega) (fun ρ2 wA2 wc2 nA2 gA2 hle2 hA2 => ?_)
        refine E.Ops.nil ?_
        try simp only [E.tn, E.tx, E.tr, E.bn, E.br, E.bs]
        have := leadS_len R (St, ws) ((k + 1 : Nat) : Int) V
        rw [← hs1'] at *
        exact ⟨ρ2, wA2, wc2, nA2, gA2, hle2, hA2, this, by ((repeat refine E.SubEnv.cons rfl ?_); exact E.SubEnv.nil _), by exact E.Ent.of E.entA⟩
      · rw [if_neg h15] at hs1
        have hs1' : s1 = (St, ws) := hs1
        subst hs1'
        refine E.Run.skip ?_
        try simp only [E.tn, E.tx, E.tr, E.bn, E.br, E.bs]
        exact ⟨ρ1, wA, wc, nA, gA, E.Ro.le.refl _, hA1, by simp, by ((repeat refine E.SubEnv.cons rfl ?_); exact E.SubEnv.nil _), by exact E.Ent.of E.entA⟩
    rintro L6 ρ6 M6 ⟨ρ2, wA2, wc2, nA2, gA2, hle2, hA2, hlen, hs, he⟩
    refine E.Run.sub hs (E.Run.ent he ?_)
    clear hs he
    refine E.Run.seqCut (fun L' ρ' M' => E.SubEnv [(0, .pointer (some ⟨bl, 0, none⟩)), (4, .pointer (some ⟨b4, 0, none⟩)), (5, .map (some be)), (97, .bool (decide (v.st = 2 ∨ v.st = 1 ∧ v.n = 0)))] L' ∧ E.Ent ρ' M' ρ2 (E.pt b4 44 [.int .i64 i.op, .int .i64 i.a, .int .i64 i.b, .int .i64 i.c] :: E.pt bl 169 [.slice (some ad) code.length cc, .map (some bA), .slice wA2 s1.2.length wc2] :: E.mpG bA nA2 gA2 :: E.arr 3 1 wA2 s1.2.length wc2 (s1.2.flatMap E.encI) :: M)) ?_ ?_
    · (repeat refine E.Run.seq ?_)
      refine E.Run.region ?_
      first | refine E.Ops.q _ (E.q_fieldAddr' rfl rfl fo_172_0) rfl rfl ?_ | refine E.Ops.q _ (E.q_fieldAddr rfl rfl fo_172_0) rfl rfl ?_
      refine E.Ops.q _ (E.q_load rfl rfl (by first | refine E.LoadAt.own E.ixA sc_3 (by rfl) | exact E.LoadAt.ro sc_3 (by assumption) | exact E.LoadAt.arr E.ixA sc_3 (by assumption) | exact E.LoadAt.ro sc_3 (hc _ _ rfl))) rfl rfl ?_
      refine E.Ops.part (E.q_eql rfl rfl rfl) rfl rfl (fun h17_2 => ?T3) (fun h17_2 => ?F3)
      case' F3 =>
        refine E.Ops.q _ (E.q_move rfl rfl) rfl rfl ?_
        first | refine E.Ops.q _ (E.q_fieldAddr' rfl rfl fo_172_0) rfl rfl ?_ | refine E.Ops.q _ (E.q_fieldAddr rfl rfl fo_172_0) rfl rfl ?_
        refine E.Ops.q _ (E.q_load rfl rfl (by first | refine E.LoadAt.own E.ixA sc_3 (by rfl) | exact E.LoadAt.ro sc_3 (by assumption) | exact E.LoadAt.arr E.ixA sc_3 (by assumption) | exact E.LoadAt.ro sc_3 (hc _ _ rfl))) rfl rfl ?_
        refine E.Ops.part (E.q_eql rfl rfl rfl) rfl rfl (fun h17_6 => ?T4) (fun h17_6 => ?F4)
        case' F4 =>
          refine E.Ops.q _ (E.q_move rfl rfl) rfl rfl ?_
          refine E.Ops.skip rfl rfl ?_
          refine E.Ops.skip rfl rfl ?_
          refine E.Ops.skip rfl rfl ?_
          refine E.Ops.q _ (E.q_pickF rfl rfl rfl) rfl rfl ?_
          refine E.Ops.q _ (E.q_pickF rfl rfl rfl) rfl rfl ?_
          refine E.Ops.nil ?_
          try simp only [E.tn, E.tx, E.tr, E.bn, E.br, E.bs]
        case' T4 =>
          refine E.Ops.q _ (E.q_move rfl rfl) rfl rfl ?_
          first | refine E.Ops.q _ (E.q_fieldAddr' rfl rfl fo_172_1) rfl rfl ?_ | refine E.Ops.q _ (E.q_fieldAddr rfl rfl fo_172_1) rfl rfl ?_
          refine E.Ops.q _ (E.q_load rfl rfl (by first | refine E.LoadAt.own E.ixA sc_3 (by rfl) | exact E.LoadAt.ro sc_3 (by assumption) | exact E.LoadAt.arr E.ixA sc_3 (by assumption) | exact E.LoadAt.ro sc_3 (hc _ _ rfl))) rfl rfl ?_
          refine E.Ops.q _ (E.q_eql rfl rfl rfl) rfl rfl ?_
          refine E.Ops.q _ (E.q_pickT rfl rfl rfl) rfl rfl ?_
          refine E.Ops.q _ (E.q_pickF rfl rfl rfl) rfl rfl ?_
          refine E.Ops.nil ?_
          try simp only [E.tn, E.tx, E.tr, E.bn, E.br, E.bs]
      case' T3 =>
        refine E.Ops.q _ (E.q_move rfl rfl) rfl rfl ?_
        refine E.Ops.skip rfl rfl ?_
        refine E.Ops.skip rfl rfl ?_
        refine E.Ops.skip rfl rfl ?_
        refine E.Ops.skip rfl rfl ?_
        refine E.Ops.skip rfl rfl ?_
        refine E.Ops.skip rfl rfl ?_
        refine E.Ops.skip rfl rfl ?_
        refine E.Ops.skip rfl rfl ?_
        refine E.Ops.q _ (E.q_pickT rfl rfl rfl) rfl rfl ?_
        refine E.Ops.nil ?_
        try simp only [E.tn, E.tx, E.tr, E.bn, E.br, E.bs]
      · exact ⟨by rw [decide_eq_true (p := v.st = 2 ∨ v.st = 1 ∧ v.n = 0) (by omega)]; ((repeat refine E.SubEnv.cons rfl ?_); exact E.SubEnv.nil _), by exact E.Ent.of E.entA⟩
      · exact ⟨by rw [show decide (v.st = 2 ∨ v.st = 1 ∧ v.n = 0) = decide (v.n = 0) from decide_eq_decide.2 (by omega)]; ((repeat refine E.SubEnv.cons rfl ?_); exact E.SubEnv.nil _), by exact E.Ent.of E.entA⟩
      · exact ⟨by rw [decide_eq_false (p := v.st = 2 ∨ v.st = 1 ∧ v.n = 0) (by omega)]; ((repeat refine E.SubEnv.cons rfl ?_); exact E.SubEnv.nil _), by exact E.Ent.of E.entA⟩
    rintro L7 ρ7 M7 ⟨hs, he⟩
    refine E.Run.sub hs (E.Run.ent he ?_)
    (repeat refine E.Run.seq ?_); refine E.Run.condD rfl (fun h17 => ?_) (fun h17 => ?_)
    · (repeat refine E.Run.seq ?_)
      refine E.Run.region ?_
      refine E.Ops.q _ (E.q_move rfl rfl) rfl rfl ?_
      first | refine E.Ops.q _ (E.q_fieldAddr' rfl rfl fo_44_2) rfl rfl ?_ | refine E.Ops.q _ (E.q_fieldAddr rfl rfl fo_44_2) rfl rfl ?_
      refine E.Ops.q _ (E.q_load rfl rfl (by first | refine E.LoadAt.own E.ixA sc_3 (by rfl) | exact E.LoadAt.ro sc_3 (by assumption) | exact E.LoadAt.arr E.ixA sc_3 (by assumption) | exact E.LoadAt.ro sc_3 (hc _ _ rfl))) rfl rfl ?_
      refine E.Ops.q _ (E.q_move rfl rfl) rfl rfl ?_
      refine E.Ops.loud rfl rfl ?_
      refine E.l_call Try.func90 nm_90 nb_90 rfl ?_; refine E.Hoa.ent (M1 := E.pt bl 169 [.slice (some ad) code.length cc, .map (some bA), .slice wA2 s1.2.length wc2] :: E.mpG bA nA2 gA2 :: E.arr 3 1 wA2 s1.2.length wc2 (s1.2.flatMap E.encI) :: E.pt b4 44 [.int .i64 i.op, .int .i64 i.a, .int .i64 i.b, .int .i64 i.c] :: M) (by exact E.Ent.of E.entA) ?_; refine optLead bl bA nA2 R be (.slice (some ad) code.length cc) rfl wA2 wc2 gA2 s1.1 s1.2 i.b V hA2 (hbe.mono hle2) (by omega) (fun ρ3 wA3 wc3 nA3 gA3 hle3 hA3 => ?_)
      refine E.Ops.nil ?_
      try simp only [E.tn, E.tx, E.tr, E.bn, E.br, E.bs]
      rw [if_pos h17, show leadsS R V s1 [i.b] = leadS R (s1.1, s1.2) i.b V from rfl] at hK
      exact ⟨_, _, _, E.ResOk.none rfl, E.Ent.of E.entA, hK ρ3 _ _ _ _ (hle1.trans (hle2.trans hle3)) hA3⟩
    · refine E.Run.skip ?_
      try simp only [E.tn, E.tx, E.tr, E.bn, E.br, E.bs]
      rw [if_neg h17, show leadsS R V s1 [] = s1 from rfl] at hK
      exact ⟨_, _, _, E.ResOk.none rfl, E.Ent.of E.entA, hK ρ2 _ _ _ _ (hle1.trans hle2) hA2⟩
end Go.Proofs.Ythpgjbdacknkgaa
