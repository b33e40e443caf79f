/- opt.of, walked. No statement of the seat in it. -/
import Derived.Test.YthpgjbdacknkgaaP1
set_option linter.unusedVariables false
set_option linter.unusedSimpArgs false
namespace Go.Proofs.Ythpgjbdacknkgaa
open Go
private theorem fo_169_2 : E.fieldOff Try.prog 169 2 = some 2 := by kernel_rfl
private theorem ik_170 : E.isIntKey Try.prog 170 = some 172 := by kernel_rfl
private theorem nb_90 : Try.f90.body.isNone = false := by kernel_rfl
private theorem nb_91 : Try.f91.body.isNone = false := by kernel_rfl
private theorem nm_90 : (Try.f90.name == "runtime.NumGoroutine") = false := by kernel_rfl
private theorem nm_91 : (Try.f91.name == "runtime.NumGoroutine") = false := by kernel_rfl
private theorem pl_169 : E.placesOf Try.prog 169 = some ([.slice none 0 0, .map none, .slice none 0 0], [(0, 1), (1, 1), (2, 1)]) := by kernel_rfl
private theorem pl_172 : E.placesOf Try.prog 172 = some ([.int .i64 0, .int .i64 0], [(0, 1), (1, 1)]) := by kernel_rfl
private theorem sc_23 : E.isScal Try.prog 23 = true := by kernel_rfl
private theorem sc_3 : E.isScal Try.prog 3 = true := by kernel_rfl
private theorem so_23 : E.sliceOf Try.prog 23 = some (3, 1) := by kernel_rfl
private theorem sz_23 : (Try.prog.info? 23).map (·.size) = some 1 := by kernel_rfl

/-- what 'look' holds, that stays -/
def LookIs (ρ : E.Ro) (R : Nat) (bl : Nat) (St : StE) : Prop := ∃ cV bA nA gA wV, (∀ j u, [cV, .map (some bA), wV][j]? = some u → E.cellOf ρ.blk ⟨bl, j, none⟩ = some u) ∧ E.RoG ρ bA nA gA ∧ AhRel ρ R gA St
theorem l_growE {P : Program} {L : E.Env} {ρ : E.Ro} {M : List E.Asr} {o : Oper} {K : Value → E.Ro → List E.Asr → Prop} {t e : TypeId} {m x y : Operand} {b R : Nat} {V : Int → Vl} {f : E.Asr → List E.Asr} (ho : o.op = .mapUpdate t m x y ∨ o.op = .insert t m x y) (hm : E.ev L m = some (.map (some b))) (hx : E.ev L x = some (.int .i64 R)) (hy : E.ev L y = some (vlV (V R)))
    (hk : E.Ix M (E.mpG b R (envG R V)) f) (ht : E.isIntKey P t = some e) (h : K undef ρ (f (E.mpG b (R + 1) (envG (R + 1) V)))) : E.LOp P L ρ M o K := by
  refine E.l_mapUpdateG ho hm hx hy hk ht ?_
  have h1 : E.updG (envG R V) R (vlV (V R)) = envG (R + 1) V := by
    funext j
    unfold E.updG envG
    by_cases hj : j = (R : Int)
    · subst hj; rw [if_pos rfl, if_pos (by omega)]
    · rw [if_neg hj]
      by_cases h0 : 0 ≤ j ∧ j < (R : Int)
      · rw [if_pos h0, if_pos (by omega)]
      · rw [if_neg h0, if_neg (by omega)]
  have h2 : ¬ ((envG R V R).isSome = true) := by unfold envG; rw [if_neg (by omega)]; simp
  rw [h1, if_neg h2]
  exact h

set_option maxRecDepth 100000 in
theorem optOf {ρ : E.Ro} {M : List E.Asr} {K : Value → E.Ro → List E.Asr → Prop} (cA : Option Addr) (cc R : Nat) (code : List E.Ins) (hcode : E.RdF ρ.blk E.encIns 4 cA code) (hsz : code.length ≤ 400) (hR : R ≤ 200) (hok : CodeOk R code)
    (hK : ∀ ρ' bl St, E.Ro.le ρ ρ' → LookIs ρ' R bl St → Found R code St → K (.pointer (some ⟨bl, 0, none⟩)) ρ' M) :
    E.Hoa Try.prog 45 #[.slice cA code.length cc, .int .i64 R] ρ M K := by
  refine E.Hoa.enter 65 Try.func45 rfl rfl rfl ?_
  (repeat refine E.Run.seq ?_)
  refine E.Run.region ?_
  refine E.Ops.q _ (E.q_mv rfl rfl) rfl rfl ?_
  refine E.Ops.nil ?_
  try simp only [E.tn, E.tx, E.tr, E.bn, E.br, E.bs]
  (repeat refine E.Run.seq ?_)
  refine E.Run.region ?_
  refine E.Ops.q _ (E.q_move rfl rfl) rfl rfl ?_
  refine E.Ops.loud rfl rfl ?_
  refine E.l_makeMapG rfl (fun m1_1 => ?_)
  refine E.Ops.q _ (E.q_struct rfl rfl pl_169 rfl) rfl rfl ?_
  refine E.Ops.loud rfl rfl ?_
  refine E.l_box rfl rfl (fun b1_3 => ?_)
  refine E.Ops.q _ (E.q_mv rfl rfl) rfl rfl ?_
  refine E.Ops.nil ?_
  try simp only [E.tn, E.tx, E.tr, E.bn, E.br, E.bs]
  (repeat refine E.Run.seq ?_)
  refine E.Run.region ?_
  refine E.Ops.loud rfl rfl ?_
  refine E.l_makeMapG rfl (fun m2_0 => ?_)
  refine E.Ops.q _ (E.q_mv rfl rfl) rfl rfl ?_
  refine E.Ops.nil ?_
  try simp only [E.tn, E.tx, E.tr, E.bn, E.br, E.bs]
  refine E.Run.seqCut (fun L' ρ' M' => E.SubEnv [(0, .slice cA code.length cc), (5, .pointer (some ⟨b1_3, 0, none⟩)), (6, .map (some m2_0))] L' ∧ E.Ent ρ' M' ρ (E.mpG m2_0 R (envG R zeroE) :: E.pt b1_3 169 [.slice cA code.length cc, .map (some m1_1), .slice none 0 0] :: E.mpG m1_1 0 (fun _ => none) :: M)) ?_ ?_
  · (repeat refine E.Run.seq ?_)
    refine E.Run.region ?_
    refine E.Ops.q _ (E.q_move rfl rfl) rfl rfl ?_
    refine E.Ops.q _ (E.q_move rfl rfl) rfl rfl ?_
    refine E.Ops.nil ?_
    try simp only [E.tn, E.tx, E.tr, E.bn, E.br, E.bs]
    (repeat refine E.Run.seq ?_); refine E.Run.block ?_
    (repeat refine E.Run.seq ?_); refine E.Run.loopS (fun (j : Nat) => [(0, .slice cA code.length cc), (5, .pointer (some ⟨b1_3, 0, none⟩)), (6, .map (some m2_0)), (14, .int .i64 R), (15, .int .i64 j)]) ρ (fun j => E.mpG m2_0 j (envG j zeroE) :: E.pt b1_3 169 [.slice cA code.length cc, .map (some m1_1), .slice none 0 0] :: E.mpG m1_1 0 (fun _ => none) :: M)
      (fun j => j ≤ R) (fun j => R - j) 0 (Nat.zero_le _) (by ((repeat refine E.SubEnv.cons rfl ?_); exact E.SubEnv.nil _)) (by
        rw [show envG 0 zeroE = fun _ => none from by funext k; unfold envG; rw [if_neg (by omega)]]
        exact E.Ent.of E.entA) ?_
    intro j hj
    (repeat refine E.Run.seq ?_)
    refine E.Run.region ?_
    refine E.Ops.q _ (E.q_lss rfl rfl rfl) rfl rfl ?_
    refine E.Ops.nil ?_
    try simp only [E.tn, E.tx, E.tr, E.bn, E.br, E.bs]
    (repeat refine E.Run.seq ?_); refine E.Run.condD rfl (fun h4 => ?_) (fun h4 => ?_)
    · refine E.Run.skip ?_
      try simp only [E.tn, E.tx, E.tr, E.bn, E.br, E.bs]
      (repeat refine E.Run.seq ?_); refine E.Run.block ?_
      (repeat refine E.Run.seq ?_)
      refine E.Run.region ?_
      refine E.Ops.q _ (E.q_move rfl rfl) rfl rfl ?_
      refine E.Ops.q _ (E.q_mv rfl rfl) rfl rfl ?_
      refine E.Ops.nil ?_
      try simp only [E.tn, E.tx, E.tr, E.bn, E.br, E.bs]
      (repeat refine E.Run.seq ?_)
      refine E.Run.region ?_
      refine E.Ops.q _ (E.q_move rfl rfl) rfl rfl ?_
      refine E.Ops.q _ (E.q_move rfl rfl) rfl rfl ?_
      refine E.Ops.q _ (E.q_struct rfl rfl pl_172 rfl) rfl rfl ?_
      refine E.Ops.loud rfl rfl ?_
      refine l_growE (V := zeroE) (.inl rfl) rfl rfl rfl E.ixA ik_170 ?_
      refine E.Ops.nil ?_
      try simp only [E.tn, E.tx, E.tr, E.bn, E.br, E.bs]
      (repeat refine E.Run.seq ?_)
      refine E.Run.region ?_
      first | refine E.Ops.q _ (E.q_incr rfl rfl (by omega)) rfl rfl ?_ | refine E.Ops.q _ (E.q_addFit rfl rfl rfl (by omega)) rfl rfl ?_ | refine E.Ops.q _ (E.q_add rfl rfl rfl) rfl rfl ?_
      refine E.Ops.q _ (E.q_move rfl rfl) rfl rfl ?_
      refine E.Ops.nil ?_
      try simp only [E.tn, E.tx, E.tr, E.bn, E.br, E.bs]
      exact ⟨j + 1, by omega, by omega, by ((repeat refine E.SubEnv.cons rfl ?_); exact E.SubEnv.nil _), by exact E.Ent.of E.entA⟩
    · refine E.Run.exit ?_
      try simp only [E.tn, E.tx, E.tr, E.bn, E.br, E.bs]
      have : j = R := by omega
      subst this
      exact ⟨by ((repeat refine E.SubEnv.cons rfl ?_); exact E.SubEnv.nil _), by exact E.Ent.of E.entA⟩
  rintro L ρ1 M1 ⟨hs, he⟩
  refine E.Run.sub hs (E.Run.ent he ?_)
  clear hs he
  refine E.Run.freeze fun ρ1 hle1 hfr => ?_
  have hfirst : E.RoG ρ1 m2_0 R (envG R zeroE) := E.mpG_frozen hfr
  refine E.Run.ent (M1 := E.pt b1_3 169 [.slice cA code.length cc, .map (some m1_1), .slice none 0 0] :: E.mpG m1_1 0 (fun _ => none) :: E.arr 3 1 none 0 0 [] :: M) (E.Ent.of (E.SEnt.keep (E.SEnt.keep (E.SEnt.addNil (E.SEnt.refl _))))) ?_
  (repeat refine E.Run.seq ?_)
  refine E.Run.region ?_
  refine E.Ops.q _ (E.q_move rfl rfl) rfl rfl ?_
  refine E.Ops.q _ (E.q_move rfl rfl) rfl rfl ?_
  refine E.Ops.loud rfl rfl ?_
  refine E.l_call Try.func90 nm_90 nb_90 rfl ?_; refine optLead b1_3 m1_1 0 R m2_0 (.slice cA code.length cc) rfl none 0 (fun _ => none) (fun _ => none) [] 0 zeroE (fun k => .inl ⟨rfl, rfl⟩) hfirst (by simp) (fun ρ2 wA2 wc2 nA2 gA2 hle2 hA2 => ?_)
  refine E.Ops.nil ?_
  try simp only [E.tn, E.tx, E.tr, E.bn, E.br, E.bs]
  rw [show leadS R ((fun _ => none : StE), []) 0 zeroE = start R from rfl] at *
  have hst := start_inv R code.length
  have hbound : 2 * ((code.length + 1) * (R + 1)) ≤ 161202 := by
    have : (code.length + 1) * (R + 1) ≤ 401 * 201 := Nat.mul_le_mul (by omega) (by omega)
    omega
  generalize hsr : start R = s0 at *
  refine E.Run.seqCut (fun L' ρ' M' => ∃ ρ3 St wA wc nA gA, E.Ro.le ρ ρ3 ∧ AhRel ρ3 R gA St ∧ Goes R code s0 (St, []) ∧ E.SubEnv [(5, .pointer (some ⟨b1_3, 0, none⟩))] L' ∧ E.Ent ρ' M' ρ3 (E.mpG m1_1 nA gA :: E.pt b1_3 169 [.slice cA code.length cc, .map (some m1_1), .slice wA 0 wc] :: M)) ?_ ?_
  · (repeat refine E.Run.seq ?_); refine E.Run.block ?_
    (repeat refine E.Run.seq ?_); refine E.Run.loopR (fun (x : E.Ro × (StE × List Int) × Option Addr × Nat × Nat × (Int → Option Value)) => [(0, .slice cA code.length cc), (5, .pointer (some ⟨b1_3, 0, none⟩))]) (fun x => x.1)
      (fun x => E.pt b1_3 169 [.slice cA code.length cc, .map (some m1_1), .slice x.2.2.1 x.2.1.2.length x.2.2.2.1] :: E.mpG m1_1 x.2.2.2.2.1 x.2.2.2.2.2 :: E.arr 3 1 x.2.2.1 x.2.1.2.length x.2.2.2.1 (x.2.1.2.flatMap E.encI) :: M)
      (fun x => E.Ro.le ρ x.1 ∧ AhRel x.1 R x.2.2.2.2.2 x.2.1.1 ∧ InvS R code.length x.2.1 ∧ muS R code.length x.2.1 ≤ 161202 ∧ Goes R code s0 x.2.1) (fun x => muS R code.length x.2.1) (ρ2, s0, wA2, wc2, nA2, gA2)
      ⟨hle1.trans hle2, hA2, hst.1, by simp only; omega, Goes.refl _⟩ (by ((repeat refine E.SubEnv.cons rfl ?_); exact E.SubEnv.nil _)) (by exact E.Ent.of E.entA) ?_
    rintro ⟨ρ3, ⟨St, ws⟩, wA, wc, nA, gA⟩ ⟨hle3, hA3, hinv, hmu, hgoes⟩
    simp only at hle3 hA3 hinv hmu hgoes ⊢
    (repeat refine E.Run.seq ?_)
    refine E.Run.region ?_
    refine E.Ops.q _ (E.q_move rfl rfl) rfl rfl ?_
    refine E.Ops.q _ (E.q_nilCheck rfl rfl) rfl rfl ?_
    first | refine E.Ops.q _ (E.q_fieldAddr' rfl rfl fo_169_2) rfl rfl ?_ | refine E.Ops.q _ (E.q_fieldAddr rfl rfl fo_169_2) rfl rfl ?_
    refine E.Ops.q _ (E.q_load rfl rfl (by first | refine E.LoadAt.own E.ixA sc_23 (by rfl) | exact E.LoadAt.ro sc_23 (by assumption) | exact E.LoadAt.arr E.ixA sc_23 (by assumption))) rfl rfl ?_
    refine E.Ops.q _ (E.q_lenSlice rfl Try.underlying23) rfl rfl ?_
    refine E.Ops.q _ (E.q_gtr rfl rfl rfl) rfl rfl ?_
    refine E.Ops.nil ?_
    try simp only [E.tn, E.tx, E.tr, E.bn, E.br, E.bs]
    (repeat refine E.Run.seq ?_); refine E.Run.condD rfl (fun h9 => ?_) (fun h9 => ?_)
    · refine E.Run.skip ?_
      try simp only [E.tn, E.tx, E.tr, E.bn, E.br, E.bs]
      obtain ⟨l, x, rfl⟩ : ∃ l x, ws = l ++ [x] := by
        rcases List.eq_nil_or_concat ws with h | h
        · rw [h] at h9; simp at h9
        · obtain ⟨l, x, h⟩ := h
          exact ⟨l, x, by rw [h, List.concat_eq_append]⟩
      obtain ⟨V, hV⟩ := Option.isSome_iff_exists.1 (hinv.work x (by simp))
      simp only at hV
      obtain ⟨hx0, hx1⟩ := hinv.dom x V hV
      obtain ⟨k, rfl⟩ := Int.eq_ofNat_of_zero_le hx0
      have hlen : (l ++ [(k : Int)]).length = l.length + 1 := by simp
      obtain ⟨hinv', hmu'⟩ := stepS_inv hok hinv
      have hgoes' := hgoes.step
      have hll : l.length ≤ 161202 := by unfold muS at hmu; simp at hmu; omega
      rw [hlen]
      refine E.Run.arrSome E.ixA (Nat.succ_pos _) fun g hg hcap => ?_
      subst hg
      have hel : ((l ++ [(k : Int)]).flatMap E.encI)[((l.length + 1 : Nat) - 1 : Int).toNat * 1]? = some (.int .i64 k) := by
        rw [show ((l.length + 1 : Nat) - 1 : Int).toNat * 1 = l.length from by omega, List.flatMap_append, List.getElem?_append_right (by rw [E.flatMap_length (sz := 1) (fun _ => rfl)]; omega), E.flatMap_length (sz := 1) (fun _ => rfl)]
        simp [E.encI]
      (repeat refine E.Run.seq ?_); refine E.Run.block ?_
      (repeat refine E.Run.seq ?_)
      refine E.Run.draw (.ph [0, 1, 2, 3, 4, 5, 6, 7, 8, 9, 10, 11, 12] (.nil)) _ _ Try.mixed (by kernel_rfl) (E.Ent.nil _ _) ?_
      refine E.Plan.ph (by exact E.Ent.of E.entA) ?_
      refine E.PlanQ.q _ rfl _ (E.q_move rfl rfl) rfl rfl ?_
      refine E.PlanQ.q _ rfl _ (E.q_nilCheck rfl rfl) rfl rfl ?_
      first | refine E.PlanQ.q _ rfl _ (E.q_fieldAddr' rfl rfl fo_169_2) rfl rfl ?_ | refine E.PlanQ.q _ rfl _ (E.q_fieldAddr rfl rfl fo_169_2) rfl rfl ?_
      refine E.PlanQ.q _ rfl _ (E.q_load rfl rfl (by first | refine E.LoadAt.own E.ixA sc_23 (by rfl) | exact E.LoadAt.ro sc_23 (by assumption) | exact E.LoadAt.arr E.ixA sc_23 (by assumption))) rfl rfl ?_
      refine E.PlanQ.q _ rfl _ (E.q_move rfl rfl) rfl rfl ?_
      refine E.PlanQ.q _ rfl _ (E.q_nilCheck rfl rfl) rfl rfl ?_
      first | refine E.PlanQ.q _ rfl _ (E.q_fieldAddr' rfl rfl fo_169_2) rfl rfl ?_ | refine E.PlanQ.q _ rfl _ (E.q_fieldAddr rfl rfl fo_169_2) rfl rfl ?_
      refine E.PlanQ.q _ rfl _ (E.q_load rfl rfl (by first | refine E.LoadAt.own E.ixA sc_23 (by rfl) | exact E.LoadAt.ro sc_23 (by assumption) | exact E.LoadAt.arr E.ixA sc_23 (by assumption))) rfl rfl ?_
      refine E.PlanQ.q _ rfl _ (E.q_lenSlice rfl Try.underlying23) rfl rfl ?_
      first | refine E.PlanQ.q _ rfl _ (E.q_subFit rfl rfl rfl (by omega)) rfl rfl ?_ | refine E.PlanQ.q _ rfl _ (E.q_sub rfl rfl rfl) rfl rfl ?_
      first | refine E.PlanQ.q _ rfl _ (E.q_indexNat rfl rfl rfl so_23 (by first | assumption | omega)) rfl rfl ?_ | refine E.PlanQ.q _ rfl _ (E.q_indexAddr rfl rfl rfl so_23 (by omega) (by omega)) rfl rfl ?_
      refine E.PlanQ.q _ rfl _ (E.q_load rfl rfl (by exact E.LoadAt.arr E.ixA sc_3 hel)) rfl rfl ?_
      refine E.PlanQ.q _ rfl _ (E.q_mv rfl rfl) rfl rfl ?_
      refine E.PlanQ.nil ?_
      refine E.Plan.nil ?_
      try simp only [E.tn, E.tx, E.tr, E.bn, E.br, E.bs]
      (repeat refine E.Run.seq ?_)
      refine E.Run.draw (.ph [0, 1, 2, 3, 4, 5, 6, 7, 8, 9, 10, 11] (.q 12 (.q 13 (.l 14 (.nil))))) _ _ Try.mixed (by kernel_rfl) (E.Ent.nil _ _) ?_
      refine E.Plan.ph (by exact E.Ent.of E.entA) ?_
      refine E.PlanQ.q _ rfl _ (E.q_move rfl rfl) rfl rfl ?_
      refine E.PlanQ.q _ rfl _ (E.q_move rfl rfl) rfl rfl ?_
      refine E.PlanQ.q _ rfl _ (E.q_nilCheck rfl rfl) rfl rfl ?_
      first | refine E.PlanQ.q _ rfl _ (E.q_fieldAddr' rfl rfl fo_169_2) rfl rfl ?_ | refine E.PlanQ.q _ rfl _ (E.q_fieldAddr rfl rfl fo_169_2) rfl rfl ?_
      refine E.PlanQ.q _ rfl _ (E.q_load rfl rfl (by first | refine E.LoadAt.own E.ixA sc_23 (by rfl) | exact E.LoadAt.ro sc_23 (by assumption) | exact E.LoadAt.arr E.ixA sc_23 (by assumption))) rfl rfl ?_
      refine E.PlanQ.q _ rfl _ (E.q_move rfl rfl) rfl rfl ?_
      refine E.PlanQ.q _ rfl _ (E.q_nilCheck rfl rfl) rfl rfl ?_
      first | refine E.PlanQ.q _ rfl _ (E.q_fieldAddr' rfl rfl fo_169_2) rfl rfl ?_ | refine E.PlanQ.q _ rfl _ (E.q_fieldAddr rfl rfl fo_169_2) rfl rfl ?_
      refine E.PlanQ.q _ rfl _ (E.q_load rfl rfl (by first | refine E.LoadAt.own E.ixA sc_23 (by rfl) | exact E.LoadAt.ro sc_23 (by assumption) | exact E.LoadAt.arr E.ixA sc_23 (by assumption))) rfl rfl ?_
      refine E.PlanQ.q _ rfl _ (E.q_lenSlice rfl Try.underlying23) rfl rfl ?_
      first | refine E.PlanQ.q _ rfl _ (E.q_subFit rfl rfl rfl (by omega)) rfl rfl ?_ | refine E.PlanQ.q _ rfl _ (E.q_sub rfl rfl rfl) rfl rfl ?_
      refine E.PlanQ.q _ rfl _ (E.q_sliceTo rfl rfl rfl so_23 (by omega) (by omega)) rfl rfl ?_
      refine E.PlanQ.nil ?_
      refine E.Plan.q _ rfl _ (E.q_nilCheck rfl rfl) rfl rfl ?_
      first | refine E.Plan.q _ rfl _ (E.q_fieldAddr' rfl rfl fo_169_2) rfl rfl ?_ | refine E.Plan.q _ rfl _ (E.q_fieldAddr rfl rfl fo_169_2) rfl rfl ?_
      refine E.Plan.loud _ rfl rfl rfl ?_
      refine E.l_store rfl rfl rfl E.ixA 1 sz_23 (by rfl) (by rfl) (by rfl) (by rfl) ?_
      refine ⟨E.Ent.of E.entA, ?_⟩
      refine E.Plan.nil ?_
      try simp only [E.tn, E.tx, E.tr, E.bn, E.br, E.bs]
      simp only [show ((l.length + 1 : Nat) - 1 : Int).toNat = l.length from by omega]
      refine E.Run.ent (M1 := E.pt b1_3 169 [.slice cA code.length cc, .map (some m1_1), .slice (some ⟨g, 0, none⟩) l.length wc] :: E.mpG m1_1 nA gA :: E.arr 3 1 (some ⟨g, 0, none⟩) l.length wc (l.flatMap E.encI) :: M) (E.Ent.of (E.SEnt.keep (E.SEnt.keep (E.SEnt.imp (fun h H => by
        have := E.arr_take (m := l.length) (by omega) h H
        rwa [List.flatMap_append, List.take_left' (by rw [E.flatMap_length (sz := 1) (fun _ => rfl)])] at this) (E.SEnt.refl _))))) ?_
      (repeat refine E.Run.seq ?_)
      refine E.Run.region ?_
      refine E.Ops.q _ (E.q_move rfl rfl) rfl rfl ?_
      refine E.Ops.q _ (E.q_move rfl rfl) rfl rfl ?_
      refine E.Ops.q _ (E.q_lenSlice rfl Try.underlying45) rfl rfl ?_
      refine E.Ops.q _ (E.q_lss rfl rfl rfl) rfl rfl ?_
      refine E.Ops.nil ?_
      try simp only [E.tn, E.tx, E.tr, E.bn, E.br, E.bs]
      (repeat refine E.Run.seq ?_); refine E.Run.condD rfl (fun h12 => ?_) (fun h12 => ?_)
      · have hk : k < code.length := by omega
        have hstep : stepS R code St l k = leadsS R (flowV code[k] V) (St, l) (goesV k code[k] V) := by
          unfold stepS
          rw [Int.toNat_natCast, List.getElem?_eq_getElem hk, hV]
        rw [hstep] at hinv' hmu' hgoes'
        (repeat refine E.Run.seq ?_)
        refine E.Run.region ?_
        refine E.Ops.q _ (E.q_move rfl rfl) rfl rfl ?_
        refine E.Ops.q _ (E.q_move rfl rfl) rfl rfl ?_
        refine E.Ops.loud rfl rfl ?_
        refine E.l_call Try.func91 nm_91 nb_91 rfl ?_; refine optOrder b1_3 m1_1 nA R cA cc code (some ⟨g, 0, none⟩) wc gA St l k V (hcode.mono hle3.blk) (by omega) hk (hok.ins k hk) hA3 hV (by omega) (fun ρ4 wA4 wc4 nA4 gA4 hle4 hA4 => ?_)
        refine E.Ops.nil ?_
        try simp only [E.tn, E.tx, E.tr, E.bn, E.br, E.bs]
        exact ⟨(ρ4, leadsS R (flowV code[k] V) (St, l) (goesV k code[k] V), wA4, wc4, nA4, gA4), ⟨hle3.trans hle4, hA4, hinv', by simp only; omega, hgoes'⟩, hmu', by ((repeat refine E.SubEnv.cons rfl ?_); exact E.SubEnv.nil _), by exact E.Ent.of E.entA⟩
      · have hstep : stepS R code St l k = (St, l) := by
          unfold stepS
          rw [Int.toNat_natCast, List.getElem?_eq_none (by omega)]
        rw [hstep] at hinv' hmu' hgoes'
        refine E.Run.skip ?_
        try simp only [E.tn, E.tx, E.tr, E.bn, E.br, E.bs]
        exact ⟨(ρ3, (St, l), some ⟨g, 0, none⟩, wc, nA, gA), ⟨hle3, hA3, hinv', by simp only; omega, hgoes'⟩, hmu', by ((repeat refine E.SubEnv.cons rfl ?_); exact E.SubEnv.nil _), by exact E.Ent.of E.entA⟩
    · refine E.Run.exit ?_
      try simp only [E.tn, E.tx, E.tr, E.bn, E.br, E.bs]
      have : ws = [] := List.eq_nil_of_length_eq_zero (by omega)
      subst this
      exact ⟨ρ3, St, wA, wc, nA, gA, hle3, hA3, hgoes, by ((repeat refine E.SubEnv.cons rfl ?_); exact E.SubEnv.nil _), by exact E.Ent.of E.entA⟩
  rintro L ρ' M' ⟨ρ3, St, wA, wc, nA, gA, hle3, hA3, hgoes, hs, he⟩
  refine E.Run.sub hs (E.Run.ent he ?_)
  clear hs he
  refine E.Run.freeze fun ρ4 hle4 hfr4 => ?_
  refine E.Run.freeze fun ρ5 hle5 hfr5 => ?_
  (repeat refine E.Run.seq ?_)
  refine E.Run.region ?_
  refine E.Ops.q _ (E.q_move rfl rfl) rfl rfl ?_
  refine E.Ops.q _ (E.q_mv rfl rfl) rfl rfl ?_
  refine E.Ops.nil ?_
  try simp only [E.tn, E.tx, E.tr, E.bn, E.br, E.bs]
  refine E.Run.ret ?_
  try simp only [E.tn, E.tx, E.tr, E.bn, E.br, E.bs]
  exact ⟨_, _, _, E.ResOk.one rfl rfl, E.Ent.of E.entA, hK ρ5 b1_3 St (hle3.trans (hle4.trans hle5)) ⟨_, _, _, _, _, E.pt_frozen hfr5, (E.mpG_frozen hfr4).mono hle5, (hA3.mono hle4).mono hle5⟩ (by unfold Found; rw [hsr]; exact hgoes)⟩
end Go.Proofs.Ythpgjbdacknkgaa
