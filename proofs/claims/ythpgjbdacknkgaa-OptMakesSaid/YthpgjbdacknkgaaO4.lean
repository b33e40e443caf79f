/- opt's lead, walked. No statement of the seat in it. -/
import Derived.Test.YthpgjbdacknkgaaO3
set_option linter.unusedVariables false
set_option linter.unusedSimpArgs false
namespace Go.Proofs.Ythpgjbdacknkgaa
open Go
private theorem ag_172 : E.isAggOf Try.prog 172 2 = true := by kernel_rfl
private theorem fo_169_1 : E.fieldOff Try.prog 169 1 = some 1 := by kernel_rfl
private theorem fo_169_2 : E.fieldOff Try.prog 169 2 = some 2 := by kernel_rfl
private theorem ik_167 : E.isIntKey Try.prog 167 = some 170 := by kernel_rfl
private theorem ik_170 : E.isIntKey Try.prog 170 = some 172 := by kernel_rfl
private theorem nb_133 : Try.f133.body.isNone = false := by kernel_rfl
private theorem nb_134 : Try.f134.body.isNone = false := by kernel_rfl
private theorem nb_135 : Try.f135.body.isNone = false := by kernel_rfl
private theorem nm_133 : (Try.f133.name == "runtime.NumGoroutine") = false := by kernel_rfl
private theorem nm_134 : (Try.f134.name == "runtime.NumGoroutine") = false := by kernel_rfl
private theorem nm_135 : (Try.f135.name == "runtime.NumGoroutine") = false := by kernel_rfl
private theorem sc_167 : E.isScal Try.prog 167 = true := by kernel_rfl
private theorem sc_23 : E.isScal Try.prog 23 = true := by kernel_rfl
private theorem sz_172 : (Try.prog.info? 172).map (·.size) = some 2 := by kernel_rfl
private theorem sz_23 : (Try.prog.info? 23).map (·.size) = some 1 := by kernel_rfl
private theorem ty_170 : E.tyOf Try.prog 170 = some (some (.map none), 1, 8) := by kernel_rfl
private theorem ty_172 : E.tyOf Try.prog 172 = some (some (.agg #[.int .i64 0, .int .i64 0]), 2, 16) := by kernel_rfl
private theorem ty_3 : E.tyOf Try.prog 3 = some (some (.int .i64 0), 1, 8) := by kernel_rfl

abbrev StE := Int → Option (Int → Vl)
def joinE (V W : Int → Vl) : Int → Vl := fun k => meetV (V k) (W k)
def updS (St : StE) (k : Int) (V : Int → Vl) : StE := fun j => if j = k then some V else St j
/-- what is ahead of each order, and what is to be gone through, behind 'lead' -/
def leadS (R : Nat) (s : StE × List Int) (to' : Int) (V : Int → Vl) : StE × List Int :=
  match s.1 to' with
  | none => (updS s.1 to' V, s.2 ++ [to'])
  | some W => if eqE R (joinE V W) W = true then s else (updS s.1 to' (joinE V W), s.2 ++ [to'])
/-- what a map of maps holds -/
def AhRel (ρ : E.Ro) (R : Nat) (g : Int → Option Value) (St : StE) : Prop := ∀ k, (St k = none ∧ g k = none) ∨ ∃ V b, St k = some V ∧ g k = some (.map (some b)) ∧ E.RoG ρ b R (envG R V)
theorem AhRel.mono {ρ ρ' : E.Ro} (h : E.Ro.le ρ ρ') {R : Nat} {g : Int → Option Value} {St : StE} (H : AhRel ρ R g St) : AhRel ρ' R g St := fun k => by
  rcases H k with h1 | ⟨V, b, h1, h2, h3⟩
  · exact .inl h1
  · exact .inr ⟨V, b, h1, h2, h3.mono h⟩
theorem AhRel.upd {ρ : E.Ro} {R : Nat} {g : Int → Option Value} {St : StE} (H : AhRel ρ R g St) {k : Int} {V : Int → Vl} {b : Nat} (hb : E.RoG ρ b R (envG R V)) : AhRel ρ R (E.updG g k (.map (some b))) (updS St k V) := fun j => by
  unfold E.updG updS
  by_cases hj : j = k
  · rw [if_pos hj, if_pos hj]; exact .inr ⟨V, b, rfl, rfl, hb⟩
  · rw [if_neg hj, if_neg hj]; exact H j
theorem envG_congr {R : Nat} {V W : Int → Vl} (h : ∀ k : Int, 0 ≤ k → k < R → V k = W k) : envG R V = envG R W := by
  funext k
  unfold envG
  by_cases hk : 0 ≤ k ∧ k < R
  · rw [if_pos hk, if_pos hk, h k hk.1 hk.2]
  · rw [if_neg hk, if_neg hk]
theorem q_lookupOkV {P : Program} {L : E.Env} {ρ : E.Ro} {M : List E.Asr} {o : Oper} {t e : TypeId} {m x : Operand} {b n : Nat} {g : Int → Option Value} {k : Int} {z : Value} {sz by' : Nat} {r : Option Value} (hk : E.GIs ρ M b n g) (h : g k = r) (ho : o.op = .lookup t m x true) (hm : E.ev L m = some (.map (some b))) (hx : E.ev L x = some (.int .i64 k))
    (ht : E.isIntKey P t = some e) (hz : E.tyOf P e = some (some z, sz, by')) : E.QOp P L ρ M o (.tuple #[r.getD z, .bool r.isSome]) := by
  subst h
  exact E.q_lookupOkG ho hm hx hk ht hz

set_option maxRecDepth 100000 in
theorem optLead {ρ : E.Ro} {M : List E.Asr} {K : Value → E.Ro → List E.Asr → Prop} (bl bA nA R be : Nat) (cV : Value) (hcV : cV.cells.toList = [cV]) (wA : Option Addr) (wc : Nat) (gA : Int → Option Value) (St : StE) (ws : List Int) (to' : Int) (V : Int → Vl)
    (hA : AhRel ρ R gA St) (hg : E.RoG ρ be R (envG R V)) (hw : ws.length ≤ 4398046511104)
    (hK : ∀ ρ' wA' wc' nA' gA', E.Ro.le ρ ρ' → AhRel ρ' R gA' (leadS R (St, ws) to' V).1 → K (.tuple #[]) ρ' (E.pt bl 169 [cV, .map (some bA), .slice wA' (leadS R (St, ws) to' V).2.length wc'] :: E.mpG bA nA' gA' :: E.arr 3 1 wA' (leadS R (St, ws) to' V).2.length wc' ((leadS R (St, ws) to' V).2.flatMap E.encI) :: M)) :
    E.Hoa Try.prog 90 #[.pointer (some ⟨bl, 0, none⟩), .int .i64 to', .map (some be)] ρ (E.pt bl 169 [cV, .map (some bA), .slice wA ws.length wc] :: E.mpG bA nA gA :: E.arr 3 1 wA ws.length wc (ws.flatMap E.encI) :: M) K := by
  obtain ⟨r, hr⟩ : ∃ r, gA to' = r := ⟨_, rfl⟩
  refine E.Hoa.enter 60 Try.func90 rfl rfl rfl ?_
  have hrr : r = none ∨ ∃ bw, r = some (.map (some bw)) := by
    rcases hA to' with ⟨_, h⟩ | ⟨_, b, _, h, _⟩
    · exact .inl (hr.symm.trans h)
    · exact .inr ⟨b, hr.symm.trans h⟩
  refine E.Run.seqCut (fun L' ρ' M' => E.SubEnv [(0, .pointer (some ⟨bl, 0, none⟩)), (1, .int .i64 to'), (2, .map (some be)), (6, r.getD (.map none)), (7, .bool r.isSome)] L' ∧ E.Ent ρ' M' ρ (E.pt bl 169 [cV, .map (some bA), .slice wA ws.length wc] :: E.mpG bA nA gA :: E.arr 3 1 wA ws.length wc (ws.flatMap E.encI) :: M)) ?_ ?_
  · (repeat refine E.Run.seq ?_)
    refine E.Run.region ?_
    refine E.Ops.q _ (E.q_move rfl rfl) rfl rfl ?_
    refine E.Ops.q _ (E.q_nilCheck rfl rfl) rfl rfl ?_
    first | refine E.Ops.q _ (E.q_fieldAddr' rfl rfl fo_169_1) rfl rfl ?_ | refine E.Ops.q _ (E.q_fieldAddr rfl rfl fo_169_1) rfl rfl ?_
    refine E.Ops.q _ (E.q_load rfl rfl (by first | refine E.LoadAt.own E.ixA sc_167 (by rfl) | exact E.LoadAt.ro sc_167 (by assumption) | exact E.LoadAt.arr E.ixA sc_167 (by assumption))) rfl rfl ?_
    refine E.Ops.q _ (E.q_move rfl rfl) rfl rfl ?_
    refine E.Ops.q _ (q_lookupOkV (E.GIs.own E.ixA) hr rfl rfl rfl ik_167 ty_170) rfl rfl ?_
    refine E.Ops.q _ (E.q_move rfl rfl) rfl rfl ?_
    refine E.Ops.q _ (E.q_extract rfl rfl rfl) rfl rfl ?_
    refine E.Ops.q _ (E.q_extract rfl rfl rfl) rfl rfl ?_
    refine E.Ops.q _ (E.q_mv rfl rfl) rfl rfl ?_
    refine E.Ops.q _ (E.q_mv rfl rfl) rfl rfl ?_
    refine E.Ops.nil ?_
    try simp only [E.tn, E.tx, E.tr, E.bn, E.br, E.bs]
    exact ⟨by ((repeat refine E.SubEnv.cons rfl ?_); exact E.SubEnv.nil _), by exact E.Ent.of E.entA⟩
  rintro L ρ1 M1 ⟨hs, he⟩
  refine E.Run.sub hs (E.Run.ent he ?_)
  clear hs he
  (repeat refine E.Run.seq ?_)
  refine E.Run.region ?_
  refine E.Ops.q _ (E.q_move rfl rfl) rfl rfl ?_
  refine E.Ops.loud rfl rfl ?_
  refine E.l_call Try.func133 nm_133 nb_133 rfl ?_; refine mapsClone be R _ hg (fun bn => ?_)
  refine E.Ops.q _ (E.q_mv rfl rfl) rfl rfl ?_
  refine E.Ops.nil ?_
  try simp only [E.tn, E.tx, E.tr, E.bn, E.br, E.bs]
  refine E.Run.seqCut (fun L' ρ' M' => ∃ N : Int → Vl, (match St to' with | none => N = V | some W => N = joinE V W) ∧ E.SubEnv [(0, .pointer (some ⟨bl, 0, none⟩)), (1, .int .i64 to'), (6, r.getD (.map none)), (7, .bool r.isSome), (8, .map (some bn))] L' ∧ E.Ent ρ' M' ρ (E.mpG bn R (envG R N) :: E.pt bl 169 [cV, .map (some bA), .slice wA ws.length wc] :: E.mpG bA nA gA :: E.arr 3 1 wA ws.length wc (ws.flatMap E.encI) :: M)) ?_ ?_
  · rcases hA to' with ⟨h1, h2⟩ | ⟨W, bw, h1, h2, h3⟩
    · have : r = none := hr.symm.trans h2
      subst this
      (repeat refine E.Run.seq ?_)
      refine E.Run.region ?_
      refine E.Ops.q _ (E.q_move rfl rfl) rfl rfl ?_
      refine E.Ops.loud rfl rfl ?_
      refine E.l_rangeNil rfl rfl Try.underlying170 (fun bi => ?_)
      refine E.Ops.nil ?_
      try simp only [E.tn, E.tx, E.tr, E.bn, E.br, E.bs]
      (repeat refine E.Run.seq ?_); refine E.Run.block ?_
      (repeat refine E.Run.seq ?_); refine E.Run.loopS (fun (_ : Unit) => [(0, .pointer (some ⟨bl, 0, none⟩)), (1, .int .i64 to'), (6, .map none), (7, .bool false), (8, .map (some bn)), (23, .pointer (some ⟨bi, 0, none⟩))]) ρ (fun _ => E.itr0 bi :: E.mpG bn R (envG R V) :: E.pt bl 169 [cV, .map (some bA), .slice wA ws.length wc] :: E.mpG bA nA gA :: E.arr 3 1 wA ws.length wc (ws.flatMap E.encI) :: M) (fun _ => True) (fun _ => 0) () trivial (by ((repeat refine E.SubEnv.cons rfl ?_); exact E.SubEnv.nil _)) (by exact E.Ent.of E.entA) ?_
      rintro _ _
      (repeat refine E.Run.seq ?_)
      refine E.Run.region ?_
      refine E.Ops.q _ (E.q_nextNil rfl rfl E.ixA) rfl rfl ?_
      refine E.Ops.q _ (E.q_extract rfl rfl rfl) rfl rfl ?_
      refine E.Ops.nil ?_
      try simp only [E.tn, E.tx, E.tr, E.bn, E.br, E.bs]
      (repeat refine E.Run.seq ?_); refine E.Run.condF rfl ?_
      refine E.Run.exit ?_
      try simp only [E.tn, E.tx, E.tr, E.bn, E.br, E.bs]
      rw [h1]
      exact ⟨V, rfl, by ((repeat refine E.SubEnv.cons rfl ?_); exact E.SubEnv.nil _), by exact E.Ent.of E.entA⟩
    · have : r = some (.map (some bw)) := hr.symm.trans h2
      subst this
      obtain ⟨es, clock, hb, hes, hn⟩ := h3
      (repeat refine E.Run.seq ?_)
      refine E.Run.region ?_
      refine E.Ops.q _ (E.q_move rfl rfl) rfl rfl ?_
      refine E.Ops.loud rfl rfl ?_
      refine E.l_range rfl rfl Try.underlying170 hb (fun bi => ?_)
      refine E.Ops.nil ?_
      try simp only [E.tn, E.tx, E.tr, E.bn, E.br, E.bs]
      (repeat refine E.Run.seq ?_); refine E.Run.block ?_
      (repeat refine E.Run.seq ?_); refine E.Run.loopS (fun (_ : List MapEntry × (Int → Vl)) => [(0, .pointer (some ⟨bl, 0, none⟩)), (1, .int .i64 to'), (6, .map (some bw)), (7, .bool true), (8, .map (some bn)), (23, .pointer (some ⟨bi, 0, none⟩))]) ρ (fun x => E.itr bi bw clock x.1 :: E.mpG bn R (envG R x.2) :: E.pt bl 169 [cV, .map (some bA), .slice wA ws.length wc] :: E.mpG bA nA gA :: E.arr 3 1 wA ws.length wc (ws.flatMap E.encI) :: M)
        (fun x => (∀ e ∈ x.1, e ∈ es.toList) ∧ (x.1.map (·.born)).Nodup ∧ ∀ k : Int, 0 ≤ k → k < R → ((∃ e ∈ x.1, e.key = .int .i64 k) → x.2 k = meetV (V k) (W k)) ∧ ((¬ ∃ e ∈ x.1, e.key = .int .i64 k) → x.2 k = V k))
        (fun x => es.toList.length - x.1.length) ([], V) ⟨by simp, by simp, fun k _ _ => ⟨by simp, fun _ => rfl⟩⟩ (by ((repeat refine E.SubEnv.cons rfl ?_); exact E.SubEnv.nil _)) (by exact E.Ent.of E.entA) ?_
      rintro ⟨done, N⟩ ⟨hd1, hd2, hd3⟩
      (repeat refine E.Run.seq ?_)
      refine E.Run.region ?_
      refine E.Ops.loud rfl rfl ?_
      refine E.l_next rfl rfl E.ixA hb hes (fun hover => ?T1) (fun e he1 he2 => ?F1)
      case' F1 =>
        refine E.Ops.q _ (E.q_extract rfl rfl rfl) rfl rfl ?_
        refine E.Ops.nil ?_
        try simp only [E.tn, E.tx, E.tr, E.bn, E.br, E.bs]
      case' T1 =>
        refine E.Ops.q _ (E.q_extract rfl rfl rfl) rfl rfl ?_
        refine E.Ops.nil ?_
        try simp only [E.tn, E.tx, E.tr, E.bn, E.br, E.bs]
      · (repeat refine E.Run.seq ?_); refine E.Run.condF rfl ?_
        refine E.Run.exit ?_
        try simp only [E.tn, E.tx, E.tr, E.bn, E.br, E.bs]
        rw [h1, show envG R N = envG R (joinE V W) from envG_congr fun k k0 k1 => (hd3 k k0 k1).1 (by
          obtain ⟨e, he, hk, _⟩ := hes.all (envG_in ⟨k0, k1⟩)
          obtain ⟨e', he', hbo⟩ := List.mem_map.1 (hover e he)
          have : e' = e := E.born_inj hes.born (hd1 e' he') he hbo
          subst this
          exact ⟨e', he', hk⟩)]
        exact ⟨joinE V W, rfl, by ((repeat refine E.SubEnv.cons rfl ?_); exact E.SubEnv.nil _), by exact E.Ent.of E.entA⟩
      · obtain ⟨k, hkey, hval⟩ := hes.mem he1
        obtain ⟨hin, hval⟩ := envG_some hval
        obtain ⟨hlt, hd1', hd2'⟩ := E.done_lt hd1 hd2 he1 he2
        have hfresh : ¬ ∃ e ∈ done, e.key = .int .i64 k := by
          rintro ⟨e', he', hk'⟩
          have : e' = e := hes.one (hd1 e' he') he1 (hk'.trans hkey.symm)
          subst this
          exact he2 (List.mem_map_of_mem he')
        have hNk : N k = V k := (hd3 k hin.1 hin.2).2 hfresh
        (repeat refine E.Run.seq ?_); refine E.Run.condT rfl ?_
        refine E.Run.skip ?_
        try simp only [E.tn, E.tx, E.tr, E.bn, E.br, E.bs]
        (repeat refine E.Run.seq ?_); refine E.Run.block ?_
        (repeat refine E.Run.seq ?_)
        refine E.Run.region ?_
        refine E.Ops.q _ (E.q_entryKV rfl rfl E.ixA hb hes he1 hkey hval) rfl rfl ?_
        refine E.Ops.q _ (E.q_extract rfl rfl rfl) rfl rfl ?_
        refine E.Ops.q _ (E.q_extract rfl rfl rfl) rfl rfl ?_
        refine E.Ops.loud rfl rfl ?_
        refine E.l_alloc rfl ty_172 (fun b4_3 => ?_)
        refine E.Ops.q _ (E.q_mv rfl rfl) rfl rfl ?_
        refine E.Ops.loud rfl rfl ?_
        refine E.l_store rfl rfl rfl E.ixA 2 sz_172 (by rfl) (by rfl) (by rfl) (by rfl) ?_
        refine E.Ops.nil ?_
        try simp only [E.tn, E.tx, E.tr, E.bn, E.br, E.bs]
        (repeat refine E.Run.seq ?_)
        refine E.Run.region ?_
        refine E.Ops.q _ (E.q_move rfl rfl) rfl rfl ?_
        refine E.Ops.q _ (E.q_move rfl rfl) rfl rfl ?_
        refine E.Ops.q _ (E.q_move rfl rfl) rfl rfl ?_
        refine E.Ops.q _ (E.q_move rfl rfl) rfl rfl ?_
        refine E.Ops.q _ (q_lookupE (E.GIs.own E.ixA) hin rfl rfl rfl ik_170 ty_172) rfl rfl ?_
        refine E.Ops.q _ (E.q_load rfl rfl (by first | refine E.LoadAt.ownAgg E.ixA 2 ag_172 (by rfl) (by rfl) | exact E.LoadAt.roAgg ag_172 (by assumption) rfl)) rfl rfl ?_
        refine E.Ops.loud rfl rfl ?_
        refine E.l_call Try.func134 nm_134 nb_134 rfl ?_; refine optMeet (N k) (W k) ?_
        refine E.Ops.loud rfl rfl ?_
        refine E.l_mapUpdateG (.inl rfl) rfl rfl rfl E.ixA ik_170 ?_
        refine E.Ops.nil ?_
        try simp only [E.tn, E.tx, E.tr, E.bn, E.br, E.bs]
        rw [envG_upd hin]
        rw [if_pos (by rw [envG_in hin]; rfl)]
        refine ⟨(done ++ [e], updE N k (meetV (N k) (W k))), ⟨hd1', hd2', fun j j0 j1 => ?_⟩, by simp; simp at hlt; omega, by ((repeat refine E.SubEnv.cons rfl ?_); exact E.SubEnv.nil _), by exact E.Ent.of E.entA⟩
        unfold updE
        by_cases hj : j = k
        · subst hj
          refine ⟨fun _ => by show (if j = j then meetV (N j) (W j) else N j) = _; rw [if_pos rfl, hNk], fun hne => absurd ⟨e, by simp, hkey⟩ hne⟩
        · simp only [if_neg hj]
          obtain ⟨a1, a2⟩ := hd3 j j0 j1
          have : (∃ e' ∈ done ++ [e], e'.key = .int .i64 j) ↔ ∃ e' ∈ done, e'.key = .int .i64 j := by
            constructor
            · rintro ⟨e', he', hk'⟩
              rcases List.mem_append.1 he' with h | h
              · exact ⟨e', h, hk'⟩
              · rw [List.mem_singleton.1 h, hkey] at hk'
                cases hk'; exact absurd rfl hj
            · rintro ⟨e', he', hk'⟩; exact ⟨e', List.mem_append_left _ he', hk'⟩
          rw [this]
          exact ⟨a1, a2⟩
  rintro L ρ1 M1 ⟨N, hN, hs, he⟩
  refine E.Run.sub hs (E.Run.ent he ?_)
  clear hs he
  refine E.Run.freeze fun ρ' hle hfr => ?_
  have hbn : E.RoG ρ' bn R (envG R N) := E.mpG_frozen hfr
  have hA' := hA.mono hle
  rcases hA' to' with ⟨h1, h2⟩ | ⟨W, bw, h1, h2, h3⟩
  · have : r = none := hr.symm.trans h2
    subst this
    rw [h1] at hN
    subst hN
    rw [show leadS R (St, ws) to' N = (updS St to' N, ws ++ [to']) from by unfold leadS; simp only [h1]] at hK
    (repeat refine E.Run.seq ?_)
    refine E.Run.region ?_
    refine E.Ops.q _ (E.q_move rfl rfl) rfl rfl ?_
    refine E.Ops.q _ (E.q_not rfl rfl) rfl rfl ?_
    refine E.Ops.q _ (E.q_move rfl rfl) rfl rfl ?_
    refine E.Ops.skip rfl rfl ?_
    refine E.Ops.skip rfl rfl ?_
    refine E.Ops.skip rfl rfl ?_
    refine E.Ops.skip rfl rfl ?_
    refine E.Ops.q _ (E.q_pickT rfl rfl rfl) rfl rfl ?_
    refine E.Ops.nil ?_
    try simp only [E.tn, E.tx, E.tr, E.bn, E.br, E.bs]
    (repeat refine E.Run.seq ?_); refine E.Run.condT rfl ?_
    (repeat refine E.Run.seq ?_)
    refine E.Run.region ?_
    refine E.Ops.q _ (E.q_move rfl rfl) rfl rfl ?_
    refine E.Ops.q _ (E.q_nilCheck rfl rfl) rfl rfl ?_
    first | refine E.Ops.q _ (E.q_fieldAddr' rfl rfl fo_169_1) rfl rfl ?_ | refine E.Ops.q _ (E.q_fieldAddr rfl rfl fo_169_1) rfl rfl ?_
    refine E.Ops.q _ (E.q_load rfl rfl (by first | refine E.LoadAt.own E.ixA sc_167 (by rfl) | exact E.LoadAt.ro sc_167 (by assumption) | exact E.LoadAt.arr E.ixA sc_167 (by assumption))) rfl rfl ?_
    refine E.Ops.q _ (E.q_move rfl rfl) rfl rfl ?_
    refine E.Ops.q _ (E.q_move rfl rfl) rfl rfl ?_
    refine E.Ops.loud rfl rfl ?_
    refine E.l_mapUpdateG (.inl rfl) rfl rfl rfl E.ixA ik_167 ?_
    refine E.Ops.nil ?_
    try simp only [E.tn, E.tx, E.tr, E.bn, E.br, E.bs]
    (repeat refine E.Run.seq ?_)
    refine E.Run.region ?_
    refine E.Ops.q _ (E.q_move rfl rfl) rfl rfl ?_
    refine E.Ops.q _ (E.q_move rfl rfl) rfl rfl ?_
    refine E.Ops.q _ (E.q_nilCheck rfl rfl) rfl rfl ?_
    first | refine E.Ops.q _ (E.q_fieldAddr' rfl rfl fo_169_2) rfl rfl ?_ | refine E.Ops.q _ (E.q_fieldAddr rfl rfl fo_169_2) rfl rfl ?_
    refine E.Ops.q _ (E.q_load rfl rfl (by first | refine E.LoadAt.own E.ixA sc_23 (by rfl) | exact E.LoadAt.ro sc_23 (by assumption) | exact E.LoadAt.arr E.ixA sc_23 (by assumption))) rfl rfl ?_
    refine E.Ops.q _ (E.q_move rfl rfl) rfl rfl ?_
    refine E.Ops.loud rfl rfl ?_
    refine E.l_slice rfl rfl Try.underlying23 ty_3 rfl rfl rfl rfl rfl rfl (fun g8_6 => ?_)
    refine E.Ops.loud rfl rfl ?_
    refine E.l_append rfl rfl E.ixA Try.underlying23 ty_3 rfl (by decide) (E.SrcOf.arr E.ixA) (by intro u hu; simp only [List.map_cons, List.map_nil, List.flatten_cons, List.flatten_nil, List.append_nil, List.mem_cons, List.not_mem_nil, or_false] at hu; revert hu; simp [Value.cells]; try (intro e; subst e; rfl)) (by omega) (by omega) (fun A8_7 c8_7 => ?_)
    refine E.Ops.q _ (E.q_nilCheck rfl rfl) rfl rfl ?_
    first | refine E.Ops.q _ (E.q_fieldAddr' rfl rfl fo_169_2) rfl rfl ?_ | refine E.Ops.q _ (E.q_fieldAddr rfl rfl fo_169_2) rfl rfl ?_
    refine E.Ops.loud rfl rfl ?_
    refine E.l_store rfl rfl rfl E.ixA 1 sz_23 (by rfl) (by rfl) (by rfl) (by rfl) ?_
    refine E.Ops.nil ?_
    try simp only [E.tn, E.tx, E.tr, E.bn, E.br, E.bs]
    have hK2 : ∀ A' c' nA' gA', AhRel ρ' R gA' (updS St to' N) → K (.tuple #[]) ρ' (E.pt bl 169 [cV, .map (some bA), .slice A' (ws.length + 1) c'] :: E.mpG bA nA' gA' :: E.arr 3 1 A' (ws.length + 1) c' (ws.flatMap E.encI ++ [.int .i64 to']) :: M) := fun A' c' nA' gA' h => by
      have := hK ρ' A' c' nA' gA' hle h
      simp only [List.length_append, List.length_cons, List.length_nil, List.flatMap_append, List.flatMap_cons, List.flatMap_nil, List.append_nil] at this
      exact this
    exact ⟨_, _, _, E.ResOk.none rfl, E.Ent.of E.entA, hK2 A8_7 c8_7 _ _ (hA'.upd hbn)⟩
  · have : r = some (.map (some bw)) := hr.symm.trans h2
    subst this
    rw [h1] at hN
    simp only at hN
    subst hN
    have hls : leadS R (St, ws) to' V = if eqE R (joinE V W) W = true then (St, ws) else (updS St to' (joinE V W), ws ++ [to']) := by unfold leadS; simp only [h1]
    (repeat refine E.Run.seq ?_)
    refine E.Run.region ?_
    refine E.Ops.q _ (E.q_move rfl rfl) rfl rfl ?_
    refine E.Ops.q _ (E.q_not rfl rfl) rfl rfl ?_
    refine E.Ops.q _ (E.q_move rfl rfl) rfl rfl ?_
    refine E.Ops.q _ (E.q_move rfl rfl) rfl rfl ?_
    refine E.Ops.q _ (E.q_move rfl rfl) rfl rfl ?_
    refine E.Ops.loud rfl rfl ?_
    refine E.l_call Try.func135 nm_135 nb_135 rfl ?_; refine mapsEqual bn bw R _ W hbn h3 ?_
    refine E.Ops.bool (fun h6 => ?T2) (fun h6 => ?F2)
    case' F2 =>
      refine E.Ops.q _ (E.q_not rfl rfl) rfl rfl ?_
      refine E.Ops.q _ (E.q_pickF rfl rfl rfl) rfl rfl ?_
      refine E.Ops.nil ?_
      try simp only [E.tn, E.tx, E.tr, E.bn, E.br, E.bs]
    case' T2 =>
      refine E.Ops.q _ (E.q_not rfl rfl) rfl rfl ?_
      refine E.Ops.q _ (E.q_pickF rfl rfl rfl) rfl rfl ?_
      refine E.Ops.nil ?_
      try simp only [E.tn, E.tx, E.tr, E.bn, E.br, E.bs]
    · (repeat refine E.Run.seq ?_); refine E.Run.condF rfl ?_
      refine E.Run.skip ?_
      try simp only [E.tn, E.tx, E.tr, E.bn, E.br, E.bs]
      rw [hls, if_pos h6] at hK
      exact ⟨_, _, _, E.ResOk.none rfl, E.Ent.of E.entA, hK ρ' wA wc _ _ hle hA'⟩
    · (repeat refine E.Run.seq ?_); refine E.Run.condT rfl ?_
      rw [hls, if_neg (by rw [h6]; simp)] at hK
      (repeat refine E.Run.seq ?_)
      refine E.Run.region ?_
      refine E.Ops.q _ (E.q_move rfl rfl) rfl rfl ?_
      refine E.Ops.q _ (E.q_nilCheck rfl rfl) rfl rfl ?_
      first | refine E.Ops.q _ (E.q_fieldAddr' rfl rfl fo_169_1) rfl rfl ?_ | refine E.Ops.q _ (E.q_fieldAddr rfl rfl fo_169_1) rfl rfl ?_
      refine E.Ops.q _ (E.q_load rfl rfl (by first | refine E.LoadAt.own E.ixA sc_167 (by rfl) | exact E.LoadAt.ro sc_167 (by assumption) | exact E.LoadAt.arr E.ixA sc_167 (by assumption))) rfl rfl ?_
      refine E.Ops.q _ (E.q_move rfl rfl) rfl rfl ?_
      refine E.Ops.q _ (E.q_move rfl rfl) rfl rfl ?_
      refine E.Ops.loud rfl rfl ?_
      refine E.l_mapUpdateG (.inl rfl) rfl rfl rfl E.ixA ik_167 ?_
      refine E.Ops.nil ?_
      try simp only [E.tn, E.tx, E.tr, E.bn, E.br, E.bs]
      (repeat refine E.Run.seq ?_)
      refine E.Run.region ?_
      refine E.Ops.q _ (E.q_move rfl rfl) rfl rfl ?_
      refine E.Ops.q _ (E.q_move rfl rfl) rfl rfl ?_
      refine E.Ops.q _ (E.q_nilCheck rfl rfl) rfl rfl ?_
      first | refine E.Ops.q _ (E.q_fieldAddr' rfl rfl fo_169_2) rfl rfl ?_ | refine E.Ops.q _ (E.q_fieldAddr rfl rfl fo_169_2) rfl rfl ?_
      refine E.Ops.q _ (E.q_load rfl rfl (by first | refine E.LoadAt.own E.ixA sc_23 (by rfl) | exact E.LoadAt.ro sc_23 (by assumption) | exact E.LoadAt.arr E.ixA sc_23 (by assumption))) rfl rfl ?_
      refine E.Ops.q _ (E.q_move rfl rfl) rfl rfl ?_
      refine E.Ops.loud rfl rfl ?_
      refine E.l_slice rfl rfl Try.underlying23 ty_3 rfl rfl rfl rfl rfl rfl (fun g8_6 => ?_)
      refine E.Ops.loud rfl rfl ?_
      refine E.l_append rfl rfl E.ixA Try.underlying23 ty_3 rfl (by decide) (E.SrcOf.arr E.ixA) (by intro u hu; simp only [List.map_cons, List.map_nil, List.flatten_cons, List.flatten_nil, List.append_nil, List.mem_cons, List.not_mem_nil, or_false] at hu; revert hu; simp [Value.cells]; try (intro e; subst e; rfl)) (by omega) (by omega) (fun A8_7 c8_7 => ?_)
      refine E.Ops.q _ (E.q_nilCheck rfl rfl) rfl rfl ?_
      first | refine E.Ops.q _ (E.q_fieldAddr' rfl rfl fo_169_2) rfl rfl ?_ | refine E.Ops.q _ (E.q_fieldAddr rfl rfl fo_169_2) rfl rfl ?_
      refine E.Ops.loud rfl rfl ?_
      refine E.l_store rfl rfl rfl E.ixA 1 sz_23 (by rfl) (by rfl) (by rfl) (by rfl) ?_
      refine E.Ops.nil ?_
      try simp only [E.tn, E.tx, E.tr, E.bn, E.br, E.bs]
      have hK2 : ∀ A' c' nA' gA', AhRel ρ' R gA' (updS St to' (joinE V W)) → K (.tuple #[]) ρ' (E.pt bl 169 [cV, .map (some bA), .slice A' (ws.length + 1) c'] :: E.mpG bA nA' gA' :: E.arr 3 1 A' (ws.length + 1) c' (ws.flatMap E.encI ++ [.int .i64 to']) :: M) := fun A' c' nA' gA' h => by
        have := hK ρ' A' c' nA' gA' hle h
        simp only [List.length_append, List.length_cons, List.length_nil, List.flatMap_append, List.flatMap_cons, List.flatMap_nil, List.append_nil] at this
        exact this
      exact ⟨_, _, _, E.ResOk.none rfl, E.Ent.of E.entA, hK2 A8_7 c8_7 _ _ (hA'.upd hbn)⟩
end Go.Proofs.Ythpgjbdacknkgaa
