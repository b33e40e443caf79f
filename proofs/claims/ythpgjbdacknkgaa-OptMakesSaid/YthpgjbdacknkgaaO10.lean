/- opt.anew, walked: over any closure. No statement of the seat in it. -/
import Derived.Test.YthpgjbdacknkgaaO9
import Derived.Test.YthpgjbdacknkgaaExt
set_option linter.unusedVariables false
set_option linter.unusedSimpArgs false
namespace Go.Proofs.Ythpgjbdacknkgaa
open Go
private theorem ag_25 : E.isAggOf Try.prog 25 4 = true := by kernel_rfl
private theorem fo_25_0 : E.fieldOff Try.prog 25 0 = some 0 := by kernel_rfl
private theorem fo_25_1 : E.fieldOff Try.prog 25 1 = some 1 := by kernel_rfl
private theorem nb_74 : Try.f74.body.isNone = false := by kernel_rfl
private theorem nm_74 : (Try.f74.name == "runtime.NumGoroutine") = false := by kernel_rfl
private theorem sc_22 : E.isScal Try.prog 22 = true := by kernel_rfl
private theorem sc_23 : E.isScal Try.prog 23 = true := by kernel_rfl
private theorem sc_45 : E.isScal Try.prog 45 = true := by kernel_rfl
private theorem so_22 : E.sliceOf Try.prog 22 = some (45, 1) := by kernel_rfl
private theorem sz_22 : (Try.prog.info? 22).map (·.size) = some 1 := by kernel_rfl
private theorem sz_23 : (Try.prog.info? 23).map (·.size) = some 1 := by kernel_rfl
private theorem sz_25 : (Try.prog.info? 25).map (·.size) = some 4 := by kernel_rfl
private theorem ty_25 : E.tyOf Try.prog 25 = some (some (.agg #[.slice none 0 0, .slice none 0 0, .int .i64 0, .int .i64 0]), 4, 64) := by kernel_rfl
private theorem ty_45 : E.tyOf Try.prog 45 = some (some (.slice none 0 0), 1, 24) := by kernel_rfl

/-- a thread that is made anew: where it lies, its capacity, its orders -/
abbrev ThrV := Option Addr × Nat × List E.Ins
def encThr (x : ThrV) : List Value := [.slice x.1 x.2.2.length x.2.1]
theorem thr_code {h : E.Hl} {A : Option Addr} {l : List ThrV} (H : E.RdF h encThr 1 A l) (hr : ∀ x ∈ l, E.RdF h E.encIns 4 x.1 x.2.2) : RdCode h A (l.map (·.2.2)) := fun i x hx => by
  rw [List.getElem?_map] at hx
  cases hl : l[i]? with
  | none => rw [hl] at hx; cases hx
  | some y =>
    rw [hl] at hx
    simp only [Option.map_some, Option.some.injEq] at hx
    subst hx
    obtain ⟨ad, cs, h1, h2, h3, h4⟩ := H i y hl
    exact ⟨ad, cs, h1, ⟨y.1, y.2.1, h2, hr y (List.mem_of_getElem? hl)⟩, h3, h4⟩

set_option maxRecDepth 100000 in
theorem optAnew {ρ : E.Ro} {M : List E.Asr} {K : Value → E.Ro → List E.Asr → Prop} (A A' : Option Addr) (c c' : Nat) (p : Prg) (hp : PrgAt ρ A A' p) (h4 : p.code.length ≤ 4) (fk : FuncId) (fn : Func) (first cap : List Value) (Rth : List E.Ins → List E.Ins → Prop)
    (hf1 : Try.prog.funcs[fk]? = some fn) (hf2 : (fn.name == "runtime.NumGoroutine") = false) (hf3 : fn.body.isNone = false) (hsz : ∀ x ∈ p.code, ∀ out, Rth x out → out.length ≤ 4398046511104)
    (hf : ∀ (x : List E.Ins), x ∈ p.code → ∀ (ρ1 : E.Ro), E.Ro.le ρ ρ1 → ∀ A1 c1, E.RdF ρ1.blk E.encIns 4 A1 x → ∀ (M : List E.Asr) (K : Value → E.Ro → List E.Asr → Prop),
      (∀ B d out, Rth x out → K (.slice B out.length d) ρ1 (E.arr 44 4 B out.length d (out.flatMap E.encIns) :: M)) → E.Hoa Try.prog fk (first ++ [Value.slice A1 x.length c1] ++ cap).toArray ρ1 M K)
    (hK : ∀ ρ' B d B' d' (q : Prg), E.Ro.le ρ ρ' → PrgAt ρ' B B' q → q.words = p.words → q.locks = p.locks → q.regs = p.regs → q.code.length = p.code.length → (∀ t (h : t < p.code.length) (h' : t < q.code.length), Rth p.code[t] q.code[t]) → K (prgV B d B' d' q) ρ' M) :
    E.Hoa Try.prog 43 #[prgV A c A' c' p, .func (.func fk) first.toArray cap.toArray] ρ M K := by
  have hsmall := hp.small
  have hsmallW := hp.smallW
  refine E.Hoa.enter 31 Try.func43 rfl rfl rfl ?_
  (repeat refine E.Run.seq ?_)
  refine E.Run.region ?_
  refine E.Ops.loud rfl rfl ?_
  refine E.l_box rfl rfl (fun b0_0 => ?_)
  refine E.Ops.loud rfl rfl ?_
  refine E.l_alloc rfl ty_25 (fun b0_1 => ?_)
  refine E.Ops.nil ?_
  try simp only [E.tn, E.tx, E.tr, E.bn, E.br, E.bs]
  (repeat refine E.Run.seq ?_)
  refine E.Run.region ?_
  refine E.Ops.q _ (E.q_load rfl rfl (by first | refine E.LoadAt.ownAgg E.ixA 4 ag_25 (by rfl) (by rfl) | exact E.LoadAt.roAgg ag_25 (by assumption) rfl)) rfl rfl ?_
  refine E.Ops.loud rfl rfl ?_
  refine E.l_alloc rfl ty_25 (fun b1_1 => ?_)
  refine E.Ops.loud rfl rfl ?_
  refine E.l_store rfl rfl rfl E.ixA 4 sz_25 (by rfl) (by rfl) (by rfl) (by rfl) ?_
  refine E.Ops.nil ?_
  try simp only [E.tn, E.tx, E.tr, E.bn, E.br, E.bs]
  (repeat refine E.Run.seq ?_)
  refine E.Run.region ?_
  first | refine E.Ops.q _ (E.q_fieldAddr' rfl rfl fo_25_1) rfl rfl ?_ | refine E.Ops.q _ (E.q_fieldAddr rfl rfl fo_25_1) rfl rfl ?_
  refine E.Ops.q _ (E.q_load rfl rfl (by first | refine E.LoadAt.own E.ixA sc_23 (by rfl) | exact E.LoadAt.ro sc_23 (by assumption) | exact E.LoadAt.arr E.ixA sc_23 (by assumption))) rfl rfl ?_
  refine E.Ops.loud rfl rfl ?_
  refine E.l_call Try.func74 nm_74 nb_74 rfl ?_; refine slicesClone A' c' p.words hp.words hp.smallW (fun AW cW => ?_)
  first | refine E.Ops.q _ (E.q_fieldAddr' rfl rfl fo_25_0) rfl rfl ?_ | refine E.Ops.q _ (E.q_fieldAddr rfl rfl fo_25_0) rfl rfl ?_
  refine E.Ops.loud rfl rfl ?_
  refine E.l_store rfl rfl rfl E.ixA 1 sz_22 (by rfl) (by rfl) (by rfl) (by rfl) ?_
  first | refine E.Ops.q _ (E.q_fieldAddr' rfl rfl fo_25_1) rfl rfl ?_ | refine E.Ops.q _ (E.q_fieldAddr rfl rfl fo_25_1) rfl rfl ?_
  refine E.Ops.loud rfl rfl ?_
  refine E.l_store rfl rfl rfl E.ixA 1 sz_23 (by rfl) (by rfl) (by rfl) (by rfl) ?_
  refine E.Ops.nil ?_
  try simp only [E.tn, E.tx, E.tr, E.bn, E.br, E.bs]
  refine E.Run.freeze fun ρ1 hle1 hfr1 => ?_
  have hwords := E.arr_frozen (enc := E.encI) (fun _ => rfl) hfr1 rfl
  refine E.Run.seqCut (fun L' ρ' M' => ∃ ρ3 AO CO, ∃ l : List ThrV, E.Ro.le ρ1 ρ3 ∧ l.length = p.code.length ∧ (∀ x ∈ l, E.RdF ρ3.blk E.encIns 4 x.1 x.2.2) ∧ (∀ t (h : t < p.code.length) (h' : t < l.length), Rth p.code[t] l[t].2.2) ∧
    E.SubEnv [(4, .pointer (some ⟨b0_1, 0, none⟩)), (5, .pointer (some ⟨b1_1, 0, none⟩))] L' ∧ E.Ent ρ' M' ρ3 (E.arr 45 1 AO l.length CO (l.flatMap encThr) :: E.pt b1_1 25 [.slice AO l.length CO, .slice AW p.words.length cW, .int .i64 p.locks, .int .i64 p.regs] :: E.pt b0_1 25 [.slice none 0 0, .slice none 0 0, .int .i64 0, .int .i64 0] :: M)) ?_ ?_
  · (repeat refine E.Run.seq ?_)
    refine E.Run.region ?_
    first | refine E.Ops.q _ (E.q_fieldAddr' rfl rfl fo_25_0) rfl rfl ?_ | refine E.Ops.q _ (E.q_fieldAddr rfl rfl fo_25_0) rfl rfl ?_
    refine E.Ops.q _ (E.q_load rfl rfl (by first | refine E.LoadAt.own E.ixA sc_22 (by rfl) | exact E.LoadAt.ro sc_22 (by assumption) | exact E.LoadAt.arr E.ixA sc_22 (by assumption))) rfl rfl ?_
    refine E.Ops.q _ (E.q_lenSlice rfl Try.underlying22) rfl rfl ?_
    refine E.Ops.q _ (E.q_move rfl rfl) rfl rfl ?_
    refine E.Ops.nil ?_
    try simp only [E.tn, E.tx, E.tr, E.bn, E.br, E.bs]
    (repeat refine E.Run.seq ?_); refine E.Run.block ?_
    (repeat refine E.Run.seq ?_); refine E.Run.loopR (fun (x : E.Ro × Option Addr × Nat × List ThrV) => [(1, .func (.func fk) first.toArray cap.toArray), (4, .pointer (some ⟨b0_1, 0, none⟩)), (5, .pointer (some ⟨b1_1, 0, none⟩)), (15, .slice A p.code.length c), (16, .int .i64 p.code.length), (17, .int .i64 x.2.2.2.length)]) (fun x => x.1)
      (fun x => E.arr 45 1 x.2.1 x.2.2.2.length x.2.2.1 (x.2.2.2.flatMap encThr) :: E.pt b1_1 25 [.slice x.2.1 x.2.2.2.length x.2.2.1, .slice AW p.words.length cW, .int .i64 p.locks, .int .i64 p.regs] :: E.pt b0_1 25 [.slice none 0 0, .slice none 0 0, .int .i64 0, .int .i64 0] :: M)
      (fun x => E.Ro.le ρ1 x.1 ∧ x.2.2.2.length ≤ p.code.length ∧ (∀ y ∈ x.2.2.2, E.RdF x.1.blk E.encIns 4 y.1 y.2.2) ∧ (∀ t (h : t < p.code.length) (h' : t < x.2.2.2.length), Rth p.code[t] x.2.2.2[t].2.2)) (fun x => p.code.length - x.2.2.2.length) (ρ1, none, 0, [])
      ⟨E.Ro.le.refl _, Nat.zero_le _, (fun y hy => by cases hy), (fun t h h' => by cases h')⟩ (by ((repeat refine E.SubEnv.cons rfl ?_); exact E.SubEnv.nil _)) (E.Ent.of (E.SEnt.addNil E.entA)) ?_
    rintro ⟨ρ3, AO, CO, l⟩ ⟨hle3, hlen, hrd, hR⟩
    simp only at hle3 hlen hrd hR ⊢
    (repeat refine E.Run.seq ?_)
    refine E.Run.region ?_
    refine E.Ops.q _ (E.q_lss rfl rfl rfl) rfl rfl ?_
    refine E.Ops.nil ?_
    try simp only [E.tn, E.tx, E.tr, E.bn, E.br, E.bs]
    (repeat refine E.Run.seq ?_); refine E.Run.condD rfl (fun h5 => ?_) (fun h5 => ?_)
    · have hk : l.length < p.code.length := by omega
      obtain ⟨ad, rfl, A1, c1, hcell, hrd1⟩ := hp.thread hk
      have hrd3 := (hrd1.mono hle1.blk).mono hle3.blk
      have hcell3 := E.cellOf_mono (hle1.trans hle3).blk hcell
      refine E.Run.skip ?_
      try simp only [E.tn, E.tx, E.tr, E.bn, E.br, E.bs]
      (repeat refine E.Run.seq ?_)
      (repeat refine E.Run.seq ?_); refine E.Run.block ?_
      (repeat refine E.Run.seq ?_)
      refine E.Run.region ?_
      first | refine E.Ops.q _ (E.q_indexNat rfl rfl rfl so_22 (by first | assumption | omega)) rfl rfl ?_ | refine E.Ops.q _ (E.q_indexAddr rfl rfl rfl so_22 (by omega) (by omega)) rfl rfl ?_
      refine E.Ops.q _ (E.q_load rfl rfl (by exact E.LoadAt.ro sc_45 hcell3)) rfl rfl ?_
      refine E.Ops.q _ (E.q_mv rfl rfl) rfl rfl ?_
      refine E.Ops.nil ?_
      try simp only [E.tn, E.tx, E.tr, E.bn, E.br, E.bs]
      refine E.Run.cut (fun L' ρ' M' => ∃ B d out AN cN, Rth p.code[l.length] out ∧ E.SubEnv [(1, .func (.func fk) first.toArray cap.toArray), (4, .pointer (some ⟨b0_1, 0, none⟩)), (5, .pointer (some ⟨b1_1, 0, none⟩)), (15, .slice (some ad) p.code.length c), (16, .int .i64 p.code.length), (17, .int .i64 l.length)] L' ∧ E.Ent ρ' M' ρ3 (E.arr 44 4 B out.length d (out.flatMap E.encIns) :: E.arr 45 1 AN (l.length + 1) cN ((l ++ [(B, d, out)]).flatMap encThr) :: E.pt b1_1 25 [.slice AN (l.length + 1) cN, .slice AW p.words.length cW, .int .i64 p.locks, .int .i64 p.regs] :: E.pt b0_1 25 [.slice none 0 0, .slice none 0 0, .int .i64 0, .int .i64 0] :: M)) ?_ ?_
      · (repeat refine E.Run.seq ?_)
        refine E.Run.draw (.q 0 (.q 2 (.q 3 (.alt 1 4 (.l 4 (.l 5 (.l 6 (.q 7 (.l 8 (.nil)))))) (.alt 1 5 (.l 5 (.l 6 (.q 7 (.l 8 (.nil))))) (.l 1 (.l 6 (.q 7 (.l 8 (.nil)))))))))) _ _ Try.mixed (by kernel_rfl) (E.Ent.nil _ _) ?_
        first | refine E.Plan.q _ rfl _ (E.q_fieldAddr' rfl rfl fo_25_0) rfl rfl ?_ | refine E.Plan.q _ rfl _ (E.q_fieldAddr rfl rfl fo_25_0) rfl rfl ?_
        refine E.Plan.q _ rfl _ (E.q_move rfl rfl) rfl rfl ?_
        refine E.Plan.q _ rfl _ (E.q_move rfl rfl) rfl rfl ?_
        refine E.Plan.alt ?S1_0 ?S1_1
        case' S1_1 =>
          refine E.StepA.loud _ rfl rfl rfl ?_
          refine E.l_callVal rfl hf1 hf2 hf3 rfl ?_; refine hf _ (List.getElem_mem hk) ρ3 (hle1.trans hle3) _ _ hrd3 _ _ (fun B d out hout => ?_)
          refine ⟨E.Ent.of E.entA, ?_⟩
          refine E.Plan.alt ?S2_0 ?S2_1
          case' S2_1 =>
            refine E.StepA.loud _ rfl rfl rfl ?_
            refine E.l_slice rfl rfl Try.underlying22 ty_45 rfl rfl rfl rfl rfl rfl (fun g6_5 => ?_)
            refine ⟨E.Ent.of E.entA, ?_⟩
            refine E.Plan.loud _ rfl rfl rfl ?_
            refine E.LOp.q (E.q_load rfl rfl (by first | refine E.LoadAt.own E.ixA sc_22 (by rfl) | exact E.LoadAt.ro sc_22 (by assumption) | exact E.LoadAt.arr E.ixA sc_22 (by assumption))) ?_
            refine ⟨E.Ent.of E.entA, ?_⟩
            refine E.Plan.loud _ rfl rfl rfl ?_
            refine E.l_append rfl rfl E.ixA Try.underlying22 ty_45 rfl (by decide) (E.SrcOf.arr E.ixA) (by intro u hu; simp only [List.map_cons, List.map_nil, List.flatten_cons, List.flatten_nil, List.append_nil, List.mem_cons, List.not_mem_nil, or_false] at hu; revert hu; simp [Value.cells]; try (intro e; subst e; rfl)) (by omega) (by omega) (fun A6_6 c6_6 => ?_)
            refine ⟨E.Ent.of E.entA, ?_⟩
            first | refine E.Plan.q _ rfl _ (E.q_fieldAddr' rfl rfl fo_25_0) rfl rfl ?_ | refine E.Plan.q _ rfl _ (E.q_fieldAddr rfl rfl fo_25_0) rfl rfl ?_
            refine E.Plan.loud _ rfl rfl rfl ?_
            refine E.l_store rfl rfl rfl E.ixA 1 sz_22 (by rfl) (by rfl) (by rfl) (by rfl) ?_
            refine ⟨E.Ent.of E.entA, ?_⟩
            refine E.Plan.nil ?_
            try simp only [E.tn, E.tx, E.tr, E.bn, E.br, E.bs]
          case' S2_0 =>
            refine E.StepA.loud _ rfl rfl rfl ?_
            refine E.LOp.q (E.q_load rfl rfl (by first | refine E.LoadAt.own E.ixA sc_22 (by rfl) | exact E.LoadAt.ro sc_22 (by assumption) | exact E.LoadAt.arr E.ixA sc_22 (by assumption))) ?_
            refine ⟨E.Ent.of E.entA, ?_⟩
            refine E.Plan.loud _ rfl rfl rfl ?_
            refine E.l_slice rfl rfl Try.underlying22 ty_45 rfl rfl rfl rfl rfl rfl (fun g6_5 => ?_)
            refine ⟨E.Ent.of E.entA, ?_⟩
            refine E.Plan.loud _ rfl rfl rfl ?_
            refine E.l_append rfl rfl E.ixA Try.underlying22 ty_45 rfl (by decide) (E.SrcOf.arr E.ixA) (by intro u hu; simp only [List.map_cons, List.map_nil, List.flatten_cons, List.flatten_nil, List.append_nil, List.mem_cons, List.not_mem_nil, or_false] at hu; revert hu; simp [Value.cells]; try (intro e; subst e; rfl)) (by omega) (by omega) (fun A6_6 c6_6 => ?_)
            refine ⟨E.Ent.of E.entA, ?_⟩
            first | refine E.Plan.q _ rfl _ (E.q_fieldAddr' rfl rfl fo_25_0) rfl rfl ?_ | refine E.Plan.q _ rfl _ (E.q_fieldAddr rfl rfl fo_25_0) rfl rfl ?_
            refine E.Plan.loud _ rfl rfl rfl ?_
            refine E.l_store rfl rfl rfl E.ixA 1 sz_22 (by rfl) (by rfl) (by rfl) (by rfl) ?_
            refine ⟨E.Ent.of E.entA, ?_⟩
            refine E.Plan.nil ?_
            try simp only [E.tn, E.tx, E.tr, E.bn, E.br, E.bs]
        case' S1_0 =>
          refine E.StepA.loud _ rfl rfl rfl ?_
          refine E.LOp.q (E.q_load rfl rfl (by first | refine E.LoadAt.own E.ixA sc_22 (by rfl) | exact E.LoadAt.ro sc_22 (by assumption) | exact E.LoadAt.arr E.ixA sc_22 (by assumption))) ?_
          refine ⟨E.Ent.of E.entA, ?_⟩
          refine E.Plan.loud _ rfl rfl rfl ?_
          refine E.l_callVal rfl hf1 hf2 hf3 rfl ?_; refine hf _ (List.getElem_mem hk) ρ3 (hle1.trans hle3) _ _ hrd3 _ _ (fun B d out hout => ?_)
          refine ⟨E.Ent.of E.entA, ?_⟩
          refine E.Plan.loud _ rfl rfl rfl ?_
          refine E.l_slice rfl rfl Try.underlying22 ty_45 rfl rfl rfl rfl rfl rfl (fun g6_5 => ?_)
          refine ⟨E.Ent.of E.entA, ?_⟩
          refine E.Plan.loud _ rfl rfl rfl ?_
          refine E.l_append rfl rfl E.ixA Try.underlying22 ty_45 rfl (by decide) (E.SrcOf.arr E.ixA) (by intro u hu; simp only [List.map_cons, List.map_nil, List.flatten_cons, List.flatten_nil, List.append_nil, List.mem_cons, List.not_mem_nil, or_false] at hu; revert hu; simp [Value.cells]; try (intro e; subst e; rfl)) (by omega) (by omega) (fun A6_6 c6_6 => ?_)
          refine ⟨E.Ent.of E.entA, ?_⟩
          first | refine E.Plan.q _ rfl _ (E.q_fieldAddr' rfl rfl fo_25_0) rfl rfl ?_ | refine E.Plan.q _ rfl _ (E.q_fieldAddr rfl rfl fo_25_0) rfl rfl ?_
          refine E.Plan.loud _ rfl rfl rfl ?_
          refine E.l_store rfl rfl rfl E.ixA 1 sz_22 (by rfl) (by rfl) (by rfl) (by rfl) ?_
          refine ⟨E.Ent.of E.entA, ?_⟩
          refine E.Plan.nil ?_
          try simp only [E.tn, E.tx, E.tr, E.bn, E.br, E.bs]
        all_goals
          refine ⟨B, d, out, A6_6, c6_6, hout, by ((repeat refine E.SubEnv.cons rfl ?_); exact E.SubEnv.nil _), ?_⟩
          rw [List.flatMap_append]
          exact E.Ent.of E.entA
      rintro L1 ρ1' M1 ⟨B, d, out, AN, cN, hout, hs, he⟩
      refine E.Run.sub hs (E.Run.ent he ?_)
      clear hs he
      have := hsz _ (List.getElem_mem hk) out hout
      refine E.Run.freeze fun ρ4 hle4 hfr4 => ?_
      have hnew := E.arr_frozen (enc := E.encIns) (fun _ => rfl) hfr4 rfl
      (repeat refine E.Run.seq ?_)
      refine E.Run.region ?_
      first | refine E.Ops.q _ (E.q_incr rfl rfl (by omega)) rfl rfl ?_ | refine E.Ops.q _ (E.q_addFit rfl rfl rfl (by omega)) rfl rfl ?_ | refine E.Ops.q _ (E.q_add rfl rfl rfl) rfl rfl ?_
      refine E.Ops.q _ (E.q_move rfl rfl) rfl rfl ?_
      refine E.Ops.nil ?_
      try simp only [E.tn, E.tx, E.tr, E.bn, E.br, E.bs]
      have hl1 : (l ++ [((B, d, out) : ThrV)]).length = l.length + 1 := by simp
      refine ⟨(ρ4, AN, cN, l ++ [(B, d, out)]), ⟨hle3.trans hle4, by simp only [hl1]; omega, fun y hy => ?_, fun t h h' => ?_⟩, by simp only [hl1]; omega, by
        simp only [hl1]
        ((repeat refine E.SubEnv.cons rfl ?_); exact E.SubEnv.nil _), by
        simp only [hl1]
        exact E.Ent.of E.entA⟩
      · simp only at hy ⊢
        rcases List.mem_append.1 hy with h | h
        · exact (hrd y h).mono hle4.blk
        · have := List.mem_singleton.1 h
          subst this; exact hnew
      · simp only at h' ⊢
        by_cases ht : t < l.length
        · rw [List.getElem_append_left ht]; exact hR t h ht
        · have : t = l.length := by omega
          subst this
          rw [List.getElem_append_right (by omega)]
          simpa using hout
    · refine E.Run.exit ?_
      try simp only [E.tn, E.tx, E.tr, E.bn, E.br, E.bs]
      exact ⟨ρ3, AO, CO, l, hle3, by omega, hrd, hR, by ((repeat refine E.SubEnv.cons rfl ?_); exact E.SubEnv.nil _), by exact E.Ent.of E.entA⟩
  rintro L ρ2 M2 ⟨ρ3, AO, CO, l, hle3, hlen, hrd, hR, hs, he⟩
  refine E.Run.sub hs (E.Run.ent he ?_)
  clear hs he
  refine E.Run.freeze fun ρ4 hle4 hfr4 => ?_
  have hthr := thr_code (E.arr_frozen (enc := encThr) (fun _ => rfl) hfr4 rfl) (fun x hx => (hrd x hx).mono hle4.blk)
  (repeat refine E.Run.seq ?_)
  refine E.Run.region ?_
  refine E.Ops.q _ (E.q_load rfl rfl (by first | refine E.LoadAt.ownAgg E.ixA 4 ag_25 (by rfl) (by rfl) | exact E.LoadAt.roAgg ag_25 (by assumption) rfl)) rfl rfl ?_
  refine E.Ops.loud rfl rfl ?_
  refine E.l_store rfl rfl rfl E.ixA 4 sz_25 (by rfl) (by rfl) (by rfl) (by rfl) ?_
  refine E.Ops.nil ?_
  try simp only [E.tn, E.tx, E.tr, E.bn, E.br, E.bs]
  refine E.Run.ret ?_
  try simp only [E.tn, E.tx, E.tr, E.bn, E.br, E.bs]
  have hlm : (l.map (·.2.2)).length = l.length := List.length_map _
  have hfin := hK ρ4 AO CO AW cW ⟨l.map (·.2.2), p.words, p.locks, p.regs⟩ (hle1.trans (hle3.trans hle4)) ⟨hthr, (hwords.mono hle3.blk).mono hle4.blk, by simp only [hlm]; omega, hp.smallW, fun x hx => by
      obtain ⟨t, ht, rfl⟩ := List.getElem_of_mem hx
      have ht' : t < l.length := by simpa using ht
      rw [List.getElem_map]
      exact hsz _ (List.getElem_mem (by omega)) _ (hR t (by omega) ht')⟩ rfl rfl rfl (by simp only [hlm]; exact hlen) (fun t h h' => by
        simp only [List.getElem_map]
        exact hR t h (by omega))
  unfold prgV at hfin
  simp only [hlm] at hfin
  exact ⟨_, _, _, E.ResOk.one rfl ⟨_, rfl, E.LoadAt.ownAgg E.ixA 4 ag_25 (by rfl) (by rfl)⟩, E.Ent.of E.entA, hfin⟩
end Go.Proofs.Ythpgjbdacknkgaa
