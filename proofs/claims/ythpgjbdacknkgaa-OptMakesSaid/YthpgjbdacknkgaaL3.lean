/- live.Sets, walked. No statement of the seat in it. -/
import Derived.Test.YthpgjbdacknkgaaL2
import Derived.Test.YthpgjbdacknkgaaO9
set_option linter.unusedVariables false
set_option linter.unusedSimpArgs false
namespace Go.Proofs.Ythpgjbdacknkgaa
open Go
private theorem ag_44 : E.isAggOf Try.prog 44 4 = true := by kernel_rfl
private theorem ag_89 : E.isAggOf Try.prog 89 200 = true := by kernel_rfl
private theorem ao_89 : E.arrayOf Try.prog 89 = some (200, 4, 1) := by kernel_rfl
private theorem ibt_89 : E.isBits Try.prog 89 = true := by kernel_rfl
private theorem nb_93 : Try.f93.body.isNone = false := by kernel_rfl
private theorem nb_94 : Try.f94.body.isNone = false := by kernel_rfl
private theorem nb_95 : Try.f95.body.isNone = false := by kernel_rfl
private theorem nm_93 : (Try.f93.name == "runtime.NumGoroutine") = false := by kernel_rfl
private theorem nm_94 : (Try.f94.name == "runtime.NumGoroutine") = false := by kernel_rfl
private theorem nm_95 : (Try.f95.name == "runtime.NumGoroutine") = false := by kernel_rfl
private theorem sc_3 : E.isScal Try.prog 3 = true := by kernel_rfl
private theorem sc_4 : E.isScal Try.prog 4 = true := by kernel_rfl
private theorem so_23 : E.sliceOf Try.prog 23 = some (3, 1) := by kernel_rfl
private theorem so_45 : E.sliceOf Try.prog 45 = some (44, 4) := by kernel_rfl
private theorem so_86 : E.sliceOf Try.prog 86 = some (89, 200) := by kernel_rfl
private theorem sz_4 : (Try.prog.info? 4).map (·.size) = some 1 := by kernel_rfl
private theorem sz_89 : (Try.prog.info? 89).map (·.size) = some 200 := by kernel_rfl
private theorem ty_89 : E.tyOf Try.prog 89 = some (some (.agg #[.bool false, .bool false, .bool false, .bool false, .bool false, .bool false, .bool false, .bool false, .bool false, .bool false, .bool false, .bool false, .bool false, .bool false, .bool false, .bool false, .bool false, .bool false, .bool false, .bool false, .bool false, .bool false, .bool false, .bool false, .bool false, .bool false, .bool false, .bool false, .bool false, .bool false, .bool false, .bool false, .bool false, .bool false, .bool false, .bool false, .bool false, .bool false, .bool false, .bool false, .bool false, .bool false, .bool false, .bool false, .bool false, .bool false, .bool false, .bool false, .bool false, .bool false, .bool false, .bool false, .bool false, .bool false, .bool false, .bool false, .bool false, .bool false, .bool false, .bool false, .bool false, .bool false, .bool false, .bool false, .bool false, .bool false, .bool false, .bool false, .bool false, .bool false, .bool false, .bool false, .bool false, .bool false, .bool false, .bool false, .bool false, .bool false, .bool false, .bool false, .bool false, .bool false, .bool false, .bool false, .bool false, .bool false, .bool false, .bool false, .bool false, .bool false, .bool false, .bool false, .bool false, .bool false, .bool false, .bool false, .bool false, .bool false, .bool false, .bool false, .bool false, .bool false, .bool false, .bool false, .bool false, .bool false, .bool false, .bool false, .bool false, .bool false, .bool false, .bool false, .bool false, .bool false, .bool false, .bool false, .bool false, .bool false, .bool false, .bool false, .bool false, .bool false, .bool false, .bool false, .bool false, .bool false, .bool false, .bool false, .bool false, .bool false, .bool false, .bool false, .bool false, .bool false, .bool false, .bool false, .bool false, .bool false, .bool false, .bool false, .bool false, .bool false, .bool false, .bool false, .bool false, .bool false, .bool false, .bool false, .bool false, .bool false, .bool false, .bool false, .bool false, .bool false, .bool false, .bool false, .bool false, .bool false, .bool false, .bool false, .bool false, .bool false, .bool false, .bool false, .bool false, .bool false, .bool false, .bool false, .bool false, .bool false, .bool false, .bool false, .bool false, .bool false, .bool false, .bool false, .bool false, .bool false, .bool false, .bool false, .bool false, .bool false, .bool false, .bool false, .bool false, .bool false, .bool false, .bool false, .bool false, .bool false, .bool false, .bool false, .bool false, .bool false, .bool false, .bool false, .bool false, .bool false, .bool false, .bool false]), 200, 200) := by kernel_rfl

theorem encS_congr {s s' : Bits} (h : ∀ r, r < 200 → s r = s' r) : E.encS s = E.encS s' := by
  unfold E.encS
  refine List.map_congr_left fun r hr => ?_
  rw [h r (List.mem_range.1 hr)]
theorem bitV {P : Program} {ρ : E.Ro} {M : List E.Asr} {t T : TypeId} {b k : Nat} {a : Addr} {s : Bits} {v : Bool} {f : E.Asr → List E.Asr} (hk : E.Ix M (E.pt b T (E.encS s)) f) (ht : E.isScal P t = true) (ha : a = ⟨b, k, none⟩) (hlt : k < 200) (hv : s k = v) : E.LoadAt P ρ M t a (.bool v) := by
  rw [← hv]; exact E.LoadAt.bit hk ht ha hlt
/-- what the walk of Sets asks of orders -/
structure LiveIn (code : List E.Ins) : Prop where
  nexts : NextsIn code
  writes : ∀ k (h : k < code.length), insWrites code[k] ≥ 0 → insWrites code[k] < 200
  reads : ∀ k (h : k < code.length), ∀ x ∈ insReads code[k], 0 ≤ x ∧ x < 200
theorem replicate_encS (n : Nat) (s : Bits) : (List.replicate n (E.encS s)).flatten = (List.replicate n s).flatMap E.encS := by
  induction n with
  | zero => rfl
  | succ n ih => rw [List.replicate_succ, List.replicate_succ, List.flatten_cons, List.flatMap_cons, ih]

set_option maxRecDepth 100000 in
theorem liveSets {ρ : E.Ro} {M : List E.Asr} {K : Value → E.Ro → List E.Asr → Prop} (cA : Option Addr) (cc : Nat) (code : List E.Ins) (hcode : E.RdF ρ.blk E.encIns 4 cA code) (hsz : code.length ≤ 400) (hin : LiveIn code)
    (hK : ∀ g ys, LiveOf code ys → K (.slice (some ⟨g, 0, none⟩) ys.length ys.length) ρ (E.arr 89 200 (some ⟨g, 0, none⟩) ys.length ys.length (ys.flatMap E.encS) :: M)) :
    E.Hoa Try.prog 49 #[.slice cA code.length cc] ρ M K := by
  refine E.Hoa.enter 85 Try.func49 rfl rfl rfl ?_
  (repeat refine E.Run.seq ?_)
  refine E.Run.region ?_
  refine E.Ops.q _ (E.q_mv rfl rfl) rfl rfl ?_
  refine E.Ops.nil ?_
  try simp only [E.tn, E.tx, E.tr, E.bn, E.br, E.bs]
  (repeat refine E.Run.seq ?_)
  refine E.Run.region ?_
  refine E.Ops.q _ (E.q_move rfl rfl) rfl rfl ?_
  refine E.Ops.q _ (E.q_lenSlice rfl Try.underlying45) rfl rfl ?_
  first | refine E.Ops.q _ (E.q_incr rfl rfl (by omega)) rfl rfl ?_ | refine E.Ops.q _ (E.q_addFit rfl rfl rfl (by omega)) rfl rfl ?_ | refine E.Ops.q _ (E.q_add rfl rfl rfl) rfl rfl ?_
  refine E.Ops.loud rfl rfl ?_
  refine E.l_make rfl rfl rfl Try.underlying86 ty_89 rfl (by omega) (by omega) (fun g1_3 => ?_)
  refine E.Ops.q _ (E.q_mv rfl rfl) rfl rfl ?_
  refine E.Ops.nil ?_
  try simp only [E.tn, E.tx, E.tr, E.bn, E.br, E.bs]
  refine E.Run.seqCut (fun L' ρ' M' => ∃ ys, LiveOf code ys ∧ E.SubEnv [(3, .slice (some ⟨g1_3, 0, none⟩) ys.length ys.length)] L' ∧ E.Ent ρ' M' ρ (E.arr 89 200 (some ⟨g1_3, 0, none⟩) ys.length ys.length (ys.flatMap E.encS) :: M)) ?_ ?_
  · (repeat refine E.Run.seq ?_)
    refine E.Run.region ?_
    refine E.Ops.q _ (E.q_mv rfl rfl) rfl rfl ?_
    refine E.Ops.nil ?_
    try simp only [E.tn, E.tx, E.tr, E.bn, E.br, E.bs]
    (repeat refine E.Run.seq ?_); refine E.Run.block ?_
    (repeat refine E.Run.seq ?_); refine E.Run.loopS (fun (x : List Bits × Bool) => [(0, .slice cA code.length cc), (3, .slice (some ⟨g1_3, 0, none⟩) (code.length + 1) (code.length + 1)), (4, .bool x.2)]) ρ
      (fun x => E.arr 89 200 (some ⟨g1_3, 0, none⟩) (code.length + 1) (code.length + 1) (x.1.flatMap E.encS) :: M)
      (fun x => InvL code x.1 ∧ (x.2 = false → ∀ k (h : k < code.length), leB (nowF code[k] k (atS x.1)) (atS x.1 k))) (fun x => 2 * falses x.1 + (if x.2 then 1 else 0)) (List.replicate (code.length + 1) (fun _ => false), true)
      ⟨InvL.start code, (fun h => by cases h)⟩ (by ((repeat refine E.SubEnv.cons rfl ?_); exact E.SubEnv.nil _)) (by
        show E.Ent ρ (E.arr 89 200 (some ⟨g1_3, 0, none⟩) (code.length + 1) (code.length + 1) ((List.replicate (code.length + 1) (E.encS fun _ => false)).flatten) :: M) ρ _
        rw [replicate_encS]
        exact E.Ent.of E.entA) ?_
    rintro ⟨ys0, ag⟩ ⟨hinv0, hag0⟩
    simp only at hinv0 hag0 ⊢
    refine E.Run.seqCut (fun L' ρ' M' => ag = true ∧ E.SubEnv [(0, .slice cA code.length cc), (3, .slice (some ⟨g1_3, 0, none⟩) (code.length + 1) (code.length + 1))] L' ∧ E.Ent ρ' M' ρ (E.arr 89 200 (some ⟨g1_3, 0, none⟩) (code.length + 1) (code.length + 1) (ys0.flatMap E.encS) :: M)) ?_ ?_
    · (repeat refine E.Run.seq ?_)
      refine E.Run.region ?_
      refine E.Ops.q _ (E.q_move rfl rfl) rfl rfl ?_
      refine E.Ops.nil ?_
      try simp only [E.tn, E.tx, E.tr, E.bn, E.br, E.bs]
      (repeat refine E.Run.seq ?_); refine E.Run.cond rfl (fun h3 => ?_) (fun h3 => ?_)
      · refine E.Run.skip ?_
        try simp only [E.tn, E.tx, E.tr, E.bn, E.br, E.bs]
        exact ⟨h3, by ((repeat refine E.SubEnv.cons rfl ?_); exact E.SubEnv.nil _), by exact E.Ent.of E.entA⟩
      · refine E.Run.exit ?_
        try simp only [E.tn, E.tx, E.tr, E.bn, E.br, E.bs]
        have hl0 := hinv0.len
        refine ⟨ys0, hinv0.live (hag0 h3), by rw [hl0]; ((repeat refine E.SubEnv.cons rfl ?_); exact E.SubEnv.nil _), by rw [hl0]; exact E.Ent.of E.entA⟩
    rintro L1 ρ1 M1 ⟨hag, hs, he⟩
    refine E.Run.sub hs (E.Run.ent he ?_)
    clear hs he
    subst hag
    (repeat refine E.Run.seq ?_); refine E.Run.block ?_
    (repeat refine E.Run.seq ?_)
    refine E.Run.region ?_
    refine E.Ops.q _ (E.q_mv rfl rfl) rfl rfl ?_
    refine E.Ops.nil ?_
    try simp only [E.tn, E.tx, E.tr, E.bn, E.br, E.bs]
    (repeat refine E.Run.seq ?_)
    refine E.Run.region ?_
    refine E.Ops.q _ (E.q_move rfl rfl) rfl rfl ?_
    refine E.Ops.q _ (E.q_lenSlice rfl Try.underlying45) rfl rfl ?_
    first | refine E.Ops.q _ (E.q_subFit rfl rfl rfl (by omega)) rfl rfl ?_ | refine E.Ops.q _ (E.q_sub rfl rfl rfl) rfl rfl ?_
    refine E.Ops.q _ (E.q_mv rfl rfl) rfl rfl ?_
    refine E.Ops.nil ?_
    try simp only [E.tn, E.tx, E.tr, E.bn, E.br, E.bs]
    (repeat refine E.Run.seq ?_); refine E.Run.block ?_
    (repeat refine E.Run.seq ?_); refine E.Run.loopS (fun (x : Nat × List Bits × Bool) => [(0, .slice cA code.length cc), (3, .slice (some ⟨g1_3, 0, none⟩) (code.length + 1) (code.length + 1)), (4, .bool x.2.2), (5, .int .i64 ((x.1 : Int) - 1))]) ρ
      (fun x => E.arr 89 200 (some ⟨g1_3, 0, none⟩) (code.length + 1) (code.length + 1) (x.2.1.flatMap E.encS) :: M)
      (fun x => x.1 ≤ code.length ∧ InvL code x.2.1 ∧ (x.2.2 = false → x.2.1 = ys0 ∧ ∀ k (h : k < code.length), x.1 ≤ k → leB (nowF code[k] k (atS x.2.1)) (atS x.2.1 k)) ∧ falses x.2.1 ≤ falses ys0 ∧ (x.2.2 = true → falses x.2.1 < falses ys0)) (fun x => x.1) (code.length, ys0, false)
      ⟨Nat.le_refl _, hinv0, (fun _ => ⟨rfl, fun k h h' => by simp only at h'; omega⟩), Nat.le_refl _, (fun h => by cases h)⟩ (by ((repeat refine E.SubEnv.cons rfl ?_); exact E.SubEnv.nil _)) (by exact E.Ent.of E.entA) ?_
    rintro ⟨m, ys, ag⟩ ⟨hm, hinv, hag, hf1, hf2⟩
    simp only at hm hinv hag hf1 hf2 ⊢
    refine E.Run.seqCut (fun L' ρ' M' => 1 ≤ m ∧ E.SubEnv [(0, .slice cA code.length cc), (3, .slice (some ⟨g1_3, 0, none⟩) (code.length + 1) (code.length + 1)), (4, .bool ag), (5, .int .i64 ((m : Int) - 1))] L' ∧ E.Ent ρ' M' ρ (E.arr 89 200 (some ⟨g1_3, 0, none⟩) (code.length + 1) (code.length + 1) (ys.flatMap E.encS) :: M)) ?_ ?_
    · (repeat refine E.Run.seq ?_)
      refine E.Run.region ?_
      refine E.Ops.q _ (E.q_move rfl rfl) rfl rfl ?_
      refine E.Ops.q _ (E.q_geq rfl rfl rfl) rfl rfl ?_
      refine E.Ops.nil ?_
      try simp only [E.tn, E.tx, E.tr, E.bn, E.br, E.bs]
      (repeat refine E.Run.seq ?_); refine E.Run.condD rfl (fun h6 => ?_) (fun h6 => ?_)
      · refine E.Run.skip ?_
        try simp only [E.tn, E.tx, E.tr, E.bn, E.br, E.bs]
        exact ⟨by omega, by ((repeat refine E.SubEnv.cons rfl ?_); exact E.SubEnv.nil _), by exact E.Ent.of E.entA⟩
      · refine E.Run.exit ?_
        try simp only [E.tn, E.tx, E.tr, E.bn, E.br, E.bs]
        have : m = 0 := by omega
        subst this
        refine ⟨(ys, ag), ⟨hinv, fun h k hk => (hag h).2 k hk (Nat.zero_le _)⟩, ?_, by ((repeat refine E.SubEnv.cons rfl ?_); exact E.SubEnv.nil _), by exact E.Ent.of E.entA⟩
        simp only
        cases ag with
        | false => simp; omega
        | true => have := hf2 rfl; simp; omega
    rintro L1 ρ1 M1 ⟨hm1, hs, he⟩
    refine E.Run.sub hs (E.Run.ent he ?_)
    clear hs he
    obtain ⟨k, rfl⟩ : ∃ k, m = k + 1 := ⟨m - 1, by omega⟩
    have hk : k < code.length := by omega
    rw [show (((k + 1 : Nat) : Int) - 1) = (k : Int) from by omega]
    have hnx := hin.nexts k hk
    have hwr := hin.writes k hk
    have hrd := hin.reads k hk
    have hilen := hinv.len
    generalize hi : code[k] = i at *
    refine E.Run.seqCut (fun L' ρ' M' => ∃ ys' ag', (InvL code ys' ∧ (ag' = false → ys' = ys0 ∧ ∀ j (h : j < code.length), k ≤ j → leB (nowF code[j] j (atS ys')) (atS ys' j)) ∧ falses ys' ≤ falses ys0 ∧ (ag' = true → falses ys' < falses ys0)) ∧
      E.SubEnv [(0, .slice cA code.length cc), (3, .slice (some ⟨g1_3, 0, none⟩) (code.length + 1) (code.length + 1)), (4, .bool ag'), (5, .int .i64 (k : Int))] L' ∧ E.Ent ρ' M' ρ (E.arr 89 200 (some ⟨g1_3, 0, none⟩) (code.length + 1) (code.length + 1) (ys'.flatMap E.encS) :: M)) ?_ ?_
    · obtain ⟨ad, rfl, _, hc⟩ := E.RdF.at hcode hk
      rw [hi] at hc
      (repeat refine E.Run.seq ?_); refine E.Run.block ?_
      (repeat refine E.Run.seq ?_)
      refine E.Run.region ?_
      refine E.Ops.loud rfl rfl ?_
      refine E.l_alloc rfl ty_89 (fun b8_0 => ?_)
      refine E.Ops.nil ?_
      try simp only [E.tn, E.tx, E.tr, E.bn, E.br, E.bs]
      show E.Run _ _ _ _ ρ (E.pt b8_0 89 (E.encS fun _ => false) :: E.arr 89 200 (some ⟨g1_3, 0, none⟩) (code.length + 1) (code.length + 1) (ys.flatMap E.encS) :: M) _
      have hyk : ∀ q : Nat, q < code.length + 1 → ys[q]? = some (atS ys q) := fun q hq => by
        rw [atS_nat ys (by omega)]; exact List.getElem?_eq_getElem (by omega)
      have haddr : ∀ r : Nat, (⟨b8_0, 0, none⟩ : Addr).add ((r : Int).toNat * 1) = ⟨b8_0, r, none⟩ := fun r => by rw [E.add_none]; simp
      refine E.Run.seqCut (fun L' ρ' M' => E.SubEnv [(0, .slice (some ad) code.length cc), (3, .slice (some ⟨g1_3, 0, none⟩) (code.length + 1) (code.length + 1)), (4, .bool ag), (5, .int .i64 (k : Int)), (6, .pointer (some ⟨b8_0, 0, none⟩))] L' ∧ E.Ent ρ' M' ρ (E.pt b8_0 89 (E.encS (unionS (atS ys) (insNexts k i))) :: E.arr 89 200 (some ⟨g1_3, 0, none⟩) (code.length + 1) (code.length + 1) (ys.flatMap E.encS) :: M)) ?_ ?_
      · have hl2 : (insNexts k i).length ≤ 2 := by unfold insNexts; split <;> (try split) <;> simp
        (repeat refine E.Run.seq ?_)
        refine E.Run.region ?_
        refine E.Ops.q _ (E.q_move rfl rfl) rfl rfl ?_
        refine E.Ops.q _ (E.q_move rfl rfl) rfl rfl ?_
        refine E.Ops.loud rfl rfl ?_
        refine E.l_call Try.func93 nm_93 nb_93 rfl ?_; refine fenceNexts (some ad) cc code hcode (by omega) k hk (fun nA nc nn hnn => ?_); rw [hi] at hnn ⊢
        refine E.Ops.q _ (E.q_lenSlice rfl Try.underlying23) rfl rfl ?_
        refine E.Ops.q _ (E.q_move rfl rfl) rfl rfl ?_
        refine E.Ops.nil ?_
        try simp only [E.tn, E.tx, E.tr, E.bn, E.br, E.bs]
        generalize hlx : insNexts k i = lnx at *
        subst hnn
        (repeat refine E.Run.seq ?_); refine E.Run.block ?_
        (repeat refine E.Run.seq ?_); refine E.Run.loopS (fun (j : Nat) => [(0, .slice (some ad) code.length cc), (3, .slice (some ⟨g1_3, 0, none⟩) (code.length + 1) (code.length + 1)), (4, .bool ag), (5, .int .i64 (k : Int)), (6, .pointer (some ⟨b8_0, 0, none⟩)), (28, .slice nA lnx.length nc), (29, .int .i64 lnx.length), (30, .int .i64 j)]) ρ
          (fun j => E.pt b8_0 89 (E.encS (unionS (atS ys) (lnx.take j))) :: E.arr 3 1 nA lnx.length nc (lnx.flatMap E.encI) :: E.arr 89 200 (some ⟨g1_3, 0, none⟩) (code.length + 1) (code.length + 1) (ys.flatMap E.encS) :: M) (fun j => j ≤ lnx.length) (fun j => lnx.length - j) 0 (Nat.zero_le _) (by ((repeat refine E.SubEnv.cons rfl ?_); exact E.SubEnv.nil _)) (by
            rw [show unionS (atS ys) (lnx.take 0) = fun _ => false from rfl]
            exact E.Ent.of E.entA) ?_
        intro j hj
        (repeat refine E.Run.seq ?_)
        refine E.Run.region ?_
        refine E.Ops.q _ (E.q_lss rfl rfl rfl) rfl rfl ?_
        refine E.Ops.nil ?_
        try simp only [E.tn, E.tx, E.tr, E.bn, E.br, E.bs]
        (repeat refine E.Run.seq ?_); refine E.Run.condD rfl (fun h10 => ?_) (fun h10 => ?_)
        · have hj' : j < lnx.length := by omega
          have hto := hnx lnx[j] (List.getElem_mem hj')
          have htk : lnx.take (j + 1) = lnx.take j ++ [lnx[j]] := List.take_succ_eq_append_getElem hj'
          refine E.Run.skip ?_
          try simp only [E.tn, E.tx, E.tr, E.bn, E.br, E.bs]
          refine E.Run.arrSome (T := 3) E.ixA (by omega) fun gn hgn hcapn => ?_
          subst hgn
          have hel : (lnx.flatMap E.encI)[j * 1]? = some (.int .i64 lnx[j]) := by
            have := E.flatMap_at (enc := E.encI) (sz := 1) (fun _ => rfl) lnx j lnx[j] (List.getElem?_eq_getElem hj') 0 _ rfl
            simpa using this
          generalize lnx[j] = to' at *
          obtain ⟨q, rfl⟩ := Int.eq_ofNat_of_zero_le hto.1
          have hq : q < code.length + 1 := by omega
          have hyq := hyk q hq
          (repeat refine E.Run.seq ?_); refine E.Run.block ?_
          (repeat refine E.Run.seq ?_)
          refine E.Run.region ?_
          first | refine E.Ops.q _ (E.q_indexNat rfl rfl rfl so_23 (by first | assumption | omega)) rfl rfl ?_ | refine E.Ops.q _ (E.q_indexAddr rfl rfl rfl so_23 (by omega) (by omega)) rfl rfl ?_
          refine E.Ops.q _ (E.q_load rfl rfl (by exact E.LoadAt.arr E.ixA sc_3 hel)) rfl rfl ?_
          refine E.Ops.q _ (E.q_mv rfl rfl) rfl rfl ?_
          refine E.Ops.nil ?_
          try simp only [E.tn, E.tx, E.tr, E.bn, E.br, E.bs]
          (repeat refine E.Run.seq ?_)
          refine E.Run.region ?_
          refine E.Ops.q _ (E.q_move rfl rfl) rfl rfl ?_
          refine E.Ops.q _ (E.q_move rfl rfl) rfl rfl ?_
          refine E.Ops.q _ (E.q_indexNat rfl rfl rfl so_86 hq) rfl rfl ?_
          refine E.Ops.q _ (E.q_load (v := .agg (E.encS (atS ys q)).toArray) rfl rfl (E.LoadAt.arrAgg E.ixA ag_89 (fun j u hu => E.flatMap_at E.encS_len ys q (atS ys q) hyq j u hu) (E.encS_len _) (by omega))) rfl rfl ?_
          refine E.Ops.q _ (E.q_move rfl rfl) rfl rfl ?_
          refine E.Ops.nil ?_
          try simp only [E.tn, E.tx, E.tr, E.bn, E.br, E.bs]
          (repeat refine E.Run.seq ?_); refine E.Run.block ?_
          (repeat refine E.Run.seq ?_); refine E.Run.loopS (fun (r : Nat) => [(0, .slice (some ad) code.length cc), (3, .slice (some ⟨g1_3, 0, none⟩) (code.length + 1) (code.length + 1)), (4, .bool ag), (5, .int .i64 (k : Int)), (6, .pointer (some ⟨b8_0, 0, none⟩)), (28, .slice (some ⟨gn, 0, none⟩) lnx.length nc), (29, .int .i64 lnx.length), (30, .int .i64 j), (37, .agg (E.encS (atS ys q)).toArray), (38, .int .i64 r)]) ρ
            (fun r => E.pt b8_0 89 (E.encS (fun x => unionS (atS ys) (lnx.take j) x || (decide (x < r) && atS ys q x))) :: E.arr 3 1 (some ⟨gn, 0, none⟩) lnx.length nc (lnx.flatMap E.encI) :: E.arr 89 200 (some ⟨g1_3, 0, none⟩) (code.length + 1) (code.length + 1) (ys.flatMap E.encS) :: M) (fun r => r ≤ 200) (fun r => 200 - r) 0 (Nat.zero_le _) (by ((repeat refine E.SubEnv.cons rfl ?_); exact E.SubEnv.nil _)) (by
              rw [show (fun x => unionS (atS ys) (lnx.take j) x || (decide (x < 0) && atS ys q x)) = unionS (atS ys) (lnx.take j) from by funext x; simp]
              exact E.Ent.of E.entA) ?_
          intro r hr
          (repeat refine E.Run.seq ?_)
          refine E.Run.region ?_
          refine E.Ops.q _ (E.q_lss rfl rfl rfl) rfl rfl ?_
          refine E.Ops.nil ?_
          try simp only [E.tn, E.tx, E.tr, E.bn, E.br, E.bs]
          (repeat refine E.Run.seq ?_); refine E.Run.condD rfl (fun h13 => ?_) (fun h13 => ?_)
          · have hr' : r < 200 := by omega
            refine E.Run.skip ?_
            try simp only [E.tn, E.tx, E.tr, E.bn, E.br, E.bs]
            (repeat refine E.Run.seq ?_); refine E.Run.block ?_
            have hix : (E.encS (atS ys q)).toArray[r]? = some (.bool (atS ys q r)) := by simpa using E.encS_at (atS ys q) hr'
            generalize hU : unionS (atS ys) (lnx.take j) = U at *
            have hst : ∀ b, (U r = true → b = true) → (U r = false → b = atS ys q r) → E.updB (fun x => U x || (decide (x < r) && atS ys q x)) r b = fun x => U x || (decide (x < r + 1) && atS ys q x) := fun b h1 h2 => by
              funext x
              unfold E.updB
              by_cases hx : x = r
              · subst hx
                rw [if_pos rfl]
                cases hu : U x with
                | true => rw [h1 hu]; rfl
                | false => rw [h2 hu]; simp
              · rw [if_neg hx, show decide (x < r + 1) = decide (x < r) from by simp; omega]
            have hcr : (U r || (decide (r < r) && atS ys q r)) = U r := by simp
            (repeat refine E.Run.seq ?_)
            refine E.Run.region ?_
            refine E.Ops.q _ (E.q_move rfl rfl) rfl rfl ?_
            refine E.Ops.q _ (E.q_indexVal rfl rfl rfl ao_89 sc_4 hr' hix) rfl rfl ?_
            refine E.Ops.q _ (E.q_mv rfl rfl) rfl rfl ?_
            refine E.Ops.q _ (E.q_mv rfl rfl) rfl rfl ?_
            refine E.Ops.nil ?_
            try simp only [E.tn, E.tx, E.tr, E.bn, E.br, E.bs]
            (repeat refine E.Run.seq ?_)
            refine E.Run.region ?_
            refine E.Ops.q _ (E.q_move rfl rfl) rfl rfl ?_
            refine E.Ops.q _ (E.q_move rfl rfl) rfl rfl ?_
            refine E.Ops.q _ (E.q_indexArr rfl rfl rfl ao_89 (by omega) (by omega)) rfl rfl ?_
            refine E.Ops.q _ (E.q_load (v := .bool (U r)) rfl rfl (bitV E.ixA sc_4 (haddr r) hr' hcr)) rfl rfl ?_
            refine E.Ops.bool (fun hb => ?T1) (fun hb => ?F1)
            case' F1 =>
              refine E.Ops.q _ (E.q_move rfl rfl) rfl rfl ?_
              refine E.Ops.q _ (E.q_move rfl rfl) rfl rfl ?_
              refine E.Ops.q _ (E.q_pickF rfl rfl rfl) rfl rfl ?_
              refine E.Ops.q _ (E.q_indexArr rfl rfl rfl ao_89 (by omega) (by omega)) rfl rfl ?_
              refine E.Ops.loud rfl rfl ?_
              refine E.l_storeBit rfl rfl (haddr r) rfl E.ixA sz_4 hr' ?_
              refine E.Ops.nil ?_
              try simp only [E.tn, E.tx, E.tr, E.bn, E.br, E.bs]
            case' T1 =>
              refine E.Ops.q _ (E.q_move rfl rfl) rfl rfl ?_
              refine E.Ops.skip rfl rfl ?_
              refine E.Ops.q _ (E.q_pickT rfl rfl rfl) rfl rfl ?_
              refine E.Ops.q _ (E.q_indexArr rfl rfl rfl ao_89 (by omega) (by omega)) rfl rfl ?_
              refine E.Ops.loud rfl rfl ?_
              refine E.l_storeBit rfl rfl (haddr r) rfl E.ixA sz_4 hr' ?_
              refine E.Ops.nil ?_
              try simp only [E.tn, E.tx, E.tr, E.bn, E.br, E.bs]
            all_goals
              rw [hst _ (fun h => by first | rfl | (rw [h] at hb; cases hb)) (fun h => by first | rfl | (rw [h] at hb; cases hb))]
              (repeat refine E.Run.seq ?_)
              refine E.Run.region ?_
              first | refine E.Ops.q _ (E.q_incr rfl rfl (by omega)) rfl rfl ?_ | refine E.Ops.q _ (E.q_addFit rfl rfl rfl (by omega)) rfl rfl ?_ | refine E.Ops.q _ (E.q_add rfl rfl rfl) rfl rfl ?_
              refine E.Ops.q _ (E.q_move rfl rfl) rfl rfl ?_
              refine E.Ops.nil ?_
              try simp only [E.tn, E.tx, E.tr, E.bn, E.br, E.bs]
              exact ⟨r + 1, by omega, by omega, by ((repeat refine E.SubEnv.cons rfl ?_); exact E.SubEnv.nil _), by exact E.Ent.of E.entA⟩
          · refine E.Run.exit ?_
            try simp only [E.tn, E.tx, E.tr, E.bn, E.br, E.bs]
            have : r = 200 := by omega
            subst this
            rw [encS_congr (s := fun x => unionS (atS ys) (lnx.take j) x || (decide (x < 200) && atS ys q x)) (s' := unionS (atS ys) (lnx.take (j + 1))) (fun x hx => by
              rw [htk]; unfold unionS; rw [List.any_append]; simp [hx])]
            (repeat refine E.Run.seq ?_)
            refine E.Run.region ?_
            first | refine E.Ops.q _ (E.q_incr rfl rfl (by omega)) rfl rfl ?_ | refine E.Ops.q _ (E.q_addFit rfl rfl rfl (by omega)) rfl rfl ?_ | refine E.Ops.q _ (E.q_add rfl rfl rfl) rfl rfl ?_
            refine E.Ops.q _ (E.q_move rfl rfl) rfl rfl ?_
            refine E.Ops.nil ?_
            try simp only [E.tn, E.tx, E.tr, E.bn, E.br, E.bs]
            exact ⟨j + 1, by omega, by omega, by ((repeat refine E.SubEnv.cons rfl ?_); exact E.SubEnv.nil _), by exact E.Ent.of E.entA⟩
        · refine E.Run.exit ?_
          try simp only [E.tn, E.tx, E.tr, E.bn, E.br, E.bs]
          have : j = lnx.length := by omega
          subst this
          rw [List.take_length]
          exact ⟨by ((repeat refine E.SubEnv.cons rfl ?_); exact E.SubEnv.nil _), by exact E.Ent.of E.entA⟩
      rintro L2 ρ2 M2 ⟨hs, he⟩
      refine E.Run.sub hs (E.Run.ent he ?_)
      clear hs he
      generalize hU : unionS (atS ys) (insNexts k i) = U
      refine E.Run.seqCut (fun L' ρ' M' => E.SubEnv [(0, .slice (some ad) code.length cc), (3, .slice (some ⟨g1_3, 0, none⟩) (code.length + 1) (code.length + 1)), (4, .bool ag), (5, .int .i64 (k : Int)), (6, .pointer (some ⟨b8_0, 0, none⟩))] L' ∧ E.Ent ρ' M' ρ (E.pt b8_0 89 (E.encS (clrS U (insWrites i))) :: E.arr 89 200 (some ⟨g1_3, 0, none⟩) (code.length + 1) (code.length + 1) (ys.flatMap E.encS) :: M)) ?_ ?_
      · (repeat refine E.Run.seq ?_)
        refine E.Run.region ?_
        refine E.Ops.q _ (E.q_move rfl rfl) rfl rfl ?_
        refine E.Ops.q _ (E.q_move rfl rfl) rfl rfl ?_
        first | refine E.Ops.q _ (E.q_indexNat rfl rfl rfl so_45 (by first | assumption | omega)) rfl rfl ?_ | refine E.Ops.q _ (E.q_indexAddr rfl rfl rfl so_45 (by omega) (by omega)) rfl rfl ?_
        refine E.Ops.q _ (E.q_load rfl rfl (by first | refine E.LoadAt.ownAgg E.ixA 4 ag_44 (by rfl) (by rfl) | exact E.LoadAt.roAgg ag_44 (by assumption) rfl)) rfl rfl ?_
        refine E.Ops.loud rfl rfl ?_
        refine E.l_call Try.func94 nm_94 nb_94 rfl ?_; refine liveWrites i ?_
        refine E.Ops.q _ (E.q_mv rfl rfl) rfl rfl ?_
        refine E.Ops.nil ?_
        try simp only [E.tn, E.tx, E.tr, E.bn, E.br, E.bs]
        (repeat refine E.Run.seq ?_)
        refine E.Run.region ?_
        refine E.Ops.q _ (E.q_move rfl rfl) rfl rfl ?_
        refine E.Ops.q _ (E.q_geq rfl rfl rfl) rfl rfl ?_
        refine E.Ops.nil ?_
        try simp only [E.tn, E.tx, E.tr, E.bn, E.br, E.bs]
        unfold clrS
        (repeat refine E.Run.seq ?_); refine E.Run.condD rfl (fun h19 => ?_) (fun h19 => ?_)
        · rw [if_pos h19]
          have hw := hwr h19
          generalize insWrites i = wr at *
          obtain ⟨w, rfl⟩ := Int.eq_ofNat_of_zero_le h19
          have hw' : w < 200 := by omega
          rw [Int.toNat_natCast]
          (repeat refine E.Run.seq ?_)
          refine E.Run.region ?_
          refine E.Ops.q _ (E.q_move rfl rfl) rfl rfl ?_
          refine E.Ops.q _ (E.q_indexArr rfl rfl rfl ao_89 (by omega) (by omega)) rfl rfl ?_
          refine E.Ops.loud rfl rfl ?_
          refine E.l_storeBit rfl rfl (haddr w) rfl E.ixA sz_4 hw' ?_
          refine E.Ops.nil ?_
          try simp only [E.tn, E.tx, E.tr, E.bn, E.br, E.bs]
          exact ⟨by ((repeat refine E.SubEnv.cons rfl ?_); exact E.SubEnv.nil _), by exact E.Ent.of E.entA⟩
        · rw [if_neg h19]
          refine E.Run.skip ?_
          try simp only [E.tn, E.tx, E.tr, E.bn, E.br, E.bs]
          exact ⟨by ((repeat refine E.SubEnv.cons rfl ?_); exact E.SubEnv.nil _), by exact E.Ent.of E.entA⟩
      rintro L3 ρ3 M3 ⟨hs, he⟩
      refine E.Run.sub hs (E.Run.ent he ?_)
      clear hs he
      have hnow : nowF i k (atS ys) = setAll (clrS U (insWrites i)) (insReads i) := by unfold nowF; rw [hU]
      generalize clrS U (insWrites i) = V at *
      refine E.Run.seqCut (fun L' ρ' M' => E.SubEnv [(0, .slice (some ad) code.length cc), (3, .slice (some ⟨g1_3, 0, none⟩) (code.length + 1) (code.length + 1)), (4, .bool ag), (5, .int .i64 (k : Int)), (6, .pointer (some ⟨b8_0, 0, none⟩))] L' ∧ E.Ent ρ' M' ρ (E.pt b8_0 89 (E.encS (setAll V (insReads i))) :: E.arr 89 200 (some ⟨g1_3, 0, none⟩) (code.length + 1) (code.length + 1) (ys.flatMap E.encS) :: M)) ?_ ?_
      · have hl3 : (insReads i).length ≤ 3 := Nat.le_trans (rdsN_len i _) (kinds_small i.op).1
        (repeat refine E.Run.seq ?_)
        refine E.Run.region ?_
        refine E.Ops.q _ (E.q_move rfl rfl) rfl rfl ?_
        refine E.Ops.q _ (E.q_move rfl rfl) rfl rfl ?_
        first | refine E.Ops.q _ (E.q_indexNat rfl rfl rfl so_45 (by first | assumption | omega)) rfl rfl ?_ | refine E.Ops.q _ (E.q_indexAddr rfl rfl rfl so_45 (by omega) (by omega)) rfl rfl ?_
        refine E.Ops.q _ (E.q_load rfl rfl (by first | refine E.LoadAt.ownAgg E.ixA 4 ag_44 (by rfl) (by rfl) | exact E.LoadAt.roAgg ag_44 (by assumption) rfl)) rfl rfl ?_
        refine E.Ops.loud rfl rfl ?_
        refine E.l_call Try.func95 nm_95 nb_95 rfl ?_; refine liveReads i (fun nA nc nn hnn => ?_)
        refine E.Ops.q _ (E.q_lenSlice rfl Try.underlying23) rfl rfl ?_
        refine E.Ops.q _ (E.q_move rfl rfl) rfl rfl ?_
        refine E.Ops.nil ?_
        try simp only [E.tn, E.tx, E.tr, E.bn, E.br, E.bs]
        generalize hlx : insReads i = lrd at *
        subst hnn
        (repeat refine E.Run.seq ?_); refine E.Run.block ?_
        (repeat refine E.Run.seq ?_); refine E.Run.loopS (fun (j : Nat) => [(0, .slice (some ad) code.length cc), (3, .slice (some ⟨g1_3, 0, none⟩) (code.length + 1) (code.length + 1)), (4, .bool ag), (5, .int .i64 (k : Int)), (6, .pointer (some ⟨b8_0, 0, none⟩)), (65, .slice nA lrd.length nc), (66, .int .i64 lrd.length), (67, .int .i64 j)]) ρ
          (fun j => E.pt b8_0 89 (E.encS (setAll V (lrd.take j))) :: E.arr 3 1 nA lrd.length nc (lrd.flatMap E.encI) :: E.arr 89 200 (some ⟨g1_3, 0, none⟩) (code.length + 1) (code.length + 1) (ys.flatMap E.encS) :: M) (fun j => j ≤ lrd.length) (fun j => lrd.length - j) 0 (Nat.zero_le _) (by ((repeat refine E.SubEnv.cons rfl ?_); exact E.SubEnv.nil _)) (by
            rw [show setAll V (lrd.take 0) = V from rfl]
            exact E.Ent.of E.entA) ?_
        intro j hj
        (repeat refine E.Run.seq ?_)
        refine E.Run.region ?_
        refine E.Ops.q _ (E.q_lss rfl rfl rfl) rfl rfl ?_
        refine E.Ops.nil ?_
        try simp only [E.tn, E.tx, E.tr, E.bn, E.br, E.bs]
        (repeat refine E.Run.seq ?_); refine E.Run.condD rfl (fun h22 => ?_) (fun h22 => ?_)
        · have hj' : j < lrd.length := by omega
          have hto := hrd lrd[j] (List.getElem_mem hj')
          have htk : setAll V (lrd.take (j + 1)) = E.updB (setAll V (lrd.take j)) lrd[j].toNat true := by
            unfold setAll
            rw [List.take_succ_eq_append_getElem hj', List.foldl_append]; rfl
          refine E.Run.skip ?_
          try simp only [E.tn, E.tx, E.tr, E.bn, E.br, E.bs]
          refine E.Run.arrSome (T := 3) E.ixA (by omega) fun gn hgn hcapn => ?_
          subst hgn
          have hel : (lrd.flatMap E.encI)[j * 1]? = some (.int .i64 lrd[j]) := by
            have := E.flatMap_at (enc := E.encI) (sz := 1) (fun _ => rfl) lrd j lrd[j] (List.getElem?_eq_getElem hj') 0 _ rfl
            simpa using this
          generalize lrd[j] = x at *
          obtain ⟨q, rfl⟩ := Int.eq_ofNat_of_zero_le hto.1
          have hq : q < 200 := by omega
          rw [Int.toNat_natCast] at htk
          (repeat refine E.Run.seq ?_); refine E.Run.block ?_
          (repeat refine E.Run.seq ?_)
          refine E.Run.region ?_
          first | refine E.Ops.q _ (E.q_indexNat rfl rfl rfl so_23 (by first | assumption | omega)) rfl rfl ?_ | refine E.Ops.q _ (E.q_indexAddr rfl rfl rfl so_23 (by omega) (by omega)) rfl rfl ?_
          refine E.Ops.q _ (E.q_load rfl rfl (by exact E.LoadAt.arr E.ixA sc_3 hel)) rfl rfl ?_
          refine E.Ops.q _ (E.q_mv rfl rfl) rfl rfl ?_
          refine E.Ops.nil ?_
          try simp only [E.tn, E.tx, E.tr, E.bn, E.br, E.bs]
          (repeat refine E.Run.seq ?_)
          refine E.Run.region ?_
          refine E.Ops.q _ (E.q_move rfl rfl) rfl rfl ?_
          refine E.Ops.q _ (E.q_indexArr rfl rfl rfl ao_89 (by omega) (by omega)) rfl rfl ?_
          refine E.Ops.loud rfl rfl ?_
          refine E.l_storeBit rfl rfl (haddr q) rfl E.ixA sz_4 hq ?_
          refine E.Ops.nil ?_
          try simp only [E.tn, E.tx, E.tr, E.bn, E.br, E.bs]
          rw [← htk]
          (repeat refine E.Run.seq ?_)
          refine E.Run.region ?_
          first | refine E.Ops.q _ (E.q_incr rfl rfl (by omega)) rfl rfl ?_ | refine E.Ops.q _ (E.q_addFit rfl rfl rfl (by omega)) rfl rfl ?_ | refine E.Ops.q _ (E.q_add rfl rfl rfl) rfl rfl ?_
          refine E.Ops.q _ (E.q_move rfl rfl) rfl rfl ?_
          refine E.Ops.nil ?_
          try simp only [E.tn, E.tx, E.tr, E.bn, E.br, E.bs]
          exact ⟨j + 1, by omega, by omega, by ((repeat refine E.SubEnv.cons rfl ?_); exact E.SubEnv.nil _), by exact E.Ent.of E.entA⟩
        · refine E.Run.exit ?_
          try simp only [E.tn, E.tx, E.tr, E.bn, E.br, E.bs]
          have : j = lrd.length := by omega
          subst this
          rw [List.take_length]
          exact ⟨by ((repeat refine E.SubEnv.cons rfl ?_); exact E.SubEnv.nil _), by exact E.Ent.of E.entA⟩
      rintro L4 ρ4 M4 ⟨hs, he⟩
      refine E.Run.sub hs (E.Run.ent he ?_)
      clear hs he
      rw [← hnow]
      have hset := hinv.set hin.nexts hk (s := nowF i k (atS ys)) (fun r hr => by rw [hi])
      have hfal := falses_set hinv hk (s := nowF i k (atS ys)) (fun r hr => by rw [hi])
      have hyk0 := hyk k (by omega)
      generalize hnw : nowF i k (atS ys) = now at *
      (repeat refine E.Run.seq ?_)
      refine E.Run.draw (.ph [0, 1, 2, 3, 4, 5] (.nil)) _ _ Try.mixed (by kernel_rfl) (E.Ent.nil _ _) ?_
      refine E.Plan.ph (by exact E.Ent.of E.entA) ?_
      refine E.PlanQ.q _ rfl _ (E.q_load (v := .agg (E.encS now).toArray) rfl rfl (E.LoadAt.ownAgg E.ixA 200 ag_89 (by rw [List.drop_zero, List.take_of_length_le (Nat.le_of_eq (E.encS_len _))]) (E.encS_len _))) rfl rfl ?_
      refine E.PlanQ.q _ rfl _ (E.q_move rfl rfl) rfl rfl ?_
      refine E.PlanQ.q _ rfl _ (E.q_move rfl rfl) rfl rfl ?_
      refine E.PlanQ.q _ rfl _ (E.q_indexNat rfl rfl rfl so_86 (show k < code.length + 1 by omega)) rfl rfl ?_
      refine E.PlanQ.q _ rfl _ (E.q_load (v := .agg (E.encS (atS ys k)).toArray) rfl rfl (E.LoadAt.arrAgg E.ixA ag_89 (fun j u hu => E.flatMap_at E.encS_len ys k (atS ys k) hyk0 j u hu) (E.encS_len _) (by omega))) rfl rfl ?_
      refine E.PlanQ.q _ rfl _ (E.q_neqSets rfl rfl rfl ibt_89) rfl rfl ?_
      refine E.PlanQ.nil ?_
      refine E.Plan.nil ?_
      try simp only [E.tn, E.tx, E.tr, E.bn, E.br, E.bs]
      (repeat refine E.Run.seq ?_); refine E.Run.cond rfl (fun h26 => ?_) (fun h26 => ?_)
      · have hne : E.eqS now (atS ys k) = false := by simpa using h26
        have hf := hfal hne
        (repeat refine E.Run.seq ?_)
        refine E.Run.region ?_
        refine E.Ops.q _ (E.q_move rfl rfl) rfl rfl ?_
        refine E.Ops.q _ (E.q_move rfl rfl) rfl rfl ?_
        refine E.Ops.q _ (E.q_load (v := .agg (E.encS now).toArray) rfl rfl (E.LoadAt.ownAgg E.ixA 200 ag_89 (by rw [List.drop_zero, List.take_of_length_le (Nat.le_of_eq (E.encS_len _))]) (E.encS_len _))) rfl rfl ?_
        refine E.Ops.q _ (E.q_indexNat rfl rfl rfl so_86 (show k < code.length + 1 by omega)) rfl rfl ?_
        refine E.Ops.loud rfl rfl ?_
        refine E.l_storeEl (enc := E.encS) now E.encS_len rfl rfl rfl E.ixA sz_89 hilen.symm (by omega) rfl (E.encS_one now) ?_
        refine E.Ops.q _ (E.q_mv rfl rfl) rfl rfl ?_
        refine E.Ops.nil ?_
        try simp only [E.tn, E.tx, E.tr, E.bn, E.br, E.bs]
        exact ⟨ys.set k now, true, ⟨hset, (fun h => by cases h), by omega, (fun _ => by omega)⟩, by ((repeat refine E.SubEnv.cons rfl ?_); exact E.SubEnv.nil _), by exact E.Ent.of E.entA⟩
      · have heq : E.eqS now (atS ys k) = true := by simpa using h26
        refine E.Run.skip ?_
        try simp only [E.tn, E.tx, E.tr, E.bn, E.br, E.bs]
        refine ⟨ys, ag, ⟨hinv, fun h => ⟨(hag h).1, fun j hj hkj => ?_⟩, hf1, hf2⟩, by ((repeat refine E.SubEnv.cons rfl ?_); exact E.SubEnv.nil _), by exact E.Ent.of E.entA⟩
        by_cases hjk : j = k
        · subst hjk
          rw [hi, hnw]
          exact fun r hr h => by rw [← E.eqS_iff.1 heq r hr]; exact h
        · exact (hag h).2 j hj (by omega)
    rintro L1 ρ1 M1 ⟨ys', ag', ⟨b1, b2, b3, b4⟩, hs, he⟩
    refine E.Run.sub hs (E.Run.ent he ?_)
    clear hs he
    (repeat refine E.Run.seq ?_)
    refine E.Run.region ?_
    refine E.Ops.q _ (E.q_move rfl rfl) rfl rfl ?_
    first | refine E.Ops.q _ (E.q_subFit rfl rfl rfl (by omega)) rfl rfl ?_ | refine E.Ops.q _ (E.q_sub rfl rfl rfl) rfl rfl ?_
    refine E.Ops.q _ (E.q_mv rfl rfl) rfl rfl ?_
    refine E.Ops.nil ?_
    try simp only [E.tn, E.tx, E.tr, E.bn, E.br, E.bs]
    exact ⟨(k, ys', ag'), ⟨by simp only; omega, b1, b2, b3, b4⟩, by simp only; omega, by ((repeat refine E.SubEnv.cons rfl ?_); exact E.SubEnv.nil _), by exact E.Ent.of E.entA⟩
  rintro L1 ρ1 M1 ⟨ys, hlv, hs, he⟩
  refine E.Run.sub hs (E.Run.ent he ?_)
  clear hs he
  (repeat refine E.Run.seq ?_)
  refine E.Run.region ?_
  refine E.Ops.q _ (E.q_move rfl rfl) rfl rfl ?_
  refine E.Ops.q _ (E.q_mv rfl rfl) rfl rfl ?_
  refine E.Ops.nil ?_
  try simp only [E.tn, E.tx, E.tr, E.bn, E.br, E.bs]
  refine E.Run.ret ?_
  try simp only [E.tn, E.tx, E.tr, E.bn, E.br, E.bs]
  exact ⟨_, _, _, E.ResOk.one rfl rfl, E.Ent.of E.entA, hK g1_3 ys hlv⟩
end Go.Proofs.Ythpgjbdacknkgaa
