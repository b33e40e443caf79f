/- sluiceref13.Ahead, walked. No statement of the seat in it. -/
import Derived.Test.YthpgjbdacknkgaaQ5
set_option linter.unusedVariables false
set_option linter.unusedSimpArgs false
namespace Go.Proofs.Ythpgjbdacknkgaa
open Go
private theorem ag_44 : E.isAggOf Try.prog 44 4 = true := by kernel_rfl
private theorem nb_138 : Try.f138.body.isNone = false := by kernel_rfl
private theorem nb_86 : Try.f86.body.isNone = false := by kernel_rfl
private theorem nb_96 : Try.f96.body.isNone = false := by kernel_rfl
private theorem nm_138 : (Try.f138.name == "runtime.NumGoroutine") = false := by kernel_rfl
private theorem nm_86 : (Try.f86.name == "runtime.NumGoroutine") = false := by kernel_rfl
private theorem nm_96 : (Try.f96.name == "runtime.NumGoroutine") = false := by kernel_rfl
private theorem sc_3 : E.isScal Try.prog 3 = true := by kernel_rfl
private theorem sc_4 : E.isScal Try.prog 4 = true := by kernel_rfl
private theorem so_23 : E.sliceOf Try.prog 23 = some (3, 1) := by kernel_rfl
private theorem so_45 : E.sliceOf Try.prog 45 = some (44, 4) := by kernel_rfl
private theorem so_77 : E.sliceOf Try.prog 77 = some (4, 1) := by kernel_rfl
private theorem sz_4 : (Try.prog.info? 4).map (·.size) = some 1 := by kernel_rfl
private theorem ty_4 : E.tyOf Try.prog 4 = some (some (.bool false), 1, 1) := by kernel_rfl

def atB (bs : List Bool) (k : Int) : Bool := bs.getD k.toNat false
theorem atB_nat (bs : List Bool) {k : Nat} (h : k < bs.length) : atB bs k = bs[k] := by
  unfold atB
  rw [Int.toNat_natCast, List.getD_eq_getElem?_getD, List.getElem?_eq_getElem h]; rfl
theorem atB_set {bs : List Bool} {k : Nat} (h : k < bs.length) (b : Bool) (j : Int) : atB (bs.set k b) j = if j.toNat = k then b else atB bs j := by
  unfold atB
  rw [List.getD_eq_getElem?_getD, List.getD_eq_getElem?_getD, List.getElem?_set]
  by_cases e : k = j.toNat
  · subst e; simp [h]
  · rw [if_neg e, if_neg (fun h => e h.symm)]
/-- is register r needed ahead of order i? -/
def isVal (i : E.Ins) (k : Nat) (bs : List Bool) (r : Nat) : Bool := (insReads i).any (fun x => decide (x = (r : Int))) || (decide (insWrites i ≠ (r : Int)) && (insNexts k i).any fun to' => atB bs to')
theorem isVal_iff {i : E.Ins} {k : Nat} {bs : List Bool} {r : Nat} (hr : ∀ x ∈ insReads i, 0 ≤ x) : isVal i k bs r = nowF i k (fun to' _ => atB bs to') r := by
  rw [Bool.eq_iff_iff, nowF_iff]
  unfold isVal
  simp only [Bool.or_eq_true, List.any_eq_true, decide_eq_true_eq, Bool.and_eq_true]
  constructor
  · rintro (⟨x, hx, e⟩ | ⟨h1, to', ht, h2⟩)
    · exact .inr ⟨x, hx, by omega⟩
    · exact .inl ⟨by omega, to', ht, h2⟩
  · rintro (⟨h1, to', ht, h2⟩ | ⟨x, hx, e⟩)
    · exact .inr ⟨by omega, to', ht, h2⟩
    · exact .inl ⟨x, hx, by have := hr x hx; omega⟩
structure InvA (code : List E.Ins) (r : Nat) (bs : List Bool) : Prop where
  len : bs.length = code.length + 1
  low : ∀ T, LClosed code T → ∀ k : Nat, k ≤ code.length → atB bs k = true → T k r = true
def falsesB (bs : List Bool) : Nat := sumN (fun k => if atB bs k then 0 else 1) bs.length
theorem InvA.set {code : List E.Ins} {r : Nat} (hr : r < 200) {bs : List Bool} (H : InvA code r bs) (hn : NextsIn code) {k : Nat} (hk : k < code.length) (hv : nowF code[k] k (fun to' _ => atB bs to') r = true) : InvA code r (bs.set k true) := by
  have hkl : k < bs.length := by rw [H.len]; omega
  refine ⟨by rw [List.length_set]; exact H.len, fun T hT j hj h => ?_⟩
  rw [atB_set hkl, Int.toNat_natCast] at h
  by_cases e : j = k
  · subst e
    refine hT j hk r hr ?_
    rw [nowF_iff] at hv ⊢
    rcases hv with ⟨h1, to', ht, h2⟩ | h2
    · obtain ⟨a, b⟩ := hn j hk to' ht
      refine .inl ⟨h1, to', ht, ?_⟩
      have := H.low T hT to'.toNat (by omega) (by rw [Int.toNat_of_nonneg a]; exact h2)
      rw [Int.toNat_of_nonneg a] at this; exact this
    · exact .inr h2
  · rw [if_neg e] at h; exact H.low T hT j hj h
theorem falsesB_set {bs : List Bool} {k : Nat} (hk : k < bs.length) (h : atB bs k = false) : falsesB (bs.set k true) < falsesB bs := by
  unfold falsesB
  rw [List.length_set]
  refine sumN_lt (fun j hj => ?_) k hk ?_
  · rw [atB_set hk, Int.toNat_natCast]; split
    · simp
    · exact Nat.le_refl _
  · rw [atB_set hk, Int.toNat_natCast, if_pos rfl, h]; simp
/-- what Ahead finds is what Sets finds -/
theorem InvA.live {code : List E.Ins} {r : Nat} (hr : r < 200) {bs : List Bool} (H : InvA code r bs) (hc : ∀ k (h : k < code.length), nowF code[k] k (fun to' _ => atB bs to') r = true → atB bs k = true) {ys : List Bits} (hl : LiveOf code ys) :
    ∀ k : Nat, k ≤ code.length → atB bs k = atS ys k r := by
  intro k hk
  rw [Bool.eq_iff_iff]
  constructor
  · intro h
    exact H.low (atS ys) (fun j hj s hs h => by rw [hl.fix j hj s hs]; exact h) k hk h
  · intro h
    have := hl.low (fun j s => if s = r then atB bs j else true) (fun j hj s hs h => by
      by_cases e : s = r
      · subst e
        simp only [if_true]
        refine hc j hj ?_
        rw [nowF_iff] at h ⊢
        rcases h with ⟨h1, to', ht, h2⟩ | h2
        · simp only [if_true] at h2; exact .inl ⟨h1, to', ht, h2⟩
        · exact .inr h2
      · simp only [if_neg e]) k hk r hr h
    simpa using this

set_option maxRecDepth 100000 in
theorem rAhead {ρ : E.Ro} {M : List E.Asr} {K : Value → E.Ro → List E.Asr → Prop} (cA : Option Addr) (cc : Nat) (code : List E.Ins) (r : Nat) (hr : r < 200) (hcode : E.RdF ρ.blk E.encIns 4 cA code) (hsz : code.length ≤ 400) (hin : LiveIn code)
    (hrd : ∀ i ∈ code, r13Reads i = insReads i) (hop : ∀ i ∈ code, 1 ≤ i.op)
    (hK : ∀ g bs, bs.length = code.length + 1 → (∀ ys, LiveOf code ys → ∀ k : Nat, k ≤ code.length → atB bs k = atS ys k r) → K (.slice (some ⟨g, 0, none⟩) (code.length + 1) (code.length + 1)) ρ (E.arr 4 1 (some ⟨g, 0, none⟩) (code.length + 1) (code.length + 1) (bs.flatMap E.encB) :: M)) :
    E.Hoa Try.prog 99 #[.slice cA code.length cc, .int .i64 r] ρ M K := by
  refine E.Hoa.enter 87 Try.func99 rfl rfl rfl ?_
  (repeat refine E.Run.seq ?_)
  refine E.Run.region ?_
  refine E.Ops.q _ (E.q_mv rfl rfl) rfl rfl ?_
  refine E.Ops.nil ?_
  try simp only [E.tn, E.tx, E.tr, E.bn, E.br, E.bs]
  (repeat refine E.Run.seq ?_)
  refine E.Run.region ?_
  refine E.Ops.q _ (E.q_move rfl rfl) rfl rfl ?_
  refine E.Ops.q _ (E.q_lenSlice rfl Try.underlying45) rfl rfl ?_
  first | refine E.Ops.q _ (E.q_incr rfl rfl (by omega)) rfl rfl ?_ | refine E.Ops.q _ (E.q_addFit rfl rfl rfl (by omega)) rfl rfl ?_ | refine E.Ops.q _ (E.q_add rfl rfl rfl) rfl rfl ?_
  refine E.Ops.loud rfl rfl ?_
  refine E.l_make rfl rfl rfl Try.underlying77 ty_4 rfl (by omega) (by omega) (fun g1_3 => ?_)
  refine E.Ops.q _ (E.q_mv rfl rfl) rfl rfl ?_
  refine E.Ops.nil ?_
  try simp only [E.tn, E.tx, E.tr, E.bn, E.br, E.bs]
  refine E.Run.seqCut (fun L' ρ' M' => ∃ bs, InvA code r bs ∧ (∀ k (h : k < code.length), nowF code[k] k (fun to' _ => atB bs to') r = true → atB bs k = true) ∧ E.SubEnv [(5, .slice (some ⟨g1_3, 0, none⟩) (code.length + 1) (code.length + 1))] L' ∧ E.Ent ρ' M' ρ (E.arr 4 1 (some ⟨g1_3, 0, none⟩) (code.length + 1) (code.length + 1) (bs.flatMap E.encB) :: M)) ?_ ?_
  · (repeat refine E.Run.seq ?_)
    refine E.Run.region ?_
    refine E.Ops.q _ (E.q_mv rfl rfl) rfl rfl ?_
    refine E.Ops.nil ?_
    try simp only [E.tn, E.tx, E.tr, E.bn, E.br, E.bs]
    (repeat refine E.Run.seq ?_); refine E.Run.block ?_
    (repeat refine E.Run.seq ?_); refine E.Run.loopS (fun (x : List Bool × Bool) => [(0, .slice cA code.length cc), (1, .int .i64 r), (5, .slice (some ⟨g1_3, 0, none⟩) (code.length + 1) (code.length + 1)), (6, .bool x.2)]) ρ (fun x => E.arr 4 1 (some ⟨g1_3, 0, none⟩) (code.length + 1) (code.length + 1) (x.1.flatMap E.encB) :: M)
      (fun x => InvA code r x.1 ∧ (x.2 = false → ∀ k (h : k < code.length), nowF code[k] k (fun to' _ => atB x.1 to') r = true → atB x.1 k = true)) (fun x => 2 * falsesB x.1 + (if x.2 then 1 else 0)) (List.replicate (code.length + 1) false, true)
      ⟨⟨by simp, fun T hT k hk h => by unfold atB at h; simp [List.getD_eq_getElem?_getD, List.getElem?_replicate] at h; split at h <;> simp at h⟩, (fun h => by cases h)⟩ (by ((repeat refine E.SubEnv.cons rfl ?_); exact E.SubEnv.nil _)) (by
        show E.Ent ρ (E.arr 4 1 (some ⟨g1_3, 0, none⟩) (code.length + 1) (code.length + 1) ((List.replicate (code.length + 1) [Value.bool false]).flatten) :: M) ρ _
        rw [show (List.replicate (code.length + 1) [Value.bool false]).flatten = (List.replicate (code.length + 1) false).flatMap E.encB from by
          generalize code.length + 1 = q
          induction q with
          | zero => rfl
          | succ q ih => rw [List.replicate_succ, List.replicate_succ, List.flatMap_cons, List.flatten_cons, ih]; rfl]
        exact E.Ent.of E.entA) ?_
    rintro ⟨bs0, ag⟩ ⟨hinv0, hag0⟩
    simp only at hinv0 hag0 ⊢
    refine E.Run.seqCut (fun L' ρ' M' => ag = true ∧ E.SubEnv [(0, .slice cA code.length cc), (1, .int .i64 r), (5, .slice (some ⟨g1_3, 0, none⟩) (code.length + 1) (code.length + 1))] L' ∧ E.Ent ρ' M' ρ (E.arr 4 1 (some ⟨g1_3, 0, none⟩) (code.length + 1) (code.length + 1) (bs0.flatMap E.encB) :: M)) ?_ ?_
    · (repeat refine E.Run.seq ?_)
      refine E.Run.region ?_
      refine E.Ops.q _ (E.q_move rfl rfl) rfl rfl ?_
      refine E.Ops.nil ?_
      try simp only [E.tn, E.tx, E.tr, E.bn, E.br, E.bs]
      (repeat refine E.Run.seq ?_); refine E.Run.cond rfl (fun h3 => ?_) (fun h3 => ?_)
      · refine E.Run.skip ?_
        try simp only [E.tn, E.tx, E.tr, E.bn, E.br, E.bs]
        exact ⟨h3, by ((repeat refine E.SubEnv.cons rfl ?_); exact E.SubEnv.nil _), by exact E.Ent.of E.entA⟩
      · refine E.Run.exit ?_
        try simp only [E.tn, E.tx, E.tr, E.bn, E.br, E.bs]
        exact ⟨bs0, hinv0, hag0 h3, by ((repeat refine E.SubEnv.cons rfl ?_); exact E.SubEnv.nil _), by exact E.Ent.of E.entA⟩
    rintro L1 ρ1 M1 ⟨hag, hs, he⟩
    refine E.Run.sub hs (E.Run.ent he ?_)
    clear hs he
    subst hag
    (repeat refine E.Run.seq ?_); refine E.Run.block ?_
    (repeat refine E.Run.seq ?_)
    refine E.Run.region ?_
    refine E.Ops.q _ (E.q_mv rfl rfl) rfl rfl ?_
    refine E.Ops.nil ?_
    try simp only [E.tn, E.tx, E.tr, E.bn, E.br, E.bs]
    (repeat refine E.Run.seq ?_)
    refine E.Run.region ?_
    refine E.Ops.q _ (E.q_move rfl rfl) rfl rfl ?_
    refine E.Ops.q _ (E.q_lenSlice rfl Try.underlying45) rfl rfl ?_
    first | refine E.Ops.q _ (E.q_subFit rfl rfl rfl (by omega)) rfl rfl ?_ | refine E.Ops.q _ (E.q_sub rfl rfl rfl) rfl rfl ?_
    refine E.Ops.q _ (E.q_mv rfl rfl) rfl rfl ?_
    refine E.Ops.nil ?_
    try simp only [E.tn, E.tx, E.tr, E.bn, E.br, E.bs]
    (repeat refine E.Run.seq ?_); refine E.Run.block ?_
    (repeat refine E.Run.seq ?_); refine E.Run.loopS (fun (x : Nat × List Bool × Bool) => [(0, .slice cA code.length cc), (1, .int .i64 r), (5, .slice (some ⟨g1_3, 0, none⟩) (code.length + 1) (code.length + 1)), (6, .bool x.2.2), (7, .int .i64 ((x.1 : Int) - 1))]) ρ (fun x => E.arr 4 1 (some ⟨g1_3, 0, none⟩) (code.length + 1) (code.length + 1) (x.2.1.flatMap E.encB) :: M)
      (fun x => x.1 ≤ code.length ∧ InvA code r x.2.1 ∧ (x.2.2 = false → x.2.1 = bs0 ∧ ∀ k (h : k < code.length), x.1 ≤ k → nowF code[k] k (fun to' _ => atB x.2.1 to') r = true → atB x.2.1 k = true) ∧ falsesB x.2.1 ≤ falsesB bs0 ∧ (x.2.2 = true → falsesB x.2.1 < falsesB bs0)) (fun x => x.1) (code.length, bs0, false)
      ⟨Nat.le_refl _, hinv0, (fun _ => ⟨rfl, fun k h h' => by simp only at h'; omega⟩), Nat.le_refl _, (fun h => by cases h)⟩ (by ((repeat refine E.SubEnv.cons rfl ?_); exact E.SubEnv.nil _)) (by exact E.Ent.of E.entA) ?_
    rintro ⟨m, bs, ag⟩ ⟨hm, hinv, hag, hf1, hf2⟩
    simp only at hm hinv hag hf1 hf2 ⊢
    refine E.Run.seqCut (fun L' ρ' M' => 1 ≤ m ∧ E.SubEnv [(0, .slice cA code.length cc), (1, .int .i64 r), (5, .slice (some ⟨g1_3, 0, none⟩) (code.length + 1) (code.length + 1)), (6, .bool ag), (7, .int .i64 ((m : Int) - 1))] L' ∧ E.Ent ρ' M' ρ (E.arr 4 1 (some ⟨g1_3, 0, none⟩) (code.length + 1) (code.length + 1) (bs.flatMap E.encB) :: M)) ?_ ?_
    · (repeat refine E.Run.seq ?_)
      refine E.Run.region ?_
      refine E.Ops.q _ (E.q_move rfl rfl) rfl rfl ?_
      refine E.Ops.q _ (E.q_geq rfl rfl rfl) rfl rfl ?_
      refine E.Ops.nil ?_
      try simp only [E.tn, E.tx, E.tr, E.bn, E.br, E.bs]
      (repeat refine E.Run.seq ?_); refine E.Run.condD rfl (fun h6 => ?_) (fun h6 => ?_)
      · refine E.Run.skip ?_
        try simp only [E.tn, E.tx, E.tr, E.bn, E.br, E.bs]
        exact ⟨by omega, by ((repeat refine E.SubEnv.cons rfl ?_); exact E.SubEnv.nil _), by exact E.Ent.of E.entA⟩
      · refine E.Run.exit ?_
        try simp only [E.tn, E.tx, E.tr, E.bn, E.br, E.bs]
        have : m = 0 := by omega
        subst this
        refine ⟨(bs, ag), ⟨hinv, fun h k hk => (hag h).2 k hk (Nat.zero_le _)⟩, ?_, by ((repeat refine E.SubEnv.cons rfl ?_); exact E.SubEnv.nil _), by exact E.Ent.of E.entA⟩
        simp only
        cases ag with
        | false => simp; omega
        | true => have := hf2 rfl; simp; omega
    rintro L1 ρ1 M1 ⟨hm1, hs, he⟩
    refine E.Run.sub hs (E.Run.ent he ?_)
    clear hs he
    obtain ⟨k, rfl⟩ : ∃ k, m = k + 1 := ⟨m - 1, by omega⟩
    have hk : k < code.length := by omega
    rw [show (((k + 1 : Nat) : Int) - 1) = (k : Int) from by omega]
    have hnx := hin.nexts k hk
    have hrdk := hrd _ (List.getElem_mem hk)
    have hopk := hop _ (List.getElem_mem hk)
    have hrn := hin.reads k hk
    have hilen := hinv.len
    have hset := hinv.set hr hin.nexts hk
    have hiv := isVal_iff (i := code[k]) (k := k) (bs := bs) (r := r) (fun x hx => (hrn x hx).1)
    have hfal := falsesB_set (bs := bs) (k := k) (by omega)
    generalize hi : code[k] = i at *
    refine E.Run.seqCut (fun L' ρ' M' => ∃ bs' ag', (InvA code r bs' ∧ (ag' = false → bs' = bs0 ∧ ∀ j (h : j < code.length), k ≤ j → nowF code[j] j (fun to' _ => atB bs' to') r = true → atB bs' j = true) ∧ falsesB bs' ≤ falsesB bs0 ∧ (ag' = true → falsesB bs' < falsesB bs0)) ∧
      E.SubEnv [(0, .slice cA code.length cc), (1, .int .i64 r), (5, .slice (some ⟨g1_3, 0, none⟩) (code.length + 1) (code.length + 1)), (6, .bool ag'), (7, .int .i64 (k : Int))] L' ∧ E.Ent ρ' M' ρ (E.arr 4 1 (some ⟨g1_3, 0, none⟩) (code.length + 1) (code.length + 1) (bs'.flatMap E.encB) :: M)) ?_ ?_
    · obtain ⟨ad, rfl, _, hc⟩ := E.RdF.at hcode hk
      rw [hi] at hc
      have hbk : ∀ q : Nat, q < code.length + 1 → (bs.flatMap E.encB)[q * 1]? = some (.bool (atB bs q)) := fun q hq => by
        have := E.flatMap_at (enc := E.encB) (sz := 1) (fun _ => rfl) bs q (atB bs q) (by rw [atB_nat bs (by omega)]; exact List.getElem?_eq_getElem (by omega)) 0 _ rfl
        simpa using this
      (repeat refine E.Run.seq ?_); refine E.Run.block ?_
      (repeat refine E.Run.seq ?_)
      refine E.Run.region ?_
      refine E.Ops.q _ (E.q_move rfl rfl) rfl rfl ?_
      refine E.Ops.q _ (E.q_move rfl rfl) rfl rfl ?_
      first | refine E.Ops.q _ (E.q_indexNat rfl rfl rfl so_45 (by first | assumption | omega)) rfl rfl ?_ | refine E.Ops.q _ (E.q_indexAddr rfl rfl rfl so_45 (by omega) (by omega)) rfl rfl ?_
      refine E.Ops.q _ (E.q_load rfl rfl (by first | refine E.LoadAt.ownAgg E.ixA 4 ag_44 (by rfl) (by rfl) | exact E.LoadAt.roAgg ag_44 (by assumption) rfl)) rfl rfl ?_
      refine E.Ops.loud rfl rfl ?_
      refine E.l_call Try.func138 nm_138 nb_138 rfl ?_; refine rReads i (fun nA nc nn hnn => ?_)
      refine E.Ops.q _ (E.q_mv rfl rfl) rfl rfl ?_
      refine E.Ops.nil ?_
      try simp only [E.tn, E.tx, E.tr, E.bn, E.br, E.bs]
      rw [hrdk] at hnn ⊢
      subst hnn
      have hl3 : (insReads i).length ≤ 3 := Nat.le_trans (rdsN_len i _) (kinds_small i.op).1
      (repeat refine E.Run.seq ?_)
      refine E.Run.region ?_
      refine E.Ops.q _ (E.q_mv rfl rfl) rfl rfl ?_
      refine E.Ops.nil ?_
      try simp only [E.tn, E.tx, E.tr, E.bn, E.br, E.bs]
      refine E.Run.seqCut (fun L' ρ' M' => E.SubEnv [(0, .slice (some ad) code.length cc), (1, .int .i64 r), (5, .slice (some ⟨g1_3, 0, none⟩) (code.length + 1) (code.length + 1)), (6, .bool ag), (7, .int .i64 (k : Int)), (9, .bool ((insReads i).any fun x => decide (x = (r : Int))))] L' ∧ E.Ent ρ' M' ρ (E.arr 4 1 (some ⟨g1_3, 0, none⟩) (code.length + 1) (code.length + 1) (bs.flatMap E.encB) :: M)) ?_ ?_
      · (repeat refine E.Run.seq ?_)
        refine E.Run.region ?_
        refine E.Ops.q _ (E.q_mv rfl rfl) rfl rfl ?_
        refine E.Ops.nil ?_
        try simp only [E.tn, E.tx, E.tr, E.bn, E.br, E.bs]
        generalize hlx : insReads i = lrd at *
        (repeat refine E.Run.seq ?_); refine E.Run.block ?_
        (repeat refine E.Run.seq ?_); refine E.Run.loopS (fun (j : Nat) => [(0, .slice (some ad) code.length cc), (1, .int .i64 r), (5, .slice (some ⟨g1_3, 0, none⟩) (code.length + 1) (code.length + 1)), (6, .bool ag), (7, .int .i64 (k : Int)), (8, .slice nA lrd.length nc), (9, .bool ((lrd.take j).any fun x => decide (x = (r : Int)))), (10, .int .i64 j)]) ρ (fun j => E.arr 3 1 nA lrd.length nc (lrd.flatMap E.encI) :: E.arr 4 1 (some ⟨g1_3, 0, none⟩) (code.length + 1) (code.length + 1) (bs.flatMap E.encB) :: M) (fun j => j ≤ lrd.length) (fun j => lrd.length - j) 0 (Nat.zero_le _) (by ((repeat refine E.SubEnv.cons rfl ?_); exact E.SubEnv.nil _)) (by exact E.Ent.of E.entA) ?_
        intro j hj
        refine E.Run.seqCut (fun L' ρ' M' => j < lrd.length ∧ E.SubEnv [(0, .slice (some ad) code.length cc), (1, .int .i64 r), (5, .slice (some ⟨g1_3, 0, none⟩) (code.length + 1) (code.length + 1)), (6, .bool ag), (7, .int .i64 (k : Int)), (8, .slice nA lrd.length nc), (9, .bool ((lrd.take j).any fun x => decide (x = (r : Int)))), (10, .int .i64 j)] L' ∧ E.Ent ρ' M' ρ (E.arr 3 1 nA lrd.length nc (lrd.flatMap E.encI) :: E.arr 4 1 (some ⟨g1_3, 0, none⟩) (code.length + 1) (code.length + 1) (bs.flatMap E.encB) :: M)) ?_ ?_
        · (repeat refine E.Run.seq ?_)
          refine E.Run.region ?_
          refine E.Ops.q _ (E.q_move rfl rfl) rfl rfl ?_
          refine E.Ops.q _ (E.q_move rfl rfl) rfl rfl ?_
          refine E.Ops.q _ (E.q_lenSlice rfl Try.underlying23) rfl rfl ?_
          refine E.Ops.q _ (E.q_lss rfl rfl rfl) rfl rfl ?_
          refine E.Ops.nil ?_
          try simp only [E.tn, E.tx, E.tr, E.bn, E.br, E.bs]
          (repeat refine E.Run.seq ?_); refine E.Run.condD rfl (fun h6 => ?_) (fun h6 => ?_)
          · refine E.Run.skip ?_
            try simp only [E.tn, E.tx, E.tr, E.bn, E.br, E.bs]
            exact ⟨by omega, by ((repeat refine E.SubEnv.cons rfl ?_); exact E.SubEnv.nil _), by exact E.Ent.of E.entA⟩
          · refine E.Run.exit ?_
            try simp only [E.tn, E.tx, E.tr, E.bn, E.br, E.bs]
            have : j = lrd.length := by omega
            subst this
            rw [List.take_length]
            exact ⟨by ((repeat refine E.SubEnv.cons rfl ?_); exact E.SubEnv.nil _), by exact E.Ent.of E.entA⟩
        rintro L1 ρ1 M1 ⟨hj', hs, he⟩
        refine E.Run.sub hs (E.Run.ent he ?_)
        clear hs he
        refine E.Run.arrSome (T := 3) E.ixA (by omega) fun gn hgn hcapn => ?_
        subst hgn
        have hel : (lrd.flatMap E.encI)[j * 1]? = some (.int .i64 lrd[j]) := by
          have := E.flatMap_at (enc := E.encI) (sz := 1) (fun _ => rfl) lrd j lrd[j] (List.getElem?_eq_getElem hj') 0 _ rfl
          simpa using this
        have htk : (lrd.take (j + 1)).any (fun x => decide (x = (r : Int))) = ((lrd.take j).any (fun x => decide (x = (r : Int))) || decide (lrd[j] = (r : Int))) := by
          rw [List.take_succ_eq_append_getElem hj', List.any_append]; simp
        generalize (lrd.take j).any (fun x => decide (x = (r : Int))) = b at *
        refine E.Run.seqCut (fun L' ρ' M' => E.SubEnv [(0, .slice (some ad) code.length cc), (1, .int .i64 r), (5, .slice (some ⟨g1_3, 0, none⟩) (code.length + 1) (code.length + 1)), (6, .bool ag), (7, .int .i64 (k : Int)), (8, .slice (some ⟨gn, 0, none⟩) lrd.length nc), (9, .bool ((lrd.take (j + 1)).any fun x => decide (x = (r : Int)))), (10, .int .i64 j)] L' ∧ E.Ent ρ' M' ρ (E.arr 3 1 (some ⟨gn, 0, none⟩) lrd.length nc (lrd.flatMap E.encI) :: E.arr 4 1 (some ⟨g1_3, 0, none⟩) (code.length + 1) (code.length + 1) (bs.flatMap E.encB) :: M)) ?_ ?_
        · (repeat refine E.Run.seq ?_); refine E.Run.block ?_
          cases b with
          | true =>
            rw [Bool.true_or] at htk
            (repeat refine E.Run.seq ?_)
            refine E.Run.region ?_
            refine E.Ops.q _ (E.q_move rfl rfl) rfl rfl ?_
            refine E.Ops.q _ (E.q_move rfl rfl) rfl rfl ?_
            refine E.Ops.skip rfl rfl ?_
            refine E.Ops.skip rfl rfl ?_
            refine E.Ops.skip rfl rfl ?_
            refine E.Ops.skip rfl rfl ?_
            refine E.Ops.skip rfl rfl ?_
            refine E.Ops.skip rfl rfl ?_
            refine E.Ops.q _ (E.q_pickT rfl rfl rfl) rfl rfl ?_
            refine E.Ops.q _ (E.q_mv rfl rfl) rfl rfl ?_
            refine E.Ops.nil ?_
            try simp only [E.tn, E.tx, E.tr, E.bn, E.br, E.bs]
            exact ⟨by rw [htk]; ((repeat refine E.SubEnv.cons rfl ?_); exact E.SubEnv.nil _), by exact E.Ent.of E.entA⟩
          | false =>
            rw [Bool.false_or] at htk
            (repeat refine E.Run.seq ?_)
            refine E.Run.region ?_
            refine E.Ops.q _ (E.q_move rfl rfl) rfl rfl ?_
            refine E.Ops.q _ (E.q_move rfl rfl) rfl rfl ?_
            refine E.Ops.q _ (E.q_move rfl rfl) rfl rfl ?_
            refine E.Ops.q _ (E.q_move rfl rfl) rfl rfl ?_
            first | refine E.Ops.q _ (E.q_indexNat rfl rfl rfl so_23 (by first | assumption | omega)) rfl rfl ?_ | refine E.Ops.q _ (E.q_indexAddr rfl rfl rfl so_23 (by omega) (by omega)) rfl rfl ?_
            refine E.Ops.q _ (E.q_load rfl rfl (by exact E.LoadAt.arr E.ixA sc_3 hel)) rfl rfl ?_
            refine E.Ops.q _ (E.q_move rfl rfl) rfl rfl ?_
            refine E.Ops.part (E.q_eql rfl rfl rfl) rfl rfl (fun h13_7 => ?T1) (fun h13_7 => ?F1)
            case' F1 =>
              refine E.Ops.q _ (E.q_pickF rfl rfl rfl) rfl rfl ?_
              refine E.Ops.q _ (E.q_mv rfl rfl) rfl rfl ?_
              refine E.Ops.nil ?_
              try simp only [E.tn, E.tx, E.tr, E.bn, E.br, E.bs]
            case' T1 =>
              refine E.Ops.q _ (E.q_pickF rfl rfl rfl) rfl rfl ?_
              refine E.Ops.q _ (E.q_mv rfl rfl) rfl rfl ?_
              refine E.Ops.nil ?_
              try simp only [E.tn, E.tx, E.tr, E.bn, E.br, E.bs]
            all_goals first
              | exact ⟨by rw [htk, decide_eq_true (by assumption)]; ((repeat refine E.SubEnv.cons rfl ?_); exact E.SubEnv.nil _), by exact E.Ent.of E.entA⟩
              | exact ⟨by rw [htk, decide_eq_false (by assumption)]; ((repeat refine E.SubEnv.cons rfl ?_); exact E.SubEnv.nil _), by exact E.Ent.of E.entA⟩
        rintro L1 ρ1 M1 ⟨hs, he⟩
        refine E.Run.sub hs (E.Run.ent he ?_)
        clear hs he
        (repeat refine E.Run.seq ?_)
        refine E.Run.region ?_
        refine E.Ops.q _ (E.q_move rfl rfl) rfl rfl ?_
        first | refine E.Ops.q _ (E.q_incr rfl rfl (by omega)) rfl rfl ?_ | refine E.Ops.q _ (E.q_addFit rfl rfl rfl (by omega)) rfl rfl ?_ | refine E.Ops.q _ (E.q_add rfl rfl rfl) rfl rfl ?_
        refine E.Ops.q _ (E.q_mv rfl rfl) rfl rfl ?_
        refine E.Ops.nil ?_
        try simp only [E.tn, E.tx, E.tr, E.bn, E.br, E.bs]
        exact ⟨j + 1, by omega, by omega, by ((repeat refine E.SubEnv.cons rfl ?_); exact E.SubEnv.nil _), by exact E.Ent.of E.entA⟩
      rintro L1 ρ1 M1 ⟨hs, he⟩
      refine E.Run.sub hs (E.Run.ent he ?_)
      clear hs he
      generalize hb1 : (insReads i).any (fun x => decide (x = (r : Int))) = b1 at *
      have hl2 : (insNexts k i).length ≤ 2 := by unfold insNexts; split <;> (try split) <;> simp
      (repeat refine E.Run.seq ?_)
      refine E.Run.region ?_
      refine E.Ops.q _ (E.q_move rfl rfl) rfl rfl ?_
      refine E.Ops.q _ (E.q_move rfl rfl) rfl rfl ?_
      first | refine E.Ops.q _ (E.q_indexNat rfl rfl rfl so_45 (by first | assumption | omega)) rfl rfl ?_ | refine E.Ops.q _ (E.q_indexAddr rfl rfl rfl so_45 (by omega) (by omega)) rfl rfl ?_
      refine E.Ops.q _ (E.q_load rfl rfl (by first | refine E.LoadAt.ownAgg E.ixA 4 ag_44 (by rfl) (by rfl) | exact E.LoadAt.roAgg ag_44 (by assumption) rfl)) rfl rfl ?_
      refine E.Ops.loud rfl rfl ?_
      refine E.l_call Try.func96 nm_96 nb_96 rfl ?_; refine rWrites i hopk ?_
      refine E.Ops.q _ (E.q_mv rfl rfl) rfl rfl ?_
      refine E.Ops.nil ?_
      try simp only [E.tn, E.tx, E.tr, E.bn, E.br, E.bs]
      (repeat refine E.Run.seq ?_)
      refine E.Run.region ?_
      refine E.Ops.q _ (E.q_move rfl rfl) rfl rfl ?_
      refine E.Ops.q _ (E.q_move rfl rfl) rfl rfl ?_
      refine E.Ops.loud rfl rfl ?_
      refine E.l_call Try.func86 nm_86 nb_86 rfl ?_; refine rNexts (some ad) cc code hcode (by omega) k hk (fun nA nc nn hnn => ?_); rw [hi] at hnn ⊢
      refine E.Ops.q _ (E.q_mv rfl rfl) rfl rfl ?_
      refine E.Ops.nil ?_
      try simp only [E.tn, E.tx, E.tr, E.bn, E.br, E.bs]
      subst hnn
      have hval : isVal i k bs r = (b1 || (decide (insWrites i ≠ (r : Int)) && (insNexts k i).any fun to' => atB bs to')) := by unfold isVal; rw [hb1]
      generalize hlx : insNexts k i = lnx at *
      generalize hwx : insWrites i = w at *
      refine E.Run.seqCut (fun L' ρ' M' => E.SubEnv [(0, .slice (some ad) code.length cc), (1, .int .i64 r), (5, .slice (some ⟨g1_3, 0, none⟩) (code.length + 1) (code.length + 1)), (6, .bool ag), (7, .int .i64 (k : Int)), (9, .bool (isVal i k bs r))] L' ∧ E.Ent ρ' M' ρ (E.arr 4 1 (some ⟨g1_3, 0, none⟩) (code.length + 1) (code.length + 1) (bs.flatMap E.encB) :: M)) ?_ ?_
      · (repeat refine E.Run.seq ?_)
        refine E.Run.region ?_
        refine E.Ops.q _ (E.q_mv rfl rfl) rfl rfl ?_
        refine E.Ops.nil ?_
        try simp only [E.tn, E.tx, E.tr, E.bn, E.br, E.bs]
        (repeat refine E.Run.seq ?_); refine E.Run.block ?_
        (repeat refine E.Run.seq ?_); refine E.Run.loopS (fun (j : Nat) => [(0, .slice (some ad) code.length cc), (1, .int .i64 r), (5, .slice (some ⟨g1_3, 0, none⟩) (code.length + 1) (code.length + 1)), (6, .bool ag), (7, .int .i64 (k : Int)), (12, .slice nA lnx.length nc), (11, .int .i64 w), (9, .bool (b1 || (decide (w ≠ (r : Int)) && (lnx.take j).any fun to' => atB bs to'))), (13, .int .i64 j)]) ρ (fun j => E.arr 3 1 nA lnx.length nc (lnx.flatMap E.encI) :: E.arr 4 1 (some ⟨g1_3, 0, none⟩) (code.length + 1) (code.length + 1) (bs.flatMap E.encB) :: M) (fun j => j ≤ lnx.length) (fun j => lnx.length - j) 0 (Nat.zero_le _) (by
          rw [show (b1 || (decide (w ≠ (r : Int)) && (lnx.take 0).any fun to' => atB bs to')) = b1 from by simp]
          ((repeat refine E.SubEnv.cons rfl ?_); exact E.SubEnv.nil _)) (by exact E.Ent.of E.entA) ?_
        intro j hj
        generalize hbx : (b1 || (decide (w ≠ (r : Int)) && (lnx.take j).any fun to' => atB bs to')) = bx
        refine E.Run.seqCut (fun L' ρ' M' => (j < lnx.length ∧ w ≠ (r : Int)) ∧ E.SubEnv [(0, .slice (some ad) code.length cc), (1, .int .i64 r), (5, .slice (some ⟨g1_3, 0, none⟩) (code.length + 1) (code.length + 1)), (6, .bool ag), (7, .int .i64 (k : Int)), (12, .slice nA lnx.length nc), (11, .int .i64 w), (9, .bool bx), (13, .int .i64 j)] L' ∧ E.Ent ρ' M' ρ (E.arr 3 1 nA lnx.length nc (lnx.flatMap E.encI) :: E.arr 4 1 (some ⟨g1_3, 0, none⟩) (code.length + 1) (code.length + 1) (bs.flatMap E.encB) :: M)) ?_ ?_
        · refine E.Run.seqCut (fun L' ρ' M' => E.SubEnv [(0, .slice (some ad) code.length cc), (1, .int .i64 r), (5, .slice (some ⟨g1_3, 0, none⟩) (code.length + 1) (code.length + 1)), (6, .bool ag), (7, .int .i64 (k : Int)), (12, .slice nA lnx.length nc), (11, .int .i64 w), (9, .bool bx), (13, .int .i64 j), (62, .bool (decide (j < lnx.length ∧ w ≠ (r : Int))))] L' ∧ E.Ent ρ' M' ρ (E.arr 3 1 nA lnx.length nc (lnx.flatMap E.encI) :: E.arr 4 1 (some ⟨g1_3, 0, none⟩) (code.length + 1) (code.length + 1) (bs.flatMap E.encB) :: M)) ?_ ?_
          · (repeat refine E.Run.seq ?_)
            refine E.Run.region ?_
            refine E.Ops.q _ (E.q_move rfl rfl) rfl rfl ?_
            refine E.Ops.q _ (E.q_move rfl rfl) rfl rfl ?_
            refine E.Ops.q _ (E.q_lenSlice rfl Try.underlying23) rfl rfl ?_
            refine E.Ops.part (E.q_lss rfl rfl rfl) rfl rfl (fun h17_3 => ?T2) (fun h17_3 => ?F2)
            case' F2 =>
              refine E.Ops.q _ (E.q_move rfl rfl) rfl rfl ?_
              refine E.Ops.skip rfl rfl ?_
              refine E.Ops.skip rfl rfl ?_
              refine E.Ops.skip rfl rfl ?_
              refine E.Ops.q _ (E.q_pickF rfl rfl rfl) rfl rfl ?_
              refine E.Ops.nil ?_
              try simp only [E.tn, E.tx, E.tr, E.bn, E.br, E.bs]
            case' T2 =>
              refine E.Ops.q _ (E.q_move rfl rfl) rfl rfl ?_
              refine E.Ops.q _ (E.q_move rfl rfl) rfl rfl ?_
              refine E.Ops.q _ (E.q_move rfl rfl) rfl rfl ?_
              refine E.Ops.part (E.q_neq rfl rfl rfl) rfl rfl (fun h17_7 => ?T3) (fun h17_7 => ?F3)
              case' F3 =>
                refine E.Ops.q _ (E.q_pickT rfl rfl rfl) rfl rfl ?_
                refine E.Ops.nil ?_
                try simp only [E.tn, E.tx, E.tr, E.bn, E.br, E.bs]
              case' T3 =>
                refine E.Ops.q _ (E.q_pickT rfl rfl rfl) rfl rfl ?_
                refine E.Ops.nil ?_
                try simp only [E.tn, E.tx, E.tr, E.bn, E.br, E.bs]
            all_goals first
              | exact ⟨by rw [decide_eq_true (by omega)]; ((repeat refine E.SubEnv.cons rfl ?_); exact E.SubEnv.nil _), by exact E.Ent.of E.entA⟩
              | exact ⟨by rw [decide_eq_false (by omega)]; ((repeat refine E.SubEnv.cons rfl ?_); exact E.SubEnv.nil _), by exact E.Ent.of E.entA⟩
          rintro L1 ρ1 M1 ⟨hs, he⟩
          refine E.Run.sub hs (E.Run.ent he ?_)
          clear hs he
          (repeat refine E.Run.seq ?_); refine E.Run.condD rfl (fun h6 => ?_) (fun h6 => ?_)
          · refine E.Run.skip ?_
            try simp only [E.tn, E.tx, E.tr, E.bn, E.br, E.bs]
            exact ⟨h6, by ((repeat refine E.SubEnv.cons rfl ?_); exact E.SubEnv.nil _), by exact E.Ent.of E.entA⟩
          · refine E.Run.exit ?_
            try simp only [E.tn, E.tx, E.tr, E.bn, E.br, E.bs]
            have hfin : bx = isVal i k bs r := by
              rw [hval, ← hbx]
              by_cases hw : w = (r : Int)
              · simp [hw]
              · have : j = lnx.length := by omega
                subst this
                rw [List.take_length]
            rw [hfin]
            exact ⟨by ((repeat refine E.SubEnv.cons rfl ?_); exact E.SubEnv.nil _), by exact E.Ent.of E.entA⟩
        rintro L1 ρ1 M1 ⟨⟨hj', hwr⟩, hs, he⟩
        refine E.Run.sub hs (E.Run.ent he ?_)
        clear hs he
        refine E.Run.arrSome (T := 3) E.ixA (by omega) fun gn hgn hcapn => ?_
        subst hgn
        have hto := hnx lnx[j] (List.getElem_mem hj')
        have hel : (lnx.flatMap E.encI)[j * 1]? = some (.int .i64 lnx[j]) := by
          have := E.flatMap_at (enc := E.encI) (sz := 1) (fun _ => rfl) lnx j lnx[j] (List.getElem?_eq_getElem hj') 0 _ rfl
          simpa using this
        have htk : (b1 || (decide (w ≠ (r : Int)) && (lnx.take (j + 1)).any fun to' => atB bs to')) = (bx || atB bs lnx[j]) := by
          rw [← hbx, List.take_succ_eq_append_getElem hj', List.any_append]
          simp [hwr, Bool.or_assoc]
        generalize lnx[j] = to' at *
        obtain ⟨q, rfl⟩ := Int.eq_ofNat_of_zero_le hto.1
        have hq : q < code.length + 1 := by omega
        have hbq := hbk q hq
        refine E.Run.seqCut (fun L' ρ' M' => E.SubEnv [(0, .slice (some ad) code.length cc), (1, .int .i64 r), (5, .slice (some ⟨g1_3, 0, none⟩) (code.length + 1) (code.length + 1)), (6, .bool ag), (7, .int .i64 (k : Int)), (12, .slice (some ⟨gn, 0, none⟩) lnx.length nc), (11, .int .i64 w), (9, .bool (bx || atB bs q)), (13, .int .i64 j)] L' ∧ E.Ent ρ' M' ρ (E.arr 3 1 (some ⟨gn, 0, none⟩) lnx.length nc (lnx.flatMap E.encI) :: E.arr 4 1 (some ⟨g1_3, 0, none⟩) (code.length + 1) (code.length + 1) (bs.flatMap E.encB) :: M)) ?_ ?_
        · (repeat refine E.Run.seq ?_); refine E.Run.block ?_
          cases bx with
          | true =>
            (repeat refine E.Run.seq ?_)
            refine E.Run.region ?_
            refine E.Ops.q _ (E.q_move rfl rfl) rfl rfl ?_
            refine E.Ops.q _ (E.q_move rfl rfl) rfl rfl ?_
            refine E.Ops.skip rfl rfl ?_
            refine E.Ops.skip rfl rfl ?_
            refine E.Ops.skip rfl rfl ?_
            refine E.Ops.skip rfl rfl ?_
            refine E.Ops.skip rfl rfl ?_
            refine E.Ops.skip rfl rfl ?_
            refine E.Ops.skip rfl rfl ?_
            refine E.Ops.q _ (E.q_pickT rfl rfl rfl) rfl rfl ?_
            refine E.Ops.q _ (E.q_mv rfl rfl) rfl rfl ?_
            refine E.Ops.nil ?_
            try simp only [E.tn, E.tx, E.tr, E.bn, E.br, E.bs]
            exact ⟨by ((repeat refine E.SubEnv.cons rfl ?_); exact E.SubEnv.nil _), by exact E.Ent.of E.entA⟩
          | false =>
            (repeat refine E.Run.seq ?_)
            refine E.Run.region ?_
            refine E.Ops.q _ (E.q_move rfl rfl) rfl rfl ?_
            refine E.Ops.q _ (E.q_move rfl rfl) rfl rfl ?_
            refine E.Ops.q _ (E.q_move rfl rfl) rfl rfl ?_
            refine E.Ops.q _ (E.q_move rfl rfl) rfl rfl ?_
            refine E.Ops.q _ (E.q_move rfl rfl) rfl rfl ?_
            first | refine E.Ops.q _ (E.q_indexNat rfl rfl rfl so_23 (by first | assumption | omega)) rfl rfl ?_ | refine E.Ops.q _ (E.q_indexAddr rfl rfl rfl so_23 (by omega) (by omega)) rfl rfl ?_
            refine E.Ops.q _ (E.q_load rfl rfl (by exact E.LoadAt.arr E.ixA sc_3 hel)) rfl rfl ?_
            refine E.Ops.q _ (E.q_indexNat rfl rfl rfl so_77 hq) rfl rfl ?_
            refine E.Ops.q _ (E.q_load rfl rfl (by exact E.LoadAt.arr E.ixA sc_4 hbq)) rfl rfl ?_
            refine E.Ops.q _ (E.q_pickF rfl rfl rfl) rfl rfl ?_
            refine E.Ops.q _ (E.q_mv rfl rfl) rfl rfl ?_
            refine E.Ops.nil ?_
            try simp only [E.tn, E.tx, E.tr, E.bn, E.br, E.bs]
            exact ⟨by rw [Bool.false_or]; ((repeat refine E.SubEnv.cons rfl ?_); exact E.SubEnv.nil _), by exact E.Ent.of E.entA⟩
        rintro L1 ρ1 M1 ⟨hs, he⟩
        refine E.Run.sub hs (E.Run.ent he ?_)
        clear hs he
        (repeat refine E.Run.seq ?_)
        refine E.Run.region ?_
        refine E.Ops.q _ (E.q_move rfl rfl) rfl rfl ?_
        first | refine E.Ops.q _ (E.q_incr rfl rfl (by omega)) rfl rfl ?_ | refine E.Ops.q _ (E.q_addFit rfl rfl rfl (by omega)) rfl rfl ?_ | refine E.Ops.q _ (E.q_add rfl rfl rfl) rfl rfl ?_
        refine E.Ops.q _ (E.q_mv rfl rfl) rfl rfl ?_
        refine E.Ops.nil ?_
        try simp only [E.tn, E.tx, E.tr, E.bn, E.br, E.bs]
        exact ⟨j + 1, by omega, by omega, by rw [htk]; ((repeat refine E.SubEnv.cons rfl ?_); exact E.SubEnv.nil _), by exact E.Ent.of E.entA⟩
      rintro L1 ρ1 M1 ⟨hs, he⟩
      refine E.Run.sub hs (E.Run.ent he ?_)
      clear hs he
      have hbk0 := hbk k (by omega)
      rw [hiv]
      cases hnow : nowF i k (fun to' _ => atB bs to') r with
      | false =>
        (repeat refine E.Run.seq ?_)
        refine E.Run.region ?_
        refine E.Ops.q _ (E.q_move rfl rfl) rfl rfl ?_
        refine E.Ops.q _ (E.q_move rfl rfl) rfl rfl ?_
        refine E.Ops.skip rfl rfl ?_
        refine E.Ops.skip rfl rfl ?_
        refine E.Ops.skip rfl rfl ?_
        refine E.Ops.skip rfl rfl ?_
        refine E.Ops.skip rfl rfl ?_
        refine E.Ops.q _ (E.q_pickF rfl rfl rfl) rfl rfl ?_
        refine E.Ops.nil ?_
        try simp only [E.tn, E.tx, E.tr, E.bn, E.br, E.bs]
        (repeat refine E.Run.seq ?_); refine E.Run.condF rfl ?_
        refine E.Run.skip ?_
        try simp only [E.tn, E.tx, E.tr, E.bn, E.br, E.bs]
        refine ⟨bs, ag, ⟨hinv, fun h => ⟨(hag h).1, fun j hj hkj => ?_⟩, hf1, hf2⟩, by ((repeat refine E.SubEnv.cons rfl ?_); exact E.SubEnv.nil _), by exact E.Ent.of E.entA⟩
        by_cases hjk : j = k
        · subst hjk
          rw [hi, hnow]
          intro h; cases h
        · exact (hag h).2 j hj (by omega)
      | true =>
        (repeat refine E.Run.seq ?_)
        refine E.Run.region ?_
        refine E.Ops.q _ (E.q_move rfl rfl) rfl rfl ?_
        refine E.Ops.q _ (E.q_move rfl rfl) rfl rfl ?_
        refine E.Ops.q _ (E.q_move rfl rfl) rfl rfl ?_
        refine E.Ops.q _ (E.q_move rfl rfl) rfl rfl ?_
        refine E.Ops.q _ (E.q_indexNat rfl rfl rfl so_77 (show k < code.length + 1 by omega)) rfl rfl ?_
        refine E.Ops.q _ (E.q_load rfl rfl (by exact E.LoadAt.arr E.ixA sc_4 hbk0)) rfl rfl ?_
        refine E.Ops.q _ (E.q_not rfl rfl) rfl rfl ?_
        refine E.Ops.q _ (E.q_pickT rfl rfl rfl) rfl rfl ?_
        refine E.Ops.nil ?_
        try simp only [E.tn, E.tx, E.tr, E.bn, E.br, E.bs]
        (repeat refine E.Run.seq ?_); refine E.Run.cond rfl (fun h20 => ?_) (fun h20 => ?_)
        · have hb0 : atB bs k = false := by simpa using h20
          have hf := hfal hb0
          have hset' := hset hnow
          (repeat refine E.Run.seq ?_)
          refine E.Run.region ?_
          refine E.Ops.q _ (E.q_move rfl rfl) rfl rfl ?_
          refine E.Ops.q _ (E.q_move rfl rfl) rfl rfl ?_
          refine E.Ops.q _ (E.q_indexNat rfl rfl rfl so_77 (show k < code.length + 1 by omega)) rfl rfl ?_
          refine E.Ops.loud rfl rfl ?_
          refine E.l_storeEl (enc := E.encB) true (fun _ => rfl) rfl rfl rfl E.ixA sz_4 hilen.symm (by omega) rfl rfl ?_
          refine E.Ops.nil ?_
          try simp only [E.tn, E.tx, E.tr, E.bn, E.br, E.bs]
          (repeat refine E.Run.seq ?_)
          refine E.Run.region ?_
          refine E.Ops.q _ (E.q_mv rfl rfl) rfl rfl ?_
          refine E.Ops.nil ?_
          try simp only [E.tn, E.tx, E.tr, E.bn, E.br, E.bs]
          exact ⟨bs.set k true, true, ⟨hset', (fun h => by cases h), by omega, (fun _ => by omega)⟩, by ((repeat refine E.SubEnv.cons rfl ?_); exact E.SubEnv.nil _), by exact E.Ent.of E.entA⟩
        · have hb0 : atB bs k = true := by simpa using h20
          refine E.Run.skip ?_
          try simp only [E.tn, E.tx, E.tr, E.bn, E.br, E.bs]
          refine ⟨bs, ag, ⟨hinv, fun h => ⟨(hag h).1, fun j hj hkj => ?_⟩, hf1, hf2⟩, by ((repeat refine E.SubEnv.cons rfl ?_); exact E.SubEnv.nil _), by exact E.Ent.of E.entA⟩
          by_cases hjk : j = k
          · subst hjk
            exact fun _ => hb0
          · exact (hag h).2 j hj (by omega)
    rintro L1 ρ1 M1 ⟨bs', ag', ⟨b1, b2, b3, b4⟩, hs, he⟩
    refine E.Run.sub hs (E.Run.ent he ?_)
    clear hs he
    (repeat refine E.Run.seq ?_)
    refine E.Run.region ?_
    refine E.Ops.q _ (E.q_move rfl rfl) rfl rfl ?_
    first | refine E.Ops.q _ (E.q_subFit rfl rfl rfl (by omega)) rfl rfl ?_ | refine E.Ops.q _ (E.q_sub rfl rfl rfl) rfl rfl ?_
    refine E.Ops.q _ (E.q_mv rfl rfl) rfl rfl ?_
    refine E.Ops.nil ?_
    try simp only [E.tn, E.tx, E.tr, E.bn, E.br, E.bs]
    exact ⟨(k, bs', ag'), ⟨by simp only; omega, b1, b2, b3, b4⟩, by simp only; omega, by ((repeat refine E.SubEnv.cons rfl ?_); exact E.SubEnv.nil _), by exact E.Ent.of E.entA⟩
  rintro L1 ρ1 M1 ⟨bs, hinv, hcl, hs, he⟩
  refine E.Run.sub hs (E.Run.ent he ?_)
  clear hs he
  (repeat refine E.Run.seq ?_)
  refine E.Run.region ?_
  refine E.Ops.q _ (E.q_move rfl rfl) rfl rfl ?_
  refine E.Ops.q _ (E.q_mv rfl rfl) rfl rfl ?_
  refine E.Ops.nil ?_
  try simp only [E.tn, E.tx, E.tr, E.bn, E.br, E.bs]
  refine E.Run.ret ?_
  try simp only [E.tn, E.tx, E.tr, E.bn, E.br, E.bs]
  exact ⟨_, _, _, E.ResOk.one rfl rfl, E.Ent.of E.entA, hK g1_3 bs hinv.len (fun ys hys => hinv.live hr hcl hys)⟩
end Go.Proofs.Ythpgjbdacknkgaa
