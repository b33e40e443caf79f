/- sluiceref13.Sets, walked. No statement of the seat in it. -/
import Derived.Test.YthpgjbdacknkgaaQ6
set_option linter.unusedVariables false
set_option linter.unusedSimpArgs false
namespace Go.Proofs.Ythpgjbdacknkgaa
open Go
private theorem nb_99 : Try.f99.body.isNone = false := by kernel_rfl
private theorem nm_99 : (Try.f99.name == "runtime.NumGoroutine") = false := by kernel_rfl
private theorem sc_4 : E.isScal Try.prog 4 = true := by kernel_rfl
private theorem sc_77 : E.isScal Try.prog 77 = true := by kernel_rfl
private theorem so_74 : E.sliceOf Try.prog 74 = some (77, 1) := by kernel_rfl
private theorem so_77 : E.sliceOf Try.prog 77 = some (4, 1) := by kernel_rfl
private theorem sz_4 : (Try.prog.info? 4).map (·.size) = some 1 := by kernel_rfl
private theorem sz_77 : (Try.prog.info? 77).map (·.size) = some 1 := by kernel_rfl
private theorem ty_4 : E.tyOf Try.prog 4 = some (some (.bool false), 1, 1) := by kernel_rfl
private theorem ty_77 : E.tyOf Try.prog 77 = some (some (.slice none 0 0), 1, 24) := by kernel_rfl

theorem bag_frozen {ρ : E.Ro} : ∀ {l : List E.Asr}, (∃ h, E.bag l h ∧ ∀ b o, h b = some o → ρ.blk b = some o) → ∀ A ∈ l, ∃ h, A h ∧ ∀ b o, h b = some o → ρ.blk b = some o
  | [], _, A, hA => by cases hA
  | B :: l, ⟨h, ⟨h1, h2, a1, a2, a3, e⟩, hm⟩, A, hA => by
    subst e
    rcases List.mem_cons.1 hA with rfl | hA
    · exact ⟨h1, a1, fun b o hb => hm b o (by simp only [hb])⟩
    · refine bag_frozen (l := l) ⟨h2, a2, fun b o hb => hm b o ?_⟩ A hA
      cases hh : h1 b with
      | none => simp [hh, hb]
      | some o' => rw [a3 b (by rw [hh]; simp)] at hb; cases hb
def enc1 (v : Value) : List Value := [v]
theorem flat1 (l : List Value) : l.flatMap enc1 = l := by
  induction l with
  | nil => rfl
  | cons v l ih => rw [List.flatMap_cons, ih]; rfl
/-- a row of one's own -/
def rowB (R : Nat) (x : Nat × List Bool) : E.Asr := E.arr 4 1 (some ⟨x.1, 0, none⟩) R R (x.2.flatMap E.encB)
def rowV (R : Nat) (g : Nat) : Value := .slice (some ⟨g, 0, none⟩) R R
theorem set_rows {R n k : Nat} (gs : List Nat) (g : Nat) (hk : k < n) (hg : gs.length = k) : (gs.map (rowV R) ++ List.replicate (n - k) (Value.slice none 0 0)).set k (rowV R g) = (gs ++ [g]).map (rowV R) ++ List.replicate (n - (k + 1)) (Value.slice none 0 0) := by
  subst hg
  rw [List.set_append_right _ _ (by simp), List.length_map, Nat.sub_self, show n - gs.length = (n - (gs.length + 1)) + 1 from by omega, List.replicate_succ, List.set_cons_zero]
  simp
/-- rows of bools, that stay -/
structure RowsAt (h : E.Hl) (A : Option Addr) (R : Nat) (rows : List (Nat × List Bool)) : Prop where
  outer : E.RdF h enc1 1 A (rows.map fun x => rowV R x.1)
  rows : ∀ x ∈ rows, E.RdF h E.encB 1 (some ⟨x.1, 0, none⟩) x.2

set_option maxRecDepth 100000 in
theorem rSets {ρ : E.Ro} {M : List E.Asr} {K : Value → E.Ro → List E.Asr → Prop} (cA : Option Addr) (cc : Nat) (code : List E.Ins) (R : Nat) (hR : R ≤ 200) (hcode : E.RdF ρ.blk E.encIns 4 cA code) (hsz : code.length ≤ 400) (hin : LiveIn code)
    (hrd : ∀ i ∈ code, r13Reads i = insReads i) (hop : ∀ i ∈ code, 1 ≤ i.op)
    (hK : ∀ ρ' A rows, E.Ro.le ρ ρ' → RowsAt ρ'.blk A R rows → rows.length = code.length + 1 → (∀ x ∈ rows, x.2.length = R) → (∀ ys, LiveOf code ys → ∀ k (h : k < rows.length), ∀ r, r < R → atB rows[k].2 r = atS ys k r) → K (.slice A rows.length rows.length) ρ' M) :
    E.Hoa Try.prog 58 #[.slice cA code.length cc, .int .i64 R] ρ M K := by
  refine E.Hoa.enter 50 Try.func58 rfl rfl rfl ?_
  (repeat refine E.Run.seq ?_)
  refine E.Run.region ?_
  refine E.Ops.q _ (E.q_mv rfl rfl) rfl rfl ?_
  refine E.Ops.nil ?_
  try simp only [E.tn, E.tx, E.tr, E.bn, E.br, E.bs]
  (repeat refine E.Run.seq ?_)
  refine E.Run.region ?_
  refine E.Ops.q _ (E.q_move rfl rfl) rfl rfl ?_
  refine E.Ops.q _ (E.q_lenSlice rfl Try.underlying45) rfl rfl ?_
  first | refine E.Ops.q _ (E.q_incr rfl rfl (by omega)) rfl rfl ?_ | refine E.Ops.q _ (E.q_addFit rfl rfl rfl (by omega)) rfl rfl ?_ | refine E.Ops.q _ (E.q_add rfl rfl rfl) rfl rfl ?_
  refine E.Ops.loud rfl rfl ?_
  refine E.l_make rfl rfl rfl Try.underlying74 ty_77 rfl (by omega) (by omega) (fun g1_3 => ?_)
  refine E.Ops.q _ (E.q_mv rfl rfl) rfl rfl ?_
  refine E.Ops.nil ?_
  try simp only [E.tn, E.tx, E.tr, E.bn, E.br, E.bs]
  refine E.Run.seqCut (fun L' ρ' M' => ∃ gs : List Nat, gs.length = code.length + 1 ∧ E.SubEnv [(0, .slice cA code.length cc), (1, .int .i64 R), (5, .slice (some ⟨g1_3, 0, none⟩) (code.length + 1) (code.length + 1))] L' ∧ E.Ent ρ' M' ρ (E.arr 77 1 (some ⟨g1_3, 0, none⟩) (code.length + 1) (code.length + 1) ((gs.map (rowV R)).flatMap enc1) :: E.bag ((gs.map fun g => (g, List.replicate R false)).map (rowB R)) :: M)) ?_ ?_
  · (repeat refine E.Run.seq ?_)
    refine E.Run.region ?_
    refine E.Ops.q _ (E.q_mv rfl rfl) rfl rfl ?_
    refine E.Ops.nil ?_
    try simp only [E.tn, E.tx, E.tr, E.bn, E.br, E.bs]
    (repeat refine E.Run.seq ?_); refine E.Run.block ?_
    (repeat refine E.Run.seq ?_); refine E.Run.loopS (fun (gs : List Nat) => [(0, .slice cA code.length cc), (1, .int .i64 R), (5, .slice (some ⟨g1_3, 0, none⟩) (code.length + 1) (code.length + 1)), (6, .int .i64 gs.length)]) ρ (fun gs => E.arr 77 1 (some ⟨g1_3, 0, none⟩) (code.length + 1) (code.length + 1) ((gs.map (rowV R) ++ List.replicate (code.length + 1 - gs.length) (Value.slice none 0 0)).flatMap enc1) :: E.bag ((gs.map fun g => (g, List.replicate R false)).map (rowB R)) :: M)
      (fun gs => gs.length ≤ code.length + 1) (fun gs => code.length + 1 - gs.length) [] (Nat.zero_le _) (by ((repeat refine E.SubEnv.cons rfl ?_); exact E.SubEnv.nil _)) (by
        show E.Ent ρ (E.arr 77 1 (some ⟨g1_3, 0, none⟩) (code.length + 1) (code.length + 1) ((List.replicate (code.length + 1) [Value.slice none 0 0]).flatten) :: M) ρ (E.arr 77 1 (some ⟨g1_3, 0, none⟩) (code.length + 1) (code.length + 1) ((List.replicate (code.length + 1) (Value.slice none 0 0)).flatMap enc1) :: E.bag [] :: M)
        rw [show (List.replicate (code.length + 1) [Value.slice none 0 0]).flatten = (List.replicate (code.length + 1) (Value.slice none 0 0)).flatMap enc1 from by
          generalize code.length + 1 = q
          induction q with
          | zero => rfl
          | succ q ih => rw [List.replicate_succ, List.replicate_succ, List.flatMap_cons, List.flatten_cons, ih]; rfl]
        exact E.Ent.of (E.SEnt.keep (E.SEnt.bagNil (E.SEnt.refl _)))) ?_
    intro gs hgs
    refine E.Run.seqCut (fun L' ρ' M' => gs.length < code.length + 1 ∧ E.SubEnv [(0, .slice cA code.length cc), (1, .int .i64 R), (5, .slice (some ⟨g1_3, 0, none⟩) (code.length + 1) (code.length + 1)), (6, .int .i64 gs.length)] L' ∧ E.Ent ρ' M' ρ (E.arr 77 1 (some ⟨g1_3, 0, none⟩) (code.length + 1) (code.length + 1) ((gs.map (rowV R) ++ List.replicate (code.length + 1 - gs.length) (Value.slice none 0 0)).flatMap enc1) :: E.bag ((gs.map fun g => (g, List.replicate R false)).map (rowB R)) :: M)) ?_ ?_
    · (repeat refine E.Run.seq ?_)
      refine E.Run.region ?_
      refine E.Ops.q _ (E.q_move rfl rfl) rfl rfl ?_
      refine E.Ops.q _ (E.q_move rfl rfl) rfl rfl ?_
      refine E.Ops.q _ (E.q_lenSlice rfl Try.underlying45) rfl rfl ?_
      refine E.Ops.q _ (E.q_leq rfl rfl rfl) rfl rfl ?_
      refine E.Ops.nil ?_
      try simp only [E.tn, E.tx, E.tr, E.bn, E.br, E.bs]
      (repeat refine E.Run.seq ?_); refine E.Run.condD rfl (fun h6 => ?_) (fun h6 => ?_)
      · refine E.Run.skip ?_
        try simp only [E.tn, E.tx, E.tr, E.bn, E.br, E.bs]
        exact ⟨by omega, by ((repeat refine E.SubEnv.cons rfl ?_); exact E.SubEnv.nil _), by exact E.Ent.of E.entA⟩
      · refine E.Run.exit ?_
        try simp only [E.tn, E.tx, E.tr, E.bn, E.br, E.bs]
        have hl : gs.length = code.length + 1 := by omega
        rw [hl, Nat.sub_self, List.replicate_zero, List.append_nil]
        exact ⟨gs, hl, by ((repeat refine E.SubEnv.cons rfl ?_); exact E.SubEnv.nil _), by exact E.Ent.of E.entA⟩
    rintro L1 ρ1 M1 ⟨hk, hs, he⟩
    refine E.Run.sub hs (E.Run.ent he ?_)
    clear hs he
    (repeat refine E.Run.seq ?_); refine E.Run.block ?_
    have hlen : (gs.map (rowV R) ++ List.replicate (code.length + 1 - gs.length) (Value.slice none 0 0)).length = code.length + 1 := by simp; omega
    (repeat refine E.Run.seq ?_)
    refine E.Run.region ?_
    refine E.Ops.q _ (E.q_move rfl rfl) rfl rfl ?_
    refine E.Ops.q _ (E.q_move rfl rfl) rfl rfl ?_
    refine E.Ops.q _ (E.q_move rfl rfl) rfl rfl ?_
    refine E.Ops.loud rfl rfl ?_
    refine E.l_make rfl rfl rfl Try.underlying77 ty_4 rfl (by omega) (by omega) (fun g5_3 => ?_)
    refine E.Ops.q _ (E.q_indexNat rfl rfl rfl so_74 hk) rfl rfl ?_
    refine E.Ops.loud rfl rfl ?_
    refine E.l_storeEl (enc := enc1) (rowV R g5_3) (fun _ => rfl) rfl rfl rfl E.ixA sz_77 hlen.symm hk rfl rfl ?_
    refine E.Ops.nil ?_
    try simp only [E.tn, E.tx, E.tr, E.bn, E.br, E.bs]
    (repeat refine E.Run.seq ?_)
    refine E.Run.region ?_
    refine E.Ops.q _ (E.q_move rfl rfl) rfl rfl ?_
    first | refine E.Ops.q _ (E.q_incr rfl rfl (by omega)) rfl rfl ?_ | refine E.Ops.q _ (E.q_addFit rfl rfl rfl (by omega)) rfl rfl ?_ | refine E.Ops.q _ (E.q_add rfl rfl rfl) rfl rfl ?_
    refine E.Ops.q _ (E.q_mv rfl rfl) rfl rfl ?_
    refine E.Ops.nil ?_
    try simp only [E.tn, E.tx, E.tr, E.bn, E.br, E.bs]
    have hgl : (gs ++ [g5_3]).length = gs.length + 1 := by simp
    refine ⟨gs ++ [g5_3], by rw [hgl]; omega, by rw [hgl]; omega, by rw [hgl]; ((repeat refine E.SubEnv.cons rfl ?_); exact E.SubEnv.nil _), ?_⟩
    rw [hgl, set_rows gs g5_3 hk rfl]
    refine E.Ent.of (E.SEnt.trans E.SEnt.swap2 (E.SEnt.keep ?_))
    rw [show (List.replicate R (Value.bool false).cells.toList).flatten = (List.replicate R false).flatMap E.encB from by
      generalize R = q
      induction q with
      | zero => rfl
      | succ q ih => rw [List.replicate_succ, List.replicate_succ, List.flatMap_cons, List.flatten_cons, ih]; rfl, List.map_append]
    exact E.bagAdd (f := rowB R) (g5_3, List.replicate R false) M
  rintro L1 ρ1 M1 ⟨gs, hgs, hs, he⟩
  refine E.Run.sub hs (E.Run.ent he ?_)
  clear hs he
  obtain ⟨rows0, hrows0⟩ : ∃ rows0 : List (Nat × List Bool), rows0 = gs.map fun g => (g, List.replicate R false) := ⟨_, rfl⟩
  have h01 : gs.map (rowV R) = rows0.map fun x => rowV R x.1 := by rw [hrows0, List.map_map]; rfl
  have h02 : rows0.length = code.length + 1 := by rw [hrows0, List.length_map]; exact hgs
  have h03 : ∀ x ∈ rows0, x.2.length = R := by
    intro x hx
    rw [hrows0] at hx
    obtain ⟨g, _, rfl⟩ := List.mem_map.1 hx
    simp
  rw [← hrows0, h01]
  clear hrows0 h01 hgs
  refine E.Run.seqCut (fun L' ρ' M' => ∃ rows : List (Nat × List Bool), rows.length = code.length + 1 ∧ (∀ x ∈ rows, x.2.length = R) ∧ (∀ ys, LiveOf code ys → ∀ k (h : k < rows.length), ∀ r, r < R → atB rows[k].2 r = atS ys k r) ∧ E.SubEnv [(0, .slice cA code.length cc), (1, .int .i64 R), (5, .slice (some ⟨g1_3, 0, none⟩) (code.length + 1) (code.length + 1))] L' ∧ E.Ent ρ' M' ρ (E.arr 77 1 (some ⟨g1_3, 0, none⟩) (code.length + 1) (code.length + 1) ((rows.map fun x => rowV R x.1).flatMap enc1) :: E.bag (rows.map (rowB R)) :: M)) ?_ ?_
  · (repeat refine E.Run.seq ?_)
    refine E.Run.region ?_
    refine E.Ops.q _ (E.q_mv rfl rfl) rfl rfl ?_
    refine E.Ops.nil ?_
    try simp only [E.tn, E.tx, E.tr, E.bn, E.br, E.bs]
    (repeat refine E.Run.seq ?_); refine E.Run.block ?_
    (repeat refine E.Run.seq ?_); refine E.Run.loopS (fun (x : Nat × List (Nat × List Bool)) => [(0, .slice cA code.length cc), (1, .int .i64 R), (5, .slice (some ⟨g1_3, 0, none⟩) (code.length + 1) (code.length + 1)), (7, .int .i64 x.1)]) ρ (fun x => E.arr 77 1 (some ⟨g1_3, 0, none⟩) (code.length + 1) (code.length + 1) ((x.2.map fun x => rowV R x.1).flatMap enc1) :: E.bag (x.2.map (rowB R)) :: M)
      (fun x => x.1 ≤ R ∧ x.2.length = code.length + 1 ∧ (∀ y ∈ x.2, y.2.length = R) ∧ ∀ ys, LiveOf code ys → ∀ k (h : k < x.2.length), ∀ r, r < x.1 → atB x.2[k].2 r = atS ys k r) (fun x => R - x.1) (0, rows0) ⟨Nat.zero_le _, h02, h03, fun ys _ k h r hr => by simp only at hr; omega⟩ (by ((repeat refine E.SubEnv.cons rfl ?_); exact E.SubEnv.nil _)) (by exact E.Ent.of E.entA) ?_
    rintro ⟨r, rows⟩ ⟨hr, hl, hrl, hv⟩
    simp only at hr hl hrl hv ⊢
    refine E.Run.seqCut (fun L' ρ' M' => r < R ∧ E.SubEnv [(0, .slice cA code.length cc), (1, .int .i64 R), (5, .slice (some ⟨g1_3, 0, none⟩) (code.length + 1) (code.length + 1)), (7, .int .i64 r)] L' ∧ E.Ent ρ' M' ρ (E.arr 77 1 (some ⟨g1_3, 0, none⟩) (code.length + 1) (code.length + 1) ((rows.map fun x => rowV R x.1).flatMap enc1) :: E.bag (rows.map (rowB R)) :: M)) ?_ ?_
    · (repeat refine E.Run.seq ?_)
      refine E.Run.region ?_
      refine E.Ops.q _ (E.q_move rfl rfl) rfl rfl ?_
      refine E.Ops.q _ (E.q_move rfl rfl) rfl rfl ?_
      refine E.Ops.q _ (E.q_lss rfl rfl rfl) rfl rfl ?_
      refine E.Ops.nil ?_
      try simp only [E.tn, E.tx, E.tr, E.bn, E.br, E.bs]
      (repeat refine E.Run.seq ?_); refine E.Run.condD rfl (fun h6 => ?_) (fun h6 => ?_)
      · refine E.Run.skip ?_
        try simp only [E.tn, E.tx, E.tr, E.bn, E.br, E.bs]
        exact ⟨by omega, by ((repeat refine E.SubEnv.cons rfl ?_); exact E.SubEnv.nil _), by exact E.Ent.of E.entA⟩
      · refine E.Run.exit ?_
        try simp only [E.tn, E.tx, E.tr, E.bn, E.br, E.bs]
        have : r = R := by omega
        subst this
        exact ⟨rows, hl, hrl, hv, by ((repeat refine E.SubEnv.cons rfl ?_); exact E.SubEnv.nil _), by exact E.Ent.of E.entA⟩
    rintro L1 ρ1 M1 ⟨hrR, hs, he⟩
    refine E.Run.sub hs (E.Run.ent he ?_)
    clear hs he
    refine E.Run.seqCut (fun L' ρ' M' => ∃ rows' : List (Nat × List Bool), (rows'.length = code.length + 1 ∧ (∀ y ∈ rows', y.2.length = R) ∧ ∀ ys, LiveOf code ys → ∀ k (h : k < rows'.length), ∀ s, s < r + 1 → atB rows'[k].2 s = atS ys k s) ∧ E.SubEnv [(0, .slice cA code.length cc), (1, .int .i64 R), (5, .slice (some ⟨g1_3, 0, none⟩) (code.length + 1) (code.length + 1)), (7, .int .i64 r)] L' ∧ E.Ent ρ' M' ρ (E.arr 77 1 (some ⟨g1_3, 0, none⟩) (code.length + 1) (code.length + 1) ((rows'.map fun x => rowV R x.1).flatMap enc1) :: E.bag (rows'.map (rowB R)) :: M)) ?_ ?_
    · (repeat refine E.Run.seq ?_); refine E.Run.block ?_
      (repeat refine E.Run.seq ?_)
      refine E.Run.region ?_
      refine E.Ops.q _ (E.q_move rfl rfl) rfl rfl ?_
      refine E.Ops.q _ (E.q_move rfl rfl) rfl rfl ?_
      refine E.Ops.loud rfl rfl ?_
      refine E.l_call Try.func99 nm_99 nb_99 rfl ?_; refine rAhead cA cc code r (by omega) hcode hsz hin hrd hop (fun gl bs hbl hbs => ?_)
      refine E.Ops.q _ (E.q_mv rfl rfl) rfl rfl ?_
      refine E.Ops.nil ?_
      try simp only [E.tn, E.tx, E.tr, E.bn, E.br, E.bs]
      (repeat refine E.Run.seq ?_)
      refine E.Run.region ?_
      refine E.Ops.q _ (E.q_mv rfl rfl) rfl rfl ?_
      refine E.Ops.nil ?_
      try simp only [E.tn, E.tx, E.tr, E.bn, E.br, E.bs]
      (repeat refine E.Run.seq ?_); refine E.Run.block ?_
      (repeat refine E.Run.seq ?_); refine E.Run.loopS (fun (x : Nat × List (Nat × List Bool)) => [(0, .slice cA code.length cc), (1, .int .i64 R), (5, .slice (some ⟨g1_3, 0, none⟩) (code.length + 1) (code.length + 1)), (7, .int .i64 r), (8, .slice (some ⟨gl, 0, none⟩) (code.length + 1) (code.length + 1)), (9, .int .i64 x.1)]) ρ (fun x => E.arr 4 1 (some ⟨gl, 0, none⟩) (code.length + 1) (code.length + 1) (bs.flatMap E.encB) :: E.arr 77 1 (some ⟨g1_3, 0, none⟩) (code.length + 1) (code.length + 1) ((x.2.map fun x => rowV R x.1).flatMap enc1) :: E.bag (x.2.map (rowB R)) :: M)
        (fun x => x.1 ≤ code.length + 1 ∧ x.2.length = code.length + 1 ∧ (∀ y ∈ x.2, y.2.length = R) ∧ ∀ ys, LiveOf code ys → ∀ k (h : k < x.2.length), ∀ s, s < (if k < x.1 then r + 1 else r) → atB x.2[k].2 s = atS ys k s) (fun x => code.length + 1 - x.1) (0, rows) ⟨Nat.zero_le _, hl, hrl, fun ys hy k h s hs => hv ys hy k h s (by simpa using hs)⟩ (by ((repeat refine E.SubEnv.cons rfl ?_); exact E.SubEnv.nil _)) (by exact E.Ent.of E.entA) ?_
      rintro ⟨k, rw1⟩ ⟨hk, hl1, hrl1, hv1⟩
      simp only at hk hl1 hrl1 hv1 ⊢
      refine E.Run.seqCut (fun L' ρ' M' => k < code.length + 1 ∧ E.SubEnv [(0, .slice cA code.length cc), (1, .int .i64 R), (5, .slice (some ⟨g1_3, 0, none⟩) (code.length + 1) (code.length + 1)), (7, .int .i64 r), (8, .slice (some ⟨gl, 0, none⟩) (code.length + 1) (code.length + 1)), (9, .int .i64 k)] L' ∧ E.Ent ρ' M' ρ (E.arr 4 1 (some ⟨gl, 0, none⟩) (code.length + 1) (code.length + 1) (bs.flatMap E.encB) :: E.arr 77 1 (some ⟨g1_3, 0, none⟩) (code.length + 1) (code.length + 1) ((rw1.map fun x => rowV R x.1).flatMap enc1) :: E.bag (rw1.map (rowB R)) :: M)) ?_ ?_
      · (repeat refine E.Run.seq ?_)
        refine E.Run.region ?_
        refine E.Ops.q _ (E.q_move rfl rfl) rfl rfl ?_
        refine E.Ops.q _ (E.q_move rfl rfl) rfl rfl ?_
        refine E.Ops.q _ (E.q_lenSlice rfl Try.underlying45) rfl rfl ?_
        refine E.Ops.q _ (E.q_leq rfl rfl rfl) rfl rfl ?_
        refine E.Ops.nil ?_
        try simp only [E.tn, E.tx, E.tr, E.bn, E.br, E.bs]
        (repeat refine E.Run.seq ?_); refine E.Run.condD rfl (fun h6 => ?_) (fun h6 => ?_)
        · refine E.Run.skip ?_
          try simp only [E.tn, E.tx, E.tr, E.bn, E.br, E.bs]
          exact ⟨by omega, by ((repeat refine E.SubEnv.cons rfl ?_); exact E.SubEnv.nil _), by exact E.Ent.of E.entA⟩
        · refine E.Run.exit ?_
          try simp only [E.tn, E.tx, E.tr, E.bn, E.br, E.bs]
          have : k = code.length + 1 := by omega
          subst this
          exact ⟨rw1, ⟨hl1, hrl1, fun ys hy k h s hs => hv1 ys hy k h s (by rw [if_pos (by omega)]; exact hs)⟩, by ((repeat refine E.SubEnv.cons rfl ?_); exact E.SubEnv.nil _), by exact E.Ent.of E.entA⟩
      rintro L1 ρ1 M1 ⟨hk', hs, he⟩
      refine E.Run.sub hs (E.Run.ent he ?_)
      clear hs he
      have hkl : k < rw1.length := by omega
      have hok : ((rw1.map fun x => rowV R x.1).flatMap enc1)[k * 1]? = some (rowV R rw1[k].1) := by
        rw [flat1, Nat.mul_one, List.getElem?_map, List.getElem?_eq_getElem hkl]; rfl
      have hlk : (bs.flatMap E.encB)[k * 1]? = some (.bool (atB bs k)) := by
        have := E.flatMap_at (enc := E.encB) (sz := 1) (fun _ => rfl) bs k (atB bs k) (by rw [atB_nat bs (by omega)]; exact List.getElem?_eq_getElem (by omega)) 0 _ rfl
        simpa using this
      have hrk := hrl1 _ (List.getElem_mem hkl)
      have hset := fun x => E.bagSet (f := rowB R) hkl x M
      refine E.Run.ent (M1 := rowB R rw1[k] :: E.arr 4 1 (some ⟨gl, 0, none⟩) (code.length + 1) (code.length + 1) (bs.flatMap E.encB) :: E.arr 77 1 (some ⟨g1_3, 0, none⟩) (code.length + 1) (code.length + 1) ((rw1.map fun x => rowV R x.1).flatMap enc1) :: E.bag ((rw1.eraseIdx k).map (rowB R)) :: M) (E.Ent.of (E.SEnt.trans (E.SEnt.keep (E.SEnt.keep (E.bagAt hkl M))) (E.SEnt.take 2 rfl (E.SEnt.refl _)))) ?_
      have hfst : ∀ b, (rw1.set k (rw1[k].1, b)).map (fun x => rowV R x.1) = rw1.map fun x => rowV R x.1 := fun b => by
        apply List.ext_getElem (by simp)
        intro j h1 h2
        simp only [List.getElem_map, List.getElem_set]
        split
        · rename_i e; subst e; rfl
        · rfl
      have hget : ∀ b j (h : j < (rw1.set k (rw1[k].1, b)).length) (h' : j < rw1.length), (rw1.set k (rw1[k].1, b))[j] = if k = j then (rw1[k].1, b) else rw1[j] := fun b j h h' => by rw [List.getElem_set]
      have hv1k := fun ys hy => hv1 ys hy k hkl
      generalize hrow : rw1[k] = row at *
      obtain ⟨gk, bk⟩ := row
      simp only at hok hrk hfst hget hv1k
      show E.Run _ _ _ _ ρ (E.arr 4 1 (some ⟨gk, 0, none⟩) R R (bk.flatMap E.encB) :: _) _
      (repeat refine E.Run.seq ?_); refine E.Run.block ?_
      (repeat refine E.Run.seq ?_)
      refine E.Run.draw (.ph [0, 1, 2, 3, 4, 5, 6, 7, 8, 9] (.l 10 (.nil))) _ _ Try.mixed (by kernel_rfl) (E.Ent.nil _ _) ?_
      refine E.Plan.ph (by exact E.Ent.of E.entA) ?_
      refine E.PlanQ.q _ rfl _ (E.q_move rfl rfl) rfl rfl ?_
      refine E.PlanQ.q _ rfl _ (E.q_move rfl rfl) rfl rfl ?_
      refine E.PlanQ.q _ rfl _ (E.q_indexNat rfl rfl rfl so_74 hk') rfl rfl ?_
      refine E.PlanQ.q _ rfl _ (E.q_load rfl rfl (by exact E.LoadAt.arr E.ixA sc_77 hok)) rfl rfl ?_
      refine E.PlanQ.q _ rfl _ (E.q_move rfl rfl) rfl rfl ?_
      refine E.PlanQ.q _ rfl _ (E.q_move rfl rfl) rfl rfl ?_
      refine E.PlanQ.q _ rfl _ (E.q_move rfl rfl) rfl rfl ?_
      refine E.PlanQ.q _ rfl _ (E.q_indexNat rfl rfl rfl so_77 hk') rfl rfl ?_
      refine E.PlanQ.q _ rfl _ (E.q_load rfl rfl (by exact E.LoadAt.arr E.ixA sc_4 hlk)) rfl rfl ?_
      refine E.PlanQ.q _ rfl _ (E.q_indexNat rfl rfl rfl so_77 hrR) rfl rfl ?_
      refine E.PlanQ.nil ?_
      refine E.Plan.loud _ rfl rfl rfl ?_
      refine E.l_storeEl (enc := E.encB) (atB bs k) (fun _ => rfl) rfl rfl rfl E.ixA sz_4 hrk.symm hrR rfl rfl ?_
      refine ⟨E.Ent.of E.entA, ?_⟩
      refine E.Plan.nil ?_
      try simp only [E.tn, E.tx, E.tr, E.bn, E.br, E.bs]
      (repeat refine E.Run.seq ?_)
      refine E.Run.region ?_
      refine E.Ops.q _ (E.q_move rfl rfl) rfl rfl ?_
      first | refine E.Ops.q _ (E.q_incr rfl rfl (by omega)) rfl rfl ?_ | refine E.Ops.q _ (E.q_addFit rfl rfl rfl (by omega)) rfl rfl ?_ | refine E.Ops.q _ (E.q_add rfl rfl rfl) rfl rfl ?_
      refine E.Ops.q _ (E.q_mv rfl rfl) rfl rfl ?_
      refine E.Ops.nil ?_
      try simp only [E.tn, E.tx, E.tr, E.bn, E.br, E.bs]
      refine ⟨(k + 1, rw1.set k (gk, bk.set r (atB bs k))), ⟨by simp only; omega, by simp only [List.length_set]; exact hl1, fun y hy => ?_, fun ys hy j hj s hs => ?_⟩, by simp only; omega, by ((repeat refine E.SubEnv.cons rfl ?_); exact E.SubEnv.nil _), ?_⟩
      · simp only at hy
        rcases List.mem_or_eq_of_mem_set hy with h | h
        · exact hrl1 y h
        · subst h; simp only [List.length_set]; exact hrk
      · simp only at hj hs ⊢
        rw [List.length_set] at hj
        rw [hget _ j (by rw [List.length_set]; exact hj) hj]
        by_cases hjk : k = j
        · subst hjk
          rw [if_pos rfl]
          simp only
          rw [if_pos (by omega)] at hs
          rw [atB_set (by omega), Int.toNat_natCast]
          by_cases hsr : s = r
          · subst hsr
            rw [if_pos rfl]
            exact hbs ys hy k (by omega)
          · rw [if_neg hsr]
            exact hv1k ys hy s (by rw [if_neg (by omega)]; omega)
        · rw [if_neg hjk]
          refine hv1 ys hy j hj s ?_
          split at hs
          · rw [if_pos (by omega)]; exact hs
          · rw [if_neg (by omega)]; exact hs
      · simp only [hfst]
        refine E.Ent.of (E.SEnt.trans (E.SEnt.take 1 rfl (E.SEnt.take 1 rfl (E.SEnt.refl _))) (E.SEnt.keep (E.SEnt.keep ?_)))
        exact hset (gk, bk.set r (atB bs k))
    rintro L1 ρ1 M1 ⟨rw2, ⟨w1, w2, w3⟩, hs, he⟩
    refine E.Run.sub hs (E.Run.ent he ?_)
    clear hs he
    (repeat refine E.Run.seq ?_)
    refine E.Run.region ?_
    refine E.Ops.q _ (E.q_move rfl rfl) rfl rfl ?_
    first | refine E.Ops.q _ (E.q_incr rfl rfl (by omega)) rfl rfl ?_ | refine E.Ops.q _ (E.q_addFit rfl rfl rfl (by omega)) rfl rfl ?_ | refine E.Ops.q _ (E.q_add rfl rfl rfl) rfl rfl ?_
    refine E.Ops.q _ (E.q_mv rfl rfl) rfl rfl ?_
    refine E.Ops.nil ?_
    try simp only [E.tn, E.tx, E.tr, E.bn, E.br, E.bs]
    exact ⟨(r + 1, rw2), ⟨by simp only; omega, w1, w2, w3⟩, by simp only; omega, by ((repeat refine E.SubEnv.cons rfl ?_); exact E.SubEnv.nil _), by exact E.Ent.of E.entA⟩
  rintro L1 ρ1 M1 ⟨rows, w1, w2, w3, hs, he⟩
  refine E.Run.sub hs (E.Run.ent he ?_)
  clear hs he
  refine E.Run.freeze fun ρ2 hle2 hfr2 => ?_
  refine E.Run.freeze fun ρ3 hle3 hfr3 => ?_
  have hra : RowsAt ρ3.blk (some ⟨g1_3, 0, none⟩) R rows := ⟨(E.arr_frozen (enc := enc1) (fun _ => rfl) hfr2 (by simp [w1])).mono hle3.blk, fun x hx => E.arr_frozen (enc := E.encB) (fun _ => rfl) (bag_frozen hfr3 (rowB R x) (List.mem_map.2 ⟨x, hx, rfl⟩)) (w2 x hx).symm⟩
  (repeat refine E.Run.seq ?_)
  refine E.Run.region ?_
  refine E.Ops.q _ (E.q_move rfl rfl) rfl rfl ?_
  refine E.Ops.q _ (E.q_mv rfl rfl) rfl rfl ?_
  refine E.Ops.nil ?_
  try simp only [E.tn, E.tx, E.tr, E.bn, E.br, E.bs]
  refine E.Run.ret ?_
  try simp only [E.tn, E.tx, E.tr, E.bn, E.br, E.bs]
  have hfin := hK ρ3 _ rows (hle2.trans hle3) hra w1 w2 w3
  rw [w1] at hfin
  exact ⟨_, _, _, E.ResOk.one rfl rfl, E.Ent.of E.entA, hfin⟩
end Go.Proofs.Ythpgjbdacknkgaa
