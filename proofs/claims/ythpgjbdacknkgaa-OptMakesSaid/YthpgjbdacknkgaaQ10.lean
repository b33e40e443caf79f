/- sluiceref13's lead, walked. No statement of the seat in it. -/
import Derived.Test.YthpgjbdacknkgaaQ9
set_option linter.unusedVariables false
set_option linter.unusedSimpArgs false
namespace Go.Proofs.Ythpgjbdacknkgaa
open Go
private theorem ag_101 : E.isAggOf Try.prog 101 2 = true := by kernel_rfl
private theorem fo_101_0 : E.fieldOff Try.prog 101 0 = some 0 := by kernel_rfl
private theorem fo_101_1 : E.fieldOff Try.prog 101 1 = some 1 := by kernel_rfl
private theorem fo_99_0 : E.fieldOff Try.prog 99 0 = some 0 := by kernel_rfl
private theorem fo_99_1 : E.fieldOff Try.prog 99 1 = some 1 := by kernel_rfl
private theorem fo_99_2 : E.fieldOff Try.prog 99 2 = some 2 := by kernel_rfl
private theorem nb_137 : Try.f137.body.isNone = false := by kernel_rfl
private theorem nm_137 : (Try.f137.name == "runtime.NumGoroutine") = false := by kernel_rfl
private theorem sc_103 : E.isScal Try.prog 103 = true := by kernel_rfl
private theorem sc_3 : E.isScal Try.prog 3 = true := by kernel_rfl
private theorem sc_4 : E.isScal Try.prog 4 = true := by kernel_rfl
private theorem sc_77 : E.isScal Try.prog 77 = true := by kernel_rfl
private theorem sc_97 : E.isScal Try.prog 97 = true := by kernel_rfl
private theorem so_103 : E.sliceOf Try.prog 103 = some (101, 2) := by kernel_rfl
private theorem so_77 : E.sliceOf Try.prog 77 = some (4, 1) := by kernel_rfl
private theorem so_97 : E.sliceOf Try.prog 97 = some (103, 1) := by kernel_rfl
private theorem sz_101 : (Try.prog.info? 101).map (·.size) = some 2 := by kernel_rfl
private theorem sz_4 : (Try.prog.info? 4).map (·.size) = some 1 := by kernel_rfl
private theorem ty_101 : E.tyOf Try.prog 101 = some (some (.agg #[.int .i64 0, .int .i64 0]), 2, 16) := by kernel_rfl

def encV (v : Vl) : List Value := [.int .i64 v.st, .int .i64 v.n]
theorem encV_len (v : Vl) : (encV v).length = 2 := rfl
/-- a row of values of one's own -/
def rowL (R : Nat) (x : Nat × List Vl) : E.Asr := E.arr 101 2 (some ⟨x.1, 0, none⟩) R R (x.2.flatMap encV)
def meetR (vs es : List Vl) : List Vl := List.zipWith rmeet vs es
theorem meetR_at {vs es : List Vl} {j : Nat} (h : j < vs.length) (h' : j < es.length) : (meetR vs es)[j]? = some (rmeet vs[j] es[j]) := by
  unfold meetR
  rw [List.getElem?_zipWith, List.getElem?_eq_getElem h, List.getElem?_eq_getElem h']
theorem encV_at {vs : List Vl} {r : Nat} {v : Vl} (h : vs[r]? = some v) (j : Nat) (u : Value) (hu : (encV v)[j]? = some u) : (vs.flatMap encV)[r * 2 + j]? = some u := E.flatMap_at encV_len vs r v h j u hu

set_option maxHeartbeats 4000000 in
set_option maxRecDepth 100000 in
theorem rLead {ρ : E.Ro} {M : List E.Asr} {K : Value → E.Ro → List E.Asr → Prop} (bl gG gA cA n1 R ge ce : Nat) (more : Bool) (gs : List Bool) (rows : List (Nat × List Vl)) (to' : Nat) (es : List Vl)
    (hgs : gs.length = n1) (hrows : rows.length = n1) (hrl : ∀ x ∈ rows, x.2.length = R) (hes : es.length = R) (hto : to' < n1) (hR : R ≤ 200) (hn1 : n1 ≤ 401)
    (hK : ∀ more' g, (h : to' < rows.length) → g = rows[to'].1 → (more' = false → more = false ∧ gs[to']? = some true ∧ meetR rows[to'].2 es = rows[to'].2) → (more = false → more' = true → ¬ (gs[to']? = some true ∧ meetR rows[to'].2 es = rows[to'].2)) →
      K (.tuple #[]) ρ (E.pt bl 99 [.slice (some ⟨gG, 0, none⟩) n1 n1, .slice (some ⟨gA, 0, none⟩) n1 cA, .bool more'] :: E.arr 4 1 (some ⟨gG, 0, none⟩) n1 n1 ((gs.set to' true).flatMap E.encB) :: E.arr 103 1 (some ⟨gA, 0, none⟩) n1 cA ((rows.map fun x => rowV R x.1).flatMap enc1) :: E.bag ((rows.set to' (g, meetR rows[to'].2 es)).map (rowL R)) :: E.arr 101 2 (some ⟨ge, 0, none⟩) R ce (es.flatMap encV) :: M)) :
    E.Hoa Try.prog 97 #[.pointer (some ⟨bl, 0, none⟩), .int .i64 to', .slice (some ⟨ge, 0, none⟩) R ce] ρ (E.pt bl 99 [.slice (some ⟨gG, 0, none⟩) n1 n1, .slice (some ⟨gA, 0, none⟩) n1 cA, .bool more] :: E.arr 4 1 (some ⟨gG, 0, none⟩) n1 n1 (gs.flatMap E.encB) :: E.arr 103 1 (some ⟨gA, 0, none⟩) n1 cA ((rows.map fun x => rowV R x.1).flatMap enc1) :: E.bag (rows.map (rowL R)) :: E.arr 101 2 (some ⟨ge, 0, none⟩) R ce (es.flatMap encV) :: M) K := by
  have htl : to' < rows.length := by omega
  have htg : to' < gs.length := by omega
  have hok : ((rows.map fun x => rowV R x.1).flatMap enc1)[to' * 1]? = some (rowV R rows[to'].1) := by
    rw [flat1, Nat.mul_one, List.getElem?_map, List.getElem?_eq_getElem htl]; rfl
  have hgb : (gs.flatMap E.encB)[to' * 1]? = some (.bool gs[to']) := by
    have := E.flatMap_at (enc := E.encB) (sz := 1) (fun _ => rfl) gs to' gs[to'] (List.getElem?_eq_getElem htg) 0 _ rfl
    simpa using this
  have hrk := hrl _ (List.getElem_mem htl)
  have hset := fun x M => E.bagSet (f := rowL R) htl x M
  have hat := fun M => E.bagAt (f := rowL R) htl M
  have hKK := fun more' => hK more' rows[to'].1 htl rfl
  have hgq : gs[to']? = some gs[to'] := List.getElem?_eq_getElem htg
  rw [hgq] at hKK
  generalize hrow : rows[to'] = row at *
  obtain ⟨gr, vs0⟩ := row
  simp only at hok hrk hKK hset
  refine E.Hoa.enter 89 Try.func97 rfl rfl rfl ?_
  refine E.Run.ent (M1 := rowL R (gr, vs0) :: E.pt bl 99 [.slice (some ⟨gG, 0, none⟩) n1 n1, .slice (some ⟨gA, 0, none⟩) n1 cA, .bool more] :: E.arr 4 1 (some ⟨gG, 0, none⟩) n1 n1 (gs.flatMap E.encB) :: E.arr 103 1 (some ⟨gA, 0, none⟩) n1 cA ((rows.map fun x => rowV R x.1).flatMap enc1) :: E.bag ((rows.eraseIdx to').map (rowL R)) :: E.arr 101 2 (some ⟨ge, 0, none⟩) R ce (es.flatMap encV) :: M) (E.Ent.of (E.SEnt.trans (E.SEnt.keep (E.SEnt.keep (E.SEnt.keep (hat _)))) (E.SEnt.take 3 rfl (E.SEnt.refl _)))) ?_
  show E.Run _ _ _ _ ρ (E.arr 101 2 (some ⟨gr, 0, none⟩) R R (vs0.flatMap encV) :: _) _
  refine E.Run.seqCut (fun L' ρ' M' => E.SubEnv [(0, .pointer (some ⟨bl, 0, none⟩)), (1, .int .i64 to'), (2, .slice (some ⟨ge, 0, none⟩) R ce)] L' ∧ E.Ent ρ' M' ρ (E.arr 101 2 (some ⟨gr, 0, none⟩) R R (vs0.flatMap encV) :: E.pt bl 99 [.slice (some ⟨gG, 0, none⟩) n1 n1, .slice (some ⟨gA, 0, none⟩) n1 cA, .bool (more || !gs[to'])] :: E.arr 4 1 (some ⟨gG, 0, none⟩) n1 n1 ((gs.set to' true).flatMap E.encB) :: E.arr 103 1 (some ⟨gA, 0, none⟩) n1 cA ((rows.map fun x => rowV R x.1).flatMap enc1) :: E.bag ((rows.eraseIdx to').map (rowL R)) :: E.arr 101 2 (some ⟨ge, 0, none⟩) R ce (es.flatMap encV) :: M)) ?_ ?_
  · (repeat refine E.Run.seq ?_)
    refine E.Run.region ?_
    refine E.Ops.q _ (E.q_move rfl rfl) rfl rfl ?_
    refine E.Ops.q _ (E.q_nilCheck rfl rfl) rfl rfl ?_
    first | refine E.Ops.q _ (E.q_fieldAddr' rfl rfl fo_99_0) rfl rfl ?_ | refine E.Ops.q _ (E.q_fieldAddr rfl rfl fo_99_0) rfl rfl ?_
    refine E.Ops.q _ (E.q_load rfl rfl (by first | refine E.LoadAt.own E.ixA sc_77 (by rfl) | exact E.LoadAt.ro sc_77 (by assumption) | exact E.LoadAt.arr E.ixA sc_77 (by assumption))) rfl rfl ?_
    refine E.Ops.q _ (E.q_move rfl rfl) rfl rfl ?_
    refine E.Ops.q _ (E.q_indexNat rfl rfl rfl so_77 hto) rfl rfl ?_
    refine E.Ops.q _ (E.q_load rfl rfl (by exact E.LoadAt.arr E.ixA sc_4 hgb)) rfl rfl ?_
    refine E.Ops.q _ (E.q_not rfl rfl) rfl rfl ?_
    refine E.Ops.nil ?_
    try simp only [E.tn, E.tx, E.tr, E.bn, E.br, E.bs]
    (repeat refine E.Run.seq ?_); refine E.Run.cond rfl (fun h0 => ?_) (fun h0 => ?_)
    · have hg0 : gs[to'] = false := by simpa using h0
      rw [hg0, Bool.not_false, Bool.or_true]
      (repeat refine E.Run.seq ?_)
      refine E.Run.region ?_
      refine E.Ops.q _ (E.q_move rfl rfl) rfl rfl ?_
      refine E.Ops.q _ (E.q_nilCheck rfl rfl) rfl rfl ?_
      first | refine E.Ops.q _ (E.q_fieldAddr' rfl rfl fo_99_0) rfl rfl ?_ | refine E.Ops.q _ (E.q_fieldAddr rfl rfl fo_99_0) rfl rfl ?_
      refine E.Ops.q _ (E.q_load rfl rfl (by first | refine E.LoadAt.own E.ixA sc_77 (by rfl) | exact E.LoadAt.ro sc_77 (by assumption) | exact E.LoadAt.arr E.ixA sc_77 (by assumption))) rfl rfl ?_
      refine E.Ops.q _ (E.q_move rfl rfl) rfl rfl ?_
      refine E.Ops.q _ (E.q_indexNat rfl rfl rfl so_77 hto) rfl rfl ?_
      refine E.Ops.loud rfl rfl ?_
      refine E.l_storeEl (enc := E.encB) true (fun _ => rfl) rfl rfl rfl E.ixA sz_4 hgs.symm hto rfl rfl ?_
      refine E.Ops.nil ?_
      try simp only [E.tn, E.tx, E.tr, E.bn, E.br, E.bs]
      (repeat refine E.Run.seq ?_)
      refine E.Run.region ?_
      refine E.Ops.q _ (E.q_move rfl rfl) rfl rfl ?_
      refine E.Ops.q _ (E.q_nilCheck rfl rfl) rfl rfl ?_
      first | refine E.Ops.q _ (E.q_fieldAddr' rfl rfl fo_99_2) rfl rfl ?_ | refine E.Ops.q _ (E.q_fieldAddr rfl rfl fo_99_2) rfl rfl ?_
      refine E.Ops.loud rfl rfl ?_
      refine E.l_store rfl rfl rfl E.ixA 1 sz_4 (by rfl) (by rfl) (by rfl) (by rfl) ?_
      refine E.Ops.nil ?_
      try simp only [E.tn, E.tx, E.tr, E.bn, E.br, E.bs]
      exact ⟨by ((repeat refine E.SubEnv.cons rfl ?_); exact E.SubEnv.nil _), by exact E.Ent.of E.entA⟩
    · have hg0 : gs[to'] = true := by simpa using h0
      have : gs.set to' true = gs := by rw [← hg0]; exact List.set_getElem_self htg
      rw [hg0, Bool.not_true, Bool.or_false, this]
      refine E.Run.skip ?_
      try simp only [E.tn, E.tx, E.tr, E.bn, E.br, E.bs]
      exact ⟨by ((repeat refine E.SubEnv.cons rfl ?_); exact E.SubEnv.nil _), by exact E.Ent.of E.entA⟩
  rintro L1 ρ1 M1 ⟨hs, he⟩
  refine E.Run.sub hs (E.Run.ent he ?_)
  clear hs he
  obtain ⟨m1, hm1⟩ : ∃ m1, m1 = (more || !gs[to']) := ⟨_, rfl⟩
  rw [← hm1]
  obtain ⟨gs1, hgs1⟩ : ∃ gs1, gs1 = gs.set to' true := ⟨_, rfl⟩
  rw [← hgs1]
  (repeat refine E.Run.seq ?_)
  refine E.Run.region ?_
  refine E.Ops.q _ (E.q_mv rfl rfl) rfl rfl ?_
  refine E.Ops.nil ?_
  try simp only [E.tn, E.tx, E.tr, E.bn, E.br, E.bs]
  refine E.Run.cut (fun L' ρ' M' => ∃ mx, (mx = false → m1 = false ∧ meetR vs0 es = vs0) ∧ (m1 = false → mx = true → meetR vs0 es ≠ vs0) ∧ E.SubEnv [] L' ∧ E.Ent ρ' M' ρ (E.arr 101 2 (some ⟨gr, 0, none⟩) R R ((meetR vs0 es).flatMap encV) :: E.pt bl 99 [.slice (some ⟨gG, 0, none⟩) n1 n1, .slice (some ⟨gA, 0, none⟩) n1 cA, .bool mx] :: E.arr 4 1 (some ⟨gG, 0, none⟩) n1 n1 (gs1.flatMap E.encB) :: E.arr 103 1 (some ⟨gA, 0, none⟩) n1 cA ((rows.map fun x => rowV R x.1).flatMap enc1) :: E.bag ((rows.eraseIdx to').map (rowL R)) :: E.arr 101 2 (some ⟨ge, 0, none⟩) R ce (es.flatMap encV) :: M)) ?_ ?_
  · (repeat refine E.Run.seq ?_); refine E.Run.block ?_
    (repeat refine E.Run.seq ?_); refine E.Run.loopS (fun (x : Nat × List Vl × Bool) => [(0, .pointer (some ⟨bl, 0, none⟩)), (1, .int .i64 to'), (2, .slice (some ⟨ge, 0, none⟩) R ce), (6, .int .i64 x.1)]) ρ (fun x => E.arr 101 2 (some ⟨gr, 0, none⟩) R R (x.2.1.flatMap encV) :: E.pt bl 99 [.slice (some ⟨gG, 0, none⟩) n1 n1, .slice (some ⟨gA, 0, none⟩) n1 cA, .bool x.2.2] :: E.arr 4 1 (some ⟨gG, 0, none⟩) n1 n1 (gs1.flatMap E.encB) :: E.arr 103 1 (some ⟨gA, 0, none⟩) n1 cA ((rows.map fun x => rowV R x.1).flatMap enc1) :: E.bag ((rows.eraseIdx to').map (rowL R)) :: E.arr 101 2 (some ⟨ge, 0, none⟩) R ce (es.flatMap encV) :: M)
      (fun x => x.1 ≤ R ∧ x.2.1.length = R ∧ (∀ j, j < R → x.2.1[j]? = if j < x.1 then (meetR vs0 es)[j]? else vs0[j]?) ∧ (x.2.2 = false → m1 = false ∧ ∀ j, j < x.1 → (meetR vs0 es)[j]? = vs0[j]?) ∧ (m1 = false → x.2.2 = true → ∃ j, j < x.1 ∧ (meetR vs0 es)[j]? ≠ vs0[j]?)) (fun x => R - x.1) (0, vs0, m1)
      ⟨Nat.zero_le _, hrk, (fun j _ => by simp), (fun h => ⟨h, fun j hj => by simp only at hj; omega⟩), (fun h h' => by simp only at h'; rw [h] at h'; cases h')⟩ (by ((repeat refine E.SubEnv.cons rfl ?_); exact E.SubEnv.nil _)) (by exact E.Ent.of E.entA) ?_
    rintro ⟨r, vs, mx⟩ ⟨hr, hvl, hvj, hmf, hmt⟩
    simp only at hr hvl hvj hmf hmt ⊢
    refine E.Run.seqCut (fun L' ρ' M' => r < R ∧ E.SubEnv [(0, .pointer (some ⟨bl, 0, none⟩)), (1, .int .i64 to'), (2, .slice (some ⟨ge, 0, none⟩) R ce), (6, .int .i64 r)] L' ∧ E.Ent ρ' M' ρ (E.arr 101 2 (some ⟨gr, 0, none⟩) R R (vs.flatMap encV) :: E.pt bl 99 [.slice (some ⟨gG, 0, none⟩) n1 n1, .slice (some ⟨gA, 0, none⟩) n1 cA, .bool mx] :: E.arr 4 1 (some ⟨gG, 0, none⟩) n1 n1 (gs1.flatMap E.encB) :: E.arr 103 1 (some ⟨gA, 0, none⟩) n1 cA ((rows.map fun x => rowV R x.1).flatMap enc1) :: E.bag ((rows.eraseIdx to').map (rowL R)) :: E.arr 101 2 (some ⟨ge, 0, none⟩) R ce (es.flatMap encV) :: M)) ?_ ?_
    · (repeat refine E.Run.seq ?_)
      refine E.Run.region ?_
      refine E.Ops.q _ (E.q_move rfl rfl) rfl rfl ?_
      refine E.Ops.q _ (E.q_move rfl rfl) rfl rfl ?_
      refine E.Ops.q _ (E.q_lenSlice rfl Try.underlying103) rfl rfl ?_
      refine E.Ops.q _ (E.q_lss rfl rfl rfl) rfl rfl ?_
      refine E.Ops.nil ?_
      try simp only [E.tn, E.tx, E.tr, E.bn, E.br, E.bs]
      (repeat refine E.Run.seq ?_); refine E.Run.condD rfl (fun h6 => ?_) (fun h6 => ?_)
      · refine E.Run.skip ?_
        try simp only [E.tn, E.tx, E.tr, E.bn, E.br, E.bs]
        exact ⟨by omega, by ((repeat refine E.SubEnv.cons rfl ?_); exact E.SubEnv.nil _), by exact E.Ent.of E.entA⟩
      · refine E.Run.exit ?_
        try simp only [E.tn, E.tx, E.tr, E.bn, E.br, E.bs]
        have : r = R := by omega
        subst this
        have hml : (meetR vs0 es).length = r := by unfold meetR; rw [List.length_zipWith]; omega
        have hvm : vs = meetR vs0 es := by
          apply List.ext_getElem?
          intro j
          by_cases hj : j < r
          · rw [hvj j hj, if_pos hj]
          · rw [List.getElem?_eq_none (by omega), List.getElem?_eq_none (by omega)]
        subst hvm
        refine ⟨mx, fun h => ⟨(hmf h).1, ?_⟩, fun h h' e => ?_, by ((repeat refine E.SubEnv.cons rfl ?_); exact E.SubEnv.nil _), by exact E.Ent.of E.entA⟩
        · apply List.ext_getElem?
          intro j
          by_cases hj : j < r
          · exact (hmf h).2 j hj
          · rw [List.getElem?_eq_none (by omega), List.getElem?_eq_none (by omega)]
        · obtain ⟨j, _, hne⟩ := hmt h h'
          rw [e] at hne
          exact hne rfl
    rintro L1 ρ1 M1 ⟨hr', hs, he⟩
    refine E.Run.sub hs (E.Run.ent he ?_)
    clear hs he
    have hvr : vs[r]? = some vs0[r] := by rw [hvj r hr', if_neg (by omega)]; exact List.getElem?_eq_getElem (by omega)
    have her : es[r]? = some es[r] := List.getElem?_eq_getElem (by omega)
    have hmr : (meetR vs0 es)[r]? = some (rmeet vs0[r] es[r]) := meetR_at (by omega) (by omega)
    have hv0 : vs0[r]? = some vs0[r] := List.getElem?_eq_getElem (by omega)
    generalize vs0[r] = w at *
    generalize es[r] = e at *
    refine E.Run.seqCut (fun L' ρ' M' => E.SubEnv [(0, .pointer (some ⟨bl, 0, none⟩)), (1, .int .i64 to'), (2, .slice (some ⟨ge, 0, none⟩) R ce), (6, .int .i64 r)] L' ∧ E.Ent ρ' M' ρ (E.arr 101 2 (some ⟨gr, 0, none⟩) R R ((vs.set r (rmeet w e)).flatMap encV) :: E.pt bl 99 [.slice (some ⟨gG, 0, none⟩) n1 n1, .slice (some ⟨gA, 0, none⟩) n1 cA, .bool (mx || decide (rmeet w e ≠ w))] :: E.arr 4 1 (some ⟨gG, 0, none⟩) n1 n1 (gs1.flatMap E.encB) :: E.arr 103 1 (some ⟨gA, 0, none⟩) n1 cA ((rows.map fun x => rowV R x.1).flatMap enc1) :: E.bag ((rows.eraseIdx to').map (rowL R)) :: E.arr 101 2 (some ⟨ge, 0, none⟩) R ce (es.flatMap encV) :: M)) ?_ ?_
    · (repeat refine E.Run.seq ?_); refine E.Run.block ?_
      refine E.Run.seqCut (fun L' ρ' M' => ∃ b7, E.SubEnv [(0, .pointer (some ⟨bl, 0, none⟩)), (1, .int .i64 to'), (2, .slice (some ⟨ge, 0, none⟩) R ce), (6, .int .i64 r), (7, .pointer (some ⟨b7, 0, none⟩))] L' ∧ E.Ent ρ' M' ρ (E.pt b7 101 (encV (rmeet w e)) :: E.arr 101 2 (some ⟨gr, 0, none⟩) R R (vs.flatMap encV) :: E.pt bl 99 [.slice (some ⟨gG, 0, none⟩) n1 n1, .slice (some ⟨gA, 0, none⟩) n1 cA, .bool mx] :: E.arr 4 1 (some ⟨gG, 0, none⟩) n1 n1 (gs1.flatMap E.encB) :: E.arr 103 1 (some ⟨gA, 0, none⟩) n1 cA ((rows.map fun x => rowV R x.1).flatMap enc1) :: E.bag ((rows.eraseIdx to').map (rowL R)) :: E.arr 101 2 (some ⟨ge, 0, none⟩) R ce (es.flatMap encV) :: M)) ?_ ?_
      · (repeat refine E.Run.seq ?_)
        refine E.Run.draw (.q 0 (.q 1 (.q 2 (.q 3 (.q 4 (.q 5 (.q 6 (.q 7 (.q 8 (.q 9 (.q 10 (.q 11 (.q 12 (.q 13 (.alt 14 15 (.l 15 (.l 16 (.nil))) (.l 14 (.l 16 (.nil)))))))))))))))))) _ _ Try.mixed (by kernel_rfl) (E.Ent.refl _ _) ?_
        refine E.Plan.q _ rfl _ (E.q_move rfl rfl) rfl rfl ?_
        refine E.Plan.q _ rfl _ (E.q_nilCheck rfl rfl) rfl rfl ?_
        first | refine E.Plan.q _ rfl _ (E.q_fieldAddr' rfl rfl fo_99_1) rfl rfl ?_ | refine E.Plan.q _ rfl _ (E.q_fieldAddr rfl rfl fo_99_1) rfl rfl ?_
        refine E.Plan.q _ rfl _ (E.q_load rfl rfl (by first | refine E.LoadAt.own E.ixA sc_97 (by rfl) | exact E.LoadAt.ro sc_97 (by assumption) | exact E.LoadAt.arr E.ixA sc_97 (by assumption))) rfl rfl ?_
        refine E.Plan.q _ rfl _ (E.q_move rfl rfl) rfl rfl ?_
        refine E.Plan.q _ rfl _ (E.q_indexNat rfl rfl rfl so_97 hto) rfl rfl ?_
        refine E.Plan.q _ rfl _ (E.q_load rfl rfl (by exact E.LoadAt.arr E.ixA sc_103 hok)) rfl rfl ?_
        refine E.Plan.q _ rfl _ (E.q_move rfl rfl) rfl rfl ?_
        refine E.Plan.q _ rfl _ (E.q_indexNat rfl rfl rfl so_103 hr') rfl rfl ?_
        refine E.Plan.q _ rfl _ (E.q_load (v := vlV w) rfl rfl (E.LoadAt.arrAgg E.ixA ag_101 (encV_at hvr) (encV_len _) (by decide))) rfl rfl ?_
        refine E.Plan.q _ rfl _ (E.q_move rfl rfl) rfl rfl ?_
        refine E.Plan.q _ rfl _ (E.q_move rfl rfl) rfl rfl ?_
        refine E.Plan.q _ rfl _ (E.q_indexNat rfl rfl rfl so_103 hr') rfl rfl ?_
        refine E.Plan.q _ rfl _ (E.q_load (v := vlV e) rfl rfl (E.LoadAt.arrAgg E.ixA ag_101 (encV_at her) (encV_len _) (by decide))) rfl rfl ?_
        refine E.Plan.alt ?S1_0 ?S1_1
        case' S1_1 =>
          refine E.StepA.loud _ rfl rfl rfl ?_
          refine E.l_alloc rfl ty_101 (fun b6_15 => ?_)
          refine ⟨E.Ent.of E.entA, ?_⟩
          refine E.Plan.loud _ rfl rfl rfl ?_
          refine E.l_call Try.func137 nm_137 nb_137 rfl ?_; refine rMeet w e ?_
          refine ⟨E.Ent.of E.entA, ?_⟩
          refine E.Plan.loud _ rfl rfl rfl ?_
          refine E.l_store rfl rfl rfl E.ixA 2 sz_101 (by rfl) (by rfl) (by rfl) (by rfl) ?_
          refine ⟨E.Ent.of E.entA, ?_⟩
          refine E.Plan.nil ?_
          try simp only [E.tn, E.tx, E.tr, E.bn, E.br, E.bs]
        case' S1_0 =>
          refine E.StepA.loud _ rfl rfl rfl ?_
          refine E.l_call Try.func137 nm_137 nb_137 rfl ?_; refine rMeet w e ?_
          refine ⟨E.Ent.of E.entA, ?_⟩
          refine E.Plan.loud _ rfl rfl rfl ?_
          refine E.l_alloc rfl ty_101 (fun b6_15 => ?_)
          refine ⟨E.Ent.of E.entA, ?_⟩
          refine E.Plan.loud _ rfl rfl rfl ?_
          refine E.l_store rfl rfl rfl E.ixA 2 sz_101 (by rfl) (by rfl) (by rfl) (by rfl) ?_
          refine ⟨E.Ent.of E.entA, ?_⟩
          refine E.Plan.nil ?_
          try simp only [E.tn, E.tx, E.tr, E.bn, E.br, E.bs]
        all_goals exact ⟨b6_15, by ((repeat refine E.SubEnv.cons rfl ?_); exact E.SubEnv.nil _), by exact E.Ent.of E.entA⟩
      rintro L1 ρ1 M1 ⟨b7, hs, he⟩
      refine E.Run.sub hs (E.Run.ent he ?_)
      clear hs he
      generalize hnv : rmeet w e = nv at *
      refine E.Run.seqCut (fun L' ρ' M' => E.SubEnv [(0, .pointer (some ⟨bl, 0, none⟩)), (1, .int .i64 to'), (2, .slice (some ⟨ge, 0, none⟩) R ce), (6, .int .i64 r), (7, .pointer (some ⟨b7, 0, none⟩)), (75, .bool (decide (¬ (nv.st = w.st ∧ nv.n = w.n))))] L' ∧ E.Ent ρ' M' ρ (E.pt b7 101 (encV nv) :: E.arr 101 2 (some ⟨gr, 0, none⟩) R R (vs.flatMap encV) :: E.pt bl 99 [.slice (some ⟨gG, 0, none⟩) n1 n1, .slice (some ⟨gA, 0, none⟩) n1 cA, .bool mx] :: E.arr 4 1 (some ⟨gG, 0, none⟩) n1 n1 (gs1.flatMap E.encB) :: E.arr 103 1 (some ⟨gA, 0, none⟩) n1 cA ((rows.map fun x => rowV R x.1).flatMap enc1) :: E.bag ((rows.eraseIdx to').map (rowL R)) :: E.arr 101 2 (some ⟨ge, 0, none⟩) R ce (es.flatMap encV) :: M)) ?_ ?_
      · (repeat refine E.Run.seq ?_)
        refine E.Run.draw (.ph [0, 1, 2, 3, 4, 5, 6, 7, 8, 9, 10, 11, 12, 13, 14, 15, 16, 17, 18, 19, 20, 21, 22, 23, 24, 25, 26, 27, 28, 29] (.nil)) _ _ Try.mixed (by kernel_rfl) (E.Ent.nil _ _) ?_
        refine E.Plan.ph (by exact E.Ent.of E.entA) ?_
        first | refine E.PlanQ.q _ rfl _ (E.q_fieldAddr' rfl rfl fo_101_0) rfl rfl ?_ | refine E.PlanQ.q _ rfl _ (E.q_fieldAddr rfl rfl fo_101_0) rfl rfl ?_
        refine E.PlanQ.q _ rfl _ (E.q_load rfl rfl (by first | refine E.LoadAt.own E.ixA sc_3 (by rfl) | exact E.LoadAt.ro sc_3 (by assumption) | exact E.LoadAt.arr E.ixA sc_3 (by assumption))) rfl rfl ?_
        refine E.PlanQ.q _ rfl _ (E.q_move rfl rfl) rfl rfl ?_
        refine E.PlanQ.q _ rfl _ (E.q_nilCheck rfl rfl) rfl rfl ?_
        first | refine E.PlanQ.q _ rfl _ (E.q_fieldAddr' rfl rfl fo_99_1) rfl rfl ?_ | refine E.PlanQ.q _ rfl _ (E.q_fieldAddr rfl rfl fo_99_1) rfl rfl ?_
        refine E.PlanQ.q _ rfl _ (E.q_load rfl rfl (by first | refine E.LoadAt.own E.ixA sc_97 (by rfl) | exact E.LoadAt.ro sc_97 (by assumption) | exact E.LoadAt.arr E.ixA sc_97 (by assumption))) rfl rfl ?_
        refine E.PlanQ.q _ rfl _ (E.q_move rfl rfl) rfl rfl ?_
        refine E.PlanQ.q _ rfl _ (E.q_indexNat rfl rfl rfl so_97 hto) rfl rfl ?_
        refine E.PlanQ.q _ rfl _ (E.q_load rfl rfl (by exact E.LoadAt.arr E.ixA sc_103 hok)) rfl rfl ?_
        refine E.PlanQ.q _ rfl _ (E.q_move rfl rfl) rfl rfl ?_
        refine E.PlanQ.q _ rfl _ (E.q_indexNat rfl rfl rfl so_103 hr') rfl rfl ?_
        first | refine E.PlanQ.q _ rfl _ (E.q_fieldAddr' rfl rfl fo_101_0) rfl rfl ?_ | refine E.PlanQ.q _ rfl _ (E.q_fieldAddr rfl rfl fo_101_0) rfl rfl ?_
        refine E.PlanQ.q _ rfl _ (E.q_load rfl rfl (by exact E.LoadAt.arr2 E.ixA sc_3 (encV_at hvr 0 _ rfl))) rfl rfl ?_
        refine E.PlanQ.part _ rfl (E.q_neq rfl rfl rfl) rfl rfl (fun h7_13 => ?T2) (fun h7_13 => ?F2)
        case' F2 =>
          refine E.PlanQ.q _ rfl _ (E.q_move rfl rfl) rfl rfl ?_
          first | refine E.PlanQ.q _ rfl _ (E.q_fieldAddr' rfl rfl fo_101_1) rfl rfl ?_ | refine E.PlanQ.q _ rfl _ (E.q_fieldAddr rfl rfl fo_101_1) rfl rfl ?_
          refine E.PlanQ.q _ rfl _ (E.q_load rfl rfl (by first | refine E.LoadAt.own E.ixA sc_3 (by rfl) | exact E.LoadAt.ro sc_3 (by assumption) | exact E.LoadAt.arr E.ixA sc_3 (by assumption))) rfl rfl ?_
          refine E.PlanQ.q _ rfl _ (E.q_move rfl rfl) rfl rfl ?_
          refine E.PlanQ.q _ rfl _ (E.q_nilCheck rfl rfl) rfl rfl ?_
          first | refine E.PlanQ.q _ rfl _ (E.q_fieldAddr' rfl rfl fo_99_1) rfl rfl ?_ | refine E.PlanQ.q _ rfl _ (E.q_fieldAddr rfl rfl fo_99_1) rfl rfl ?_
          refine E.PlanQ.q _ rfl _ (E.q_load rfl rfl (by first | refine E.LoadAt.own E.ixA sc_97 (by rfl) | exact E.LoadAt.ro sc_97 (by assumption) | exact E.LoadAt.arr E.ixA sc_97 (by assumption))) rfl rfl ?_
          refine E.PlanQ.q _ rfl _ (E.q_move rfl rfl) rfl rfl ?_
          refine E.PlanQ.q _ rfl _ (E.q_indexNat rfl rfl rfl so_97 hto) rfl rfl ?_
          refine E.PlanQ.q _ rfl _ (E.q_load rfl rfl (by exact E.LoadAt.arr E.ixA sc_103 hok)) rfl rfl ?_
          refine E.PlanQ.q _ rfl _ (E.q_move rfl rfl) rfl rfl ?_
          refine E.PlanQ.q _ rfl _ (E.q_indexNat rfl rfl rfl so_103 hr') rfl rfl ?_
          first | refine E.PlanQ.q _ rfl _ (E.q_fieldAddr' rfl rfl fo_101_1) rfl rfl ?_ | refine E.PlanQ.q _ rfl _ (E.q_fieldAddr rfl rfl fo_101_1) rfl rfl ?_
          refine E.PlanQ.q _ rfl _ (E.q_load rfl rfl (by exact E.LoadAt.arr2 E.ixA sc_3 (encV_at hvr 1 _ rfl))) rfl rfl ?_
          refine E.PlanQ.part _ rfl (E.q_neq rfl rfl rfl) rfl rfl (fun h7_28 => ?T3) (fun h7_28 => ?F3)
          case' F3 =>
            refine E.PlanQ.q _ rfl _ (E.q_pickF rfl rfl rfl) rfl rfl ?_
            refine E.PlanQ.nil ?_
            refine E.Plan.nil ?_
            try simp only [E.tn, E.tx, E.tr, E.bn, E.br, E.bs]
          case' T3 =>
            refine E.PlanQ.q _ rfl _ (E.q_pickF rfl rfl rfl) rfl rfl ?_
            refine E.PlanQ.nil ?_
            refine E.Plan.nil ?_
            try simp only [E.tn, E.tx, E.tr, E.bn, E.br, E.bs]
        case' T2 =>
          refine E.PlanQ.q _ rfl _ (E.q_move rfl rfl) rfl rfl ?_
          refine E.PlanQ.skip _ rfl rfl rfl ?_
          refine E.PlanQ.skip _ rfl rfl rfl ?_
          refine E.PlanQ.skip _ rfl rfl rfl ?_
          refine E.PlanQ.skip _ rfl rfl rfl ?_
          refine E.PlanQ.skip _ rfl rfl rfl ?_
          refine E.PlanQ.skip _ rfl rfl rfl ?_
          refine E.PlanQ.skip _ rfl rfl rfl ?_
          refine E.PlanQ.skip _ rfl rfl rfl ?_
          refine E.PlanQ.skip _ rfl rfl rfl ?_
          refine E.PlanQ.skip _ rfl rfl rfl ?_
          refine E.PlanQ.skip _ rfl rfl rfl ?_
          refine E.PlanQ.skip _ rfl rfl rfl ?_
          refine E.PlanQ.skip _ rfl rfl rfl ?_
          refine E.PlanQ.skip _ rfl rfl rfl ?_
          refine E.PlanQ.q _ rfl _ (E.q_pickT rfl rfl rfl) rfl rfl ?_
          refine E.PlanQ.nil ?_
          refine E.Plan.nil ?_
          try simp only [E.tn, E.tx, E.tr, E.bn, E.br, E.bs]
        all_goals first
          | exact ⟨by rw [decide_eq_true (by omega)]; ((repeat refine E.SubEnv.cons rfl ?_); exact E.SubEnv.nil _), by exact E.Ent.of E.entA⟩
          | exact ⟨by rw [decide_eq_false (by omega)]; ((repeat refine E.SubEnv.cons rfl ?_); exact E.SubEnv.nil _), by exact E.Ent.of E.entA⟩
      rintro L1 ρ1 M1 ⟨hs, he⟩
      refine E.Run.sub hs (E.Run.ent he ?_)
      clear hs he
      (repeat refine E.Run.seq ?_); refine E.Run.condD rfl (fun h7 => ?_) (fun h7 => ?_)
      · have hne : nv ≠ w := fun h => h7 (by rw [h]; exact ⟨rfl, rfl⟩)
        rw [decide_eq_true hne, Bool.or_true]
        (repeat refine E.Run.seq ?_)
        refine E.Run.draw (.ph [0, 1, 2, 3, 4, 5, 6, 7, 8, 9] (.l 10 (.nil))) _ _ Try.mixed (by kernel_rfl) (E.Ent.nil _ _) ?_
        refine E.Plan.ph (by exact E.Ent.of E.entA) ?_
        refine E.PlanQ.q _ rfl _ (E.q_move rfl rfl) rfl rfl ?_
        refine E.PlanQ.q _ rfl _ (E.q_nilCheck rfl rfl) rfl rfl ?_
        first | refine E.PlanQ.q _ rfl _ (E.q_fieldAddr' rfl rfl fo_99_1) rfl rfl ?_ | refine E.PlanQ.q _ rfl _ (E.q_fieldAddr rfl rfl fo_99_1) rfl rfl ?_
        refine E.PlanQ.q _ rfl _ (E.q_load rfl rfl (by first | refine E.LoadAt.own E.ixA sc_97 (by rfl) | exact E.LoadAt.ro sc_97 (by assumption) | exact E.LoadAt.arr E.ixA sc_97 (by assumption))) rfl rfl ?_
        refine E.PlanQ.q _ rfl _ (E.q_move rfl rfl) rfl rfl ?_
        refine E.PlanQ.q _ rfl _ (E.q_indexNat rfl rfl rfl so_97 hto) rfl rfl ?_
        refine E.PlanQ.q _ rfl _ (E.q_load rfl rfl (by exact E.LoadAt.arr E.ixA sc_103 hok)) rfl rfl ?_
        refine E.PlanQ.q _ rfl _ (E.q_move rfl rfl) rfl rfl ?_
        refine E.PlanQ.q _ rfl _ (E.q_load (v := vlV nv) rfl rfl (E.LoadAt.ownAgg E.ixA 2 ag_101 (by rfl) (by rfl))) rfl rfl ?_
        refine E.PlanQ.q _ rfl _ (E.q_indexNat rfl rfl rfl so_103 hr') rfl rfl ?_
        refine E.PlanQ.nil ?_
        refine E.Plan.loud _ rfl rfl rfl ?_
        refine E.l_storeEl (enc := encV) nv encV_len rfl rfl rfl E.ixA sz_101 hvl.symm hr' rfl rfl ?_
        refine ⟨E.Ent.of E.entA, ?_⟩
        refine E.Plan.nil ?_
        try simp only [E.tn, E.tx, E.tr, E.bn, E.br, E.bs]
        (repeat refine E.Run.seq ?_)
        refine E.Run.region ?_
        refine E.Ops.q _ (E.q_move rfl rfl) rfl rfl ?_
        refine E.Ops.q _ (E.q_nilCheck rfl rfl) rfl rfl ?_
        first | refine E.Ops.q _ (E.q_fieldAddr' rfl rfl fo_99_2) rfl rfl ?_ | refine E.Ops.q _ (E.q_fieldAddr rfl rfl fo_99_2) rfl rfl ?_
        refine E.Ops.loud rfl rfl ?_
        refine E.l_store rfl rfl rfl E.ixA 1 sz_4 (by rfl) (by rfl) (by rfl) (by rfl) ?_
        refine E.Ops.nil ?_
        try simp only [E.tn, E.tx, E.tr, E.bn, E.br, E.bs]
        exact ⟨by ((repeat refine E.SubEnv.cons rfl ?_); exact E.SubEnv.nil _), by exact E.Ent.of E.entA⟩
      · have heq : nv = w := by
          obtain ⟨a, b⟩ := nv
          obtain ⟨c, d⟩ := w
          simp only at h7
          have h7' := Classical.not_not.1 h7
          rw [h7'.1, h7'.2]
        have hst : vs.set r nv = vs := by
          rw [heq]
          obtain ⟨hlt, hg⟩ := List.getElem?_eq_some_iff.1 hvr
          rw [← hg]; exact List.set_getElem_self hlt
        rw [decide_eq_false (p := nv ≠ w) (fun h => h heq), Bool.or_false, hst]
        refine E.Run.skip ?_
        try simp only [E.tn, E.tx, E.tr, E.bn, E.br, E.bs]
        exact ⟨by ((repeat refine E.SubEnv.cons rfl ?_); exact E.SubEnv.nil _), by exact E.Ent.of E.entA⟩
    rintro L1 ρ1 M1 ⟨hs, he⟩
    refine E.Run.sub hs (E.Run.ent he ?_)
    clear hs he
    (repeat refine E.Run.seq ?_)
    refine E.Run.region ?_
    refine E.Ops.q _ (E.q_move rfl rfl) rfl rfl ?_
    first | refine E.Ops.q _ (E.q_incr rfl rfl (by omega)) rfl rfl ?_ | refine E.Ops.q _ (E.q_addFit rfl rfl rfl (by omega)) rfl rfl ?_ | refine E.Ops.q _ (E.q_add rfl rfl rfl) rfl rfl ?_
    refine E.Ops.q _ (E.q_mv rfl rfl) rfl rfl ?_
    refine E.Ops.nil ?_
    try simp only [E.tn, E.tx, E.tr, E.bn, E.br, E.bs]
    refine ⟨(r + 1, vs.set r (rmeet w e), mx || decide (rmeet w e ≠ w)), ⟨by simp only; omega, by simp only [List.length_set]; exact hvl, fun j hj => ?_, fun h => ?_, fun h h' => ?_⟩, by simp only; omega, by ((repeat refine E.SubEnv.cons rfl ?_); exact E.SubEnv.nil _), by exact E.Ent.of E.entA⟩
    · simp only
      by_cases hjr : j = r
      · subst hjr
        rw [List.getElem?_set_self (by omega), if_pos (by omega), hmr]
      · rw [List.getElem?_set_ne (fun h => hjr h.symm), hvj j hj]
        by_cases h1 : j < r
        · rw [if_pos h1, if_pos (by omega)]
        · rw [if_neg h1, if_neg (by omega)]
    · simp only [Bool.or_eq_false_iff, decide_eq_false_iff_not, Classical.not_not] at h
      obtain ⟨h1, h2⟩ := hmf h.1
      refine ⟨h1, fun j hj => ?_⟩
      simp only at hj
      by_cases hjr : j = r
      · subst hjr; rw [hmr, hv0, h.2]
      · exact h2 j (by omega)
    · simp only [Bool.or_eq_true, decide_eq_true_eq] at h'
      rcases h' with h' | h'
      · obtain ⟨j, h1, h2⟩ := hmt h h'
        exact ⟨j, by simp only; omega, h2⟩
      · exact ⟨r, by simp only; omega, by rw [hmr, hv0]; intro e'; exact h' (Option.some.inj e')⟩
  rintro L1 ρ1 M1 ⟨mx, h1, h2, hs, he⟩
  have hfin := hKK mx (fun h => by
    obtain ⟨h3, h4⟩ := h1 h
    rw [hm1, Bool.or_eq_false_iff, Bool.not_eq_false'] at h3
    exact ⟨h3.1, by rw [h3.2], h4⟩) (fun h h' ⟨h3, h4⟩ => h2 (by
      have h3' : gs[to'] = true := Option.some.inj h3
      rw [hm1, h, h3']; rfl) h' h4)
  rw [← hgs1] at hfin
  refine E.fnQ_of hs he ⟨_, _, _, E.ResOk.none rfl, E.Ent.of (E.SEnt.trans (E.SEnt.take 1 rfl (E.SEnt.take 1 rfl (E.SEnt.take 1 rfl (E.SEnt.refl _)))) (E.SEnt.keep (E.SEnt.keep (E.SEnt.keep (hset (gr, meetR vs0 es) _))))), hfin⟩
end Go.Proofs.Ythpgjbdacknkgaa
