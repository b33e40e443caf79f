/- sluiceref6.Put, walked. No statement of the seat in it. -/
import Derived.Test.YthpgjbdacknkgaaQ7
set_option linter.unusedVariables false
set_option linter.unusedSimpArgs false
namespace Go.Proofs.Ythpgjbdacknkgaa
open Go
private theorem ag_44 : E.isAggOf Try.prog 44 4 = true := by kernel_rfl
private theorem fo_44_0 : E.fieldOff Try.prog 44 0 = some 0 := by kernel_rfl
private theorem fo_44_1 : E.fieldOff Try.prog 44 1 = some 1 := by kernel_rfl
private theorem fo_44_2 : E.fieldOff Try.prog 44 2 = some 2 := by kernel_rfl
private theorem sc_3 : E.isScal Try.prog 3 = true := by kernel_rfl
private theorem sc_45 : E.isScal Try.prog 45 = true := by kernel_rfl
private theorem so_22 : E.sliceOf Try.prog 22 = some (45, 1) := by kernel_rfl
private theorem so_23 : E.sliceOf Try.prog 23 = some (3, 1) := by kernel_rfl
private theorem so_45 : E.sliceOf Try.prog 45 = some (44, 4) := by kernel_rfl
private theorem sz_3 : (Try.prog.info? 3).map (·.size) = some 1 := by kernel_rfl
private theorem sz_44 : (Try.prog.info? 44).map (·.size) = some 4 := by kernel_rfl
private theorem ty_3 : E.tyOf Try.prog 3 = some (some (.int .i64 0), 1, 8) := by kernel_rfl
private theorem ty_44 : E.tyOf Try.prog 44 = some (some (.agg #[.int .i64 0, .int .i64 0, .int .i64 0, .int .i64 0]), 4, 32) := by kernel_rfl

set_option maxRecDepth 100000 in
theorem rPut {ρ : E.Ro} {M : List E.Asr} {K : Value → E.Ro → List E.Asr → Prop} (bA cA : Option Addr) (bc cc : Nat) (code : List E.Ins) (bec : List (List E.Ins)) (g : Nat → E.Ins → List E.Ins) (hbec : RdCode ρ.blk bA bec) (hbl : bec.length = code.length)
    (hbg : ∀ k (h : k < bec.length) (h' : k < code.length), bec[k] = g k code[k]) (hcode : E.RdF ρ.blk E.encIns 4 cA code) (hsz : code.length ≤ 400) (hg : GoodG code g) (hlk : ∀ k (h : k < code.length), ∀ o ∈ g k code[k], o.op = 15 → code[k].op ≠ 17)
    (hK : ∀ A c n, n = (movedS code g).length → K (.slice A n c) ρ (E.arr 44 4 A n c ((movedS code g).flatMap E.encIns) :: M)) :
    E.Hoa Try.prog 57 #[.slice bA bec.length bc, .slice cA code.length cc] ρ M K := by
  refine E.Hoa.enter 123 Try.func57 rfl rfl rfl ?_
  (repeat refine E.Run.seq ?_)
  refine E.Run.region ?_
  refine E.Ops.q _ (E.q_mv rfl rfl) rfl rfl ?_
  refine E.Ops.nil ?_
  try simp only [E.tn, E.tx, E.tr, E.bn, E.br, E.bs]
  (repeat refine E.Run.seq ?_)
  refine E.Run.region ?_
  refine E.Ops.q _ (E.q_move rfl rfl) rfl rfl ?_
  refine E.Ops.q _ (E.q_lenSlice rfl Try.underlying45) rfl rfl ?_
  first | refine E.Ops.q _ (E.q_incr rfl rfl (by omega)) rfl rfl ?_ | refine E.Ops.q _ (E.q_addFit rfl rfl rfl (by omega)) rfl rfl ?_ | refine E.Ops.q _ (E.q_add rfl rfl rfl) rfl rfl ?_
  refine E.Ops.loud rfl rfl ?_
  refine E.l_make rfl rfl rfl Try.underlying23 ty_3 rfl (by omega) (by omega) (fun g1_3 => ?_)
  refine E.Ops.q _ (E.q_mv rfl rfl) rfl rfl ?_
  refine E.Ops.nil ?_
  try simp only [E.tn, E.tx, E.tr, E.bn, E.br, E.bs]
  (repeat refine E.Run.seq ?_)
  refine E.Run.region ?_
  refine E.Ops.q _ (E.q_mv rfl rfl) rfl rfl ?_
  refine E.Ops.nil ?_
  try simp only [E.tn, E.tx, E.tr, E.bn, E.br, E.bs]
  refine E.Run.seqCut (fun L' ρ' M' => ∃ P : List Int, P.length = code.length + 1 ∧ (∀ j, j < code.length → P[j]? = some (placeN code g j)) ∧ E.SubEnv [(0, .slice bA bec.length bc), (1, .slice cA code.length cc), (5, .slice (some ⟨g1_3, 0, none⟩) (code.length + 1) (code.length + 1)), (6, .int .i64 (placeN code g code.length))] L' ∧ E.Ent ρ' M' ρ (E.arr 3 1 (some ⟨g1_3, 0, none⟩) (code.length + 1) (code.length + 1) (P.flatMap E.encI) :: M)) ?_ ?_
  · (repeat refine E.Run.seq ?_)
    refine E.Run.region ?_
    refine E.Ops.q _ (E.q_mv rfl rfl) rfl rfl ?_
    refine E.Ops.nil ?_
    try simp only [E.tn, E.tx, E.tr, E.bn, E.br, E.bs]
    (repeat refine E.Run.seq ?_); refine E.Run.block ?_
    (repeat refine E.Run.seq ?_); refine E.Run.loopS (fun (x : Nat × List Int) => [(0, .slice bA bec.length bc), (1, .slice cA code.length cc), (5, .slice (some ⟨g1_3, 0, none⟩) (code.length + 1) (code.length + 1)), (6, .int .i64 (placeN code g x.1)), (7, .int .i64 x.1)]) ρ (fun x => E.arr 3 1 (some ⟨g1_3, 0, none⟩) (code.length + 1) (code.length + 1) (x.2.flatMap E.encI) :: M)
      (fun x => x.1 ≤ code.length ∧ x.2.length = code.length + 1 ∧ ∀ j, j < x.1 → x.2[j]? = some (placeN code g j)) (fun x => code.length - x.1) (0, List.replicate (code.length + 1) 0) ⟨Nat.zero_le _, by simp, by intro j hj; simp at hj⟩ (by ((repeat refine E.SubEnv.cons rfl ?_); exact E.SubEnv.nil _)) (by
        show E.Ent ρ (E.arr 3 1 (some ⟨g1_3, 0, none⟩) (code.length + 1) (code.length + 1) ((List.replicate (code.length + 1) [Value.int .i64 0]).flatten) :: M) ρ _
        rw [show (List.replicate (code.length + 1) [Value.int .i64 0]).flatten = (List.replicate (code.length + 1) (0 : Int)).flatMap E.encI from by
          generalize code.length + 1 = q
          induction q with
          | zero => rfl
          | succ q ih => rw [List.replicate_succ, List.replicate_succ, List.flatMap_cons, List.flatten_cons, ih]; rfl]
        exact E.Ent.of E.entA) ?_
    rintro ⟨i, P⟩ ⟨hi, hP, hPi⟩
    simp only at hi hP hPi ⊢
    refine E.Run.seqCut (fun L' ρ' M' => i < code.length ∧ E.SubEnv [(0, .slice bA bec.length bc), (1, .slice cA code.length cc), (5, .slice (some ⟨g1_3, 0, none⟩) (code.length + 1) (code.length + 1)), (6, .int .i64 (placeN code g i)), (7, .int .i64 i)] L' ∧ E.Ent ρ' M' ρ (E.arr 3 1 (some ⟨g1_3, 0, none⟩) (code.length + 1) (code.length + 1) (P.flatMap E.encI) :: M)) ?_ ?_
    · (repeat refine E.Run.seq ?_)
      refine E.Run.region ?_
      refine E.Ops.q _ (E.q_move rfl rfl) rfl rfl ?_
      refine E.Ops.q _ (E.q_move rfl rfl) rfl rfl ?_
      refine E.Ops.q _ (E.q_lenSlice rfl Try.underlying45) rfl rfl ?_
      refine E.Ops.q _ (E.q_lss rfl rfl rfl) rfl rfl ?_
      refine E.Ops.nil ?_
      try simp only [E.tn, E.tx, E.tr, E.bn, E.br, E.bs]
      (repeat refine E.Run.seq ?_); refine E.Run.condD rfl (fun h6 => ?_) (fun h6 => ?_)
      · refine E.Run.skip ?_
        try simp only [E.tn, E.tx, E.tr, E.bn, E.br, E.bs]
        exact ⟨by omega, by ((repeat refine E.SubEnv.cons rfl ?_); exact E.SubEnv.nil _), by exact E.Ent.of E.entA⟩
      · refine E.Run.exit ?_
        try simp only [E.tn, E.tx, E.tr, E.bn, E.br, E.bs]
        have : i = code.length := by omega
        subst this
        exact ⟨P, hP, hPi, by ((repeat refine E.SubEnv.cons rfl ?_); exact E.SubEnv.nil _), by exact E.Ent.of E.entA⟩
    rintro L1 ρ1 M1 ⟨hi', hs, he⟩
    refine E.Run.sub hs (E.Run.ent he ?_)
    clear hs he
    have hib : i < bec.length := by omega
    obtain ⟨adb, rfl, A1, c1, hcell, hrd1⟩ := hbec.thread hib
    have hbi := hbg i hib hi'
    have hsm := hg.small i hi'
    have hpl := placeN_succ (g := g) hi'
    have hpb : placeN code g i ≤ 2 * i := by
      have := outN_len hg i (by omega)
      unfold placeN; omega
    have hpn := placeN_nonneg (code := code) (g := g) i
    have hlb : bec[i].length = (g i code[i]).length := by rw [hbi]
    (repeat refine E.Run.seq ?_); refine E.Run.block ?_
    (repeat refine E.Run.seq ?_)
    refine E.Run.region ?_
    refine E.Ops.q _ (E.q_move rfl rfl) rfl rfl ?_
    refine E.Ops.q _ (E.q_move rfl rfl) rfl rfl ?_
    refine E.Ops.q _ (E.q_move rfl rfl) rfl rfl ?_
    refine E.Ops.q _ (E.q_indexNat rfl rfl rfl so_23 (show i < code.length + 1 by omega)) rfl rfl ?_
    refine E.Ops.loud rfl rfl ?_
    refine E.l_storeEl (enc := E.encI) (placeN code g i) (fun _ => rfl) rfl rfl rfl E.ixA sz_3 hP.symm (by omega) rfl (by rfl) ?_
    refine E.Ops.nil ?_
    try simp only [E.tn, E.tx, E.tr, E.bn, E.br, E.bs]
    (repeat refine E.Run.seq ?_)
    refine E.Run.region ?_
    refine E.Ops.q _ (E.q_move rfl rfl) rfl rfl ?_
    refine E.Ops.q _ (E.q_move rfl rfl) rfl rfl ?_
    refine E.Ops.q _ (E.q_move rfl rfl) rfl rfl ?_
    first | refine E.Ops.q _ (E.q_indexNat rfl rfl rfl so_22 (by first | assumption | omega)) rfl rfl ?_ | refine E.Ops.q _ (E.q_indexAddr rfl rfl rfl so_22 (by omega) (by omega)) rfl rfl ?_
    refine E.Ops.q _ (E.q_load rfl rfl (by exact E.LoadAt.ro sc_45 hcell)) rfl rfl ?_
    refine E.Ops.q _ (E.q_lenSlice rfl Try.underlying45) rfl rfl ?_
    first | refine E.Ops.q _ (E.q_incr rfl rfl (by omega)) rfl rfl ?_ | refine E.Ops.q _ (E.q_addFit rfl rfl rfl (by omega)) rfl rfl ?_ | refine E.Ops.q _ (E.q_add rfl rfl rfl) rfl rfl ?_
    refine E.Ops.q _ (E.q_mv rfl rfl) rfl rfl ?_
    refine E.Ops.nil ?_
    try simp only [E.tn, E.tx, E.tr, E.bn, E.br, E.bs]
    (repeat refine E.Run.seq ?_)
    refine E.Run.region ?_
    refine E.Ops.q _ (E.q_move rfl rfl) rfl rfl ?_
    first | refine E.Ops.q _ (E.q_incr rfl rfl (by omega)) rfl rfl ?_ | refine E.Ops.q _ (E.q_addFit rfl rfl rfl (by omega)) rfl rfl ?_ | refine E.Ops.q _ (E.q_add rfl rfl rfl) rfl rfl ?_
    refine E.Ops.q _ (E.q_mv rfl rfl) rfl rfl ?_
    refine E.Ops.nil ?_
    try simp only [E.tn, E.tx, E.tr, E.bn, E.br, E.bs]
    refine ⟨(i + 1, P.set i (placeN code g i)), ⟨by simp only; omega, by simp only [List.length_set]; exact hP, fun j hj => ?_⟩, by simp only; omega, by
      rw [show placeN code g (i + 1) = placeN code g i + (bec[i].length : Int) from by rw [hpl, hlb]]
      ((repeat refine E.SubEnv.cons rfl ?_); exact E.SubEnv.nil _), by exact E.Ent.of E.entA⟩
    simp only at hj ⊢
    by_cases e : j = i
    · subst e; rw [List.getElem?_set_self (by omega)]
    · rw [List.getElem?_set_ne (fun h => e h.symm)]; exact hPi j (by omega)
  rintro L1 ρ1 M1 ⟨P, hP, hPi, hs, he⟩
  refine E.Run.sub hs (E.Run.ent he ?_)
  clear hs he
  (repeat refine E.Run.seq ?_)
  refine E.Run.region ?_
  refine E.Ops.q _ (E.q_move rfl rfl) rfl rfl ?_
  refine E.Ops.q _ (E.q_move rfl rfl) rfl rfl ?_
  refine E.Ops.q _ (E.q_lenSlice rfl Try.underlying45) rfl rfl ?_
  refine E.Ops.q _ (E.q_move rfl rfl) rfl rfl ?_
  refine E.Ops.q _ (E.q_indexNat rfl rfl rfl so_23 (show code.length < code.length + 1 by omega)) rfl rfl ?_
  refine E.Ops.loud rfl rfl ?_
  refine E.l_storeEl (enc := E.encI) (placeN code g code.length) (fun _ => rfl) rfl rfl rfl E.ixA sz_3 hP.symm (by omega) rfl (by rfl) ?_
  refine E.Ops.nil ?_
  try simp only [E.tn, E.tx, E.tr, E.bn, E.br, E.bs]
  have hPl : (P.set code.length (placeN code g code.length)).length = code.length + 1 := by rw [List.length_set]; exact hP
  have hPa : ∀ q : Nat, q ≤ code.length → ((P.set code.length (placeN code g code.length)).flatMap E.encI)[q * 1]? = some (.int .i64 (placeN code g q)) := fun q hq => by
    have h1 : (P.set code.length (placeN code g code.length))[q]? = some (placeN code g q) := by
      by_cases e : q = code.length
      · subst e; rw [List.getElem?_set_self (by omega)]
      · rw [List.getElem?_set_ne (fun h => e h.symm)]; exact hPi q (by omega)
    have := E.flatMap_at (enc := E.encI) (sz := 1) (fun _ => rfl) _ q _ h1 0 _ rfl
    simpa using this
  generalize P.set code.length (placeN code g code.length) = P1 at *
  clear hP hPi
  (repeat refine E.Run.seq ?_)
  refine E.Run.region ?_
  refine E.Ops.q _ (E.q_mv rfl rfl) rfl rfl ?_
  refine E.Ops.nil ?_
  try simp only [E.tn, E.tx, E.tr, E.bn, E.br, E.bs]
  refine E.Run.seqCut (fun L' ρ' M' => ∃ AO CO, E.SubEnv [(8, .slice AO (movedS code g).length CO)] L' ∧ E.Ent ρ' M' ρ (E.arr 44 4 AO (movedS code g).length CO ((movedS code g).flatMap E.encIns) :: M)) ?_ ?_
  · (repeat refine E.Run.seq ?_)
    refine E.Run.region ?_
    refine E.Ops.q _ (E.q_mv rfl rfl) rfl rfl ?_
    refine E.Ops.nil ?_
    try simp only [E.tn, E.tx, E.tr, E.bn, E.br, E.bs]
    (repeat refine E.Run.seq ?_); refine E.Run.block ?_
    (repeat refine E.Run.seq ?_); refine E.Run.loopS (fun (x : Nat × Option Addr × Nat) => [(0, .slice bA bec.length bc), (1, .slice cA code.length cc), (5, .slice (some ⟨g1_3, 0, none⟩) (code.length + 1) (code.length + 1)), (8, .slice x.2.1 (outN code g x.1).length x.2.2), (9, .int .i64 x.1)]) ρ (fun x => E.arr 44 4 x.2.1 (outN code g x.1).length x.2.2 (((outN code g x.1).map (fixN code g)).flatMap E.encIns) :: E.arr 3 1 (some ⟨g1_3, 0, none⟩) (code.length + 1) (code.length + 1) (P1.flatMap E.encI) :: M)
      (fun x => x.1 ≤ code.length) (fun x => code.length - x.1) (0, none, 0) (Nat.zero_le _) (by ((repeat refine E.SubEnv.cons rfl ?_); exact E.SubEnv.nil _)) (E.Ent.of (E.SEnt.addNil E.entA)) ?_
    rintro ⟨i, AO, CO⟩ hi
    simp only at hi ⊢
    refine E.Run.seqCut (fun L' ρ' M' => i < code.length ∧ E.SubEnv [(0, .slice bA bec.length bc), (1, .slice cA code.length cc), (5, .slice (some ⟨g1_3, 0, none⟩) (code.length + 1) (code.length + 1)), (8, .slice AO (outN code g i).length CO), (9, .int .i64 i)] L' ∧ E.Ent ρ' M' ρ (E.arr 44 4 AO (outN code g i).length CO (((outN code g i).map (fixN code g)).flatMap E.encIns) :: E.arr 3 1 (some ⟨g1_3, 0, none⟩) (code.length + 1) (code.length + 1) (P1.flatMap E.encI) :: M)) ?_ ?_
    · (repeat refine E.Run.seq ?_)
      refine E.Run.region ?_
      refine E.Ops.q _ (E.q_move rfl rfl) rfl rfl ?_
      refine E.Ops.q _ (E.q_move rfl rfl) rfl rfl ?_
      refine E.Ops.q _ (E.q_lenSlice rfl Try.underlying45) rfl rfl ?_
      refine E.Ops.q _ (E.q_lss rfl rfl rfl) rfl rfl ?_
      refine E.Ops.nil ?_
      try simp only [E.tn, E.tx, E.tr, E.bn, E.br, E.bs]
      (repeat refine E.Run.seq ?_); refine E.Run.condD rfl (fun h6 => ?_) (fun h6 => ?_)
      · refine E.Run.skip ?_
        try simp only [E.tn, E.tx, E.tr, E.bn, E.br, E.bs]
        exact ⟨by omega, by ((repeat refine E.SubEnv.cons rfl ?_); exact E.SubEnv.nil _), by exact E.Ent.of E.entA⟩
      · refine E.Run.exit ?_
        try simp only [E.tn, E.tx, E.tr, E.bn, E.br, E.bs]
        have : i = code.length := by omega
        subst this
        have hml : (movedS code g).length = (outN code g code.length).length := by unfold movedS; rw [List.length_map]
        refine ⟨AO, CO, by rw [hml]; ((repeat refine E.SubEnv.cons rfl ?_); exact E.SubEnv.nil _), ?_⟩
        rw [hml]
        unfold movedS
        exact E.Ent.of E.entA
    rintro L1 ρ1 M1 ⟨hi', hs, he⟩
    refine E.Run.sub hs (E.Run.ent he ?_)
    clear hs he
    have hib : i < bec.length := by omega
    obtain ⟨adb, rfl, A1, c1, hcell, hrd1⟩ := hbec.thread hib
    obtain ⟨ad, rfl, _, hc⟩ := E.RdF.at hcode hi'
    have hbi := hbg i hib hi'
    have hsm := hg.small i hi'
    have hgj := hg.jump i hi'
    have hgz := hg.zero i hi'
    have hll := hlk i hi'
    have hsucc := outN_succ code g hi'
    have hon := outN_len hg i (by omega)
    rw [hbi] at hcell hrd1
    have hfx : ∀ o, fixN code g (i, o) = if o.op = 14 ∧ (code[i].op = 14 ∨ code[i].op = 15) then { o with a := placeN code g o.a.toNat } else if o.op = 15 ∧ code[i].op = 15 then { o with b := placeN code g o.b.toNat } else o := fun o => by
      unfold fixN
      have hwas : (code[i]?.map (·.op)).getD 0 = code[i].op := by rw [List.getElem?_eq_getElem hi']; rfl
      simp only [hwas]
    generalize hci : code[i] = ci at *
    generalize hgl : g i ci = gl at *
    refine E.Run.seqCut (fun L' ρ' M' => ∃ AO CO, E.SubEnv [(0, .slice (some adb) bec.length bc), (1, .slice (some ad) code.length cc), (5, .slice (some ⟨g1_3, 0, none⟩) (code.length + 1) (code.length + 1)), (8, .slice AO (outN code g (i + 1)).length CO), (9, .int .i64 i)] L' ∧ E.Ent ρ' M' ρ (E.arr 44 4 AO (outN code g (i + 1)).length CO (((outN code g (i + 1)).map (fixN code g)).flatMap E.encIns) :: E.arr 3 1 (some ⟨g1_3, 0, none⟩) (code.length + 1) (code.length + 1) (P1.flatMap E.encI) :: M)) ?_ ?_
    · (repeat refine E.Run.seq ?_); refine E.Run.block ?_
      (repeat refine E.Run.seq ?_)
      refine E.Run.region ?_
      refine E.Ops.q _ (E.q_mv rfl rfl) rfl rfl ?_
      refine E.Ops.nil ?_
      try simp only [E.tn, E.tx, E.tr, E.bn, E.br, E.bs]
      (repeat refine E.Run.seq ?_); refine E.Run.block ?_
      (repeat refine E.Run.seq ?_); refine E.Run.loopS (fun (x : Nat × Option Addr × Nat) => [(0, .slice (some adb) bec.length bc), (1, .slice (some ad) code.length cc), (5, .slice (some ⟨g1_3, 0, none⟩) (code.length + 1) (code.length + 1)), (8, .slice x.2.1 ((outN code g i).length + x.1) x.2.2), (9, .int .i64 i), (10, .int .i64 x.1)]) ρ (fun x => E.arr 44 4 x.2.1 ((outN code g i).length + x.1) x.2.2 (((outN code g i).map (fixN code g) ++ (gl.take x.1).map fun o => fixN code g (i, o)).flatMap E.encIns) :: E.arr 3 1 (some ⟨g1_3, 0, none⟩) (code.length + 1) (code.length + 1) (P1.flatMap E.encI) :: M)
        (fun x => x.1 ≤ gl.length) (fun x => gl.length - x.1) (0, AO, CO) (Nat.zero_le _) (by ((repeat refine E.SubEnv.cons rfl ?_); exact E.SubEnv.nil _)) (by
          simp only [List.take_zero, List.map_nil, List.append_nil, Nat.add_zero]
          exact E.Ent.of E.entA) ?_
      rintro ⟨k, AO1, CO1⟩ hk
      simp only at hk ⊢
      refine E.Run.seqCut (fun L' ρ' M' => k < gl.length ∧ E.SubEnv [(0, .slice (some adb) bec.length bc), (1, .slice (some ad) code.length cc), (5, .slice (some ⟨g1_3, 0, none⟩) (code.length + 1) (code.length + 1)), (8, .slice AO1 ((outN code g i).length + k) CO1), (9, .int .i64 i), (10, .int .i64 k)] L' ∧ E.Ent ρ' M' ρ (E.arr 44 4 AO1 ((outN code g i).length + k) CO1 (((outN code g i).map (fixN code g) ++ (gl.take k).map fun o => fixN code g (i, o)).flatMap E.encIns) :: E.arr 3 1 (some ⟨g1_3, 0, none⟩) (code.length + 1) (code.length + 1) (P1.flatMap E.encI) :: M)) ?_ ?_
      · (repeat refine E.Run.seq ?_)
        refine E.Run.region ?_
        refine E.Ops.q _ (E.q_move rfl rfl) rfl rfl ?_
        refine E.Ops.q _ (E.q_move rfl rfl) rfl rfl ?_
        refine E.Ops.q _ (E.q_move rfl rfl) rfl rfl ?_
        first | refine E.Ops.q _ (E.q_indexNat rfl rfl rfl so_22 (by first | assumption | omega)) rfl rfl ?_ | refine E.Ops.q _ (E.q_indexAddr rfl rfl rfl so_22 (by omega) (by omega)) rfl rfl ?_
        refine E.Ops.q _ (E.q_load rfl rfl (by exact E.LoadAt.ro sc_45 hcell)) rfl rfl ?_
        refine E.Ops.q _ (E.q_lenSlice rfl Try.underlying45) rfl rfl ?_
        refine E.Ops.q _ (E.q_lss rfl rfl rfl) rfl rfl ?_
        refine E.Ops.nil ?_
        try simp only [E.tn, E.tx, E.tr, E.bn, E.br, E.bs]
        (repeat refine E.Run.seq ?_); refine E.Run.condD rfl (fun h6 => ?_) (fun h6 => ?_)
        · refine E.Run.skip ?_
          try simp only [E.tn, E.tx, E.tr, E.bn, E.br, E.bs]
          exact ⟨by omega, by ((repeat refine E.SubEnv.cons rfl ?_); exact E.SubEnv.nil _), by exact E.Ent.of E.entA⟩
        · refine E.Run.exit ?_
          try simp only [E.tn, E.tx, E.tr, E.bn, E.br, E.bs]
          have : k = gl.length := by omega
          subst this
          refine ⟨AO1, CO1, by rw [hsucc, List.length_append, List.length_map]; ((repeat refine E.SubEnv.cons rfl ?_); exact E.SubEnv.nil _), ?_⟩
          rw [hsucc, List.length_append, List.length_map, List.map_append, List.map_map, List.take_length]
          exact E.Ent.of E.entA
      rintro L1 ρ1 M1 ⟨hk', hs, he⟩
      refine E.Run.sub hs (E.Run.ent he ?_)
      clear hs he
      obtain ⟨ado, rfl, _, hco⟩ := hrd1.at hk'
      have htk : (gl.take (k + 1)).map (fun o => fixN code g (i, o)) = (gl.take k).map (fun o => fixN code g (i, o)) ++ [fixN code g (i, gl[k])] := by
        rw [List.take_succ_eq_append_getElem hk', List.map_append]; rfl
      have hgj := hgj _ (List.getElem_mem hk')
      have hgz := hgz _ (List.getElem_mem hk')
      have hll := hll _ (List.getElem_mem hk')
      generalize gl[k] = o at *
      have hc0 : E.cellOf ρ.blk ((ad.add (i * 4)).add 0) = some (.int .i64 ci.op) := hc 0 _ rfl
      have hfx := hfx o
      refine E.Run.seqCut (fun L' ρ' M' => ∃ A2 C2, E.SubEnv [(0, .slice (some adb) bec.length bc), (1, .slice (some ad) code.length cc), (5, .slice (some ⟨g1_3, 0, none⟩) (code.length + 1) (code.length + 1)), (8, .slice A2 ((outN code g i).length + k + 1) C2), (9, .int .i64 i), (10, .int .i64 k)] L' ∧ E.Ent ρ' M' ρ (E.arr 44 4 A2 ((outN code g i).length + k + 1) C2 (((outN code g i).map (fixN code g) ++ (gl.take (k + 1)).map fun o => fixN code g (i, o)).flatMap E.encIns) :: E.arr 3 1 (some ⟨g1_3, 0, none⟩) (code.length + 1) (code.length + 1) (P1.flatMap E.encI) :: M)) ?_ ?_
      · (repeat refine E.Run.seq ?_); refine E.Run.block ?_
        (repeat refine E.Run.seq ?_)
        refine E.Run.region ?_
        refine E.Ops.q _ (E.q_move rfl rfl) rfl rfl ?_
        refine E.Ops.q _ (E.q_move rfl rfl) rfl rfl ?_
        first | refine E.Ops.q _ (E.q_indexNat rfl rfl rfl so_22 (by first | assumption | omega)) rfl rfl ?_ | refine E.Ops.q _ (E.q_indexAddr rfl rfl rfl so_22 (by omega) (by omega)) rfl rfl ?_
        refine E.Ops.q _ (E.q_load rfl rfl (by exact E.LoadAt.ro sc_45 hcell)) rfl rfl ?_
        refine E.Ops.q _ (E.q_move rfl rfl) rfl rfl ?_
        refine E.Ops.q _ (E.q_indexNat rfl rfl rfl so_45 hk') rfl rfl ?_
        refine E.Ops.q _ (E.q_load rfl rfl (by exact E.LoadAt.roAgg ag_44 hco rfl)) rfl rfl ?_
        refine E.Ops.loud rfl rfl ?_
        refine E.l_alloc rfl ty_44 (fun b16_7 => ?_)
        refine E.Ops.loud rfl rfl ?_
        refine E.l_store rfl rfl rfl E.ixA 4 sz_44 (by rfl) (by rfl) (by rfl) (by rfl) ?_
        refine E.Ops.nil ?_
        try simp only [E.tn, E.tx, E.tr, E.bn, E.br, E.bs]
        have hPI : ∀ a : Int, 0 ≤ a → a ≤ code.length → (P1.flatMap E.encI)[a.toNat * 1]? = some (.int .i64 (placeN code g a.toNat)) := fun a h0 h1 => hPa a.toNat (by omega)
        refine E.Run.seqCut (fun L' ρ' M' => ∃ o1 : E.Ins, o1 = (if o.op = 14 ∧ (ci.op = 14 ∨ ci.op = 15) then { o with a := placeN code g o.a.toNat } else o) ∧ E.SubEnv [(0, .slice (some adb) bec.length bc), (1, .slice (some ad) code.length cc), (5, .slice (some ⟨g1_3, 0, none⟩) (code.length + 1) (code.length + 1)), (8, .slice AO1 ((outN code g i).length + k) CO1), (9, .int .i64 i), (10, .int .i64 k), (11, .pointer (some ⟨b16_7, 0, none⟩))] L' ∧ E.Ent ρ' M' ρ (E.pt b16_7 44 (E.encIns o1) :: E.arr 44 4 AO1 ((outN code g i).length + k) CO1 (((outN code g i).map (fixN code g) ++ (gl.take k).map fun o => fixN code g (i, o)).flatMap E.encIns) :: E.arr 3 1 (some ⟨g1_3, 0, none⟩) (code.length + 1) (code.length + 1) (P1.flatMap E.encI) :: M)) ?_ ?_
        · refine E.Run.seqCut (fun L' ρ' M' => E.SubEnv [(0, .slice (some adb) bec.length bc), (1, .slice (some ad) code.length cc), (5, .slice (some ⟨g1_3, 0, none⟩) (code.length + 1) (code.length + 1)), (8, .slice AO1 ((outN code g i).length + k) CO1), (9, .int .i64 i), (10, .int .i64 k), (11, .pointer (some ⟨b16_7, 0, none⟩)), (78, .bool (decide (o.op = 14 ∧ (ci.op = 14 ∨ ci.op = 15))))] L' ∧ E.Ent ρ' M' ρ (E.pt b16_7 44 (E.encIns o) :: E.arr 44 4 AO1 ((outN code g i).length + k) CO1 (((outN code g i).map (fixN code g) ++ (gl.take k).map fun o => fixN code g (i, o)).flatMap E.encIns) :: E.arr 3 1 (some ⟨g1_3, 0, none⟩) (code.length + 1) (code.length + 1) (P1.flatMap E.encI) :: M)) ?_ ?_
          · (repeat refine E.Run.seq ?_)
            refine E.Run.region ?_
            first | refine E.Ops.q _ (E.q_fieldAddr' rfl rfl fo_44_0) rfl rfl ?_ | refine E.Ops.q _ (E.q_fieldAddr rfl rfl fo_44_0) rfl rfl ?_
            refine E.Ops.q _ (E.q_load rfl rfl (by first | refine E.LoadAt.own E.ixA sc_3 (by rfl) | exact E.LoadAt.ro sc_3 (by assumption) | exact E.LoadAt.arr E.ixA sc_3 (by assumption))) rfl rfl ?_
            refine E.Ops.part (E.q_eql rfl rfl rfl) rfl rfl (fun h17_2 => ?T1) (fun h17_2 => ?F1)
            case' F1 =>
              refine E.Ops.q _ (E.q_move rfl rfl) rfl rfl ?_
              refine E.Ops.skip rfl rfl ?_
              refine E.Ops.skip rfl rfl ?_
              refine E.Ops.skip rfl rfl ?_
              refine E.Ops.skip rfl rfl ?_
              refine E.Ops.skip rfl rfl ?_
              refine E.Ops.skip rfl rfl ?_
              refine E.Ops.skip rfl rfl ?_
              refine E.Ops.skip rfl rfl ?_
              refine E.Ops.skip rfl rfl ?_
              refine E.Ops.skip rfl rfl ?_
              refine E.Ops.skip rfl rfl ?_
              refine E.Ops.skip rfl rfl ?_
              refine E.Ops.skip rfl rfl ?_
              refine E.Ops.skip rfl rfl ?_
              refine E.Ops.q _ (E.q_pickF rfl rfl rfl) rfl rfl ?_
              refine E.Ops.nil ?_
              try simp only [E.tn, E.tx, E.tr, E.bn, E.br, E.bs]
            case' T1 =>
              refine E.Ops.q _ (E.q_move rfl rfl) rfl rfl ?_
              refine E.Ops.q _ (E.q_move rfl rfl) rfl rfl ?_
              refine E.Ops.q _ (E.q_move rfl rfl) rfl rfl ?_
              refine E.Ops.q _ (E.q_indexNat rfl rfl rfl so_45 hi') rfl rfl ?_
              first | refine E.Ops.q _ (E.q_fieldAddr' rfl rfl fo_44_0) rfl rfl ?_ | refine E.Ops.q _ (E.q_fieldAddr rfl rfl fo_44_0) rfl rfl ?_
              refine E.Ops.q _ (E.q_load rfl rfl (by exact E.LoadAt.ro sc_3 hc0)) rfl rfl ?_
              refine E.Ops.part (E.q_eql rfl rfl rfl) rfl rfl (fun h17_9 => ?T2) (fun h17_9 => ?F2)
              case' F2 =>
                refine E.Ops.q _ (E.q_move rfl rfl) rfl rfl ?_
                refine E.Ops.q _ (E.q_move rfl rfl) rfl rfl ?_
                refine E.Ops.q _ (E.q_move rfl rfl) rfl rfl ?_
                refine E.Ops.q _ (E.q_indexNat rfl rfl rfl so_45 hi') rfl rfl ?_
                first | refine E.Ops.q _ (E.q_fieldAddr' rfl rfl fo_44_0) rfl rfl ?_ | refine E.Ops.q _ (E.q_fieldAddr rfl rfl fo_44_0) rfl rfl ?_
                refine E.Ops.q _ (E.q_load rfl rfl (by exact E.LoadAt.ro sc_3 hc0)) rfl rfl ?_
                refine E.Ops.part (E.q_eql rfl rfl rfl) rfl rfl (fun h17_16 => ?T3) (fun h17_16 => ?F3)
                case' F3 =>
                  refine E.Ops.q _ (E.q_pickF rfl rfl rfl) rfl rfl ?_
                  refine E.Ops.q _ (E.q_pickT rfl rfl rfl) rfl rfl ?_
                  refine E.Ops.nil ?_
                  try simp only [E.tn, E.tx, E.tr, E.bn, E.br, E.bs]
                case' T3 =>
                  refine E.Ops.q _ (E.q_pickF rfl rfl rfl) rfl rfl ?_
                  refine E.Ops.q _ (E.q_pickT rfl rfl rfl) rfl rfl ?_
                  refine E.Ops.nil ?_
                  try simp only [E.tn, E.tx, E.tr, E.bn, E.br, E.bs]
              case' T2 =>
                refine E.Ops.q _ (E.q_move rfl rfl) rfl rfl ?_
                refine E.Ops.skip rfl rfl ?_
                refine E.Ops.skip rfl rfl ?_
                refine E.Ops.skip rfl rfl ?_
                refine E.Ops.skip rfl rfl ?_
                refine E.Ops.skip rfl rfl ?_
                refine E.Ops.skip rfl rfl ?_
                refine E.Ops.q _ (E.q_pickT rfl rfl rfl) rfl rfl ?_
                refine E.Ops.q _ (E.q_pickT rfl rfl rfl) rfl rfl ?_
                refine E.Ops.nil ?_
                try simp only [E.tn, E.tx, E.tr, E.bn, E.br, E.bs]
            all_goals first
              | exact ⟨by rw [decide_eq_true (by omega)]; ((repeat refine E.SubEnv.cons rfl ?_); exact E.SubEnv.nil _), by exact E.Ent.of E.entA⟩
              | exact ⟨by rw [decide_eq_false (by omega)]; ((repeat refine E.SubEnv.cons rfl ?_); exact E.SubEnv.nil _), by exact E.Ent.of E.entA⟩
          rintro L1 ρ1 M1 ⟨hs, he⟩
          refine E.Run.sub hs (E.Run.ent he ?_)
          clear hs he
          (repeat refine E.Run.seq ?_); refine E.Run.condD rfl (fun h17 => ?_) (fun h17 => ?_)
          · have hr := hgj h17.1 h17.2
            (repeat refine E.Run.seq ?_)
            refine E.Run.region ?_
            refine E.Ops.q _ (E.q_move rfl rfl) rfl rfl ?_
            first | refine E.Ops.q _ (E.q_fieldAddr' rfl rfl fo_44_1) rfl rfl ?_ | refine E.Ops.q _ (E.q_fieldAddr rfl rfl fo_44_1) rfl rfl ?_
            refine E.Ops.q _ (E.q_load rfl rfl (by first | refine E.LoadAt.own E.ixA sc_3 (by rfl) | exact E.LoadAt.ro sc_3 (by assumption) | exact E.LoadAt.arr E.ixA sc_3 (by assumption))) rfl rfl ?_
            refine E.Ops.q _ (E.q_indexAddr rfl rfl rfl so_23 hr.1 (by omega)) rfl rfl ?_
            refine E.Ops.q _ (E.q_load rfl rfl (by exact E.LoadAt.arr E.ixA sc_3 (hPI _ hr.1 hr.2))) rfl rfl ?_
            first | refine E.Ops.q _ (E.q_fieldAddr' rfl rfl fo_44_1) rfl rfl ?_ | refine E.Ops.q _ (E.q_fieldAddr rfl rfl fo_44_1) rfl rfl ?_
            refine E.Ops.loud rfl rfl ?_
            refine E.l_store rfl rfl rfl E.ixA 1 sz_3 (by rfl) (by rfl) (by rfl) (by rfl) ?_
            refine E.Ops.nil ?_
            try simp only [E.tn, E.tx, E.tr, E.bn, E.br, E.bs]
            exact ⟨{ o with a := placeN code g o.a.toNat }, by rw [if_pos h17], by ((repeat refine E.SubEnv.cons rfl ?_); exact E.SubEnv.nil _), by exact E.Ent.of E.entA⟩
          · refine E.Run.skip ?_
            try simp only [E.tn, E.tx, E.tr, E.bn, E.br, E.bs]
            exact ⟨o, by rw [if_neg h17], by ((repeat refine E.SubEnv.cons rfl ?_); exact E.SubEnv.nil _), by exact E.Ent.of E.entA⟩
        rintro L1 ρ1 M1 ⟨o1, ho1, hs, he⟩
        refine E.Run.sub hs (E.Run.ent he ?_)
        clear hs he
        have hop1 : o1.op = o.op := by rw [ho1]; split <;> rfl
        have hb1 : o1.b = o.b := by rw [ho1]; split <;> rfl
        have hfx2 : fixN code g (i, o) = if o1.op = 15 ∧ ci.op = 15 then { o1 with b := placeN code g o1.b.toNat } else o1 := by
          rw [hfx, hop1, hb1, ho1]
          by_cases h1 : o.op = 14 ∧ (ci.op = 14 ∨ ci.op = 15)
          · rw [if_pos h1, if_pos h1, if_neg (by omega)]
          · rw [if_neg h1, if_neg h1]
        refine E.Run.seqCut (fun L' ρ' M' => E.SubEnv [(0, .slice (some adb) bec.length bc), (1, .slice (some ad) code.length cc), (5, .slice (some ⟨g1_3, 0, none⟩) (code.length + 1) (code.length + 1)), (8, .slice AO1 ((outN code g i).length + k) CO1), (9, .int .i64 i), (10, .int .i64 k), (11, .pointer (some ⟨b16_7, 0, none⟩))] L' ∧ E.Ent ρ' M' ρ (E.pt b16_7 44 (E.encIns (fixN code g (i, o))) :: E.arr 44 4 AO1 ((outN code g i).length + k) CO1 (((outN code g i).map (fixN code g) ++ (gl.take k).map fun o => fixN code g (i, o)).flatMap E.encIns) :: E.arr 3 1 (some ⟨g1_3, 0, none⟩) (code.length + 1) (code.length + 1) (P1.flatMap E.encI) :: M)) ?_ ?_
        · refine E.Run.seqCut (fun L' ρ' M' => E.SubEnv [(0, .slice (some adb) bec.length bc), (1, .slice (some ad) code.length cc), (5, .slice (some ⟨g1_3, 0, none⟩) (code.length + 1) (code.length + 1)), (8, .slice AO1 ((outN code g i).length + k) CO1), (9, .int .i64 i), (10, .int .i64 k), (11, .pointer (some ⟨b16_7, 0, none⟩)), (95, .bool (decide (o1.op = 15 ∧ ci.op = 15)))] L' ∧ E.Ent ρ' M' ρ (E.pt b16_7 44 (E.encIns o1) :: E.arr 44 4 AO1 ((outN code g i).length + k) CO1 (((outN code g i).map (fixN code g) ++ (gl.take k).map fun o => fixN code g (i, o)).flatMap E.encIns) :: E.arr 3 1 (some ⟨g1_3, 0, none⟩) (code.length + 1) (code.length + 1) (P1.flatMap E.encI) :: M)) ?_ ?_
          · (repeat refine E.Run.seq ?_)
            refine E.Run.region ?_
            first | refine E.Ops.q _ (E.q_fieldAddr' rfl rfl fo_44_0) rfl rfl ?_ | refine E.Ops.q _ (E.q_fieldAddr rfl rfl fo_44_0) rfl rfl ?_
            refine E.Ops.q _ (E.q_load rfl rfl (by first | refine E.LoadAt.own E.ixA sc_3 (by rfl) | exact E.LoadAt.ro sc_3 (by assumption) | exact E.LoadAt.arr E.ixA sc_3 (by assumption))) rfl rfl ?_
            refine E.Ops.part (E.q_eql rfl rfl rfl) rfl rfl (fun h19_2 => ?T4) (fun h19_2 => ?F4)
            case' F4 =>
              refine E.Ops.q _ (E.q_move rfl rfl) rfl rfl ?_
              refine E.Ops.skip rfl rfl ?_
              refine E.Ops.skip rfl rfl ?_
              refine E.Ops.skip rfl rfl ?_
              refine E.Ops.skip rfl rfl ?_
              refine E.Ops.skip rfl rfl ?_
              refine E.Ops.skip rfl rfl ?_
              refine E.Ops.q _ (E.q_pickF rfl rfl rfl) rfl rfl ?_
              refine E.Ops.nil ?_
              try simp only [E.tn, E.tx, E.tr, E.bn, E.br, E.bs]
            case' T4 =>
              refine E.Ops.q _ (E.q_move rfl rfl) rfl rfl ?_
              refine E.Ops.q _ (E.q_move rfl rfl) rfl rfl ?_
              refine E.Ops.q _ (E.q_move rfl rfl) rfl rfl ?_
              refine E.Ops.q _ (E.q_indexNat rfl rfl rfl so_45 hi') rfl rfl ?_
              first | refine E.Ops.q _ (E.q_fieldAddr' rfl rfl fo_44_0) rfl rfl ?_ | refine E.Ops.q _ (E.q_fieldAddr rfl rfl fo_44_0) rfl rfl ?_
              refine E.Ops.q _ (E.q_load rfl rfl (by exact E.LoadAt.ro sc_3 hc0)) rfl rfl ?_
              refine E.Ops.part (E.q_eql rfl rfl rfl) rfl rfl (fun h19_9 => ?T5) (fun h19_9 => ?F5)
              case' F5 =>
                refine E.Ops.q _ (E.q_pickT rfl rfl rfl) rfl rfl ?_
                refine E.Ops.nil ?_
                try simp only [E.tn, E.tx, E.tr, E.bn, E.br, E.bs]
              case' T5 =>
                refine E.Ops.q _ (E.q_pickT rfl rfl rfl) rfl rfl ?_
                refine E.Ops.nil ?_
                try simp only [E.tn, E.tx, E.tr, E.bn, E.br, E.bs]
            all_goals first
              | exact ⟨by rw [decide_eq_true (by omega)]; ((repeat refine E.SubEnv.cons rfl ?_); exact E.SubEnv.nil _), by exact E.Ent.of E.entA⟩
              | exact ⟨by rw [decide_eq_false (by omega)]; ((repeat refine E.SubEnv.cons rfl ?_); exact E.SubEnv.nil _), by exact E.Ent.of E.entA⟩
          rintro L1 ρ1 M1 ⟨hs, he⟩
          refine E.Run.sub hs (E.Run.ent he ?_)
          clear hs he
          rw [hfx2]
          (repeat refine E.Run.seq ?_); refine E.Run.condD rfl (fun h17 => ?_) (fun h17 => ?_)
          · have hr := hgz (by omega) h17.2
            rw [← hb1] at hr
            rw [if_pos h17]
            (repeat refine E.Run.seq ?_)
            refine E.Run.region ?_
            refine E.Ops.q _ (E.q_move rfl rfl) rfl rfl ?_
            first | refine E.Ops.q _ (E.q_fieldAddr' rfl rfl fo_44_2) rfl rfl ?_ | refine E.Ops.q _ (E.q_fieldAddr rfl rfl fo_44_2) rfl rfl ?_
            refine E.Ops.q _ (E.q_load rfl rfl (by first | refine E.LoadAt.own E.ixA sc_3 (by rfl) | exact E.LoadAt.ro sc_3 (by assumption) | exact E.LoadAt.arr E.ixA sc_3 (by assumption))) rfl rfl ?_
            refine E.Ops.q _ (E.q_indexAddr rfl rfl rfl so_23 hr.1 (by omega)) rfl rfl ?_
            refine E.Ops.q _ (E.q_load rfl rfl (by exact E.LoadAt.arr E.ixA sc_3 (hPI _ hr.1 hr.2))) rfl rfl ?_
            first | refine E.Ops.q _ (E.q_fieldAddr' rfl rfl fo_44_2) rfl rfl ?_ | refine E.Ops.q _ (E.q_fieldAddr rfl rfl fo_44_2) rfl rfl ?_
            refine E.Ops.loud rfl rfl ?_
            refine E.l_store rfl rfl rfl E.ixA 1 sz_3 (by rfl) (by rfl) (by rfl) (by rfl) ?_
            refine E.Ops.nil ?_
            try simp only [E.tn, E.tx, E.tr, E.bn, E.br, E.bs]
            exact ⟨by ((repeat refine E.SubEnv.cons rfl ?_); exact E.SubEnv.nil _), by exact E.Ent.of E.entA⟩
          · rw [if_neg h17]
            refine E.Run.skip ?_
            try simp only [E.tn, E.tx, E.tr, E.bn, E.br, E.bs]
            exact ⟨by ((repeat refine E.SubEnv.cons rfl ?_); exact E.SubEnv.nil _), by exact E.Ent.of E.entA⟩
        rintro L1 ρ1 M1 ⟨hs, he⟩
        refine E.Run.sub hs (E.Run.ent he ?_)
        clear hs he
        have hop2 : (fixN code g (i, o)).op = o.op := by rw [hfx2]; split <;> exact hop1
        generalize fixN code g (i, o) = o2 at *
        refine E.Run.seqCut (fun L' ρ' M' => E.SubEnv [(0, .slice (some adb) bec.length bc), (1, .slice (some ad) code.length cc), (5, .slice (some ⟨g1_3, 0, none⟩) (code.length + 1) (code.length + 1)), (8, .slice AO1 ((outN code g i).length + k) CO1), (9, .int .i64 i), (10, .int .i64 k), (11, .pointer (some ⟨b16_7, 0, none⟩))] L' ∧ E.Ent ρ' M' ρ (E.pt b16_7 44 (E.encIns o2) :: E.arr 44 4 AO1 ((outN code g i).length + k) CO1 (((outN code g i).map (fixN code g) ++ (gl.take k).map fun o => fixN code g (i, o)).flatMap E.encIns) :: E.arr 3 1 (some ⟨g1_3, 0, none⟩) (code.length + 1) (code.length + 1) (P1.flatMap E.encI) :: M)) ?_ ?_
        · refine E.Run.seqCut (fun L' ρ' M' => E.SubEnv [(0, .slice (some adb) bec.length bc), (1, .slice (some ad) code.length cc), (5, .slice (some ⟨g1_3, 0, none⟩) (code.length + 1) (code.length + 1)), (8, .slice AO1 ((outN code g i).length + k) CO1), (9, .int .i64 i), (10, .int .i64 k), (11, .pointer (some ⟨b16_7, 0, none⟩)), (112, .bool false)] L' ∧ E.Ent ρ' M' ρ (E.pt b16_7 44 (E.encIns o2) :: E.arr 44 4 AO1 ((outN code g i).length + k) CO1 (((outN code g i).map (fixN code g) ++ (gl.take k).map fun o => fixN code g (i, o)).flatMap E.encIns) :: E.arr 3 1 (some ⟨g1_3, 0, none⟩) (code.length + 1) (code.length + 1) (P1.flatMap E.encI) :: M)) ?_ ?_
          · by_cases h15 : o2.op = 15
            · have h17 : ¬ ci.op = 17 := hll (by omega)
              (repeat refine E.Run.seq ?_)
              refine E.Run.region ?_
              first | refine E.Ops.q _ (E.q_fieldAddr' rfl rfl fo_44_0) rfl rfl ?_ | refine E.Ops.q _ (E.q_fieldAddr rfl rfl fo_44_0) rfl rfl ?_
              refine E.Ops.q _ (E.q_load rfl rfl (by first | refine E.LoadAt.own E.ixA sc_3 (by rfl) | exact E.LoadAt.ro sc_3 (by assumption) | exact E.LoadAt.arr E.ixA sc_3 (by assumption))) rfl rfl ?_
              refine E.Ops.q _ ((E.q_eql rfl rfl rfl).isT (h15)) rfl rfl ?_
              refine E.Ops.q _ (E.q_move rfl rfl) rfl rfl ?_
              refine E.Ops.q _ (E.q_move rfl rfl) rfl rfl ?_
              refine E.Ops.q _ (E.q_move rfl rfl) rfl rfl ?_
              refine E.Ops.q _ (E.q_indexNat rfl rfl rfl so_45 hi') rfl rfl ?_
              first | refine E.Ops.q _ (E.q_fieldAddr' rfl rfl fo_44_0) rfl rfl ?_ | refine E.Ops.q _ (E.q_fieldAddr rfl rfl fo_44_0) rfl rfl ?_
              refine E.Ops.q _ (E.q_load rfl rfl (by exact E.LoadAt.ro sc_3 hc0)) rfl rfl ?_
              refine E.Ops.q _ ((E.q_eql rfl rfl rfl).isF (h17)) rfl rfl ?_
              refine E.Ops.q _ (E.q_pickT rfl rfl rfl) rfl rfl ?_
              refine E.Ops.nil ?_
              try simp only [E.tn, E.tx, E.tr, E.bn, E.br, E.bs]
              exact ⟨by ((repeat refine E.SubEnv.cons rfl ?_); exact E.SubEnv.nil _), by exact E.Ent.of E.entA⟩
            · (repeat refine E.Run.seq ?_)
              refine E.Run.region ?_
              first | refine E.Ops.q _ (E.q_fieldAddr' rfl rfl fo_44_0) rfl rfl ?_ | refine E.Ops.q _ (E.q_fieldAddr rfl rfl fo_44_0) rfl rfl ?_
              refine E.Ops.q _ (E.q_load rfl rfl (by first | refine E.LoadAt.own E.ixA sc_3 (by rfl) | exact E.LoadAt.ro sc_3 (by assumption) | exact E.LoadAt.arr E.ixA sc_3 (by assumption))) rfl rfl ?_
              refine E.Ops.q _ ((E.q_eql rfl rfl rfl).isF (h15)) rfl rfl ?_
              refine E.Ops.q _ (E.q_move rfl rfl) rfl rfl ?_
              refine E.Ops.skip rfl rfl ?_
              refine E.Ops.skip rfl rfl ?_
              refine E.Ops.skip rfl rfl ?_
              refine E.Ops.skip rfl rfl ?_
              refine E.Ops.skip rfl rfl ?_
              refine E.Ops.skip rfl rfl ?_
              refine E.Ops.q _ (E.q_pickF rfl rfl rfl) rfl rfl ?_
              refine E.Ops.nil ?_
              try simp only [E.tn, E.tx, E.tr, E.bn, E.br, E.bs]
              exact ⟨by ((repeat refine E.SubEnv.cons rfl ?_); exact E.SubEnv.nil _), by exact E.Ent.of E.entA⟩
          rintro L1 ρ1 M1 ⟨hs, he⟩
          refine E.Run.sub hs (E.Run.ent he ?_)
          clear hs he
          (repeat refine E.Run.seq ?_); refine E.Run.condF rfl ?_
          refine E.Run.skip ?_
          try simp only [E.tn, E.tx, E.tr, E.bn, E.br, E.bs]
          exact ⟨by ((repeat refine E.SubEnv.cons rfl ?_); exact E.SubEnv.nil _), by exact E.Ent.of E.entA⟩
        rintro L1 ρ1 M1 ⟨hs, he⟩
        refine E.Run.sub hs (E.Run.ent he ?_)
        clear hs he
        (repeat refine E.Run.seq ?_)
        refine E.Run.region ?_
        refine E.Ops.q _ (E.q_move rfl rfl) rfl rfl ?_
        refine E.Ops.q _ (E.q_load rfl rfl (by first | refine E.LoadAt.ownAgg E.ixA 4 ag_44 (by rfl) (by rfl) | exact E.LoadAt.roAgg ag_44 (by assumption) rfl)) rfl rfl ?_
        refine E.Ops.loud rfl rfl ?_
        refine E.l_slice rfl rfl Try.underlying45 ty_44 rfl rfl rfl rfl rfl rfl (fun g23_2 => ?_)
        refine E.Ops.loud rfl rfl ?_
        refine E.l_append rfl rfl E.ixA Try.underlying45 ty_44 rfl (by decide) (E.SrcOf.arr E.ixA) (by intro u hu; simp [E.encIns, Value.cells] at hu; rcases hu with rfl | rfl | rfl | rfl <;> rfl) (by omega) (by omega) (fun A23_3 c23_3 => ?_)
        refine E.Ops.q _ (E.q_mv rfl rfl) rfl rfl ?_
        refine E.Ops.nil ?_
        try simp only [E.tn, E.tx, E.tr, E.bn, E.br, E.bs]
        refine ⟨A23_3, c23_3, by ((repeat refine E.SubEnv.cons rfl ?_); exact E.SubEnv.nil _), ?_⟩
        rw [htk, ← List.append_assoc, List.flatMap_append (xs := _ ++ _)]
        exact E.Ent.of E.entA
      rintro L1 ρ1 M1 ⟨A2, C2, hs, he⟩
      refine E.Run.sub hs (E.Run.ent he ?_)
      clear hs he
      (repeat refine E.Run.seq ?_)
      refine E.Run.region ?_
      refine E.Ops.q _ (E.q_move rfl rfl) rfl rfl ?_
      first | refine E.Ops.q _ (E.q_incr rfl rfl (by omega)) rfl rfl ?_ | refine E.Ops.q _ (E.q_addFit rfl rfl rfl (by omega)) rfl rfl ?_ | refine E.Ops.q _ (E.q_add rfl rfl rfl) rfl rfl ?_
      refine E.Ops.q _ (E.q_mv rfl rfl) rfl rfl ?_
      refine E.Ops.nil ?_
      try simp only [E.tn, E.tx, E.tr, E.bn, E.br, E.bs]
      exact ⟨(k + 1, A2, C2), by simp only; omega, by simp only; omega, by ((repeat refine E.SubEnv.cons rfl ?_); exact E.SubEnv.nil _), by exact E.Ent.of E.entA⟩
    rintro L1 ρ1 M1 ⟨A2, C2, hs, he⟩
    refine E.Run.sub hs (E.Run.ent he ?_)
    clear hs he
    (repeat refine E.Run.seq ?_)
    refine E.Run.region ?_
    refine E.Ops.q _ (E.q_move rfl rfl) rfl rfl ?_
    first | refine E.Ops.q _ (E.q_incr rfl rfl (by omega)) rfl rfl ?_ | refine E.Ops.q _ (E.q_addFit rfl rfl rfl (by omega)) rfl rfl ?_ | refine E.Ops.q _ (E.q_add rfl rfl rfl) rfl rfl ?_
    refine E.Ops.q _ (E.q_mv rfl rfl) rfl rfl ?_
    refine E.Ops.nil ?_
    try simp only [E.tn, E.tx, E.tr, E.bn, E.br, E.bs]
    exact ⟨(i + 1, A2, C2), by simp only; omega, by simp only; omega, by ((repeat refine E.SubEnv.cons rfl ?_); exact E.SubEnv.nil _), by exact E.Ent.of E.entA⟩
  rintro L1 ρ1 M1 ⟨AO, CO, hs, he⟩
  refine E.Run.sub hs (E.Run.ent he ?_)
  clear hs he
  (repeat refine E.Run.seq ?_)
  refine E.Run.region ?_
  refine E.Ops.q _ (E.q_move rfl rfl) rfl rfl ?_
  refine E.Ops.q _ (E.q_mv rfl rfl) rfl rfl ?_
  refine E.Ops.nil ?_
  try simp only [E.tn, E.tx, E.tr, E.bn, E.br, E.bs]
  refine E.Run.ret ?_
  try simp only [E.tn, E.tx, E.tr, E.bn, E.br, E.bs]
  exact ⟨_, _, _, E.ResOk.one rfl rfl, E.Ent.of E.entA, hK AO CO _ rfl⟩
end Go.Proofs.Ythpgjbdacknkgaa
