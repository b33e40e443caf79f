/- fence.Moved, walked. No statement of the seat in it. -/
import Derived.Test.YthpgjbdacknkgaaO7
import Derived.Test.YthpgjbdacknkgaaSt
set_option linter.unusedVariables false
set_option linter.unusedSimpArgs false
namespace Go.Proofs.Ythpgjbdacknkgaa
open Go
private theorem ag_44 : E.isAggOf Try.prog 44 4 = true := by kernel_rfl
private theorem fo_44_0 : E.fieldOff Try.prog 44 0 = some 0 := by kernel_rfl
private theorem fo_44_1 : E.fieldOff Try.prog 44 1 = some 1 := by kernel_rfl
private theorem fo_44_2 : E.fieldOff Try.prog 44 2 = some 2 := by kernel_rfl
private theorem sc_3 : E.isScal Try.prog 3 = true := by kernel_rfl
private theorem so_23 : E.sliceOf Try.prog 23 = some (3, 1) := by kernel_rfl
private theorem so_45 : E.sliceOf Try.prog 45 = some (44, 4) := by kernel_rfl
private theorem sz_3 : (Try.prog.info? 3).map (·.size) = some 1 := by kernel_rfl
private theorem sz_44 : (Try.prog.info? 44).map (·.size) = some 4 := by kernel_rfl
private theorem ty_3 : E.tyOf Try.prog 3 = some (some (.int .i64 0), 1, 8) := by kernel_rfl
private theorem ty_44 : E.tyOf Try.prog 44 = some (some (.agg #[.int .i64 0, .int .i64 0, .int .i64 0, .int .i64 0]), 4, 32) := by kernel_rfl

/-- what the first n orders become, each with the order that it is of -/
def outN (code : List E.Ins) (g : Nat → E.Ins → List E.Ins) : Nat → List (Nat × E.Ins)
  | 0 => []
  | n + 1 => outN code g n ++ (match code[n]? with | some i => (g n i).map (fun o => (n, o)) | none => [])
def placeN (code : List E.Ins) (g : Nat → E.Ins → List E.Ins) (n : Nat) : Int := ((outN code g n).length : Int)
/-- .. with the places to which it jumps -/
def fixN (code : List E.Ins) (g : Nat → E.Ins → List E.Ins) (x : Nat × E.Ins) : E.Ins :=
  let was := (code[x.1]?.map (·.op)).getD 0
  if x.2.op = 14 ∧ (was = 14 ∨ was = 15) then { x.2 with a := placeN code g x.2.a.toNat }
  else if x.2.op = 15 ∧ was = 15 then { x.2 with b := placeN code g x.2.b.toNat } else x.2
def movedS (code : List E.Ins) (g : Nat → E.Ins → List E.Ins) : List E.Ins := (outN code g code.length).map (fixN code g)
/-- what the orders become is small, and jumps to places that there are -/
structure GoodG (code : List E.Ins) (g : Nat → E.Ins → List E.Ins) : Prop where
  small : ∀ k (h : k < code.length), (g k code[k]).length ≤ 2
  jump : ∀ k (h : k < code.length), ∀ o ∈ g k code[k], o.op = 14 → (code[k].op = 14 ∨ code[k].op = 15) → 0 ≤ o.a ∧ o.a ≤ code.length
  zero : ∀ k (h : k < code.length), ∀ o ∈ g k code[k], o.op = 15 → code[k].op = 15 → 0 ≤ o.b ∧ o.b ≤ code.length
theorem outN_succ (code : List E.Ins) (g : Nat → E.Ins → List E.Ins) {n : Nat} (h : n < code.length) : outN code g (n + 1) = outN code g n ++ (g n code[n]).map (fun o => (n, o)) := by
  rw [outN, List.getElem?_eq_getElem h]
theorem outN_len {code : List E.Ins} {g : Nat → E.Ins → List E.Ins} (hg : GoodG code g) : ∀ n, n ≤ code.length → (outN code g n).length ≤ 2 * n
  | 0, _ => Nat.le_refl _
  | n + 1, h => by
    have h1 := outN_len hg n (by omega)
    have h2 := hg.small n (by omega)
    rw [outN_succ code g (by omega), List.length_append, List.length_map]; omega
theorem outN_mem {code : List E.Ins} {g : Nat → E.Ins → List E.Ins} : ∀ n, n ≤ code.length → ∀ x ∈ outN code g n, ∃ h : x.1 < code.length, x.2 ∈ g x.1 code[x.1]
  | 0, _, x, hx => by cases hx
  | n + 1, h, x, hx => by
    rw [outN_succ code g (by omega)] at hx
    rcases List.mem_append.1 hx with h1 | h1
    · exact outN_mem n (by omega) x h1
    · obtain ⟨o, ho, rfl⟩ := List.mem_map.1 h1
      exact ⟨by simp only; omega, ho⟩

set_option maxRecDepth 100000 in
theorem fenceMoved {ρ : E.Ro} {M : List E.Asr} {K : Value → E.Ro → List E.Asr → Prop} (cA : Option Addr) (cc : Nat) (code : List E.Ins) (fk : FuncId) (fn : Func) (first cap : List Value) (g : Nat → E.Ins → List E.Ins)
    (hf1 : Try.prog.funcs[fk]? = some fn) (hf2 : (fn.name == "runtime.NumGoroutine") = false) (hf3 : fn.body.isNone = false)
    (hcode : E.RdF ρ.blk E.encIns 4 cA code) (hsz : code.length ≤ 400) (hg : GoodG code g)
    (hf : ∀ (k : Nat) (h : k < code.length) (M : List E.Asr) (K : Value → E.Ro → List E.Asr → Prop), (∀ A c n, n = (g k code[k]).length → K (.slice A n c) ρ (E.arr 44 4 A n c ((g k code[k]).flatMap E.encIns) :: M)) →
      E.Hoa Try.prog fk (first ++ [Value.int .i64 k, Value.agg (E.encIns code[k]).toArray] ++ cap).toArray ρ M K)
    (hK : ∀ A c n, n = (movedS code g).length → K (.slice A n c) ρ (E.arr 44 4 A n c ((movedS code g).flatMap E.encIns) :: M)) :
    E.Hoa Try.prog 46 #[.slice cA code.length cc, .func (.func fk) first.toArray cap.toArray] ρ M K := by
  refine E.Hoa.enter 115 Try.func46 rfl rfl rfl ?_
  (repeat refine E.Run.seq ?_)
  refine E.Run.region ?_
  refine E.Ops.q _ (E.q_mv rfl rfl) rfl rfl ?_
  refine E.Ops.nil ?_
  try simp only [E.tn, E.tx, E.tr, E.bn, E.br, E.bs]
  (repeat refine E.Run.seq ?_)
  refine E.Run.region ?_
  refine E.Ops.q _ (E.q_mv rfl rfl) rfl rfl ?_
  refine E.Ops.nil ?_
  try simp only [E.tn, E.tx, E.tr, E.bn, E.br, E.bs]
  (repeat refine E.Run.seq ?_)
  refine E.Run.region ?_
  refine E.Ops.q _ (E.q_move rfl rfl) rfl rfl ?_
  refine E.Ops.q _ (E.q_lenSlice rfl Try.underlying45) rfl rfl ?_
  first | refine E.Ops.q _ (E.q_incr rfl rfl (by omega)) rfl rfl ?_ | refine E.Ops.q _ (E.q_addFit rfl rfl rfl (by omega)) rfl rfl ?_ | refine E.Ops.q _ (E.q_add rfl rfl rfl) rfl rfl ?_
  refine E.Ops.loud rfl rfl ?_
  refine E.l_make rfl rfl rfl Try.underlying23 ty_3 rfl (by omega) (by omega) (fun g2_3 => ?_)
  refine E.Ops.q _ (E.q_mv rfl rfl) rfl rfl ?_
  refine E.Ops.nil ?_
  try simp only [E.tn, E.tx, E.tr, E.bn, E.br, E.bs]
  (repeat refine E.Run.seq ?_)
  refine E.Run.region ?_
  refine E.Ops.loud rfl rfl ?_
  refine E.l_slice0 rfl rfl Try.underlying23 ty_3 (fun g3_0 => ?_)
  refine E.Ops.q _ (E.q_mv rfl rfl) rfl rfl ?_
  refine E.Ops.nil ?_
  try simp only [E.tn, E.tx, E.tr, E.bn, E.br, E.bs]
  refine E.Run.ent (M1 := E.arr 44 4 none 0 0 [] :: E.arr 3 1 (some ⟨g3_0, 0, none⟩) 0 0 [] :: E.arr 3 1 (some ⟨g2_3, 0, none⟩) (code.length + 1) (code.length + 1) ((List.replicate (code.length + 1) (0 : Int)).flatMap E.encI) :: M) (E.Ent.of (E.SEnt.addNil (by
    rw [show (List.replicate (code.length + 1) (0 : Int)).flatMap E.encI = (List.replicate (code.length + 1) (Value.int .i64 0).cells.toList).flatten from by
      generalize code.length + 1 = q
      induction q with
      | zero => rfl
      | succ q ih => rw [List.replicate_succ, List.replicate_succ, List.flatMap_cons, List.flatten_cons, ih]; rfl]
    (repeat (first | exact E.SEnt.refl _ | exact E.SEnt.nil _ | (with_reducible refine E.SEnt.keep ?_) | refine E.SEnt.take 0 rfl ?_ | refine E.SEnt.take 1 rfl ?_ | refine E.SEnt.take 2 rfl ?_ | refine E.SEnt.take 3 rfl ?_ | refine E.SEnt.take 4 rfl ?_ | refine E.SEnt.drop ?_))))) ?_
  refine E.Run.seqCut (fun L' ρ' M' => ∃ AO CO AF CF, ∃ P : List Int, P.length = code.length + 1 ∧ (∀ j, j < code.length → P[j]? = some (placeN code g j)) ∧ E.SubEnv [(0, .slice cA code.length cc), (1, .func (.func fk) first.toArray cap.toArray), (5, .slice AO (outN code g code.length).length CO), (6, .slice (some ⟨g2_3, 0, none⟩) (code.length + 1) (code.length + 1)), (7, .slice AF (outN code g code.length).length CF)] L' ∧ E.Ent ρ' M' ρ (E.arr 44 4 AO (outN code g code.length).length CO (((outN code g code.length).map (·.2)).flatMap E.encIns) :: E.arr 3 1 AF (outN code g code.length).length CF (((outN code g code.length).map (fun x => (x.1 : Int))).flatMap E.encI) :: E.arr 3 1 (some ⟨g2_3, 0, none⟩) (code.length + 1) (code.length + 1) (P.flatMap E.encI) :: M)) ?_ ?_
  · (repeat refine E.Run.seq ?_)
    refine E.Run.region ?_
    refine E.Ops.q _ (E.q_move rfl rfl) rfl rfl ?_
    refine E.Ops.q _ (E.q_lenSlice rfl Try.underlying45) rfl rfl ?_
    refine E.Ops.q _ (E.q_move rfl rfl) rfl rfl ?_
    refine E.Ops.nil ?_
    try simp only [E.tn, E.tx, E.tr, E.bn, E.br, E.bs]
    (repeat refine E.Run.seq ?_); refine E.Run.block ?_
    (repeat refine E.Run.seq ?_); refine E.Run.loopS (fun (x : Nat × Option Addr × Nat × Option Addr × Nat × List Int) => [(0, .slice cA code.length cc), (1, .func (.func fk) first.toArray cap.toArray), (5, .slice x.2.1 (outN code g x.1).length x.2.2.1), (6, .slice (some ⟨g2_3, 0, none⟩) (code.length + 1) (code.length + 1)), (7, .slice x.2.2.2.1 (outN code g x.1).length x.2.2.2.2.1), (18, .slice cA code.length cc), (19, .int .i64 code.length), (20, .int .i64 x.1)]) ρ (fun x => E.arr 44 4 x.2.1 (outN code g x.1).length x.2.2.1 (((outN code g x.1).map (·.2)).flatMap E.encIns) :: E.arr 3 1 x.2.2.2.1 (outN code g x.1).length x.2.2.2.2.1 (((outN code g x.1).map (fun x => (x.1 : Int))).flatMap E.encI) :: E.arr 3 1 (some ⟨g2_3, 0, none⟩) (code.length + 1) (code.length + 1) (x.2.2.2.2.2.flatMap E.encI) :: M)
      (fun x => x.1 ≤ code.length ∧ x.2.2.2.2.2.length = code.length + 1 ∧ ∀ j, j < x.1 → x.2.2.2.2.2[j]? = some (placeN code g j)) (fun x => code.length - x.1) (0, none, 0, some ⟨g3_0, 0, none⟩, 0, List.replicate (code.length + 1) 0)
      ⟨Nat.zero_le _, by simp, by intro j hj; simp at hj⟩ (by ((repeat refine E.SubEnv.cons rfl ?_); exact E.SubEnv.nil _)) (by exact E.Ent.of E.entA) ?_
    rintro ⟨k, AO, CO, AF, CF, P⟩ ⟨hk, hP, hPk⟩
    simp only at hk hP hPk ⊢
    (repeat refine E.Run.seq ?_)
    refine E.Run.region ?_
    refine E.Ops.q _ (E.q_lss rfl rfl rfl) rfl rfl ?_
    refine E.Ops.nil ?_
    try simp only [E.tn, E.tx, E.tr, E.bn, E.br, E.bs]
    (repeat refine E.Run.seq ?_); refine E.Run.condD rfl (fun h5 => ?_) (fun h5 => ?_)
    · have hk' : k < code.length := by omega
      obtain ⟨ad, rfl, _, hc⟩ := E.RdF.at hcode hk'
      have hf' := hf k hk'
      have hout := outN_len hg k (by omega)
      have hsucc := outN_succ code g hk'
      have hsm := hg.small k hk'
      generalize hi : code[k] = i at *
      refine E.Run.skip ?_
      try simp only [E.tn, E.tx, E.tr, E.bn, E.br, E.bs]
      (repeat refine E.Run.seq ?_)
      (repeat refine E.Run.seq ?_); refine E.Run.block ?_
      (repeat refine E.Run.seq ?_)
      refine E.Run.region ?_
      refine E.Ops.q _ (E.q_move rfl rfl) rfl rfl ?_
      first | refine E.Ops.q _ (E.q_indexNat rfl rfl rfl so_45 (by first | assumption | omega)) rfl rfl ?_ | refine E.Ops.q _ (E.q_indexAddr rfl rfl rfl so_45 (by omega) (by omega)) rfl rfl ?_
      refine E.Ops.q _ (E.q_load rfl rfl (by first | refine E.LoadAt.ownAgg E.ixA 4 ag_44 (by rfl) (by rfl) | exact E.LoadAt.roAgg ag_44 hc rfl | exact E.LoadAt.roAgg ag_44 (by assumption) rfl)) rfl rfl ?_
      refine E.Ops.loud rfl rfl ?_
      refine E.l_alloc rfl ty_44 (fun b6_3 => ?_)
      refine E.Ops.q _ (E.q_mv rfl rfl) rfl rfl ?_
      refine E.Ops.loud rfl rfl ?_
      refine E.l_store rfl rfl rfl E.ixA 4 sz_44 (by rfl) (by rfl) (by rfl) (by rfl) ?_
      refine E.Ops.nil ?_
      try simp only [E.tn, E.tx, E.tr, E.bn, E.br, E.bs]
      (repeat refine E.Run.seq ?_)
      refine E.Run.region ?_
      refine E.Ops.q _ (E.q_move rfl rfl) rfl rfl ?_
      refine E.Ops.q _ (E.q_move rfl rfl) rfl rfl ?_
      refine E.Ops.q _ (E.q_move rfl rfl) rfl rfl ?_
      refine E.Ops.q _ (E.q_lenSlice rfl Try.underlying45) rfl rfl ?_
      first | refine E.Ops.q _ (E.q_indexNat rfl rfl rfl so_23 (by first | assumption | omega)) rfl rfl ?_ | refine E.Ops.q _ (E.q_indexAddr rfl rfl rfl so_23 (by omega) (by omega)) rfl rfl ?_
      refine E.Ops.loud rfl rfl ?_
      refine E.l_storeEl (enc := E.encI) (placeN code g k) (fun _ => rfl) rfl rfl rfl E.ixA sz_3 hP.symm (by omega) rfl (by rfl) ?_
      refine E.Ops.nil ?_
      try simp only [E.tn, E.tx, E.tr, E.bn, E.br, E.bs]
      refine E.Run.seqCut (fun L' ρ' M' => ∃ AF1 CF1, E.SubEnv [(0, .slice (some ad) code.length cc), (1, .func (.func fk) first.toArray cap.toArray), (5, .slice AO (outN code g k).length CO), (6, .slice (some ⟨g2_3, 0, none⟩) (code.length + 1) (code.length + 1)), (7, .slice AF1 ((outN code g k).length + (g k i).length) CF1), (8, .int .i64 k), (9, .pointer (some ⟨b6_3, 0, none⟩)), (18, .slice (some ad) code.length cc), (19, .int .i64 code.length), (20, .int .i64 k)] L' ∧ E.Ent ρ' M' ρ (E.arr 44 4 AO (outN code g k).length CO (((outN code g k).map (·.2)).flatMap E.encIns) :: E.arr 3 1 AF1 ((outN code g k).length + (g k i).length) CF1 (((outN code g k).map (fun x => (x.1 : Int)) ++ List.replicate (g k i).length (k : Int)).flatMap E.encI) :: E.arr 3 1 (some ⟨g2_3, 0, none⟩) (code.length + 1) (code.length + 1) ((P.set k (placeN code g k)).flatMap E.encI) :: E.pt b6_3 44 [.int .i64 i.op, .int .i64 i.a, .int .i64 i.b, .int .i64 i.c] :: M)) ?_ ?_
      · (repeat refine E.Run.seq ?_)
        refine E.Run.region ?_
        refine E.Ops.q _ (E.q_move rfl rfl) rfl rfl ?_
        refine E.Ops.q _ (E.q_move rfl rfl) rfl rfl ?_
        refine E.Ops.q _ (E.q_load rfl rfl (by first | refine E.LoadAt.ownAgg E.ixA 4 ag_44 (by rfl) (by rfl) | exact E.LoadAt.roAgg ag_44 hc rfl | exact E.LoadAt.roAgg ag_44 (by assumption) rfl)) rfl rfl ?_
        refine E.Ops.loud rfl rfl ?_
        refine E.l_callVal rfl hf1 hf2 hf3 rfl ?_; refine hf' _ _ (fun A8 c8 n8 hn8 => ?_)
        refine E.Ops.q _ (E.q_lenSlice rfl Try.underlying45) rfl rfl ?_
        refine E.Ops.q _ (E.q_move rfl rfl) rfl rfl ?_
        refine E.Ops.nil ?_
        try simp only [E.tn, E.tx, E.tr, E.bn, E.br, E.bs]
        (repeat refine E.Run.seq ?_); refine E.Run.block ?_
        (repeat refine E.Run.seq ?_); refine E.Run.loopS (fun (x : Nat × Option Addr × Nat) => [(0, .slice (some ad) code.length cc), (1, .func (.func fk) first.toArray cap.toArray), (5, .slice AO (outN code g k).length CO), (6, .slice (some ⟨g2_3, 0, none⟩) (code.length + 1) (code.length + 1)), (7, .slice x.2.1 ((outN code g k).length + x.1) x.2.2), (8, .int .i64 k), (9, .pointer (some ⟨b6_3, 0, none⟩)), (18, .slice (some ad) code.length cc), (19, .int .i64 code.length), (20, .int .i64 k), (34, .int .i64 n8), (35, .int .i64 x.1)]) ρ (fun x => E.arr 44 4 AO (outN code g k).length CO (((outN code g k).map (·.2)).flatMap E.encIns) :: E.arr 3 1 x.2.1 ((outN code g k).length + x.1) x.2.2 (((outN code g k).map (fun x => (x.1 : Int)) ++ List.replicate x.1 (k : Int)).flatMap E.encI) :: E.arr 3 1 (some ⟨g2_3, 0, none⟩) (code.length + 1) (code.length + 1) ((P.set k (placeN code g k)).flatMap E.encI) :: E.pt b6_3 44 [.int .i64 i.op, .int .i64 i.a, .int .i64 i.b, .int .i64 i.c] :: M)
          (fun x => x.1 ≤ n8) (fun x => n8 - x.1) (0, AF, CF) (Nat.zero_le _) (by ((repeat refine E.SubEnv.cons rfl ?_); exact E.SubEnv.nil _)) (by
            rw [List.replicate_zero, List.append_nil, Nat.add_zero]
            exact E.Ent.of E.entA) ?_
        rintro ⟨j, AF1, CF1⟩ hj
        simp only at hj ⊢
        (repeat refine E.Run.seq ?_)
        refine E.Run.region ?_
        refine E.Ops.q _ (E.q_lss rfl rfl rfl) rfl rfl ?_
        refine E.Ops.nil ?_
        try simp only [E.tn, E.tx, E.tr, E.bn, E.br, E.bs]
        (repeat refine E.Run.seq ?_); refine E.Run.condD rfl (fun h9 => ?_) (fun h9 => ?_)
        · refine E.Run.skip ?_
          try simp only [E.tn, E.tx, E.tr, E.bn, E.br, E.bs]
          (repeat refine E.Run.seq ?_); refine E.Run.block ?_
          (repeat refine E.Run.seq ?_)
          refine E.Run.region ?_
          refine E.Ops.q _ (E.q_move rfl rfl) rfl rfl ?_
          refine E.Ops.q _ (E.q_move rfl rfl) rfl rfl ?_
          refine E.Ops.loud rfl rfl ?_
          refine E.l_slice rfl rfl Try.underlying23 ty_3 rfl rfl rfl rfl rfl rfl (fun g10_2 => ?_)
          refine E.Ops.loud rfl rfl ?_
          refine E.l_append rfl rfl E.ixA Try.underlying23 ty_3 rfl (by decide) (E.SrcOf.arr E.ixA) (by intro u hu; simp only [List.map_cons, List.map_nil, List.flatten_cons, List.flatten_nil, List.append_nil, List.mem_cons, List.not_mem_nil, or_false] at hu; revert hu; simp [Value.cells]; try (intro e; subst e; rfl)) (by omega) (by omega) (fun A10_3 c10_3 => ?_)
          refine E.Ops.q _ (E.q_mv rfl rfl) rfl rfl ?_
          refine E.Ops.nil ?_
          try simp only [E.tn, E.tx, E.tr, E.bn, E.br, E.bs]
          (repeat refine E.Run.seq ?_)
          refine E.Run.region ?_
          first | refine E.Ops.q _ (E.q_incr rfl rfl (by omega)) rfl rfl ?_ | refine E.Ops.q _ (E.q_addFit rfl rfl rfl (by omega)) rfl rfl ?_ | refine E.Ops.q _ (E.q_add rfl rfl rfl) rfl rfl ?_
          refine E.Ops.q _ (E.q_move rfl rfl) rfl rfl ?_
          refine E.Ops.nil ?_
          try simp only [E.tn, E.tx, E.tr, E.bn, E.br, E.bs]
          refine ⟨(j + 1, A10_3, c10_3), by simp only; omega, by simp only; omega, by ((repeat refine E.SubEnv.cons rfl ?_); exact E.SubEnv.nil _), ?_⟩
          simp only [List.replicate_succ', ← List.append_assoc]
          rw [show ((outN code g k).map (fun x => (x.1 : Int)) ++ List.replicate j (k : Int) ++ [(k : Int)]).flatMap E.encI = ((outN code g k).map (fun x => (x.1 : Int)) ++ List.replicate j (k : Int)).flatMap E.encI ++ [.int .i64 (k : Int)] from by rw [List.flatMap_append]; rfl]
          exact E.Ent.of E.entA
        · refine E.Run.exit ?_
          try simp only [E.tn, E.tx, E.tr, E.bn, E.br, E.bs]
          have : j = n8 := by omega
          subst this
          subst hn8
          exact ⟨AF1, CF1, by ((repeat refine E.SubEnv.cons rfl ?_); exact E.SubEnv.nil _), by exact E.Ent.of E.entA⟩
      rintro L4 ρ4 M4 ⟨AF1, CF1, hs, he⟩
      refine E.Run.sub hs (E.Run.ent he ?_)
      clear hs he
      (repeat refine E.Run.seq ?_)
      refine E.Run.region ?_
      refine E.Ops.q _ (E.q_move rfl rfl) rfl rfl ?_
      refine E.Ops.q _ (E.q_move rfl rfl) rfl rfl ?_
      refine E.Ops.q _ (E.q_move rfl rfl) rfl rfl ?_
      refine E.Ops.q _ (E.q_load rfl rfl (by first | refine E.LoadAt.ownAgg E.ixA 4 ag_44 (by rfl) (by rfl) | exact E.LoadAt.roAgg ag_44 hc rfl | exact E.LoadAt.roAgg ag_44 (by assumption) rfl)) rfl rfl ?_
      refine E.Ops.loud rfl rfl ?_
      refine E.l_callVal rfl hf1 hf2 hf3 rfl ?_; refine hf' _ _ (fun A8 c8 n8 hn8 => ?_)
      refine E.Ops.loud rfl rfl ?_
      refine E.l_append rfl rfl E.ixA Try.underlying45 ty_44 rfl (by decide) (E.SrcOf.arr E.ixA) (by intro u hu; obtain ⟨y, hy, hu⟩ := List.mem_flatMap.1 hu; simp only [E.encIns, List.mem_cons, List.not_mem_nil, or_false] at hu; rcases hu with rfl | rfl | rfl | rfl <;> rfl) (by omega) (by omega) (fun A12_5 c12_5 => ?_)
      refine E.Ops.q _ (E.q_mv rfl rfl) rfl rfl ?_
      refine E.Ops.nil ?_
      try simp only [E.tn, E.tx, E.tr, E.bn, E.br, E.bs]
      subst hn8
      (repeat refine E.Run.seq ?_)
      refine E.Run.region ?_
      first | refine E.Ops.q _ (E.q_incr rfl rfl (by omega)) rfl rfl ?_ | refine E.Ops.q _ (E.q_addFit rfl rfl rfl (by omega)) rfl rfl ?_ | refine E.Ops.q _ (E.q_add rfl rfl rfl) rfl rfl ?_
      refine E.Ops.q _ (E.q_move rfl rfl) rfl rfl ?_
      refine E.Ops.nil ?_
      try simp only [E.tn, E.tx, E.tr, E.bn, E.br, E.bs]
      refine ⟨(k + 1, A12_5, c12_5, AF1, CF1, P.set k (placeN code g k)), ⟨by simp only; omega, by simp only [List.length_set]; exact hP, fun j hj => ?_⟩, by simp only; omega, ?_, ?_⟩
      · simp only at hj ⊢
        by_cases e : j = k
        · subst e; rw [List.getElem?_set_self (by omega)]
        · rw [List.getElem?_set_ne (fun h => e h.symm)]; exact hPk j (by omega)
      · simp only
        rw [hsucc, List.length_append, List.length_map]
        ((repeat refine E.SubEnv.cons rfl ?_); exact E.SubEnv.nil _)
      · simp only
        rw [hsucc, List.length_append, List.length_map, List.map_append, List.map_append, show ((g k i).map (fun o => (k, o))).map (·.2) = g k i from by rw [List.map_map]; simp [Function.comp_def],
          show ((g k i).map (fun o => (k, o))).map (fun x => (x.1 : Int)) = List.replicate (g k i).length (k : Int) from by rw [List.map_map]; simp [Function.comp_def, List.map_const'],
          show ((outN code g k).map (·.2) ++ g k i).flatMap E.encIns = ((outN code g k).map (·.2)).flatMap E.encIns ++ (g k i).flatMap E.encIns from List.flatMap_append]
        exact E.Ent.of E.entA
    · refine E.Run.exit ?_
      try simp only [E.tn, E.tx, E.tr, E.bn, E.br, E.bs]
      have : k = code.length := by omega
      subst this
      exact ⟨AO, CO, AF, CF, P, hP, hPk, by ((repeat refine E.SubEnv.cons rfl ?_); exact E.SubEnv.nil _), by exact E.Ent.of E.entA⟩
  rintro L ρ1 M1 ⟨AO, CO, AF, CF, P, hP, hPk, hs, he⟩
  refine E.Run.sub hs (E.Run.ent he ?_)
  clear hs he
  have hmv : movedS code g = (outN code g code.length).map (fixN code g) := rfl
  rw [hmv] at hK
  clear hmv
  generalize hN : outN code g code.length = ON at *
  have hmem := outN_mem (g := g) code.length (Nat.le_refl _)
  have hlenN := outN_len hg code.length (Nat.le_refl _)
  rw [hN] at hmem hlenN
  have hpl : placeN code g code.length = (ON.length : Int) := by unfold placeN; rw [hN]
  (repeat refine E.Run.seq ?_)
  refine E.Run.region ?_
  refine E.Ops.q _ (E.q_move rfl rfl) rfl rfl ?_
  refine E.Ops.q _ (E.q_move rfl rfl) rfl rfl ?_
  refine E.Ops.q _ (E.q_lenSlice rfl Try.underlying45) rfl rfl ?_
  refine E.Ops.q _ (E.q_move rfl rfl) rfl rfl ?_
  refine E.Ops.q _ (E.q_lenSlice rfl Try.underlying45) rfl rfl ?_
  first | refine E.Ops.q _ (E.q_indexNat rfl rfl rfl so_23 (by first | assumption | omega)) rfl rfl ?_ | refine E.Ops.q _ (E.q_indexAddr rfl rfl rfl so_23 (by omega) (by omega)) rfl rfl ?_
  refine E.Ops.loud rfl rfl ?_
  refine E.l_storeEl (enc := E.encI) (placeN code g code.length) (fun _ => rfl) rfl rfl rfl E.ixA sz_3 hP.symm (by omega) (by rw [hpl]; rfl) (by rfl) ?_
  refine E.Ops.nil ?_
  try simp only [E.tn, E.tx, E.tr, E.bn, E.br, E.bs]
  have hP' : ∀ j, j ≤ code.length → (P.set code.length (placeN code g code.length))[j]? = some (placeN code g j) := fun j hj => by
    by_cases e : j = code.length
    · subst e; rw [List.getElem?_set_self (by omega)]
    · rw [List.getElem?_set_ne (fun h => e h.symm)]; exact hPk j (by omega)
  have hPl : (P.set code.length (placeN code g code.length)).length = code.length + 1 := by rw [List.length_set]; exact hP
  generalize P.set code.length (placeN code g code.length) = P1 at *
  refine E.Run.ent (M1 := E.arr 3 1 AF ON.length CF ((ON.map (fun x => (x.1 : Int))).flatMap E.encI) :: E.arr 3 1 (some ⟨g2_3, 0, none⟩) (code.length + 1) (code.length + 1) (P1.flatMap E.encI) :: E.arr 44 4 AO ON.length CO ((ON.map (·.2)).flatMap E.encIns) :: M) (by exact E.Ent.of E.entA) ?_
  refine E.Run.freeze fun ρ1 hle1 hfr1 => ?_
  refine E.Run.freeze fun ρ2 hle2 hfr2 => ?_
  have hfrom : E.RdF ρ2.blk E.encI 1 AF (ON.map (fun x => (x.1 : Int))) := (E.arr_frozen (enc := E.encI) (ys := ON.map (fun x => (x.1 : Int))) (fun _ => rfl) hfr1 (by rw [List.length_map])).mono hle2.blk
  have hplace : E.RdF ρ2.blk E.encI 1 (some ⟨g2_3, 0, none⟩) P1 := E.arr_frozen (enc := E.encI) (fun _ => rfl) hfr2 hPl.symm
  have hcode2 := (hcode.mono hle1.blk).mono hle2.blk
  refine E.Run.seqCut (fun L' ρ' M' => ∃ A1 c1, E.SubEnv [(5, .slice A1 ON.length c1)] L' ∧ E.Ent ρ' M' ρ2 (E.arr 44 4 A1 ON.length c1 ((ON.map (fixN code g)).flatMap E.encIns) :: M)) ?_ ?_
  · (repeat refine E.Run.seq ?_)
    refine E.Run.region ?_
    refine E.Ops.q _ (E.q_move rfl rfl) rfl rfl ?_
    refine E.Ops.q _ (E.q_lenSlice rfl Try.underlying45) rfl rfl ?_
    refine E.Ops.q _ (E.q_move rfl rfl) rfl rfl ?_
    refine E.Ops.nil ?_
    try simp only [E.tn, E.tx, E.tr, E.bn, E.br, E.bs]
    (repeat refine E.Run.seq ?_); refine E.Run.block ?_
    (repeat refine E.Run.seq ?_); refine E.Run.loopS (fun (x : List (Nat × E.Ins) × List (Nat × E.Ins)) => [(0, .slice cA code.length cc), (5, .slice AO ON.length CO), (6, .slice (some ⟨g2_3, 0, none⟩) (code.length + 1) (code.length + 1)), (7, .slice AF ON.length CF), (56, .int .i64 ON.length), (57, .int .i64 x.1.length)]) ρ2 (fun x => E.arr 44 4 AO ON.length CO ((x.1.map (fixN code g) ++ x.2.map (·.2)).flatMap E.encIns) :: M)
      (fun x => ON = x.1 ++ x.2) (fun x => x.2.length) ([], ON) rfl (by ((repeat refine E.SubEnv.cons rfl ?_); exact E.SubEnv.nil _)) (by exact E.Ent.of E.entA) ?_
    rintro ⟨done, rest⟩ hON
    simp only at hON ⊢
    (repeat refine E.Run.seq ?_)
    refine E.Run.region ?_
    refine E.Ops.q _ (E.q_lss rfl rfl rfl) rfl rfl ?_
    refine E.Ops.nil ?_
    try simp only [E.tn, E.tx, E.tr, E.bn, E.br, E.bs]
    (repeat refine E.Run.seq ?_); refine E.Run.condD rfl (fun h16 => ?_) (fun h16 => ?_)
    · obtain ⟨⟨q, y⟩, rest, rfl⟩ : ∃ x r, rest = x :: r := by
        cases rest with
        | nil => rw [hON, List.append_nil] at h16; omega
        | cons x r => exact ⟨x, r, rfl⟩
      obtain ⟨hx1, hx2⟩ := hmem (q, y) (by rw [hON]; simp)
      simp only at hx1 hx2
      have hjl : done.length < (ON.map (fun x => (x.1 : Int))).length := by rw [List.length_map, hON]; simp
      have hjN : done.length < ON.length := by rw [hON]; simp
      obtain ⟨adf, hAF, _, hfm⟩ := E.RdF.at hfrom hjl
      subst hAF
      obtain ⟨adc, hcA, _, hcm⟩ := E.RdF.at hcode2 hx1
      subst hcA
      have hf0 : E.cellOf ρ2.blk (adf.add (done.length * 1)) = some (.int .i64 (q : Int)) := by
        have h1 := hfm 0 _ rfl
        have h2 : (ON.map (fun x => (x.1 : Int)))[done.length] = (q : Int) := by simp [hON]
        rw [h2] at h1; exact h1
      have hfix : fixN code g (q, y) = if y.op = 14 ∧ (code[q].op = 14 ∨ code[q].op = 15) then { y with a := placeN code g y.a.toNat }
          else if y.op = 15 ∧ code[q].op = 15 then { y with b := placeN code g y.b.toNat } else y := by
        unfold fixN; rw [List.getElem?_eq_getElem hx1]; rfl
      have hjump := hg.jump q hx1 y hx2
      have hzero := hg.zero q hx1 y hx2
      generalize hcq : code[q] = cq at *
      refine E.Run.arrSome E.ixA (by omega) fun gO hgO hcapO => ?_
      subst hgO
      have hY : (done.map (fixN code g) ++ ((q, y) :: rest).map (·.2))[done.length]? = some y := by simp
      have e0 := E.flatMap_at (enc := E.encIns) (sz := 4) (fun _ => rfl) _ _ y hY 0 _ rfl
      have e1 := E.flatMap_at (enc := E.encIns) (sz := 4) (fun _ => rfl) _ _ y hY 1 _ rfl
      have e2 := E.flatMap_at (enc := E.encIns) (sz := 4) (fun _ => rfl) _ _ y hY 2 _ rfl
      refine E.Run.skip ?_
      try simp only [E.tn, E.tx, E.tr, E.bn, E.br, E.bs]
      refine E.Run.seqCut (fun L' ρ' M' => ∃ y', y' = fixN code g (q, y) ∧ E.SubEnv [(0, .slice (some adc) code.length cc), (5, .slice (some ⟨gO, 0, none⟩) ON.length CO), (6, .slice (some ⟨g2_3, 0, none⟩) (code.length + 1) (code.length + 1)), (7, .slice (some adf) ON.length CF), (56, .int .i64 ON.length), (57, .int .i64 done.length)] L' ∧ E.Ent ρ' M' ρ2 (E.arr 44 4 (some ⟨gO, 0, none⟩) ON.length CO (((done.map (fixN code g) ++ ((q, y) :: rest).map (·.2)).set done.length y').flatMap E.encIns) :: M)) ?_ ?_
      · (repeat refine E.Run.seq ?_); refine E.Run.block ?_
        (repeat refine E.Run.seq ?_)
        refine E.Run.region ?_
        refine E.Ops.q _ (E.q_move rfl rfl) rfl rfl ?_
        refine E.Ops.q _ (E.q_mv rfl rfl) rfl rfl ?_
        refine E.Ops.nil ?_
        try simp only [E.tn, E.tx, E.tr, E.bn, E.br, E.bs]
        (repeat refine E.Run.seq ?_)
        refine E.Run.region ?_
        refine E.Ops.q _ (E.q_move rfl rfl) rfl rfl ?_
        refine E.Ops.q _ (E.q_move rfl rfl) rfl rfl ?_
        refine E.Ops.q _ (E.q_move rfl rfl) rfl rfl ?_
        first | refine E.Ops.q _ (E.q_indexNat rfl rfl rfl so_23 (by first | assumption | omega)) rfl rfl ?_ | refine E.Ops.q _ (E.q_indexAddr rfl rfl rfl so_23 (by omega) (by omega)) rfl rfl ?_
        refine E.Ops.q _ (E.q_load rfl rfl (by exact E.LoadAt.ro sc_3 hf0)) rfl rfl ?_
        first | refine E.Ops.q _ (E.q_indexNat rfl rfl rfl so_45 (by first | assumption | omega)) rfl rfl ?_ | refine E.Ops.q _ (E.q_indexAddr rfl rfl rfl so_45 (by omega) (by omega)) rfl rfl ?_
        first | refine E.Ops.q _ (E.q_fieldAddr' rfl rfl fo_44_0) rfl rfl ?_ | refine E.Ops.q _ (E.q_fieldAddr rfl rfl fo_44_0) rfl rfl ?_
        refine E.Ops.q _ (E.q_load rfl rfl (by exact E.LoadAt.ro sc_3 (hcm 0 _ rfl))) rfl rfl ?_
        refine E.Ops.q _ (E.q_mv rfl rfl) rfl rfl ?_
        refine E.Ops.nil ?_
        try simp only [E.tn, E.tx, E.tr, E.bn, E.br, E.bs]
        (repeat refine E.Run.seq ?_)
        refine E.Run.region ?_
        refine E.Ops.q _ (E.q_move rfl rfl) rfl rfl ?_
        refine E.Ops.q _ (E.q_move rfl rfl) rfl rfl ?_
        first | refine E.Ops.q _ (E.q_indexNat rfl rfl rfl so_45 (by first | assumption | omega)) rfl rfl ?_ | refine E.Ops.q _ (E.q_indexAddr rfl rfl rfl so_45 (by omega) (by omega)) rfl rfl ?_
        refine E.Ops.q _ (E.q_mv rfl rfl) rfl rfl ?_
        refine E.Ops.nil ?_
        try simp only [E.tn, E.tx, E.tr, E.bn, E.br, E.bs]
        refine E.Run.seqCut (fun L' ρ' M' => E.SubEnv [(0, .slice (some adc) code.length cc), (5, .slice (some ⟨gO, 0, none⟩) ON.length CO), (6, .slice (some ⟨g2_3, 0, none⟩) (code.length + 1) (code.length + 1)), (7, .slice (some adf) ON.length CF), (11, .int .i64 cq.op), (12, .pointer (some ((⟨gO, 0, none⟩ : Addr).add (done.length * 4)))), (56, .int .i64 ON.length), (57, .int .i64 done.length), (83, .bool (decide (y.op = 14 ∧ (cq.op = 14 ∨ cq.op = 15))))] L' ∧ E.Ent ρ' M' ρ2 (E.arr 44 4 (some ⟨gO, 0, none⟩) ON.length CO ((done.map (fixN code g) ++ ((q, y) :: rest).map (·.2)).flatMap E.encIns) :: M)) ?_ ?_
        · (repeat refine E.Run.seq ?_)
          refine E.Run.region ?_
          refine E.Ops.q _ (E.q_move rfl rfl) rfl rfl ?_
          refine E.Ops.q _ (E.q_nilCheck rfl rfl) rfl rfl ?_
          first | refine E.Ops.q _ (E.q_fieldAddr' rfl rfl fo_44_0) rfl rfl ?_ | refine E.Ops.q _ (E.q_fieldAddr rfl rfl fo_44_0) rfl rfl ?_
          refine E.Ops.q _ (E.q_load rfl rfl (by exact E.LoadAt.arr2 E.ixA sc_3 e0)) rfl rfl ?_
          refine E.Ops.part (E.q_eql rfl rfl rfl) rfl rfl (fun h20_4 => ?T1) (fun h20_4 => ?F1)
          case' F1 =>
            refine E.Ops.q _ (E.q_move rfl rfl) rfl rfl ?_
            refine E.Ops.skip rfl rfl ?_
            refine E.Ops.skip rfl rfl ?_
            refine E.Ops.skip rfl rfl ?_
            refine E.Ops.skip rfl rfl ?_
            refine E.Ops.skip rfl rfl ?_
            refine E.Ops.skip rfl rfl ?_
            refine E.Ops.q _ (E.q_pickF rfl rfl rfl) rfl rfl ?_
            refine E.Ops.nil ?_
            try simp only [E.tn, E.tx, E.tr, E.bn, E.br, E.bs]
          case' T1 =>
            refine E.Ops.q _ (E.q_move rfl rfl) rfl rfl ?_
            refine E.Ops.q _ (E.q_move rfl rfl) rfl rfl ?_
            refine E.Ops.part (E.q_eql rfl rfl rfl) rfl rfl (fun h20_7 => ?T2) (fun h20_7 => ?F2)
            case' F2 =>
              refine E.Ops.q _ (E.q_move rfl rfl) rfl rfl ?_
              refine E.Ops.q _ (E.q_move rfl rfl) rfl rfl ?_
              refine E.Ops.q _ (E.q_eql rfl rfl rfl) rfl rfl ?_
              refine E.Ops.q _ (E.q_pickF rfl rfl rfl) rfl rfl ?_
              refine E.Ops.q _ (E.q_pickT rfl rfl rfl) rfl rfl ?_
              refine E.Ops.nil ?_
              try simp only [E.tn, E.tx, E.tr, E.bn, E.br, E.bs]
            case' T2 =>
              refine E.Ops.q _ (E.q_move rfl rfl) rfl rfl ?_
              refine E.Ops.skip rfl rfl ?_
              refine E.Ops.skip rfl rfl ?_
              refine E.Ops.q _ (E.q_pickT rfl rfl rfl) rfl rfl ?_
              refine E.Ops.q _ (E.q_pickT rfl rfl rfl) rfl rfl ?_
              refine E.Ops.nil ?_
              try simp only [E.tn, E.tx, E.tr, E.bn, E.br, E.bs]
          · exact ⟨by rw [decide_eq_true (p := y.op = 14 ∧ (cq.op = 14 ∨ cq.op = 15)) (by omega)]; ((repeat refine E.SubEnv.cons rfl ?_); exact E.SubEnv.nil _), by exact E.Ent.of E.entA⟩
          · exact ⟨by rw [show decide (y.op = 14 ∧ (cq.op = 14 ∨ cq.op = 15)) = decide (cq.op = 15) from decide_eq_decide.2 (by omega)]; ((repeat refine E.SubEnv.cons rfl ?_); exact E.SubEnv.nil _), by exact E.Ent.of E.entA⟩
          · exact ⟨by rw [decide_eq_false (p := y.op = 14 ∧ (cq.op = 14 ∨ cq.op = 15)) (by omega)]; ((repeat refine E.SubEnv.cons rfl ?_); exact E.SubEnv.nil _), by exact E.Ent.of E.entA⟩
        rintro L5 ρ5 M5 ⟨hs, he⟩
        refine E.Run.sub hs (E.Run.ent he ?_)
        clear hs he
        (repeat refine E.Run.seq ?_); refine E.Run.condD rfl (fun h83 => ?_) (fun h83 => ?_)
        · rw [if_pos h83] at hfix
          obtain ⟨m, hm⟩ := Int.eq_ofNat_of_zero_le (hjump h83.1 h83.2).1
          have hm1 : m < P1.length := by rw [hPl]; have := (hjump h83.1 h83.2).2; omega
          obtain ⟨adp, hadp, _, hpm⟩ := E.RdF.at hplace hm1
          cases hadp
          have hp0 : E.cellOf ρ2.blk ((⟨g2_3, 0, none⟩ : Addr).add (m * 1)) = some (.int .i64 (placeN code g m)) := by
            have h1 := hpm 0 _ rfl
            have h2 := hP' m (by rw [hPl] at hm1; omega)
            rw [List.getElem?_eq_getElem hm1, Option.some.injEq] at h2
            rw [h2] at h1; exact h1
          have hge : (done.map (fixN code g) ++ ((q, y) :: rest).map (·.2))[done.length]'(by simp) = y := by simp
          rw [hm] at e1
          (repeat refine E.Run.seq ?_)
          refine E.Run.region ?_
          refine E.Ops.q _ (E.q_move rfl rfl) rfl rfl ?_
          refine E.Ops.q _ (E.q_move rfl rfl) rfl rfl ?_
          refine E.Ops.q _ (E.q_move rfl rfl) rfl rfl ?_
          refine E.Ops.q _ (E.q_nilCheck rfl rfl) rfl rfl ?_
          first | refine E.Ops.q _ (E.q_fieldAddr' rfl rfl fo_44_1) rfl rfl ?_ | refine E.Ops.q _ (E.q_fieldAddr rfl rfl fo_44_1) rfl rfl ?_
          refine E.Ops.q _ (E.q_load rfl rfl (by exact E.LoadAt.arr2 E.ixA sc_3 e1)) rfl rfl ?_
          first | refine E.Ops.q _ (E.q_indexNat rfl rfl rfl so_23 (by first | assumption | omega)) rfl rfl ?_ | refine E.Ops.q _ (E.q_indexAddr rfl rfl rfl so_23 (by omega) (by omega)) rfl rfl ?_
          refine E.Ops.q _ (E.q_load rfl rfl (by exact E.LoadAt.ro sc_3 hp0)) rfl rfl ?_
          refine E.Ops.q _ (E.q_nilCheck rfl rfl) rfl rfl ?_
          first | refine E.Ops.q _ (E.q_fieldAddr' rfl rfl fo_44_1) rfl rfl ?_ | refine E.Ops.q _ (E.q_fieldAddr rfl rfl fo_44_1) rfl rfl ?_
          refine E.Ops.loud rfl rfl ?_
          refine E.l_storeField (enc := E.encIns) { y with a := placeN code g m } (fun _ => rfl) rfl rfl rfl E.ixA 1 sz_3 rfl (by rw [hON]; simp) (by simp) (by decide) (by rw [hge]; rfl) (by rfl) ?_
          refine E.Ops.nil ?_
          try simp only [E.tn, E.tx, E.tr, E.bn, E.br, E.bs]
          exact ⟨_, by rw [hfix, hm, Int.toNat_natCast], by ((repeat refine E.SubEnv.cons rfl ?_); exact E.SubEnv.nil _), by exact E.Ent.of E.entA⟩
        · rw [if_neg h83] at hfix
          refine E.Run.seqCut (fun L' ρ' M' => E.SubEnv [(0, .slice (some adc) code.length cc), (5, .slice (some ⟨gO, 0, none⟩) ON.length CO), (6, .slice (some ⟨g2_3, 0, none⟩) (code.length + 1) (code.length + 1)), (7, .slice (some adf) ON.length CF), (12, .pointer (some ((⟨gO, 0, none⟩ : Addr).add (done.length * 4)))), (56, .int .i64 ON.length), (57, .int .i64 done.length), (102, .bool (decide (y.op = 15 ∧ cq.op = 15)))] L' ∧ E.Ent ρ' M' ρ2 (E.arr 44 4 (some ⟨gO, 0, none⟩) ON.length CO ((done.map (fixN code g) ++ ((q, y) :: rest).map (·.2)).flatMap E.encIns) :: M)) ?_ ?_
          · (repeat refine E.Run.seq ?_)
            refine E.Run.region ?_
            refine E.Ops.q _ (E.q_move rfl rfl) rfl rfl ?_
            refine E.Ops.q _ (E.q_nilCheck rfl rfl) rfl rfl ?_
            first | refine E.Ops.q _ (E.q_fieldAddr' rfl rfl fo_44_0) rfl rfl ?_ | refine E.Ops.q _ (E.q_fieldAddr rfl rfl fo_44_0) rfl rfl ?_
            refine E.Ops.q _ (E.q_load rfl rfl (by exact E.LoadAt.arr2 E.ixA sc_3 e0)) rfl rfl ?_
            refine E.Ops.part (E.q_eql rfl rfl rfl) rfl rfl (fun h22_4 => ?T3) (fun h22_4 => ?F3)
            case' F3 =>
              refine E.Ops.q _ (E.q_move rfl rfl) rfl rfl ?_
              refine E.Ops.skip rfl rfl ?_
              refine E.Ops.skip rfl rfl ?_
              refine E.Ops.q _ (E.q_pickF rfl rfl rfl) rfl rfl ?_
              refine E.Ops.nil ?_
              try simp only [E.tn, E.tx, E.tr, E.bn, E.br, E.bs]
            case' T3 =>
              refine E.Ops.q _ (E.q_move rfl rfl) rfl rfl ?_
              refine E.Ops.q _ (E.q_move rfl rfl) rfl rfl ?_
              refine E.Ops.q _ (E.q_eql rfl rfl rfl) rfl rfl ?_
              refine E.Ops.q _ (E.q_pickT rfl rfl rfl) rfl rfl ?_
              refine E.Ops.nil ?_
              try simp only [E.tn, E.tx, E.tr, E.bn, E.br, E.bs]
            · exact ⟨by rw [show decide (y.op = 15 ∧ cq.op = 15) = decide (cq.op = 15) from decide_eq_decide.2 (by omega)]; ((repeat refine E.SubEnv.cons rfl ?_); exact E.SubEnv.nil _), by exact E.Ent.of E.entA⟩
            · exact ⟨by rw [decide_eq_false (p := y.op = 15 ∧ cq.op = 15) (by omega)]; ((repeat refine E.SubEnv.cons rfl ?_); exact E.SubEnv.nil _), by exact E.Ent.of E.entA⟩
          rintro L6 ρ6 M6 ⟨hs, he⟩
          refine E.Run.sub hs (E.Run.ent he ?_)
          clear hs he
          (repeat refine E.Run.seq ?_); refine E.Run.condD rfl (fun h102 => ?_) (fun h102 => ?_)
          · rw [if_pos h102] at hfix
            obtain ⟨m, hm⟩ := Int.eq_ofNat_of_zero_le (hzero h102.1 h102.2).1
            have hm1 : m < P1.length := by rw [hPl]; have := (hzero h102.1 h102.2).2; omega
            obtain ⟨adp, hadp, _, hpm⟩ := E.RdF.at hplace hm1
            cases hadp
            have hp0 : E.cellOf ρ2.blk ((⟨g2_3, 0, none⟩ : Addr).add (m * 1)) = some (.int .i64 (placeN code g m)) := by
              have h1 := hpm 0 _ rfl
              have h2 := hP' m (by rw [hPl] at hm1; omega)
              rw [List.getElem?_eq_getElem hm1, Option.some.injEq] at h2
              rw [h2] at h1; exact h1
            have hge : (done.map (fixN code g) ++ ((q, y) :: rest).map (·.2))[done.length]'(by simp) = y := by simp
            rw [hm] at e2
            (repeat refine E.Run.seq ?_)
            refine E.Run.region ?_
            refine E.Ops.q _ (E.q_move rfl rfl) rfl rfl ?_
            refine E.Ops.q _ (E.q_move rfl rfl) rfl rfl ?_
            refine E.Ops.q _ (E.q_move rfl rfl) rfl rfl ?_
            refine E.Ops.q _ (E.q_nilCheck rfl rfl) rfl rfl ?_
            first | refine E.Ops.q _ (E.q_fieldAddr' rfl rfl fo_44_2) rfl rfl ?_ | refine E.Ops.q _ (E.q_fieldAddr rfl rfl fo_44_2) rfl rfl ?_
            refine E.Ops.q _ (E.q_load rfl rfl (by exact E.LoadAt.arr2 E.ixA sc_3 e2)) rfl rfl ?_
            first | refine E.Ops.q _ (E.q_indexNat rfl rfl rfl so_23 (by first | assumption | omega)) rfl rfl ?_ | refine E.Ops.q _ (E.q_indexAddr rfl rfl rfl so_23 (by omega) (by omega)) rfl rfl ?_
            refine E.Ops.q _ (E.q_load rfl rfl (by exact E.LoadAt.ro sc_3 hp0)) rfl rfl ?_
            refine E.Ops.q _ (E.q_nilCheck rfl rfl) rfl rfl ?_
            first | refine E.Ops.q _ (E.q_fieldAddr' rfl rfl fo_44_2) rfl rfl ?_ | refine E.Ops.q _ (E.q_fieldAddr rfl rfl fo_44_2) rfl rfl ?_
            refine E.Ops.loud rfl rfl ?_
            refine E.l_storeField (enc := E.encIns) { y with b := placeN code g m } (fun _ => rfl) rfl rfl rfl E.ixA 1 sz_3 rfl (by rw [hON]; simp) (by simp) (by decide) (by rw [hge]; rfl) (by rfl) ?_
            refine E.Ops.nil ?_
            try simp only [E.tn, E.tx, E.tr, E.bn, E.br, E.bs]
            exact ⟨_, by rw [hfix, hm, Int.toNat_natCast], by ((repeat refine E.SubEnv.cons rfl ?_); exact E.SubEnv.nil _), by exact E.Ent.of E.entA⟩
          · rw [if_neg h102] at hfix
            refine E.Run.skip ?_
            try simp only [E.tn, E.tx, E.tr, E.bn, E.br, E.bs]
            refine ⟨y, hfix.symm, by ((repeat refine E.SubEnv.cons rfl ?_); exact E.SubEnv.nil _), ?_⟩
            rw [show (done.map (fixN code g) ++ ((q, y) :: rest).map (·.2)).set done.length y = done.map (fixN code g) ++ ((q, y) :: rest).map (·.2) from by simp [List.set_append]]
            exact E.Ent.of E.entA
      rintro L5 ρ5 M5 ⟨y', hy', hs, he⟩
      refine E.Run.sub hs (E.Run.ent he ?_)
      clear hs he
      (repeat refine E.Run.seq ?_)
      refine E.Run.region ?_
      first | refine E.Ops.q _ (E.q_incr rfl rfl (by omega)) rfl rfl ?_ | refine E.Ops.q _ (E.q_addFit rfl rfl rfl (by omega)) rfl rfl ?_ | refine E.Ops.q _ (E.q_add rfl rfl rfl) rfl rfl ?_
      refine E.Ops.q _ (E.q_move rfl rfl) rfl rfl ?_
      refine E.Ops.nil ?_
      try simp only [E.tn, E.tx, E.tr, E.bn, E.br, E.bs]
      refine ⟨(done ++ [(q, y)], rest), by simp only [List.append_assoc, List.singleton_append]; exact hON, by simp, ?_, ?_⟩
      · simp only [List.length_append, List.length_cons, List.length_nil]
        ((repeat refine E.SubEnv.cons rfl ?_); exact E.SubEnv.nil _)
      · simp only
        rw [show (done.map (fixN code g) ++ ((q, y) :: rest).map (·.2)).set done.length y' = (done ++ [(q, y)]).map (fixN code g) ++ rest.map (·.2) from by rw [hy']; simp [List.set_append]]
        exact E.Ent.of E.entA
    · refine E.Run.exit ?_
      try simp only [E.tn, E.tx, E.tr, E.bn, E.br, E.bs]
      have : rest = [] := by
        cases rest with
        | nil => rfl
        | cons x r => rw [hON, List.length_append, List.length_cons] at h16; omega
      subst this
      rw [List.append_nil] at hON
      rw [List.map_nil, List.append_nil, ← hON]
      exact ⟨AO, CO, by ((repeat refine E.SubEnv.cons rfl ?_); exact E.SubEnv.nil _), by exact E.Ent.of E.entA⟩
  rintro L ρ' M' ⟨A1, c1, hs, he⟩
  refine E.Run.sub hs (E.Run.ent he ?_)
  (repeat refine E.Run.seq ?_)
  refine E.Run.region ?_
  refine E.Ops.q _ (E.q_move rfl rfl) rfl rfl ?_
  refine E.Ops.q _ (E.q_mv rfl rfl) rfl rfl ?_
  refine E.Ops.nil ?_
  try simp only [E.tn, E.tx, E.tr, E.bn, E.br, E.bs]
  refine E.Run.ret ?_
  try simp only [E.tn, E.tx, E.tr, E.bn, E.br, E.bs]
  exact ⟨_, _, _, E.ResOk.one rfl rfl, (E.Ent.weak (hle1.trans hle2) _), hK A1 c1 _ (by rw [List.length_map])⟩
end Go.Proofs.Ythpgjbdacknkgaa
