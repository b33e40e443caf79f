/- sluicekeep.vast, walked. No statement of the seat in it. -/
import Derived.Test.YthpgjbdacknkgaaL4
import Derived.Test.YthpgjbdacknkgaaR1
set_option linter.unusedVariables false
set_option linter.unusedSimpArgs false
namespace Go.Proofs.Ythpgjbdacknkgaa
open Go
private theorem fo_25_0 : E.fieldOff Try.prog 25 0 = some 0 := by kernel_rfl
private theorem fo_25_1 : E.fieldOff Try.prog 25 1 = some 1 := by kernel_rfl
private theorem sc_22 : E.isScal Try.prog 22 = true := by kernel_rfl
private theorem sc_23 : E.isScal Try.prog 23 = true := by kernel_rfl
private theorem sc_45 : E.isScal Try.prog 45 = true := by kernel_rfl
private theorem so_22 : E.sliceOf Try.prog 22 = some (45, 1) := by kernel_rfl

theorem RdCode.thread {h : E.Hl} {A : Option Addr} {l : List (List E.Ins)} (H : RdCode h A l) {t : Nat} (ht : t < l.length) :
    ∃ ad, A = some ad ∧ ∃ A1 c1, E.cellOf h (ad.add (t * 1)) = some (.slice A1 l[t].length c1) ∧ E.RdF h E.encIns 4 A1 l[t] := by
  obtain ⟨ad, rfl, hh⟩ := E.RdS.at H ht
  obtain ⟨cs, ⟨A1, c1, rfl, h2⟩, _, h3⟩ := hh t _ (List.getElem?_eq_getElem ht)
  exact ⟨ad, rfl, A1, c1, h3 0 _ rfl, h2⟩
def lenAt (p : Prg) (t : Nat) : Nat := ((p.code[t]?).getD []).length
def sizeP (p : Prg) (t : Nat) : Nat := p.code.length + p.words.length + sumN (lenAt p) t
def vastS (p : Prg) : Bool := decide (sizeP p (min p.code.length 100) > 5000 ∨ p.code.length > 100)
theorem lenAt_eq {p : Prg} {t : Nat} (h : t < p.code.length) : lenAt p t = p.code[t].length := by unfold lenAt; rw [List.getElem?_eq_getElem h]; rfl
theorem sizeP_le {p : Prg} (h : ∀ c ∈ p.code, c.length ≤ 4398046511104) (t : Nat) : sumN (lenAt p) t ≤ t * 4398046511104 := by
  have := sumN_le (f := lenAt p) (g := fun _ => 4398046511104) (n := t) fun i _ => by
    unfold lenAt
    cases hc : p.code[i]? with
    | none => simp
    | some c => exact h c (List.mem_of_getElem? hc)
  rwa [sumN_const] at this
theorem sumN_ge {f : Nat → Nat} : ∀ {n j : Nat}, j < n → f j ≤ sumN f n
  | n + 1, j, h => by
    unfold sumN
    by_cases e : j = n
    · subst e; omega
    · have := sumN_ge (f := f) (n := n) (j := j) (by omega); omega
theorem vast_no {p : Prg} (h : vastS p = false) : p.code.length ≤ 100 ∧ p.words.length ≤ 5000 ∧ ∀ c ∈ p.code, c.length ≤ 5000 := by
  unfold vastS at h
  simp only [decide_eq_false_iff_not] at h
  have h1 : p.code.length ≤ 100 := by omega
  rw [Nat.min_eq_left h1] at h
  unfold sizeP at h
  refine ⟨h1, by omega, fun c hc => ?_⟩
  obtain ⟨j, hj, rfl⟩ := List.getElem_of_mem hc
  have := sumN_ge (f := lenAt p) hj
  rw [lenAt_eq hj] at this
  omega

set_option maxRecDepth 100000 in
theorem keepVast {ρ : E.Ro} {M : List E.Asr} {K : Value → E.Ro → List E.Asr → Prop} (A A' : Option Addr) (c c' : Nat) (p : Prg) (hp : PrgW ρ.blk A A' p) (hK : K (.bool (vastS p)) ρ M) :
    E.Hoa Try.prog 22 #[prgV A c A' c' p] ρ M K := by
  have hs1 := hp.small
  have hs2 := hp.smallW
  have hsum := sizeP_le hp.smalls
  refine E.Hoa.enter 39 Try.func22 rfl rfl rfl ?_
  (repeat refine E.Run.seq ?_)
  refine E.Run.region ?_
  refine E.Ops.loud rfl rfl ?_
  refine E.l_box rfl rfl (fun b0_0 => ?_)
  refine E.Ops.q _ (E.q_mv rfl rfl) rfl rfl ?_
  refine E.Ops.nil ?_
  try simp only [E.tn, E.tx, E.tr, E.bn, E.br, E.bs]
  (repeat refine E.Run.seq ?_)
  refine E.Run.region ?_
  first | refine E.Ops.q _ (E.q_fieldAddr' rfl rfl fo_25_0) rfl rfl ?_ | refine E.Ops.q _ (E.q_fieldAddr rfl rfl fo_25_0) rfl rfl ?_
  refine E.Ops.q _ (E.q_load rfl rfl (by first | refine E.LoadAt.own E.ixA sc_22 (by rfl) | exact E.LoadAt.ro sc_22 (by assumption) | exact E.LoadAt.arr E.ixA sc_22 (by assumption))) rfl rfl ?_
  refine E.Ops.q _ (E.q_lenSlice rfl Try.underlying22) rfl rfl ?_
  first | refine E.Ops.q _ (E.q_fieldAddr' rfl rfl fo_25_1) rfl rfl ?_ | refine E.Ops.q _ (E.q_fieldAddr rfl rfl fo_25_1) rfl rfl ?_
  refine E.Ops.q _ (E.q_load rfl rfl (by first | refine E.LoadAt.own E.ixA sc_23 (by rfl) | exact E.LoadAt.ro sc_23 (by assumption) | exact E.LoadAt.arr E.ixA sc_23 (by assumption))) rfl rfl ?_
  refine E.Ops.q _ (E.q_lenSlice rfl Try.underlying23) rfl rfl ?_
  first | refine E.Ops.q _ (E.q_incr rfl rfl (by omega)) rfl rfl ?_ | refine E.Ops.q _ (E.q_addFit rfl rfl rfl (by omega)) rfl rfl ?_ | refine E.Ops.q _ (E.q_add rfl rfl rfl) rfl rfl ?_
  refine E.Ops.q _ (E.q_mv rfl rfl) rfl rfl ?_
  refine E.Ops.nil ?_
  try simp only [E.tn, E.tx, E.tr, E.bn, E.br, E.bs]
  refine E.Run.seqCut (fun L' ρ' M' => E.SubEnv [(1, .pointer (some ⟨b0_0, 0, none⟩)), (3, .int .i64 (sizeP p (min p.code.length 100)))] L' ∧ E.Ent ρ' M' ρ (E.pt b0_0 25 [.slice A p.code.length c, .slice A' p.words.length c', .int .i64 p.locks, .int .i64 p.regs] :: M)) ?_ ?_
  · (repeat refine E.Run.seq ?_)
    refine E.Run.region ?_
    refine E.Ops.q _ (E.q_mv rfl rfl) rfl rfl ?_
    refine E.Ops.nil ?_
    try simp only [E.tn, E.tx, E.tr, E.bn, E.br, E.bs]
    (repeat refine E.Run.seq ?_); refine E.Run.block ?_
    (repeat refine E.Run.seq ?_); refine E.Run.loopS (fun (t : Nat) => [(1, .pointer (some ⟨b0_0, 0, none⟩)), (3, .int .i64 (sizeP p t)), (4, .int .i64 t)]) ρ (fun t => E.pt b0_0 25 [.slice A p.code.length c, .slice A' p.words.length c', .int .i64 p.locks, .int .i64 p.regs] :: M)
      (fun t => t ≤ min p.code.length 100) (fun t => min p.code.length 100 - t) 0 (Nat.zero_le _) (by
        rw [show (sizeP p 0 : Int) = (p.code.length : Int) + p.words.length from by unfold sizeP sumN; omega]
        ((repeat refine E.SubEnv.cons rfl ?_); exact E.SubEnv.nil _)) (by exact E.Ent.of E.entA) ?_
    intro t ht
    have hst := hsum t
    refine E.Run.seqCut (fun L' ρ' M' => t < min p.code.length 100 ∧ E.SubEnv [(1, .pointer (some ⟨b0_0, 0, none⟩)), (3, .int .i64 (sizeP p t)), (4, .int .i64 t)] L' ∧ E.Ent ρ' M' ρ (E.pt b0_0 25 [.slice A p.code.length c, .slice A' p.words.length c', .int .i64 p.locks, .int .i64 p.regs] :: M)) ?_ ?_
    · refine E.Run.seqCut (fun L' ρ' M' => E.SubEnv [(1, .pointer (some ⟨b0_0, 0, none⟩)), (3, .int .i64 (sizeP p t)), (4, .int .i64 t), (20, .bool (decide (t < min p.code.length 100)))] L' ∧ E.Ent ρ' M' ρ (E.pt b0_0 25 [.slice A p.code.length c, .slice A' p.words.length c', .int .i64 p.locks, .int .i64 p.regs] :: M)) ?_ ?_
      · (repeat refine E.Run.seq ?_)
        refine E.Run.region ?_
        refine E.Ops.q _ (E.q_move rfl rfl) rfl rfl ?_
        first | refine E.Ops.q _ (E.q_fieldAddr' rfl rfl fo_25_0) rfl rfl ?_ | refine E.Ops.q _ (E.q_fieldAddr rfl rfl fo_25_0) rfl rfl ?_
        refine E.Ops.q _ (E.q_load rfl rfl (by first | refine E.LoadAt.own E.ixA sc_22 (by rfl) | exact E.LoadAt.ro sc_22 (by assumption) | exact E.LoadAt.arr E.ixA sc_22 (by assumption))) rfl rfl ?_
        refine E.Ops.q _ (E.q_lenSlice rfl Try.underlying22) rfl rfl ?_
        refine E.Ops.part (E.q_lss rfl rfl rfl) rfl rfl (fun h1 => ?T1) (fun h1 => ?F1)
        case' F1 =>
          refine E.Ops.q _ (E.q_move rfl rfl) rfl rfl ?_
          refine E.Ops.skip rfl rfl ?_
          refine E.Ops.skip rfl rfl ?_
          refine E.Ops.q _ (E.q_pickF rfl rfl rfl) rfl rfl ?_
          refine E.Ops.nil ?_
          try simp only [E.tn, E.tx, E.tr, E.bn, E.br, E.bs]
        case' T1 =>
          refine E.Ops.q _ (E.q_move rfl rfl) rfl rfl ?_
          refine E.Ops.q _ (E.q_move rfl rfl) rfl rfl ?_
          refine E.Ops.part (E.q_lss rfl rfl rfl) rfl rfl (fun h2 => ?T2) (fun h2 => ?F2)
          case' F2 =>
            refine E.Ops.q _ (E.q_pickT rfl rfl rfl) rfl rfl ?_
            refine E.Ops.nil ?_
            try simp only [E.tn, E.tx, E.tr, E.bn, E.br, E.bs]
          case' T2 =>
            refine E.Ops.q _ (E.q_pickT rfl rfl rfl) rfl rfl ?_
            refine E.Ops.nil ?_
            try simp only [E.tn, E.tx, E.tr, E.bn, E.br, E.bs]
        all_goals first
          | exact ⟨by rw [decide_eq_true (by omega)]; ((repeat refine E.SubEnv.cons rfl ?_); exact E.SubEnv.nil _), by exact E.Ent.of E.entA⟩
          | exact ⟨by rw [decide_eq_false (by omega)]; ((repeat refine E.SubEnv.cons rfl ?_); exact E.SubEnv.nil _), by exact E.Ent.of E.entA⟩
      rintro L1 ρ1 M1 ⟨hs, he⟩
      refine E.Run.sub hs (E.Run.ent he ?_)
      clear hs he
      (repeat refine E.Run.seq ?_); refine E.Run.condD rfl (fun h => ?_) (fun h => ?_)
      · refine E.Run.skip ?_
        try simp only [E.tn, E.tx, E.tr, E.bn, E.br, E.bs]
        exact ⟨h, by ((repeat refine E.SubEnv.cons rfl ?_); exact E.SubEnv.nil _), by exact E.Ent.of E.entA⟩
      · refine E.Run.exit ?_
        try simp only [E.tn, E.tx, E.tr, E.bn, E.br, E.bs]
        have : t = min p.code.length 100 := by omega
        subst this
        exact ⟨by ((repeat refine E.SubEnv.cons rfl ?_); exact E.SubEnv.nil _), by exact E.Ent.of E.entA⟩
    rintro L1 ρ1 M1 ⟨h, hs, he⟩
    refine E.Run.sub hs (E.Run.ent he ?_)
    clear hs he
    have ht' : t < p.code.length := by omega
    obtain ⟨ad, rfl, A1, c1, hcell, _⟩ := hp.code.thread ht'
    have hlt := hp.smalls _ (List.getElem_mem ht')
    have hsz : sizeP p (t + 1) = sizeP p t + p.code[t].length := by unfold sizeP; rw [sumN, lenAt_eq ht']; omega
    have hsb : sizeP p t ≤ 140737488351232 * 2 + 100 * 4398046511104 := by unfold sizeP; omega
    (repeat refine E.Run.seq ?_); refine E.Run.block ?_
    (repeat refine E.Run.seq ?_)
    refine E.Run.region ?_
    refine E.Ops.q _ (E.q_move rfl rfl) rfl rfl ?_
    first | refine E.Ops.q _ (E.q_fieldAddr' rfl rfl fo_25_0) rfl rfl ?_ | refine E.Ops.q _ (E.q_fieldAddr rfl rfl fo_25_0) rfl rfl ?_
    refine E.Ops.q _ (E.q_load rfl rfl (by first | refine E.LoadAt.own E.ixA sc_22 (by rfl) | exact E.LoadAt.ro sc_22 (by assumption) | exact E.LoadAt.arr E.ixA sc_22 (by assumption))) rfl rfl ?_
    refine E.Ops.q _ (E.q_move rfl rfl) rfl rfl ?_
    first | refine E.Ops.q _ (E.q_indexNat rfl rfl rfl so_22 (by first | assumption | omega)) rfl rfl ?_ | refine E.Ops.q _ (E.q_indexAddr rfl rfl rfl so_22 (by omega) (by omega)) rfl rfl ?_
    refine E.Ops.q _ (E.q_load rfl rfl (by exact E.LoadAt.ro sc_45 hcell)) rfl rfl ?_
    refine E.Ops.q _ (E.q_lenSlice rfl Try.underlying45) rfl rfl ?_
    first | refine E.Ops.q _ (E.q_incr rfl rfl (by omega)) rfl rfl ?_ | refine E.Ops.q _ (E.q_addFit rfl rfl rfl (by omega)) rfl rfl ?_ | refine E.Ops.q _ (E.q_add rfl rfl rfl) rfl rfl ?_
    refine E.Ops.q _ (E.q_mv rfl rfl) rfl rfl ?_
    refine E.Ops.nil ?_
    try simp only [E.tn, E.tx, E.tr, E.bn, E.br, E.bs]
    (repeat refine E.Run.seq ?_)
    refine E.Run.region ?_
    refine E.Ops.q _ (E.q_move rfl rfl) rfl rfl ?_
    first | refine E.Ops.q _ (E.q_incr rfl rfl (by omega)) rfl rfl ?_ | refine E.Ops.q _ (E.q_addFit rfl rfl rfl (by omega)) rfl rfl ?_ | refine E.Ops.q _ (E.q_add rfl rfl rfl) rfl rfl ?_
    refine E.Ops.q _ (E.q_mv rfl rfl) rfl rfl ?_
    refine E.Ops.nil ?_
    try simp only [E.tn, E.tx, E.tr, E.bn, E.br, E.bs]
    exact ⟨t + 1, by omega, by omega, by rw [show ((sizeP p (t + 1) : Nat) : Int) = (sizeP p t : Int) + (p.code[t].length : Int) from by omega]; ((repeat refine E.SubEnv.cons rfl ?_); exact E.SubEnv.nil _), by exact E.Ent.of E.entA⟩
  rintro L1 ρ1 M1 ⟨hs, he⟩
  refine E.Run.sub hs (E.Run.ent he ?_)
  clear hs he
  unfold vastS at hK
  refine E.Run.seqCut (fun L' ρ' M' => E.SubEnv [(2, .bool (decide (sizeP p (min p.code.length 100) > 5000 ∨ p.code.length > 100)))] L' ∧ E.Ent ρ' M' ρ M) ?_ ?_
  · (repeat refine E.Run.seq ?_)
    refine E.Run.region ?_
    refine E.Ops.q _ (E.q_move rfl rfl) rfl rfl ?_
    refine E.Ops.part (E.q_gtr rfl rfl rfl) rfl rfl (fun h1 => ?T3) (fun h1 => ?F3)
    case' F3 =>
      refine E.Ops.q _ (E.q_move rfl rfl) rfl rfl ?_
      first | refine E.Ops.q _ (E.q_fieldAddr' rfl rfl fo_25_0) rfl rfl ?_ | refine E.Ops.q _ (E.q_fieldAddr rfl rfl fo_25_0) rfl rfl ?_
      refine E.Ops.q _ (E.q_load rfl rfl (by first | refine E.LoadAt.own E.ixA sc_22 (by rfl) | exact E.LoadAt.ro sc_22 (by assumption) | exact E.LoadAt.arr E.ixA sc_22 (by assumption))) rfl rfl ?_
      refine E.Ops.q _ (E.q_lenSlice rfl Try.underlying22) rfl rfl ?_
      refine E.Ops.part (E.q_gtr rfl rfl rfl) rfl rfl (fun h2 => ?T4) (fun h2 => ?F4)
      case' F4 =>
        refine E.Ops.q _ (E.q_pickF rfl rfl rfl) rfl rfl ?_
        refine E.Ops.q _ (E.q_mv rfl rfl) rfl rfl ?_
        refine E.Ops.nil ?_
        try simp only [E.tn, E.tx, E.tr, E.bn, E.br, E.bs]
      case' T4 =>
        refine E.Ops.q _ (E.q_pickF rfl rfl rfl) rfl rfl ?_
        refine E.Ops.q _ (E.q_mv rfl rfl) rfl rfl ?_
        refine E.Ops.nil ?_
        try simp only [E.tn, E.tx, E.tr, E.bn, E.br, E.bs]
    case' T3 =>
      refine E.Ops.q _ (E.q_move rfl rfl) rfl rfl ?_
      refine E.Ops.skip rfl rfl ?_
      refine E.Ops.skip rfl rfl ?_
      refine E.Ops.skip rfl rfl ?_
      refine E.Ops.skip rfl rfl ?_
      refine E.Ops.q _ (E.q_pickT rfl rfl rfl) rfl rfl ?_
      refine E.Ops.q _ (E.q_mv rfl rfl) rfl rfl ?_
      refine E.Ops.nil ?_
      try simp only [E.tn, E.tx, E.tr, E.bn, E.br, E.bs]
    all_goals first
      | exact ⟨by rw [decide_eq_true (by omega)]; ((repeat refine E.SubEnv.cons rfl ?_); exact E.SubEnv.nil _), by exact E.Ent.of E.entA⟩
      | exact ⟨by rw [decide_eq_false (by omega)]; ((repeat refine E.SubEnv.cons rfl ?_); exact E.SubEnv.nil _), by exact E.Ent.of E.entA⟩
  rintro L1 ρ1 M1 ⟨hs, he⟩
  refine E.Run.sub hs (E.Run.ent he ?_)
  clear hs he
  refine E.Run.ret ?_
  try simp only [E.tn, E.tx, E.tr, E.bn, E.br, E.bs]
  exact ⟨_, _, _, E.ResOk.one rfl rfl, E.Ent.of E.entA, hK⟩
end Go.Proofs.Ythpgjbdacknkgaa
