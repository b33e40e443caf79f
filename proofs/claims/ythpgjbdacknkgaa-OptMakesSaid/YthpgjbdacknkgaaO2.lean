/- maps.Equal, opt.reckon, walked. No statement of the seat in it. -/
import Derived.Test.YthpgjbdacknkgaaO1
set_option linter.unusedVariables false
set_option linter.unusedSimpArgs false
namespace Go.Proofs.Ythpgjbdacknkgaa
open Go
private theorem ag_172 : E.isAggOf Try.prog 172 2 = true := by kernel_rfl
private theorem ik_170 : E.isIntKey Try.prog 170 = some 172 := by kernel_rfl
private theorem ist_172 : E.intStruct Try.prog 172 = some 2 := by kernel_rfl
private theorem sz_172 : (Try.prog.info? 172).map (·.size) = some 2 := by kernel_rfl
private theorem ty_172 : E.tyOf Try.prog 172 = some (some (.agg #[.int .i64 0, .int .i64 0]), 2, 16) := by kernel_rfl

/-- registers' values, R of them -/
def envG (R : Nat) (V : Int → Vl) : Int → Option Value := fun k => if 0 ≤ k ∧ k < R then some (vlV (V k)) else none
theorem envG_in {R : Nat} {V : Int → Vl} {k : Int} (h : 0 ≤ k ∧ k < R) : envG R V k = some (vlV (V k)) := if_pos h
theorem envG_some {R : Nat} {V : Int → Vl} {k : Int} {v : Value} (h : envG R V k = some v) : (0 ≤ k ∧ k < R) ∧ v = vlV (V k) := by
  unfold envG at h
  by_cases hk : 0 ≤ k ∧ k < R
  · rw [if_pos hk] at h; exact ⟨hk, by cases h; rfl⟩
  · rw [if_neg hk] at h; cases h
def updE (V : Int → Vl) (k : Int) (v : Vl) : Int → Vl := fun j => if j = k then v else V j
theorem envG_upd {R : Nat} {V : Int → Vl} {k : Int} {v : Vl} (h : 0 ≤ k ∧ k < R) : E.updG (envG R V) k (vlV v) = envG R (updE V k v) := by
  funext j
  unfold E.updG envG updE
  by_cases hj : j = k
  · subst hj; rw [if_pos rfl, if_pos h, if_pos rfl]
  · rw [if_neg hj, if_neg hj]
def eqE (R : Nat) (V V' : Int → Vl) : Bool := (List.range R).all fun k => decide (V k = V' k)
theorem eqE_iff {R : Nat} {V V' : Int → Vl} : eqE R V V' = true ↔ ∀ k : Int, 0 ≤ k → k < R → V k = V' k := by
  unfold eqE
  rw [List.all_eq_true]
  constructor
  · intro h k h0 h1
    have := h k.toNat (List.mem_range.2 (by omega))
    rw [decide_eq_true_eq] at this
    rwa [Int.toNat_of_nonneg h0] at this
  · intro h k hk
    rw [decide_eq_true_eq]
    exact h k (by omega) (by have := List.mem_range.1 hk; omega)

section
variable {P : Program} {L : E.Env} {ρ : E.Ro} {M : List E.Asr} {o : Oper}
theorem q_lookupOkE {t e : TypeId} {m x : Operand} {b n R : Nat} {V : Int → Vl} {k : Int} {z : Value} {sz by' : Nat} (hk : E.GIs ρ M b n (envG R V)) (h : 0 ≤ k ∧ k < R) (ho : o.op = .lookup t m x true) (hm : E.ev L m = some (.map (some b))) (hx : E.ev L x = some (.int .i64 k))
    (ht : E.isIntKey P t = some e) (hz : E.tyOf P e = some (some z, sz, by')) : E.QOp P L ρ M o (.tuple #[vlV (V k), .bool true]) := by
  have := E.q_lookupOkG ho hm hx hk ht hz
  rw [envG_in h] at this; exact this
theorem q_lookupE {t e : TypeId} {m x : Operand} {b n R : Nat} {V : Int → Vl} {k : Int} {z : Value} {sz by' : Nat} (hk : E.GIs ρ M b n (envG R V)) (h : 0 ≤ k ∧ k < R) (ho : o.op = .lookup t m x false) (hm : E.ev L m = some (.map (some b))) (hx : E.ev L x = some (.int .i64 k))
    (ht : E.isIntKey P t = some e) (hz : E.tyOf P e = some (some z, sz, by')) : E.QOp P L ρ M o (vlV (V k)) := by
  have := E.q_lookupG ho hm hx hk ht hz
  rw [envG_in h] at this; exact this
end

set_option maxRecDepth 100000 in
theorem mapsEqual {ρ : E.Ro} {M : List E.Asr} {K : Value → E.Ro → List E.Asr → Prop} (b b' R : Nat) (V1 V2 : Int → Vl) (h1 : E.RoG ρ b R (envG R V1)) (h2 : E.RoG ρ b' R (envG R V2)) (hK : K (.bool (eqE R V1 V2)) ρ M) :
    E.Hoa Try.prog 135 #[.map (some b), .map (some b')] ρ M K := by
  obtain ⟨es, clock, hb, hg, hn⟩ := id h1
  refine E.Hoa.enter 34 Try.func135 rfl rfl rfl ?_
  (repeat refine E.Run.seq ?_)
  refine E.Run.region ?_
  refine E.Ops.q _ (E.q_mv rfl rfl) rfl rfl ?_
  refine E.Ops.nil ?_
  try simp only [E.tn, E.tx, E.tr, E.bn, E.br, E.bs]
  (repeat refine E.Run.seq ?_)
  refine E.Run.region ?_
  refine E.Ops.q _ (E.q_move rfl rfl) rfl rfl ?_
  first | refine E.Ops.q _ (E.q_lenMap rfl (E.GIs.own E.ixA) Try.underlying170) rfl rfl ?_ | refine E.Ops.q _ (E.q_lenMap rfl (E.GIs.ro (by assumption)) Try.underlying170) rfl rfl ?_
  refine E.Ops.q _ (E.q_move rfl rfl) rfl rfl ?_
  first | refine E.Ops.q _ (E.q_lenMap rfl (E.GIs.own E.ixA) Try.underlying170) rfl rfl ?_ | refine E.Ops.q _ (E.q_lenMap rfl (E.GIs.ro (by assumption)) Try.underlying170) rfl rfl ?_
  refine E.Ops.q _ (E.q_neq rfl rfl rfl) rfl rfl ?_
  refine E.Ops.nil ?_
  try simp only [E.tn, E.tx, E.tr, E.bn, E.br, E.bs]
  (repeat refine E.Run.seq ?_)
  (repeat refine E.Run.seq ?_); refine E.Run.condD rfl (fun hne => absurd rfl hne) (fun _ => ?_)
  refine E.Run.skip ?_
  try simp only [E.tn, E.tx, E.tr, E.bn, E.br, E.bs]
  (repeat refine E.Run.seq ?_)
  refine E.Run.region ?_
  refine E.Ops.q _ (E.q_move rfl rfl) rfl rfl ?_
  refine E.Ops.loud rfl rfl ?_
  refine E.l_range rfl rfl Try.underlying170 hb (fun bi => ?_)
  refine E.Ops.nil ?_
  try simp only [E.tn, E.tx, E.tr, E.bn, E.br, E.bs]
  (repeat refine E.Run.seq ?_)
  (repeat refine E.Run.seq ?_); refine E.Run.block ?_
  (repeat refine E.Run.seq ?_); refine E.Run.loopS (fun (done : List MapEntry) => [(1, .map (some b')), (15, .pointer (some ⟨bi, 0, none⟩))]) ρ (fun done => E.itr bi b clock done :: M)
    (fun done => (∀ e ∈ done, e ∈ es.toList) ∧ (done.map (·.born)).Nodup ∧ ∀ e ∈ done, ∀ k : Int, e.key = .int .i64 k → V1 k = V2 k) (fun done => es.toList.length - done.length) [] ⟨by simp, by simp, by simp⟩ (by ((repeat refine E.SubEnv.cons rfl ?_); exact E.SubEnv.nil _)) (by exact E.Ent.of E.entA) ?_
  rintro done ⟨hd1, hd2, hd3⟩
  (repeat refine E.Run.seq ?_)
  refine E.Run.region ?_
  refine E.Ops.loud rfl rfl ?_
  refine E.l_next rfl rfl E.ixA hb hg (fun hover => ?T1) (fun e he1 he2 => ?F1)
  case' F1 =>
    refine E.Ops.q _ (E.q_extract rfl rfl rfl) rfl rfl ?_
    refine E.Ops.nil ?_
    try simp only [E.tn, E.tx, E.tr, E.bn, E.br, E.bs]
  case' T1 =>
    refine E.Ops.q _ (E.q_extract rfl rfl rfl) rfl rfl ?_
    refine E.Ops.nil ?_
    try simp only [E.tn, E.tx, E.tr, E.bn, E.br, E.bs]
  · (repeat refine E.Run.seq ?_); refine E.Run.condF rfl ?_
    refine E.Run.exit ?_
    try simp only [E.tn, E.tx, E.tr, E.bn, E.br, E.bs]
    (repeat refine E.Run.seq ?_)
    refine E.Run.region ?_
    refine E.Ops.q _ (E.q_mv rfl rfl) rfl rfl ?_
    refine E.Ops.nil ?_
    try simp only [E.tn, E.tx, E.tr, E.bn, E.br, E.bs]
    rw [show eqE R V1 V2 = true from eqE_iff.2 fun k h0 h1 => by
      obtain ⟨e, he, hk, _⟩ := hg.all (envG_in ⟨h0, h1⟩)
      obtain ⟨e', he', hbo⟩ := List.mem_map.1 (hover e he)
      have : e' = e := E.born_inj hg.born (hd1 e' he') he hbo
      subst this
      exact hd3 e' he' k hk] at hK
    refine E.Run.ret ?_
    try simp only [E.tn, E.tx, E.tr, E.bn, E.br, E.bs]
    exact ⟨_, _, _, E.ResOk.one rfl rfl, E.Ent.of E.entA, hK⟩
  · obtain ⟨k, hkey, hval⟩ := hg.mem he1
    obtain ⟨hin, hval⟩ := envG_some hval
    obtain ⟨hlt, hd1', hd2'⟩ := E.done_lt hd1 hd2 he1 he2
    (repeat refine E.Run.seq ?_); refine E.Run.condT rfl ?_
    refine E.Run.skip ?_
    try simp only [E.tn, E.tx, E.tr, E.bn, E.br, E.bs]
    (repeat refine E.Run.seq ?_)
    (repeat refine E.Run.seq ?_); refine E.Run.block ?_
    (repeat refine E.Run.seq ?_)
    refine E.Run.region ?_
    refine E.Ops.q _ (E.q_entryKV rfl rfl E.ixA hb hg he1 hkey hval) rfl rfl ?_
    refine E.Ops.q _ (E.q_extract rfl rfl rfl) rfl rfl ?_
    refine E.Ops.q _ (E.q_extract rfl rfl rfl) rfl rfl ?_
    refine E.Ops.loud rfl rfl ?_
    refine E.l_alloc rfl ty_172 (fun b5_3 => ?_)
    refine E.Ops.q _ (E.q_mv rfl rfl) rfl rfl ?_
    refine E.Ops.loud rfl rfl ?_
    refine E.l_store rfl rfl rfl E.ixA 2 sz_172 (by rfl) (by rfl) (by rfl) (by rfl) ?_
    refine E.Ops.nil ?_
    try simp only [E.tn, E.tx, E.tr, E.bn, E.br, E.bs]
    (repeat refine E.Run.seq ?_)
    refine E.Run.region ?_
    refine E.Ops.q _ (E.q_move rfl rfl) rfl rfl ?_
    refine E.Ops.q _ (E.q_move rfl rfl) rfl rfl ?_
    refine E.Ops.q _ (q_lookupOkE (E.GIs.ro h2) hin rfl rfl rfl ik_170 ty_172) rfl rfl ?_
    refine E.Ops.q _ (E.q_move rfl rfl) rfl rfl ?_
    refine E.Ops.q _ (E.q_extract rfl rfl rfl) rfl rfl ?_
    refine E.Ops.q _ (E.q_extract rfl rfl rfl) rfl rfl ?_
    refine E.Ops.loud rfl rfl ?_
    refine E.l_alloc rfl ty_172 (fun b6_6 => ?_)
    refine E.Ops.loud rfl rfl ?_
    refine E.l_store rfl rfl rfl E.ixA 2 sz_172 (by rfl) (by rfl) (by rfl) (by rfl) ?_
    refine E.Ops.q _ (E.q_mv rfl rfl) rfl rfl ?_
    refine E.Ops.nil ?_
    try simp only [E.tn, E.tx, E.tr, E.bn, E.br, E.bs]
    (repeat refine E.Run.seq ?_)
    refine E.Run.region ?_
    refine E.Ops.q _ (E.q_move rfl rfl) rfl rfl ?_
    refine E.Ops.q _ (E.q_not rfl rfl) rfl rfl ?_
    refine E.Ops.q _ (E.q_move rfl rfl) rfl rfl ?_
    refine E.Ops.q _ (E.q_load rfl rfl (by first | refine E.LoadAt.ownAgg E.ixA 2 ag_172 (by rfl) (by rfl) | exact E.LoadAt.roAgg ag_172 (by assumption) rfl)) rfl rfl ?_
    refine E.Ops.q _ (E.q_load rfl rfl (by first | refine E.LoadAt.ownAgg E.ixA 2 ag_172 (by rfl) (by rfl) | exact E.LoadAt.roAgg ag_172 (by assumption) rfl)) rfl rfl ?_
    refine E.Ops.q _ (E.q_neqInts (xs := [(V1 k).st, (V1 k).n]) (ys := [(V2 k).st, (V2 k).n]) rfl rfl rfl ist_172 rfl rfl) rfl rfl ?_
    refine E.Ops.q _ (E.q_pickF rfl rfl rfl) rfl rfl ?_
    refine E.Ops.nil ?_
    try simp only [E.tn, E.tx, E.tr, E.bn, E.br, E.bs]
    (repeat refine E.Run.seq ?_); refine E.Run.condD rfl (fun h7 => ?_) (fun h7 => ?_)
    · (repeat refine E.Run.seq ?_)
      refine E.Run.region ?_
      refine E.Ops.q _ (E.q_mv rfl rfl) rfl rfl ?_
      refine E.Ops.nil ?_
      try simp only [E.tn, E.tx, E.tr, E.bn, E.br, E.bs]
      rw [show eqE R V1 V2 = false from by
        cases hq : eqE R V1 V2 with
        | false => rfl
        | true => have := eqE_iff.1 hq k hin.1 hin.2; rw [this] at h7; exact absurd rfl h7] at hK
      refine E.Run.ret ?_
      try simp only [E.tn, E.tx, E.tr, E.bn, E.br, E.bs]
      exact ⟨_, _, _, E.ResOk.one rfl rfl, E.Ent.of E.entA, hK⟩
    · refine E.Run.skip ?_
      try simp only [E.tn, E.tx, E.tr, E.bn, E.br, E.bs]
      refine ⟨done ++ [e], ⟨hd1', hd2', fun e' he' k' hk' => ?_⟩, by simp; simp at hlt; omega, by ((repeat refine E.SubEnv.cons rfl ?_); exact E.SubEnv.nil _), by exact E.Ent.of E.entA⟩
      rcases List.mem_append.1 he' with h | h
      · exact hd3 e' h k' hk'
      · rw [List.mem_singleton.1 h, hkey] at hk'
        cases hk'
        have h8 : [(V1 k).st, (V1 k).n] = [(V2 k).st, (V2 k).n] := Classical.not_not.1 h7
        revert h8
        cases V1 k; cases V2 k
        intro h8; simp_all
end Go.Proofs.Ythpgjbdacknkgaa
