/- package opt's small functions, walked. No statement of the seat in it. -/
import Derived.Test.YthpgjbdacknkgaaA3
import Derived.Test.YthpgjbdacknkgaaCmp
set_option linter.unusedVariables false
set_option linter.unusedSimpArgs false
namespace Go.Proofs.Ythpgjbdacknkgaa
open Go
private theorem ag_172 : E.isAggOf Try.prog 172 2 = true := by kernel_rfl
private theorem ag_44 : E.isAggOf Try.prog 44 4 = true := by kernel_rfl
private theorem fo_172_0 : E.fieldOff Try.prog 172 0 = some 0 := by kernel_rfl
private theorem fo_44_0 : E.fieldOff Try.prog 44 0 = some 0 := by kernel_rfl
private theorem fo_44_1 : E.fieldOff Try.prog 44 1 = some 1 := by kernel_rfl
private theorem fo_44_2 : E.fieldOff Try.prog 44 2 = some 2 := by kernel_rfl
private theorem ist_172 : E.intStruct Try.prog 172 = some 2 := by kernel_rfl
private theorem pl_172 : E.placesOf Try.prog 172 = some ([.int .i64 0, .int .i64 0], [(0, 1), (1, 1)]) := by kernel_rfl
private theorem sc_3 : E.isScal Try.prog 3 = true := by kernel_rfl
private theorem so_45 : E.sliceOf Try.prog 45 = some (44, 4) := by kernel_rfl
private theorem sz_172 : (Try.prog.info? 172).map (·.size) = some 2 := by kernel_rfl
private theorem sz_44 : (Try.prog.info? 44).map (·.size) = some 4 := by kernel_rfl
private theorem ty_172 : E.tyOf Try.prog 172 = some (some (.agg #[.int .i64 0, .int .i64 0]), 2, 16) := by kernel_rfl
private theorem ty_3 : E.tyOf Try.prog 3 = some (some (.int .i64 0), 1, 8) := by kernel_rfl
private theorem ty_44 : E.tyOf Try.prog 44 = some (some (.agg #[.int .i64 0, .int .i64 0, .int .i64 0, .int .i64 0]), 4, 32) := by kernel_rfl

/-- a register's value: not there (0), always n (1), any (2) -/
structure Vl where
  st : Int
  n : Int
  deriving DecidableEq
def vlV (v : Vl) : Value := .agg #[.int .i64 v.st, .int .i64 v.n]
def meetV (a b : Vl) : Vl := if a.st = 0 ∨ a = b then b else if b.st = 0 then a else ⟨2, 0⟩

set_option maxRecDepth 100000 in
theorem optBit {ρ : E.Ro} {M : List E.Asr} {K : Value → E.Ro → List E.Asr → Prop} (b : Bool) (hK : K (.int .i64 (if b = true then 1 else 0)) ρ M) :
    E.Hoa Try.prog 136 #[.bool b] ρ M K := by
  refine E.Hoa.enter 4 Try.func136 rfl rfl rfl ?_
  (repeat refine E.Run.seq ?_)
  refine E.Run.region ?_
  refine E.Ops.q _ (E.q_mv rfl rfl) rfl rfl ?_
  refine E.Ops.nil ?_
  try simp only [E.tn, E.tx, E.tr, E.bn, E.br, E.bs]
  (repeat refine E.Run.seq ?_)
  refine E.Run.region ?_
  refine E.Ops.q _ (E.q_move rfl rfl) rfl rfl ?_
  refine E.Ops.nil ?_
  try simp only [E.tn, E.tx, E.tr, E.bn, E.br, E.bs]
  (repeat refine E.Run.seq ?_); refine E.Run.cond rfl (fun h => ?_) (fun h => ?_)
  · (repeat refine E.Run.seq ?_)
    refine E.Run.region ?_
    refine E.Ops.q _ (E.q_mv rfl rfl) rfl rfl ?_
    refine E.Ops.nil ?_
    try simp only [E.tn, E.tx, E.tr, E.bn, E.br, E.bs]
    subst h
    refine E.Run.ret ?_
    try simp only [E.tn, E.tx, E.tr, E.bn, E.br, E.bs]
    exact ⟨_, _, _, E.ResOk.one rfl rfl, E.Ent.of E.entA, hK⟩
  · refine E.Run.skip ?_
    try simp only [E.tn, E.tx, E.tr, E.bn, E.br, E.bs]
    (repeat refine E.Run.seq ?_)
    refine E.Run.region ?_
    refine E.Ops.q _ (E.q_mv rfl rfl) rfl rfl ?_
    refine E.Ops.nil ?_
    try simp only [E.tn, E.tx, E.tr, E.bn, E.br, E.bs]
    subst h
    refine E.Run.ret ?_
    try simp only [E.tn, E.tx, E.tr, E.bn, E.br, E.bs]
    exact ⟨_, _, _, E.ResOk.one rfl rfl, E.Ent.of E.entA, hK⟩

set_option maxRecDepth 100000 in
theorem optMeet {ρ : E.Ro} {M : List E.Asr} {K : Value → E.Ro → List E.Asr → Prop} (a b : Vl) (hK : K (vlV (meetV a b)) ρ M) :
    E.Hoa Try.prog 134 #[vlV a, vlV b] ρ M K := by
  refine E.Hoa.enter 21 Try.func134 rfl rfl rfl ?_
  (repeat refine E.Run.seq ?_)
  refine E.Run.region ?_
  refine E.Ops.loud rfl rfl ?_
  refine E.l_box rfl rfl (fun b0_0 => ?_)
  refine E.Ops.loud rfl rfl ?_
  refine E.l_box rfl rfl (fun b0_1 => ?_)
  refine E.Ops.loud rfl rfl ?_
  refine E.l_alloc rfl ty_172 (fun b0_2 => ?_)
  refine E.Ops.nil ?_
  try simp only [E.tn, E.tx, E.tr, E.bn, E.br, E.bs]
  (repeat refine E.Run.seq ?_)
  (repeat refine E.Run.seq ?_); refine E.Run.block ?_
  (repeat refine E.Run.seq ?_)
  refine E.Run.region ?_
  first | refine E.Ops.q _ (E.q_fieldAddr' rfl rfl fo_172_0) rfl rfl ?_ | refine E.Ops.q _ (E.q_fieldAddr rfl rfl fo_172_0) rfl rfl ?_
  refine E.Ops.q _ (E.q_load rfl rfl (by first | refine E.LoadAt.own E.ixA sc_3 (by rfl) | exact E.LoadAt.ro sc_3 (by assumption) | exact E.LoadAt.arr E.ixA sc_3 (by assumption))) rfl rfl ?_
  refine E.Ops.part (E.q_eql rfl rfl rfl) rfl rfl (fun h1_2 => ?T1) (fun h1_2 => ?F1)
  case' F1 =>
    refine E.Ops.q _ (E.q_move rfl rfl) rfl rfl ?_
    refine E.Ops.q _ (E.q_load rfl rfl (by first | refine E.LoadAt.ownAgg E.ixA 2 ag_172 (by rfl) (by rfl) | exact E.LoadAt.roAgg ag_172 (by assumption) rfl)) rfl rfl ?_
    refine E.Ops.q _ (E.q_load rfl rfl (by first | refine E.LoadAt.ownAgg E.ixA 2 ag_172 (by rfl) (by rfl) | exact E.LoadAt.roAgg ag_172 (by assumption) rfl)) rfl rfl ?_
    refine E.Ops.q _ (E.q_eqlInts (xs := [a.st, a.n]) (ys := [b.st, b.n]) rfl rfl rfl ist_172 rfl rfl) rfl rfl ?_
    refine E.Ops.q _ (E.q_pickF rfl rfl rfl) rfl rfl ?_
    refine E.Ops.q _ (E.q_mv rfl rfl) rfl rfl ?_
    refine E.Ops.nil ?_
    try simp only [E.tn, E.tx, E.tr, E.bn, E.br, E.bs]
  case' T1 =>
    refine E.Ops.q _ (E.q_move rfl rfl) rfl rfl ?_
    refine E.Ops.skip rfl rfl ?_
    refine E.Ops.skip rfl rfl ?_
    refine E.Ops.skip rfl rfl ?_
    refine E.Ops.q _ (E.q_pickT rfl rfl rfl) rfl rfl ?_
    refine E.Ops.q _ (E.q_mv rfl rfl) rfl rfl ?_
    refine E.Ops.nil ?_
    try simp only [E.tn, E.tx, E.tr, E.bn, E.br, E.bs]
  · (repeat refine E.Run.seq ?_); refine E.Run.condT rfl ?_
    (repeat refine E.Run.seq ?_)
    refine E.Run.region ?_
    refine E.Ops.q _ (E.q_load rfl rfl (by first | refine E.LoadAt.ownAgg E.ixA 2 ag_172 (by rfl) (by rfl) | exact E.LoadAt.roAgg ag_172 (by assumption) rfl)) rfl rfl ?_
    refine E.Ops.loud rfl rfl ?_
    refine E.l_store rfl rfl rfl E.ixA 2 sz_172 (by rfl) (by rfl) (by rfl) (by rfl) ?_
    refine E.Ops.nil ?_
    try simp only [E.tn, E.tx, E.tr, E.bn, E.br, E.bs]
    rw [show meetV a b = b from by unfold meetV; rw [if_pos (.inl h1_2)]] at hK
    refine E.Run.ret ?_
    try simp only [E.tn, E.tx, E.tr, E.bn, E.br, E.bs]
    exact ⟨_, _, _, E.ResOk.one rfl ⟨_, rfl, E.LoadAt.ownAgg E.ixA 2 ag_172 (by rfl) (by rfl)⟩, E.Ent.of E.entA, hK⟩
  · (repeat refine E.Run.seq ?_); refine E.Run.condD rfl (fun h2 => ?_) (fun h2 => ?_)
    · (repeat refine E.Run.seq ?_)
      refine E.Run.region ?_
      refine E.Ops.q _ (E.q_load rfl rfl (by first | refine E.LoadAt.ownAgg E.ixA 2 ag_172 (by rfl) (by rfl) | exact E.LoadAt.roAgg ag_172 (by assumption) rfl)) rfl rfl ?_
      refine E.Ops.loud rfl rfl ?_
      refine E.l_store rfl rfl rfl E.ixA 2 sz_172 (by rfl) (by rfl) (by rfl) (by rfl) ?_
      refine E.Ops.nil ?_
      try simp only [E.tn, E.tx, E.tr, E.bn, E.br, E.bs]
      have e : a = b := by cases a; cases b; simp_all
      rw [show meetV a b = b from by unfold meetV; rw [if_pos (.inr e)]] at hK
      refine E.Run.ret ?_
      try simp only [E.tn, E.tx, E.tr, E.bn, E.br, E.bs]
      exact ⟨_, _, _, E.ResOk.one rfl ⟨_, rfl, E.LoadAt.ownAgg E.ixA 2 ag_172 (by rfl) (by rfl)⟩, E.Ent.of E.entA, hK⟩
    · have e : ¬ (a.st = 0 ∨ a = b) := by
        rintro (h | rfl)
        · exact h1_2 h
        · exact h2 rfl
      (repeat refine E.Run.seq ?_)
      refine E.Run.region ?_
      first | refine E.Ops.q _ (E.q_fieldAddr' rfl rfl fo_172_0) rfl rfl ?_ | refine E.Ops.q _ (E.q_fieldAddr rfl rfl fo_172_0) rfl rfl ?_
      refine E.Ops.q _ (E.q_load rfl rfl (by first | refine E.LoadAt.own E.ixA sc_3 (by rfl) | exact E.LoadAt.ro sc_3 (by assumption) | exact E.LoadAt.arr E.ixA sc_3 (by assumption))) rfl rfl ?_
      refine E.Ops.q _ (E.q_eql rfl rfl rfl) rfl rfl ?_
      refine E.Ops.q _ (E.q_mv rfl rfl) rfl rfl ?_
      refine E.Ops.nil ?_
      try simp only [E.tn, E.tx, E.tr, E.bn, E.br, E.bs]
      (repeat refine E.Run.seq ?_)
      (repeat refine E.Run.seq ?_); refine E.Run.condD rfl (fun h3 => ?_) (fun h3 => ?_)
      · (repeat refine E.Run.seq ?_)
        refine E.Run.region ?_
        refine E.Ops.q _ (E.q_load rfl rfl (by first | refine E.LoadAt.ownAgg E.ixA 2 ag_172 (by rfl) (by rfl) | exact E.LoadAt.roAgg ag_172 (by assumption) rfl)) rfl rfl ?_
        refine E.Ops.loud rfl rfl ?_
        refine E.l_store rfl rfl rfl E.ixA 2 sz_172 (by rfl) (by rfl) (by rfl) (by rfl) ?_
        refine E.Ops.nil ?_
        try simp only [E.tn, E.tx, E.tr, E.bn, E.br, E.bs]
        rw [show meetV a b = a from by unfold meetV; rw [if_neg e, if_pos h3]] at hK
        refine E.Run.ret ?_
        try simp only [E.tn, E.tx, E.tr, E.bn, E.br, E.bs]
        exact ⟨_, _, _, E.ResOk.one rfl ⟨_, rfl, E.LoadAt.ownAgg E.ixA 2 ag_172 (by rfl) (by rfl)⟩, E.Ent.of E.entA, hK⟩
      · refine E.Run.skip ?_
        try simp only [E.tn, E.tx, E.tr, E.bn, E.br, E.bs]
        (repeat refine E.Run.seq ?_)
        refine E.Run.region ?_
        refine E.Ops.q _ (E.q_struct rfl rfl pl_172 rfl) rfl rfl ?_
        refine E.Ops.loud rfl rfl ?_
        refine E.l_store rfl rfl rfl E.ixA 2 sz_172 (by rfl) (by rfl) (by rfl) (by rfl) ?_
        refine E.Ops.nil ?_
        try simp only [E.tn, E.tx, E.tr, E.bn, E.br, E.bs]
        rw [show meetV a b = ⟨2, 0⟩ from by unfold meetV; rw [if_neg e, if_neg h3]] at hK
        refine E.Run.ret ?_
        try simp only [E.tn, E.tx, E.tr, E.bn, E.br, E.bs]
        exact ⟨_, _, _, E.ResOk.one rfl ⟨_, rfl, E.LoadAt.ownAgg E.ixA 2 ag_172 (by rfl) (by rfl)⟩, E.Ent.of E.entA, hK⟩

/-- the register that an order writes; -1: none -/
def insWrites (i : E.Ins) : Int := if i.op = 13 then i.b else if i.op ≤ 8 ∨ i.op = 10 then i.a else -1
set_option maxRecDepth 100000 in
theorem liveWrites {ρ : E.Ro} {M : List E.Asr} {K : Value → E.Ro → List E.Asr → Prop} (i : E.Ins) (hK : K (.int .i64 (insWrites i)) ρ M) :
    E.Hoa Try.prog 94 #[.agg (E.encIns i).toArray] ρ M K := by
  refine E.Hoa.enter 20 Try.func94 rfl rfl rfl ?_
  (repeat refine E.Run.seq ?_)
  refine E.Run.region ?_
  refine E.Ops.loud rfl rfl ?_
  refine E.l_box rfl rfl (fun b0_0 => ?_)
  refine E.Ops.q _ (E.q_mv rfl rfl) rfl rfl ?_
  refine E.Ops.nil ?_
  try simp only [E.tn, E.tx, E.tr, E.bn, E.br, E.bs]
  (repeat refine E.Run.seq ?_)
  (repeat refine E.Run.seq ?_); refine E.Run.block ?_
  (repeat refine E.Run.seq ?_)
  refine E.Run.region ?_
  first | refine E.Ops.q _ (E.q_fieldAddr' rfl rfl fo_44_0) rfl rfl ?_ | refine E.Ops.q _ (E.q_fieldAddr rfl rfl fo_44_0) rfl rfl ?_
  refine E.Ops.q _ (E.q_load rfl rfl (by first | refine E.LoadAt.own E.ixA sc_3 (by rfl) | exact E.LoadAt.ro sc_3 (by assumption) | exact E.LoadAt.arr E.ixA sc_3 (by assumption))) rfl rfl ?_
  refine E.Ops.q _ (E.q_eql rfl rfl rfl) rfl rfl ?_
  refine E.Ops.q _ (E.q_mv rfl rfl) rfl rfl ?_
  refine E.Ops.nil ?_
  try simp only [E.tn, E.tx, E.tr, E.bn, E.br, E.bs]
  (repeat refine E.Run.seq ?_)
  (repeat refine E.Run.seq ?_); refine E.Run.condD rfl (fun h1 => ?_) (fun h1 => ?_)
  · (repeat refine E.Run.seq ?_)
    refine E.Run.region ?_
    first | refine E.Ops.q _ (E.q_fieldAddr' rfl rfl fo_44_2) rfl rfl ?_ | refine E.Ops.q _ (E.q_fieldAddr rfl rfl fo_44_2) rfl rfl ?_
    refine E.Ops.q _ (E.q_load rfl rfl (by first | refine E.LoadAt.own E.ixA sc_3 (by rfl) | exact E.LoadAt.ro sc_3 (by assumption) | exact E.LoadAt.arr E.ixA sc_3 (by assumption))) rfl rfl ?_
    refine E.Ops.q _ (E.q_mv rfl rfl) rfl rfl ?_
    refine E.Ops.nil ?_
    try simp only [E.tn, E.tx, E.tr, E.bn, E.br, E.bs]
    rw [show insWrites i = i.b from by unfold insWrites; rw [if_pos h1]] at hK
    refine E.Run.ret ?_
    try simp only [E.tn, E.tx, E.tr, E.bn, E.br, E.bs]
    exact ⟨_, _, _, E.ResOk.one rfl rfl, E.Ent.of E.entA, hK⟩
  · (repeat refine E.Run.seq ?_)
    refine E.Run.region ?_
    first | refine E.Ops.q _ (E.q_fieldAddr' rfl rfl fo_44_0) rfl rfl ?_ | refine E.Ops.q _ (E.q_fieldAddr rfl rfl fo_44_0) rfl rfl ?_
    refine E.Ops.q _ (E.q_load rfl rfl (by first | refine E.LoadAt.own E.ixA sc_3 (by rfl) | exact E.LoadAt.ro sc_3 (by assumption) | exact E.LoadAt.arr E.ixA sc_3 (by assumption))) rfl rfl ?_
    refine E.Ops.part (E.q_leq rfl rfl rfl) rfl rfl (fun h3_2 => ?T2) (fun h3_2 => ?F2)
    case' F2 =>
      refine E.Ops.q _ (E.q_move rfl rfl) rfl rfl ?_
      first | refine E.Ops.q _ (E.q_fieldAddr' rfl rfl fo_44_0) rfl rfl ?_ | refine E.Ops.q _ (E.q_fieldAddr rfl rfl fo_44_0) rfl rfl ?_
      refine E.Ops.q _ (E.q_load rfl rfl (by first | refine E.LoadAt.own E.ixA sc_3 (by rfl) | exact E.LoadAt.ro sc_3 (by assumption) | exact E.LoadAt.arr E.ixA sc_3 (by assumption))) rfl rfl ?_
      refine E.Ops.q _ (E.q_eql rfl rfl rfl) rfl rfl ?_
      refine E.Ops.q _ (E.q_pickF rfl rfl rfl) rfl rfl ?_
      refine E.Ops.q _ (E.q_mv rfl rfl) rfl rfl ?_
      refine E.Ops.nil ?_
      try simp only [E.tn, E.tx, E.tr, E.bn, E.br, E.bs]
    case' T2 =>
      refine E.Ops.q _ (E.q_move rfl rfl) rfl rfl ?_
      refine E.Ops.skip rfl rfl ?_
      refine E.Ops.skip rfl rfl ?_
      refine E.Ops.skip rfl rfl ?_
      refine E.Ops.q _ (E.q_pickT rfl rfl rfl) rfl rfl ?_
      refine E.Ops.q _ (E.q_mv rfl rfl) rfl rfl ?_
      refine E.Ops.nil ?_
      try simp only [E.tn, E.tx, E.tr, E.bn, E.br, E.bs]
    · (repeat refine E.Run.seq ?_); refine E.Run.condT rfl ?_
      (repeat refine E.Run.seq ?_)
      refine E.Run.region ?_
      first | refine E.Ops.q _ (E.q_fieldAddr' rfl rfl fo_44_1) rfl rfl ?_ | refine E.Ops.q _ (E.q_fieldAddr rfl rfl fo_44_1) rfl rfl ?_
      refine E.Ops.q _ (E.q_load rfl rfl (by first | refine E.LoadAt.own E.ixA sc_3 (by rfl) | exact E.LoadAt.ro sc_3 (by assumption) | exact E.LoadAt.arr E.ixA sc_3 (by assumption))) rfl rfl ?_
      refine E.Ops.q _ (E.q_mv rfl rfl) rfl rfl ?_
      refine E.Ops.nil ?_
      try simp only [E.tn, E.tx, E.tr, E.bn, E.br, E.bs]
      rw [show insWrites i = i.a from by unfold insWrites; rw [if_neg h1, if_pos (.inl h3_2)]] at hK
      refine E.Run.ret ?_
      try simp only [E.tn, E.tx, E.tr, E.bn, E.br, E.bs]
      exact ⟨_, _, _, E.ResOk.one rfl rfl, E.Ent.of E.entA, hK⟩
    · (repeat refine E.Run.seq ?_); refine E.Run.condD rfl (fun h4 => ?_) (fun h4 => ?_)
      · (repeat refine E.Run.seq ?_)
        refine E.Run.region ?_
        first | refine E.Ops.q _ (E.q_fieldAddr' rfl rfl fo_44_1) rfl rfl ?_ | refine E.Ops.q _ (E.q_fieldAddr rfl rfl fo_44_1) rfl rfl ?_
        refine E.Ops.q _ (E.q_load rfl rfl (by first | refine E.LoadAt.own E.ixA sc_3 (by rfl) | exact E.LoadAt.ro sc_3 (by assumption) | exact E.LoadAt.arr E.ixA sc_3 (by assumption))) rfl rfl ?_
        refine E.Ops.q _ (E.q_mv rfl rfl) rfl rfl ?_
        refine E.Ops.nil ?_
        try simp only [E.tn, E.tx, E.tr, E.bn, E.br, E.bs]
        rw [show insWrites i = i.a from by unfold insWrites; rw [if_neg h1, if_pos (.inr h4)]] at hK
        refine E.Run.ret ?_
        try simp only [E.tn, E.tx, E.tr, E.bn, E.br, E.bs]
        exact ⟨_, _, _, E.ResOk.one rfl rfl, E.Ent.of E.entA, hK⟩
      · refine E.Run.skip ?_
        try simp only [E.tn, E.tx, E.tr, E.bn, E.br, E.bs]
        (repeat refine E.Run.seq ?_)
        refine E.Run.region ?_
        refine E.Ops.q _ (E.q_mv rfl rfl) rfl rfl ?_
        refine E.Ops.nil ?_
        try simp only [E.tn, E.tx, E.tr, E.bn, E.br, E.bs]
        rw [show insWrites i = -1 from by unfold insWrites; rw [if_neg h1, if_neg (by intro h; rcases h with h | h; exact h3_2 h; exact h4 h)]] at hK
        refine E.Run.ret ?_
        try simp only [E.tn, E.tx, E.tr, E.bn, E.br, E.bs]
        exact ⟨_, _, _, E.ResOk.one rfl rfl, E.Ent.of E.entA, hK⟩

/-- where a thread can go on -/
def insNexts (at' : Int) (i : E.Ins) : List Int := if i.op = 14 then [i.a] else if i.op = 15 then [at' + 1, i.b] else [at' + 1]
set_option maxRecDepth 100000 in
theorem fenceNexts {ρ : E.Ro} {M : List E.Asr} {K : Value → E.Ro → List E.Asr → Prop} (A : Option Addr) (c : Nat) (code : List E.Ins) (hc : E.RdF ρ.blk E.encIns 4 A code) (hs : code.length ≤ 4398046511104) (k : Nat) (hk : k < code.length)
    (hK : ∀ A' c' n, n = (insNexts k code[k]).length → K (.slice A' n c') ρ (E.arr 3 1 A' n c' ((insNexts k code[k]).flatMap E.encI) :: M)) :
    E.Hoa Try.prog 93 #[.slice A code.length c, .int .i64 k] ρ M K := by
  obtain ⟨ad, rfl, _, hc'⟩ := E.RdF.at hc hk
  generalize code[k] = i at *
  refine E.Hoa.enter 27 Try.func93 rfl rfl rfl ?_
  (repeat refine E.Run.seq ?_)
  refine E.Run.region ?_
  refine E.Ops.q _ (E.q_mv rfl rfl) rfl rfl ?_
  refine E.Ops.nil ?_
  try simp only [E.tn, E.tx, E.tr, E.bn, E.br, E.bs]
  (repeat refine E.Run.seq ?_)
  refine E.Run.region ?_
  refine E.Ops.q _ (E.q_move rfl rfl) rfl rfl ?_
  refine E.Ops.q _ (E.q_move rfl rfl) rfl rfl ?_
  first | refine E.Ops.q _ (E.q_indexNat rfl rfl rfl so_45 (by first | assumption | omega)) rfl rfl ?_ | refine E.Ops.q _ (E.q_indexAddr rfl rfl rfl so_45 (by omega) (by omega)) rfl rfl ?_
  refine E.Ops.q _ (E.q_load rfl rfl (by first | refine E.LoadAt.ownAgg E.ixA 4 ag_44 (by rfl) (by rfl) | exact E.LoadAt.roAgg ag_44 hc' rfl | exact E.LoadAt.roAgg ag_44 (by assumption) rfl)) rfl rfl ?_
  refine E.Ops.loud rfl rfl ?_
  refine E.l_alloc rfl ty_44 (fun b1_4 => ?_)
  refine E.Ops.loud rfl rfl ?_
  refine E.l_store rfl rfl rfl E.ixA 4 sz_44 (by rfl) (by rfl) (by rfl) (by rfl) ?_
  refine E.Ops.nil ?_
  try simp only [E.tn, E.tx, E.tr, E.bn, E.br, E.bs]
  (repeat refine E.Run.seq ?_)
  refine E.Run.region ?_
  first | refine E.Ops.q _ (E.q_fieldAddr' rfl rfl fo_44_0) rfl rfl ?_ | refine E.Ops.q _ (E.q_fieldAddr rfl rfl fo_44_0) rfl rfl ?_
  refine E.Ops.q _ (E.q_load rfl rfl (by first | refine E.LoadAt.own E.ixA sc_3 (by rfl) | exact E.LoadAt.ro sc_3 (by assumption) | exact E.LoadAt.arr E.ixA sc_3 (by assumption) | exact E.LoadAt.ro sc_3 (hc' _ _ rfl))) rfl rfl ?_
  refine E.Ops.nil ?_
  try simp only [E.tn, E.tx, E.tr, E.bn, E.br, E.bs]
  (repeat refine E.Run.seq ?_)
  (repeat refine E.Run.seq ?_); refine E.Run.block ?_
  (repeat refine E.Run.seq ?_)
  refine E.Run.region ?_
  refine E.Ops.q _ (E.q_eql rfl rfl rfl) rfl rfl ?_
  refine E.Ops.q _ (E.q_mv rfl rfl) rfl rfl ?_
  refine E.Ops.nil ?_
  try simp only [E.tn, E.tx, E.tr, E.bn, E.br, E.bs]
  (repeat refine E.Run.seq ?_)
  (repeat refine E.Run.seq ?_); refine E.Run.condD rfl (fun h1 => ?_) (fun h1 => ?_)
  · (repeat refine E.Run.seq ?_)
    refine E.Run.region ?_
    first | refine E.Ops.q _ (E.q_fieldAddr' rfl rfl fo_44_1) rfl rfl ?_ | refine E.Ops.q _ (E.q_fieldAddr rfl rfl fo_44_1) rfl rfl ?_
    refine E.Ops.q _ (E.q_load rfl rfl (by first | refine E.LoadAt.own E.ixA sc_3 (by rfl) | exact E.LoadAt.ro sc_3 (by assumption) | exact E.LoadAt.arr E.ixA sc_3 (by assumption) | exact E.LoadAt.ro sc_3 (hc' _ _ rfl))) rfl rfl ?_
    refine E.Ops.loud rfl rfl ?_
    refine E.l_slice rfl rfl Try.underlying23 ty_3 rfl rfl rfl rfl rfl rfl (fun g4_2 => ?_)
    refine E.Ops.q _ (E.q_mv rfl rfl) rfl rfl ?_
    refine E.Ops.nil ?_
    try simp only [E.tn, E.tx, E.tr, E.bn, E.br, E.bs]
    refine E.Run.ret ?_
    try simp only [E.tn, E.tx, E.tr, E.bn, E.br, E.bs]
    rw [show insNexts k i = [i.a] from by unfold insNexts; rw [if_pos h1]] at hK
    exact ⟨_, _, _, E.ResOk.one rfl rfl, E.Ent.of E.entA, hK _ _ _ rfl⟩
  · (repeat refine E.Run.seq ?_)
    refine E.Run.region ?_
    refine E.Ops.q _ (E.q_eql rfl rfl rfl) rfl rfl ?_
    refine E.Ops.q _ (E.q_mv rfl rfl) rfl rfl ?_
    refine E.Ops.nil ?_
    try simp only [E.tn, E.tx, E.tr, E.bn, E.br, E.bs]
    (repeat refine E.Run.seq ?_)
    (repeat refine E.Run.seq ?_); refine E.Run.condD rfl (fun h2 => ?_) (fun h2 => ?_)
    · (repeat refine E.Run.seq ?_)
      refine E.Run.region ?_
      refine E.Ops.q _ (E.q_move rfl rfl) rfl rfl ?_
      first | refine E.Ops.q _ (E.q_incr rfl rfl (by omega)) rfl rfl ?_ | refine E.Ops.q _ (E.q_addFit rfl rfl rfl (by omega)) rfl rfl ?_ | refine E.Ops.q _ (E.q_add rfl rfl rfl) rfl rfl ?_
      first | refine E.Ops.q _ (E.q_fieldAddr' rfl rfl fo_44_2) rfl rfl ?_ | refine E.Ops.q _ (E.q_fieldAddr rfl rfl fo_44_2) rfl rfl ?_
      refine E.Ops.q _ (E.q_load rfl rfl (by first | refine E.LoadAt.own E.ixA sc_3 (by rfl) | exact E.LoadAt.ro sc_3 (by assumption) | exact E.LoadAt.arr E.ixA sc_3 (by assumption) | exact E.LoadAt.ro sc_3 (hc' _ _ rfl))) rfl rfl ?_
      refine E.Ops.loud rfl rfl ?_
      refine E.l_slice rfl rfl Try.underlying23 ty_3 rfl rfl rfl rfl rfl rfl (fun g6_4 => ?_)
      refine E.Ops.q _ (E.q_mv rfl rfl) rfl rfl ?_
      refine E.Ops.nil ?_
      try simp only [E.tn, E.tx, E.tr, E.bn, E.br, E.bs]
      refine E.Run.ret ?_
      try simp only [E.tn, E.tx, E.tr, E.bn, E.br, E.bs]
      rw [show insNexts k i = [(k : Int) + 1, i.b] from by unfold insNexts; rw [if_neg h1, if_pos h2]] at hK
      exact ⟨_, _, _, E.ResOk.one rfl rfl, E.Ent.of E.entA, hK _ _ _ rfl⟩
    · refine E.Run.skip ?_
      try simp only [E.tn, E.tx, E.tr, E.bn, E.br, E.bs]
      (repeat refine E.Run.seq ?_)
      refine E.Run.region ?_
      refine E.Ops.q _ (E.q_move rfl rfl) rfl rfl ?_
      first | refine E.Ops.q _ (E.q_incr rfl rfl (by omega)) rfl rfl ?_ | refine E.Ops.q _ (E.q_addFit rfl rfl rfl (by omega)) rfl rfl ?_ | refine E.Ops.q _ (E.q_add rfl rfl rfl) rfl rfl ?_
      refine E.Ops.loud rfl rfl ?_
      refine E.l_slice rfl rfl Try.underlying23 ty_3 rfl rfl rfl rfl rfl rfl (fun g7_2 => ?_)
      refine E.Ops.q _ (E.q_mv rfl rfl) rfl rfl ?_
      refine E.Ops.nil ?_
      try simp only [E.tn, E.tx, E.tr, E.bn, E.br, E.bs]
      refine E.Run.ret ?_
      try simp only [E.tn, E.tx, E.tr, E.bn, E.br, E.bs]
      rw [show insNexts k i = [(k : Int) + 1] from by unfold insNexts; rw [if_neg h1, if_neg h2]] at hK
      exact ⟨_, _, _, E.ResOk.one rfl rfl, E.Ent.of E.entA, hK _ _ _ rfl⟩

/-! maps -/
set_option maxRecDepth 100000 in
theorem mapsClone {ρ : E.Ro} {M : List E.Asr} {K : Value → E.Ro → List E.Asr → Prop} (b m : Nat) (g : Int → Option Value) (hg : E.RoG ρ b m g) (hK : ∀ b', K (.map (some b')) ρ (E.mpG b' m g :: M)) :
    E.Hoa Try.prog 133 #[.map (some b)] ρ M K := by
  refine E.Hoa.enter 9 Try.func133 rfl rfl rfl ?_
  (repeat refine E.Run.seq ?_)
  refine E.Run.region ?_
  refine E.Ops.q _ (E.q_mv rfl rfl) rfl rfl ?_
  refine E.Ops.nil ?_
  try simp only [E.tn, E.tx, E.tr, E.bn, E.br, E.bs]
  (repeat refine E.Run.seq ?_)
  refine E.Run.region ?_
  refine E.Ops.q _ (E.q_move rfl rfl) rfl rfl ?_
  refine E.Ops.q _ (E.q_eqlNilMap rfl rfl rfl Try.underlying170) rfl rfl ?_
  refine E.Ops.nil ?_
  try simp only [E.tn, E.tx, E.tr, E.bn, E.br, E.bs]
  (repeat refine E.Run.seq ?_); refine E.Run.condF rfl ?_
  refine E.Run.skip ?_
  try simp only [E.tn, E.tx, E.tr, E.bn, E.br, E.bs]
  (repeat refine E.Run.seq ?_)
  refine E.Run.region ?_
  refine E.Ops.q _ (E.q_move rfl rfl) rfl rfl ?_
  refine E.Ops.q _ (E.q_makeIface rfl rfl Try.underlying170) rfl rfl ?_
  refine E.Ops.loud rfl rfl ?_
  refine E.l_mapsClone Try.func153 (by kernel_rfl) (by kernel_rfl) (by kernel_rfl) (by kernel_rfl) rfl hg (fun b' => ?_)
  refine E.Ops.q _ (E.q_assertMap rfl rfl Try.underlying170) rfl rfl ?_
  refine E.Ops.q _ (E.q_mv rfl rfl) rfl rfl ?_
  refine E.Ops.nil ?_
  try simp only [E.tn, E.tx, E.tr, E.bn, E.br, E.bs]
  refine E.Run.ret ?_
  try simp only [E.tn, E.tx, E.tr, E.bn, E.br, E.bs]
  exact ⟨_, _, _, E.ResOk.one rfl rfl, E.Ent.of E.entA, hK _⟩
end Go.Proofs.Ythpgjbdacknkgaa
