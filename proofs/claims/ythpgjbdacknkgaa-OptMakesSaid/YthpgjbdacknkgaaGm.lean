/- Maps by whole numbers, said by what they hold: made, asked, written, gone through, copied. No statement of the seat in it. -/
import Derived.Test.YthpgjbdacknkgaaFz
import Derived.Maps.RangeRun
import Derived.Laws.Externs
namespace Go.Proofs.Ythpgjbdacknkgaa
namespace E
open Go

/-- what a map's entries hold -/
structure MapG (es : List MapEntry) (clock : Nat) (g : Int → Option Value) : Prop where
  kvs : ∃ kvs : List (Int × Value), es.map (fun e => (e.key, e.val)) = kvs.map (fun p => (Value.int .i64 p.1, p.2)) ∧ (kvs.map (·.1)).Nodup ∧ ∀ k, getI kvs k = g k
  born : (es.map (·.born)).Nodup
  old : ∀ e ∈ es, e.born < clock

def mpG (b : Nat) (n : Nat) (g : Int → Option Value) : Asr := fun h => ∃ (es : Array MapEntry) (clock : Nat), h = one b (.map es clock) ∧ MapG es.toList clock g ∧ es.size = n
/-- a map that stays -/
def RoG (ρ : Ro) (b : Nat) (n : Nat) (g : Int → Option Value) : Prop := ∃ (es : Array MapEntry) (clock : Nat), ρ.blk b = some (.map es clock) ∧ MapG es.toList clock g ∧ es.size = n
theorem RoG.mono {ρ ρ' : Ro} (h : Ro.le ρ ρ') {b n : Nat} {g : Int → Option Value} (H : RoG ρ b n g) : RoG ρ' b n g := by
  obtain ⟨es, clock, h1, h2⟩ := H; exact ⟨es, clock, h.blk _ _ h1, h2⟩
theorem mpG_frozen {ρ : Ro} {b n : Nat} {g : Int → Option Value} (h : ∃ h, mpG b n g h ∧ ∀ b o, h b = some o → ρ.blk b = some o) : RoG ρ b n g := by
  obtain ⟨h, ⟨es, clock, rfl, h1, h2⟩, h3⟩ := h
  exact ⟨es, clock, h3 _ _ (one_self _ _), h1, h2⟩
def GIs (ρ : Ro) (M : List Asr) (b : Nat) (n : Nat) (g : Int → Option Value) : Prop := ∀ w, Heap ρ w M → ∃ (es : Array MapEntry) (clock : Nat), w.heap[b]? = some (.map es clock) ∧ MapG es.toList clock g ∧ es.size = n
theorem GIs.own {ρ : Ro} {M : List Asr} {b n : Nat} {g : Int → Option Value} {f : Asr → List Asr} (hk : Ix M (mpG b n g) f) : GIs ρ M b n g := fun w H => by
  obtain ⟨hh, ⟨es, clock, rfl, h1, h2⟩, a2, _⟩ := H.at hk
  exact ⟨es, clock, a2 b _ (one_self _ _), h1, h2⟩
theorem GIs.ro {ρ : Ro} {M : List Asr} {b n : Nat} {g : Int → Option Value} (h : RoG ρ b n g) : GIs ρ M b n g := fun w H => by
  obtain ⟨es, clock, h1, h2⟩ := h
  exact ⟨es, clock, H.1.blk _ _ h1, h2⟩

theorem GIs.ent {ρ ρ' : Ro} {M M' : List Asr} {b n : Nat} {g : Int → Option Value} (he : Ent ρ' M' ρ M) (h : GIs ρ M b n g) : GIs ρ' M' b n g := fun w H => h w (he w H)
def updG (g : Int → Option Value) (k : Int) (v : Value) : Int → Option Value := fun j => if j = k then some v else g j

theorem keys_putI (kvs : List (Int × Value)) (k : Int) (v : Value) (hn : (kvs.map (·.1)).Nodup) : ((putI kvs k v).map (·.1)).Nodup ∧ (putI kvs k v).length = if (getI kvs k).isSome then kvs.length else kvs.length + 1 := by
  have key : ∀ (kvs : List (Int × Value)) (x : Int), x ∈ (putI kvs k v).map (·.1) → x = k ∨ x ∈ kvs.map (·.1) := by
    intro kvs
    induction kvs with
    | nil => intro x hx; simp [putI] at hx; exact .inl hx
    | cons p r ih =>
      intro x hx
      unfold putI at hx
      split at hx
      · simp only [List.map_cons, List.mem_cons] at hx ⊢
        rcases hx with h | h
        · exact .inl h
        · exact .inr (.inr h)
      · simp only [List.map_cons, List.mem_cons] at hx ⊢
        rcases hx with h | h
        · exact .inr (.inl h)
        · rcases ih x h with h | h
          · exact .inl h
          · exact .inr (.inr h)
  induction kvs with
  | nil => simp [putI, getI_nil]
  | cons p r ih =>
    simp only [List.map_cons, List.nodup_cons] at hn
    unfold putI
    rw [getI_cons]
    by_cases hp : p.1 = k
    · rw [if_pos hp, if_pos hp]
      subst hp
      simp [hn.1, hn.2]
    · rw [if_neg hp, if_neg hp]
      obtain ⟨h1, h2⟩ := ih hn.2
      refine ⟨?_, ?_⟩
      · rw [List.map_cons, List.nodup_cons]
        refine ⟨fun hx => ?_, h1⟩
        rcases key r p.1 hx with h | h
        · exact hp h
        · exact hn.1 h
      · rw [List.length_cons, h2, List.length_cons]
        split <;> rfl

section
variable {P : Program} {L : Env} {ρ : Ro} {M : List Asr} {o : Oper} {K : Value → Ro → List Asr → Prop}
theorem l_makeMapG {t : TypeId} (ho : o.op = .makeMap t none) (h : ∀ b, K (.map (some b)) ρ (mpG b 0 (fun _ => none) :: M)) : LOp P L ρ M o K :=
  LOp.val fun n a w ha H => ⟨_, ρ, _, w.alloc (.map #[] 0), by simp [execOp, ho, Instr.makeMap], H.alloc _ ⟨#[], 0, rfl, ⟨⟨[], rfl, by simp, fun _ => rfl⟩, by simp, by simp⟩, rfl⟩, h w.heap.size⟩

theorem map_born_modify (j : Nat) (k v : Value) : ∀ (es : List MapEntry), (es.modify j fun e => { e with key := k, val := v }).map (·.born) = es.map (·.born) := by
  intro es
  induction es generalizing j with
  | nil => simp
  | cons e r ih =>
    cases j with
    | zero => simp
    | succ j => simp [ih]

theorem l_mapUpdateG {t e : TypeId} {m x y : Operand} {b sz : Nat} {g : Int → Option Value} {k : Int} {v : Value} {f : Asr → List Asr} (ho : o.op = .mapUpdate t m x y ∨ o.op = .insert t m x y) (hm : ev L m = some (.map (some b))) (hx : ev L x = some (.int .i64 k)) (hy : ev L y = some v)
    (hk : Ix M (mpG b sz g) f) (ht : isIntKey P t = some e) (h : K undef ρ (f (mpG b (if (g k).isSome then sz else sz + 1) (updG g k v)))) : LOp P L ρ M o K :=
  LOp.unit fun n a w ha H => by
    obtain ⟨kt, h1, h2⟩ := isIntKey_spec ht
    obtain ⟨hh, ⟨es, clock, rfl, ⟨⟨kvs, hes, hnd, hg⟩, hborn, hold⟩, hsz⟩, a2, a3⟩ := H.at hk
    have hb : w.heap[b]? = some (.map es clock) := a2 b _ (one_self _ _)
    have hlt : b < w.heap.size := (Array.getElem?_eq_some_iff.1 hb).1
    have hget : (getObj b).run P w = .ok (.map es clock) w := by simp [getObj, Sem.run, hb]
    have hset : ∀ o' : Obj, (setObj b o').run P w = .ok () { w with heap := w.heap.setIfInBounds b o' } := fun o' => by simp [setObj, Sem.run, hb]
    obtain ⟨p1, p2⟩ := keys_putI kvs k v hnd
    have hlen : kvs.length = sz := by
      have := congrArg List.length hes
      simp only [List.length_map, Array.length_toList] at this
      omega
    have fin : ∀ (es' : Array MapEntry) (c' : Nat), es'.toList.map (fun e => (e.key, e.val)) = (putI kvs k v).map (fun p => (Value.int .i64 p.1, p.2)) →
        (es'.toList.map (·.born)).Nodup → (∀ e ∈ es'.toList, e.born < c') →
        Heap ρ { w with heap := w.heap.setIfInBounds b (.map es' c') } (f (mpG b (if (g k).isSome then sz else sz + 1) (updG g k v))) := fun es' c' he hb1 hb2 =>
      a3 _ _ (one b (.map es' c')) setObj_ext ⟨es', c', rfl, ⟨⟨putI kvs k v, he, p1, fun j => by rw [getI_putI, hg]; rfl⟩, hb1, hb2⟩, by
        have := congrArg List.length he
        simp only [List.length_map, Array.length_toList] at this
        rw [this, p2, hg, hlen]⟩ (fun x y hxy => by
        have := one_ne _ (by rw [hxy]; simp : one b (.map es' c') x ≠ none)
        subst this
        rw [one_self] at hxy
        cases hxy
        simp [Array.getElem?_setIfInBounds_self_of_lt hlt]) (fun x hx => .inl (by
        have := one_ne _ hx
        subst this
        rw [one_self]; simp))
    have hexec : (execOp a.eval o).run P w = ((Instr.mapUpdate t (.map (some b)) (.int .i64 k) v).run P w).andThen fun _ w' => .ok .skip w' := by
      rcases ho with ho | ho <;> simp [execOp, ho, ha.ev hm, ha.ev hx, ha.ev hy]
    rcases findNow_int k es.toList kvs 0 hes with ⟨g1, g2⟩ | ⟨j, u, g1, g2, g3, ⟨e', g4, g5⟩, _, g7⟩
    · refine ⟨ρ, _, _, ?_, fin (es.push { key := .int .i64 k, val := v, born := clock }) (clock + 1) ?_ ?_ ?_, h⟩
      · rw [hexec]
        have : (Instr.findKey kt (.int .i64 k) es.toList).run P w = .ok none w := by
          unfold Instr.findKey; simp [run_underlying h2, g2]
        simp [Instr.mapUpdate, run_underlying h1, hget, run_checkKey_int _ h2, this, hset]
      · rw [Array.toList_push, List.map_append, hes, putI_new g1, List.map_append]; rfl
      · rw [Array.toList_push, List.map_append, List.nodup_append]
        refine ⟨hborn, by simp, fun a ha b hb e => ?_⟩
        simp only [List.map_cons, List.map_nil, List.mem_singleton] at hb
        subst hb; subst e
        obtain ⟨x, hx, he⟩ := List.mem_map.1 ha
        have := hold x hx
        omega
      · intro x hx
        rw [Array.toList_push, List.mem_append] at hx
        rcases hx with hx | hx
        · have := hold x hx; omega
        · simp only [List.mem_singleton] at hx; subst hx; exact Nat.lt_succ_self _
    · rw [Nat.zero_add] at g2
      have hkey : ((es[j]?).map (·.key)).getD (.int .i64 k) = .int .i64 k := by
        have : es[j]? = some e' := by simpa using g4
        rw [this]; simp [g5]
      have hst : (Instr.keyThatStays (.int .i64 k) (.int .i64 k)).run P w = .ok (.int .i64 k) w := by
        simp [Instr.keyThatStays, Instr.sameBits]
      refine ⟨ρ, _, _, ?_, fin (es.modify j fun e => { e with key := .int .i64 k, val := v }) clock ?_ ?_ ?_, h⟩
      · rw [hexec]
        have : (Instr.findKey kt (.int .i64 k) es.toList).run P w = .ok (some (j, u)) w := by
          unfold Instr.findKey; simp [run_underlying h2, g2]
        simp only [Instr.mapUpdate, Sem.run_bind, run_underlying h1, Result.andThen_ok, hget, run_checkKey_int _ h2, this, hkey, hst, hset]
      · rw [Array.toList_modify]; exact g7 v
      · rw [Array.toList_modify, map_born_modify]; exact hborn
      · intro x hx
        rw [Array.toList_modify] at hx
        have : x.born ∈ (es.toList.modify j fun e => { e with key := .int .i64 k, val := v }).map (·.born) := List.mem_map_of_mem hx
        rw [map_born_modify] at this
        obtain ⟨y, hy, he⟩ := List.mem_map.1 this
        rw [← he]; exact hold y hy

theorem q_lookupG {t e : TypeId} {m x : Operand} {b n : Nat} {g : Int → Option Value} {k : Int} {z : Value} {sz by' : Nat} (ho : o.op = .lookup t m x false) (hm : ev L m = some (.map (some b))) (hx : ev L x = some (.int .i64 k))
    (hk : GIs ρ M b n g) (ht : isIntKey P t = some e) (hz : tyOf P e = some (some z, sz, by')) : QOp P L ρ M o ((g k).getD z) := fun n a w ha H => by
  obtain ⟨es, clock, hb, ⟨⟨kvs, hes, _, hg⟩, _⟩, _⟩ := hk w H
  have h1 : ∃ hs, (execOp a.eval o).run P w = hs := ⟨_, rfl⟩
  obtain ⟨kt, h1, h2⟩ := isIntKey_spec ht
  obtain ⟨i, hi, hz0, _⟩ := tyOf_spec hz
  have hget : (getObj b).run P w = .ok (.map es clock) w := by simp [getObj, Sem.run, hb]
  rw [← hg]
  rcases findNow_int k es.toList kvs 0 hes with ⟨g1, g2⟩ | ⟨j, u, g1, g2, _⟩
  · have : (Instr.findKey kt (.int .i64 k) es.toList).run P w = .ok none w := by unfold Instr.findKey; simp [run_underlying h2, g2]
    simp [execOp, ho, ha.ev hm, ha.ev hx, Instr.lookup, run_underlying h1, hget, run_checkKey_int _ h2, this, zeroValue, run_typeInfo hi, hz0, g1]
  · have : (Instr.findKey kt (.int .i64 k) es.toList).run P w = .ok (some (0 + j, u)) w := by unfold Instr.findKey; simp [run_underlying h2, g2]
    simp [execOp, ho, ha.ev hm, ha.ev hx, Instr.lookup, run_underlying h1, hget, run_checkKey_int _ h2, this, g1]
theorem q_lookupOkG {t e : TypeId} {m x : Operand} {b n : Nat} {g : Int → Option Value} {k : Int} {z : Value} {sz by' : Nat} (ho : o.op = .lookup t m x true) (hm : ev L m = some (.map (some b))) (hx : ev L x = some (.int .i64 k))
    (hk : GIs ρ M b n g) (ht : isIntKey P t = some e) (hz : tyOf P e = some (some z, sz, by')) : QOp P L ρ M o (.tuple #[(g k).getD z, .bool (g k).isSome]) := fun n a w ha H => by
  obtain ⟨es, clock, hb, ⟨⟨kvs, hes, _, hg⟩, _⟩, _⟩ := hk w H
  obtain ⟨kt, h1, h2⟩ := isIntKey_spec ht
  obtain ⟨i, hi, hz0, _⟩ := tyOf_spec hz
  have hget : (getObj b).run P w = .ok (.map es clock) w := by simp [getObj, Sem.run, hb]
  rw [← hg]
  rcases findNow_int k es.toList kvs 0 hes with ⟨g1, g2⟩ | ⟨j, u, g1, g2, _⟩
  · have : (Instr.findKey kt (.int .i64 k) es.toList).run P w = .ok none w := by unfold Instr.findKey; simp [run_underlying h2, g2]
    simp [execOp, ho, ha.ev hm, ha.ev hx, Instr.lookup, run_underlying h1, hget, run_checkKey_int _ h2, this, zeroValue, run_typeInfo hi, hz0, g1]
  · have : (Instr.findKey kt (.int .i64 k) es.toList).run P w = .ok (some (0 + j, u)) w := by unfold Instr.findKey; simp [run_underlying h2, g2]
    simp [execOp, ho, ha.ev hm, ha.ev hx, Instr.lookup, run_underlying h1, hget, run_checkKey_int _ h2, this, g1]
/-- of a map that is none -/
theorem q_lookupNil {t e : TypeId} {m x : Operand} {k : Int} {z : Value} {sz by' : Nat} (ho : o.op = .lookup t m x false) (hm : ev L m = some (.map none)) (hx : ev L x = some (.int .i64 k))
    (ht : isIntKey P t = some e) (hz : tyOf P e = some (some z, sz, by')) : QOp P L ρ M o z := fun n a w ha H => by
  obtain ⟨kt, h1, h2⟩ := isIntKey_spec ht
  obtain ⟨i, hi, hz0, _⟩ := tyOf_spec hz
  have : (Instr.findKey kt (.int .i64 k) []).run P w = .ok none w := by unfold Instr.findKey; simp [run_underlying h2, Instr.findNow]
  simp [execOp, ho, ha.ev hm, ha.ev hx, Instr.lookup, run_underlying h1, run_checkKey_int _ h2, zeroValue, run_typeInfo hi, hz0, this]
theorem q_lenMap {t k e : TypeId} {x : Operand} {b m : Nat} {g : Int → Option Value} {ty : TypeId} {po : String} {af : Array Edge} {gd : Option (Nat × Bool)} {d : Option Tmp}
    (hx : ev L x = some (.map (some b))) (hk : GIs ρ M b m g) (ht : P.underlying t = some (.map k e)) :
    QOp P L ρ M ⟨d, .call { callee := .builtin .len, args := #[x], argTypes := #[t] }, ty, po, af, gd⟩ (.int .i64 m) := fun n a w ha H => by
  obtain ⟨es, clock, hb, _, hn⟩ := hk w H
  have hget : (getObj b).run P w = .ok (.map es clock) w := by simp [getObj, Sem.run, hb]
  simp [execOp, resolve, invoke, builtin, Builtin.len_, ha.ev hx, run_underlying ht, goInt, hget, hn]
theorem q_lenMapNil {t k e : TypeId} {x : Operand} {ty : TypeId} {po : String} {af : Array Edge} {gd : Option (Nat × Bool)} {d : Option Tmp}
    (hx : ev L x = some (.map none)) (ht : P.underlying t = some (.map k e)) :
    QOp P L ρ M ⟨d, .call { callee := .builtin .len, args := #[x], argTypes := #[t] }, ty, po, af, gd⟩ (.int .i64 0) := fun n a w ha H => by
  simp [execOp, resolve, invoke, builtin, Builtin.len_, ha.ev hx, run_underlying ht, goInt]

/-! ### going through -/
/-- what goes through map b, and what it has given -/
def itr (bi b clock : Nat) (done : List MapEntry) : Asr := fun h => h = one bi (.mapIter (some b) clock (done.map (·.born)).toArray clock)
def itr0 (bi : Nat) : Asr := fun h => h = one bi (.mapIter none 0 #[] 0)
theorem l_range {t k e : TypeId} {x : Operand} {b clock : Nat} {es : Array MapEntry} (ho : o.op = .range t x) (hx : ev L x = some (.map (some b))) (ht : P.underlying t = some (.map k e)) (hb : ρ.blk b = some (.map es clock))
    (h : ∀ bi, K (.pointer (some ⟨bi, 0, none⟩)) ρ (itr bi b clock [] :: M)) : LOp P L ρ M o K :=
  LOp.val fun n a w ha H => by
    have hget : (getObj b).run P w = .ok (.map es clock) w := by simp [getObj, Sem.run, H.1.blk _ _ hb]
    exact ⟨_, ρ, _, w.alloc (.mapIter (some b) clock #[] clock), by simp [execOp, ho, ha.ev hx, Instr.range, run_underlying ht, hget], H.alloc (P := itr w.heap.size b clock []) _ rfl, h w.heap.size⟩
theorem l_rangeNil {t k e : TypeId} {x : Operand} (ho : o.op = .range t x) (hx : ev L x = some (.map none)) (ht : P.underlying t = some (.map k e))
    (h : ∀ bi, K (.pointer (some ⟨bi, 0, none⟩)) ρ (itr0 bi :: M)) : LOp P L ρ M o K :=
  LOp.val fun n a w ha H => ⟨_, ρ, _, w.alloc (.mapIter none 0 #[] 0), by simp [execOp, ho, ha.ev hx, Instr.range, run_underlying ht], H.alloc (P := itr0 w.heap.size) _ rfl, h w.heap.size⟩
theorem q_nextNil {x : Operand} {bi : Nat} {f : Asr → List Asr} (ho : o.op = .next x false) (hx : ev L x = some (.pointer (some ⟨bi, 0, none⟩))) (hk : Ix M (itr0 bi) f) : QOp P L ρ M o (.tuple #[.bool false]) := fun n a w ha H => by
  obtain ⟨hh, rfl, a2, _⟩ := H.at hk
  have hget : (getObj bi).run P w = .ok (.mapIter none 0 #[] 0) w := by simp [getObj, Sem.run, a2 bi _ (one_self _ _)]
  simp [execOp, ho, ha.ev hx, Instr.next, hget]
theorem itr_ext {w : World} {b : Nat} {o o' : Obj} : Ext w (Go.ChangeMaps.setBlock w b o) (one b o') := setObj_ext
theorem Heap.drew {w : World} (H : Heap ρ w M) : Heap ρ w.drew M := H.same rfl rfl rfl rfl
/-- what e is one of the entries that are left -/
theorem l_next {x : Operand} {bi b clock : Nat} {es : Array MapEntry} {g : Int → Option Value} {done : List MapEntry} {f : Asr → List Asr} (ho : o.op = .next x false) (hx : ev L x = some (.pointer (some ⟨bi, 0, none⟩)))
    (hk : Ix M (itr bi b clock done) f) (hb : ρ.blk b = some (.map es clock)) (hg : MapG es.toList clock g)
    (hover : (∀ e ∈ es.toList, e.born ∈ done.map (·.born)) → K (.tuple #[.bool false]) ρ (f (itr bi b clock done)))
    (hstep : ∀ e ∈ es.toList, e.born ∉ done.map (·.born) → K (.tuple #[.bool true, e.key, e.val]) ρ (f (itr bi b clock (done ++ [e])))) : LOp P L ρ M o K :=
  LOp.val fun n a w ha H => by
    obtain ⟨hh, rfl, a2, a3⟩ := H.at hk
    have hr : w.heap[bi]? = some (.mapIter (some b) clock (done.map (·.born)).toArray clock) := a2 bi _ (one_self _ _)
    have hbw : w.heap[b]? = some (.map es clock) := H.1.blk _ _ hb
    have hlt : bi < w.heap.size := (Array.getElem?_eq_some_iff.1 hr).1
    have hexec : ∀ v w', (Instr.next (.pointer (some ⟨bi, 0, none⟩)) false o.type).run P w = .ok v w' → (execOp a.eval o).run P w = .ok (.value v) w' := fun v w' h => by
      simp [execOp, ho, ha.ev hx, h]
    have mem : ∀ e : MapEntry, e ∈ (Go.leftOf es (done.map (·.born)).toArray).toList ↔ e ∈ es.toList ∧ e.born ∉ done.map (·.born) := fun e => by
      unfold Go.leftOf
      simp
    rcases run_next_at (P := P) w o.type bi b clock clock (done.map (·.born)).toArray es clock hr hbw hg.old (Nat.le_refl _) with ⟨h1, h2⟩ | ⟨e, he, w1, hw1, h2⟩
    · refine ⟨_, ρ, _, w, hexec _ _ h2, ?_, hover fun e he => ?_⟩
      · exact a3 w (itr bi b clock done) _ (Ext.refl w _) rfl a2 (fun b hb => .inl hb)
      · by_cases hd : e.born ∈ done.map (·.born)
        · exact hd
        · have : e ∈ (Go.leftOf es (done.map (·.born)).toArray).toList := (mem e).2 ⟨he, hd⟩
          have h0 : (Go.leftOf es (done.map (·.born)).toArray).toList = [] := by
            have : (Go.leftOf es (done.map (·.born)).toArray).toList.length = 0 := by simpa using h1
            exact List.length_eq_zero_iff.1 this
          rw [h0] at this
          cases this
    · obtain ⟨he1, he2⟩ := (mem e).1 he
      have hset : Ext w (Go.ChangeMaps.setBlock w1 bi (.mapIter (some b) clock ((done.map (·.born)).toArray.push e.born) clock)) (one bi (.mapIter (some b) clock (done.map (·.born)).toArray clock)) := by
        rcases hw1 with rfl | rfl
        · exact itr_ext
        · have := itr_ext (w := w.drew) (b := bi) (o := .mapIter (some b) clock ((done.map (·.born)).toArray.push e.born) clock) (o' := .mapIter (some b) clock (done.map (·.born)).toArray clock)
          exact ⟨this.os, this.tape, this.output, fun b o hb hw => this.blk b o hb hw⟩
      refine ⟨_, ρ, _, _, hexec _ _ h2, ?_, hstep e he1 he2⟩
      refine a3 _ (itr bi b clock (done ++ [e])) (one bi (.mapIter (some b) clock ((done.map (·.born)).toArray.push e.born) clock)) hset (by unfold itr; simp) (fun x y hxy => ?_) (fun x hx => .inl ?_)
      · have := one_ne _ (by rw [hxy]; simp : one bi (.mapIter (some b) clock ((done.map (·.born)).toArray.push e.born) clock) x ≠ none)
        subst this
        rw [one_self] at hxy
        cases hxy
        have : w1.heap = w.heap := by rcases hw1 with rfl | rfl <;> rfl
        unfold Go.ChangeMaps.setBlock
        simp only [this]
        exact Array.getElem?_setIfInBounds_self_of_lt hlt
      · have := one_ne _ hx
        subst this
        rw [one_self]; simp
theorem q_entry {x : Operand} {bi b clock : Nat} {es : Array MapEntry} {g : Int → Option Value} {done : List MapEntry} {e : MapEntry} {f : Asr → List Asr} (ho : o.op = .entry x) (hx : ev L x = some (.pointer (some ⟨bi, 0, none⟩)))
    (hk : Ix M (itr bi b clock (done ++ [e])) f) (hb : ρ.blk b = some (.map es clock)) (hg : MapG es.toList clock g) (he : e ∈ es.toList) : QOp P L ρ M o (.tuple #[e.key, e.val]) := fun n a w ha H => by
  obtain ⟨hh, rfl, a2, _⟩ := H.at hk
  have hr : w.heap[bi]? = some (.mapIter (some b) clock ((done.map (·.born)).toArray.push e.born) clock) := by
    have := a2 bi _ (one_self _ _)
    simpa using this
  simp [execOp, ho, ha.ev hx, run_entry_at (P := P) w bi b clock _ es clock e hr (H.1.blk _ _ hb) he hg.born]

theorem q_entryKV {x : Operand} {bi b clock : Nat} {es : Array MapEntry} {g : Int → Option Value} {done : List MapEntry} {e : MapEntry} {kk vv : Value} {f : Asr → List Asr} (ho : o.op = .entry x) (hx : ev L x = some (.pointer (some ⟨bi, 0, none⟩)))
    (hk : Ix M (itr bi b clock (done ++ [e])) f) (hb : ρ.blk b = some (.map es clock)) (hg : MapG es.toList clock g) (he : e ∈ es.toList) (h1 : e.key = kk) (h2 : e.val = vv) : QOp P L ρ M o (.tuple #[kk, vv]) := by
  subst h1; subst h2
  exact q_entry ho hx hk hb hg he
theorem born_inj : ∀ {es : List MapEntry}, (es.map (·.born)).Nodup → ∀ {e e' : MapEntry}, e ∈ es → e' ∈ es → e.born = e'.born → e = e'
  | [], _, _, _, h, _, _ => by cases h
  | x :: r, hn, e, e', h, h', hb => by
    simp only [List.map_cons, List.nodup_cons] at hn
    rcases List.mem_cons.1 h with rfl | h1
    · rcases List.mem_cons.1 h' with rfl | h2
      · rfl
      · exact absurd (by rw [hb]; exact List.mem_map_of_mem h2) hn.1
    · rcases List.mem_cons.1 h' with rfl | h2
      · exact absurd (by rw [← hb]; exact List.mem_map_of_mem h1) hn.1
      · exact born_inj hn.2 h1 h2 hb
theorem nodup_length_le : ∀ (l m : List Nat), l.Nodup → (∀ x ∈ l, x ∈ m) → l.length ≤ m.length
  | [], _, _, _ => Nat.zero_le _
  | x :: l, m, hn, hs => by
    rw [List.nodup_cons] at hn
    have h1 : x ∈ m := hs x (by simp)
    have h2 := nodup_length_le l (m.erase x) hn.2 (fun y hy => (List.mem_erase_of_ne (fun e => hn.1 (by rw [← e]; exact hy))).2 (hs y (by simp [hy])))
    rw [List.length_erase_of_mem h1] at h2
    have : 0 < m.length := List.length_pos_of_mem h1
    rw [List.length_cons]; omega
/-- those that were given, and one that was not, are no more than there are -/
theorem done_lt {es done : List MapEntry} {e : MapEntry} (hd : ∀ e ∈ done, e ∈ es) (hn : (done.map (·.born)).Nodup) (he : e ∈ es) (hne : e.born ∉ done.map (·.born)) :
    done.length < es.length ∧ (∀ x ∈ done ++ [e], x ∈ es) ∧ ((done ++ [e]).map (·.born)).Nodup := by
  have h1 : ∀ x ∈ done ++ [e], x ∈ es := fun x hx => by
    rcases List.mem_append.1 hx with h | h
    · exact hd x h
    · rw [List.mem_singleton.1 h]; exact he
  have h2 : ((done ++ [e]).map (·.born)).Nodup := by
    rw [List.map_append, List.nodup_append]
    refine ⟨hn, by simp, fun a ha b hb hab => ?_⟩
    simp only [List.map_cons, List.map_nil, List.mem_singleton] at hb
    exact hne (by rw [← hb, ← hab]; exact ha)
  refine ⟨?_, h1, h2⟩
  have := nodup_length_le _ (es.map (·.born)) h2 (fun x hx => by
    obtain ⟨y, hy, rfl⟩ := List.mem_map.1 hx
    exact List.mem_map_of_mem (h1 y hy))
  simp at this; omega
/-- each entry is a key and what the map holds there -/
theorem MapG.mem {es : List MapEntry} {clock : Nat} {g : Int → Option Value} (H : MapG es clock g) {e : MapEntry} (he : e ∈ es) : ∃ k : Int, e.key = .int .i64 k ∧ g k = some e.val := by
  obtain ⟨kvs, h1, h2, h3⟩ := H.kvs
  have hm : (e.key, e.val) ∈ es.map (fun e => (e.key, e.val)) := List.mem_map_of_mem he
  rw [h1] at hm
  obtain ⟨p, hp, heq⟩ := List.mem_map.1 hm
  simp only [Prod.mk.injEq] at heq
  refine ⟨p.1, heq.1.symm, ?_⟩
  rw [← h3, ← heq.2]
  clear h1 h3 hm heq
  induction kvs with
  | nil => cases hp
  | cons q r ih =>
    simp only [List.map_cons, List.nodup_cons] at h2
    rw [getI_cons]
    rcases List.mem_cons.1 hp with rfl | hp'
    · rw [if_pos rfl]
    · rw [if_neg (fun e => h2.1 (by rw [e]; exact List.mem_map_of_mem hp'))]
      exact ih h2.2 hp'
theorem MapG.all {es : List MapEntry} {clock : Nat} {g : Int → Option Value} (H : MapG es clock g) {k : Int} {v : Value} (hv : g k = some v) : ∃ e ∈ es, e.key = .int .i64 k ∧ e.val = v := by
  obtain ⟨kvs, h1, h2, h3⟩ := H.kvs
  rw [← h3] at hv
  obtain ⟨p, hp, rfl⟩ := Option.map_eq_some_iff.1 hv
  have hmem := List.mem_of_find?_eq_some hp
  have hk : p.1 = k := by simpa using List.find?_some hp
  have hm : (Value.int .i64 p.1, p.2) ∈ es.map (fun e => (e.key, e.val)) := by rw [h1]; exact List.mem_map_of_mem hmem
  obtain ⟨e, he, heq⟩ := List.mem_map.1 hm
  simp only [Prod.mk.injEq] at heq
  exact ⟨e, he, by rw [heq.1, hk], heq.2⟩
/-- of two entries with one key there is but one -/
theorem MapG.one {es : List MapEntry} {clock : Nat} {g : Int → Option Value} (H : MapG es clock g) {e e' : MapEntry} (he : e ∈ es) (he' : e' ∈ es) (hk : e.key = e'.key) : e = e' := by
  obtain ⟨kvs, h1, h2, _⟩ := H.kvs
  have hn : (es.map (·.key)).Nodup := by
    have : es.map (·.key) = (kvs.map (·.1)).map (Value.int .i64 ·) := by
      have := congrArg (List.map Prod.fst) h1
      simpa [List.map_map, Function.comp_def] using this
    rw [this]
    exact List.Pairwise.map _ (fun a b h e => h (by cases e; rfl)) h2
  clear h1 h2 H
  induction es with
  | nil => cases he
  | cons x r ih =>
    simp only [List.map_cons, List.nodup_cons] at hn
    rcases List.mem_cons.1 he with rfl | h1
    · rcases List.mem_cons.1 he' with rfl | h2
      · rfl
      · exact absurd (by rw [hk]; exact List.mem_map_of_mem h2) hn.1
    · rcases List.mem_cons.1 he' with rfl | h2
      · exact absurd (by rw [← hk]; exact List.mem_map_of_mem h1) hn.1
      · exact ih h1 h2 hn.2
end
end E
end Go.Proofs.Ythpgjbdacknkgaa
