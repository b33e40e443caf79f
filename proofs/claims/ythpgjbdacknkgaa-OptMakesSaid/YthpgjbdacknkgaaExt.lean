/- More laws of one's own walks. No statement of the seat in it. -/
import Derived.Test.YthpgjbdacknkgaaSt
import Derived.ChangeKeysEq
namespace Go.Proofs.Ythpgjbdacknkgaa
namespace E
open Go

section
variable {P : Program} {L : Env} {ρ : Ro} {M : List Asr} {o : Oper} {K : Value → Ro → List Asr → Prop}
/-- a quiet operation, taken at its place -/
theorem LOp.q {v : Value} (h : QOp P L ρ M o v) (hk : K v ρ M) : LOp P L ρ M o K := LOp.val fun n a w ha H => ⟨v, ρ, M, w, h n a w ha H, H, hk⟩
theorem kEq {ρ : Ro} {M : List Asr} {K : Value → Ro → List Asr → Prop} {v v' : Value} (h : K v ρ M) (e : v = v') : K v' ρ M := by subst e; exact h
/-- a result that freezes -/
theorem Hoa.frz {f : FuncId} {args : Array Value} {R : Value → Ro → List Asr → Prop}
    (h : Hoa P f args ρ M (fun v ρ1 M1 => ∃ A M0, M1 = A :: M0 ∧ ∀ ρ2, Ro.le ρ1 ρ2 → (∃ h, A h ∧ ∀ b o, h b = some o → ρ2.blk b = some o) → R v ρ2 M0)) : Hoa P f args ρ M R := fun w H => by
  refine (h w H).mono ?_
  rintro e w' ⟨v, ρ1, M1, e1, H', A, M0, rfl, h2⟩
  obtain ⟨ρ2, k1, k2, k3⟩ := H'.freeze
  exact ⟨v, ρ2, M0, e1, k3, h2 ρ2 k1 k2⟩
/-- what stays may be said less -/
theorem Hoa.weak {f : FuncId} {args : Array Value} {R : Value → Ro → List Asr → Prop}
    (h : Hoa P f args ρ M (fun v ρ1 M1 => ∃ ρ2, Ro.le ρ2 ρ1 ∧ R v ρ2 M1)) : Hoa P f args ρ M R := fun w H => by
  refine (h w H).mono ?_
  rintro e w' ⟨v, ρ1, M1, e1, H', ρ2, k1, k2⟩
  exact ⟨v, ρ2, M1, e1, Ent.weak k1 M1 w' H', k2⟩
end

/-! ### going through a string -/
def sit (bi : Nat) (s : ByteArray) (pos : Nat) : Asr := fun h => h = one bi (.stringIter s pos)
section
variable {P : Program} {L : Env} {ρ : Ro} {M : List Asr} {o : Oper} {K : Value → Ro → List Asr → Prop}
theorem l_rangeStr {t : TypeId} {x : Operand} {s : ByteArray} (ho : o.op = .range t x) (hx : ev L x = some (.string s)) (ht : P.underlying t = some .string)
    (h : ∀ bi, K (.pointer (some ⟨bi, 0, none⟩)) ρ (sit bi s 0 :: M)) : LOp P L ρ M o K :=
  LOp.val fun n a w ha H => ⟨_, ρ, _, w.alloc (.stringIter s 0), by simp [execOp, ho, ha.ev hx, Instr.range, run_underlying ht], H.alloc (P := sit w.heap.size s 0) _ rfl, h w.heap.size⟩
theorem decode_low {s : ByteArray} {i : Nat} (h : i < s.size) (hl : (s[i]'h).toNat < 128) : Utf8.decode s i = ((s[i]'h).toNat, 1) := by
  have h0 : s.get! (i + 0) = s[i]'h := by
    obtain ⟨d⟩ := s
    have hd : i < d.size := h
    show d.getD (i + 0) default = d[i]
    simp [Array.getD, hd]
  have : (s.get! (i + 0)).toNat < 0x80 := by rw [h0]; exact hl
  unfold Utf8.decode
  simp only [if_pos this, h0]
  rw [if_pos hl]
theorem run_setObj_str {w : World} {r : Nat} {s : ByteArray} {p : Nat} (hr : w.heap[r]? = some (.stringIter s p)) (o' : Obj) : (setObj r o').run P w = .ok () { w with heap := w.heap.setIfInBounds r o' } := by
  simp [setObj, Sem.run, hr]
theorem l_nextStr {x : Operand} {bi pos : Nat} {s : ByteArray} {f : Asr → List Asr} (ho : o.op = .next x true) (hx : ev L x = some (.pointer (some ⟨bi, 0, none⟩))) (hk : Ix M (sit bi s pos) f)
    (hlow : ∀ h : pos < s.size, (s[pos]'h).toNat < 128)
    (hover : s.size ≤ pos → K (.tuple #[.bool false]) ρ (f (sit bi s pos)))
    (hstep : ∀ h : pos < s.size, K (.tuple #[.bool true, .int .i64 pos, .int .i32 ((s[pos]'h).toNat : Int)]) ρ (f (sit bi s (pos + 1)))) : LOp P L ρ M o K :=
  LOp.val fun n a w ha H => by
    obtain ⟨hh, rfl, a2, a3⟩ := H.at hk
    have hr : w.heap[bi]? = some (.stringIter s pos) := a2 bi _ (one_self _ _)
    have hlt : bi < w.heap.size := (Array.getElem?_eq_some_iff.1 hr).1
    have hget : (getObj bi).run P w = .ok (.stringIter s pos) w := by simp [getObj, Sem.run, hr]
    by_cases hp : pos < s.size
    · have hset := run_setObj_str (P := P) hr (.stringIter s (pos + 1))
      refine ⟨_, ρ, _, { w with heap := w.heap.setIfInBounds bi (.stringIter s (pos + 1)) }, ?_, ?_, hstep hp⟩
      · simp [execOp, ho, ha.ev hx, Instr.next, hget, hp, decode_low hp (hlow hp), hset, goInt]
      · refine a3 _ (sit bi s (pos + 1)) (one bi (.stringIter s (pos + 1))) setObj_ext rfl (fun y z hyz => ?_) (fun y hy => .inl ?_)
        · have := one_ne _ (by rw [hyz]; simp : one bi (.stringIter s (pos + 1)) y ≠ none)
          subst this
          rw [one_self] at hyz
          cases hyz
          exact Array.getElem?_setIfInBounds_self_of_lt hlt
        · have := one_ne _ hy
          subst this
          rw [one_self]; simp
    · refine ⟨_, ρ, _, w, ?_, ?_, hover (by omega)⟩
      · simp [execOp, ho, ha.ev hx, Instr.next, hget, hp]
      · exact a3 w (sit bi s pos) _ (Ext.refl w _) rfl a2 (fun b hb => .inl hb)
end

/-! ### two hundred bools -/
def encS (s : Nat → Bool) : List Value := (List.range 200).map fun r => .bool (s r)
theorem encS_len (s : Nat → Bool) : (encS s).length = 200 := by simp [encS]
theorem encS_at (s : Nat → Bool) {r : Nat} (h : r < 200) : (encS s)[r]? = some (.bool (s r)) := by simp [encS, h]
theorem encS_one (s : Nat → Bool) : (encS s).all (·.oneCell') = true := by
  unfold encS
  rw [List.all_map, List.all_eq_true]
  intro r _; rfl
def updB (s : Nat → Bool) (k : Nat) (b : Bool) : Nat → Bool := fun r => if r = k then b else s r
theorem encS_put (s : Nat → Bool) {k : Nat} (h : k < 200) (b : Bool) : putAt (encS s) k [.bool b] = encS (updB s k b) := by
  apply List.ext_getElem?
  intro j
  unfold putAt
  have hl := encS_len s
  by_cases h1 : j < k
  · rw [List.append_assoc, List.getElem?_append_left (by rw [List.length_take]; omega), List.getElem?_take_of_lt h1, encS_at _ (by omega), encS_at _ (by omega)]
    unfold updB; rw [if_neg (by omega)]
  · by_cases h2 : j = k
    · subst h2
      rw [List.append_assoc, List.getElem?_append_right (by rw [List.length_take]; omega), List.length_take, show j - min j (encS s).length = 0 from by omega, encS_at _ h]
      unfold updB; simp
    · rw [List.getElem?_append_right (by simp [hl]; omega), List.length_append, List.length_take, List.getElem?_drop]
      simp only [List.length_cons, List.length_nil]
      rw [show k + 1 + (j - (min k (encS s).length + (0 + 1))) = j from by omega]
      by_cases h3 : j < 200
      · rw [encS_at _ h3, encS_at _ h3]
        unfold updB; rw [if_neg h2]
      · rw [List.getElem?_eq_none (by omega), List.getElem?_eq_none (by rw [encS_len]; omega)]
section
variable {P : Program} {L : Env} {ρ : Ro} {M : List Asr} {o : Oper} {K : Value → Ro → List Asr → Prop}
theorem l_storeBit {t T : TypeId} {x y : Operand} {b k : Nat} {a : Addr} {s : Nat → Bool} {v : Bool} {f : Asr → List Asr} (ho : o.op = .store t x y) (hx : ev L x = some (.pointer (some a))) (ha : a = ⟨b, k, none⟩) (hy : ev L y = some (.bool v))
    (hk : Ix M (pt b T (encS s)) f) (ht : (P.info? t).map (·.size) = some 1) (hlt : k < 200) (h : K undef ρ (f (pt b T (encS (updB s k v))))) : LOp P L ρ M o K := by
  subst ha
  exact l_store ho hx hy hk 1 ht rfl (by rw [encS_len]; exact Nat.ble_eq_true_of_le (by omega)) rfl (encS_put s hlt v) h
theorem LoadAt.bit {t T : TypeId} {b k : Nat} {a : Addr} {s : Nat → Bool} {f : Asr → List Asr} (hk : Ix M (pt b T (encS s)) f) (ht : isScal P t = true) (ha : a = ⟨b, k, none⟩) (hlt : k < 200) : LoadAt P ρ M t a (.bool (s k)) := by
  subst ha
  exact LoadAt.own hk ht (encS_at s hlt)
def eqS (s s' : Nat → Bool) : Bool := (List.range 200).all fun r => s r == s' r
theorem eqS_iff {s s' : Nat → Bool} : eqS s s' = true ↔ ∀ r, r < 200 → s r = s' r := by
  unfold eqS
  rw [List.all_eq_true]
  constructor
  · intro h r hr; simpa using h r (List.mem_range.2 hr)
  · intro h r hr; simpa using h r (List.mem_range.1 hr)
/-- is the type an array of two hundred bools? -/
def isBits (P : Program) (t : TypeId) : Bool := match P.underlying t with
  | some (.array n e) => Nat.beq n 200 && (match P.underlying e with | some .bool => true | _ => false) && Nat.beq (P.cellsOf e) 1 && (P.info? e).isSome && !P.eqGuardType P.depth t
  | _ => false
theorem run_eqItems_bits {e : TypeId} (he : P.underlying e = some .bool) (d : Nat) (s s' : Nat → Bool) (w : World) : ∀ l : List Nat, (∀ r ∈ l, r < 200) →
    (Op.eqItems (d + 1) e 1 (encS s).toArray (encS s').toArray l).run P w = .ok (l.all fun r => s r == s' r) w
  | [], _ => by simp [Op.eqItems]
  | r :: l, h => by
    have hr := h r (by simp)
    have hsc : isScal P e = true := by unfold isScal; rw [he]
    have p1 : (part e (encS s).toArray (r * 1)).run P w = .ok (.bool (s r)) w := by
      have := encS_at s hr
      simp [part, run_isAgg_scal hsc, this]
    have p2 : (part e (encS s').toArray (r * 1)).run P w = .ok (.bool (s' r)) w := by
      have := encS_at s' hr
      simp [part, run_isAgg_scal hsc, this]
    have ih := run_eqItems_bits he d s s' w l fun x hx => h x (by simp [hx])
    unfold Op.eqItems
    simp only [Sem.run_bind, p1, p2, Result.andThen_ok, run_equalIn_bool' w d e _ _ he]
    cases hb : s r == s' r
    · simp [hb]
    · simp [hb, ih]
theorem run_eqSets {t : TypeId} {s s' : Nat → Bool} (ht : isBits P t = true) (w : World) :
    (binOp .neq t (.agg (encS s).toArray) (.agg (encS s').toArray)).run P w = .ok (.bool (!eqS s s')) w ∧ ∀ op x y, (eqGuard op t x y (.agg (encS s).toArray) (.agg (encS s').toArray)).run P w = .ok () w := by
  unfold isBits at ht
  cases hu : P.underlying t with
  | none => rw [hu] at ht; cases ht
  | some dd =>
    rw [hu] at ht
    cases dd <;> simp only at ht <;> try (cases ht; done)
    rename_i n e
    simp only [Bool.and_eq_true, Bool.not_eq_true'] at ht
    obtain ⟨⟨⟨⟨h1, h2⟩, h3⟩, h4⟩, h5⟩ := ht
    have hn : n = 200 := Nat.eq_of_beq_eq_true h1
    subst hn
    have he : P.underlying e = some .bool := by
      cases hu' : P.underlying e with
      | none => rw [hu'] at h2; cases h2
      | some d' => rw [hu'] at h2; cases d' <;> simp only at h2 <;> first | rfl | cases h2
    have hc : P.cellsOf e = 1 := Nat.eq_of_beq_eq_true h3
    obtain ⟨i, hi⟩ := Option.isSome_iff_exists.1 h4
    have key : (Op.equalIn 10000 t (.agg (encS s).toArray) (.agg (encS s').toArray)).run P w = .ok (eqS s s') w := by
      rw [show (10000 : Nat) = 9998 + 1 + 1 from rfl, run_equalIn_array w (9998 + 1) _ _ hu hi, hc]
      exact run_eqItems_bits he 9998 s s' w (List.range 200) fun r hr => List.mem_range.1 hr
    refine ⟨?_, fun op x y => run_eqGuard_agg w op t x y _ _ h5⟩
    rw [run_neq_struct, key]; rfl
theorem q_neqSets {t u : TypeId} {x y : Operand} {s s' : Nat → Bool} (ho : o.op = .binOp .neq t x y u) (hx : ev L x = some (.agg (encS s).toArray)) (hy : ev L y = some (.agg (encS s').toArray)) (ht : isBits P t = true) :
    QOp P L ρ M o (.bool (!eqS s s')) := fun m a w ha _ => by
  obtain ⟨a1, a2⟩ := run_eqSets (P := P) (s := s) (s' := s') ht w
  simp [execOp, ho, ha.ev hx, ha.ev hy, a1, a2]
/-- where a scalar field lies in a struct's value -/
def fieldScal (P : Program) (s : TypeId) (f : Nat) : Option Nat := match P.underlying s with
  | some (.struct fs) => match fs[f]? with
    | some d => bif isScal P d.type then some d.offset else none
    | none => none
  | _ => none
theorem q_field {s : TypeId} {x : Operand} {f off : Nat} {cs : Array Value} {v : Value} (ho : o.op = .field s x f) (hx : ev L x = some (.agg cs)) (hf : fieldScal P s f = some off) (hv : cs[off]? = some v) : QOp P L ρ M o v := fun n a w ha _ => by
  unfold fieldScal at hf
  cases hu : P.underlying s with
  | none => rw [hu] at hf; cases hf
  | some dd =>
    rw [hu] at hf
    cases dd <;> simp only at hf <;> try (cases hf; done)
    rename_i fs
    cases hd : fs[f]? with
    | none => rw [hd] at hf; cases hf
    | some d =>
      rw [hd] at hf
      simp only at hf
      cases hs : isScal P d.type with
      | false => rw [hs] at hf; cases hf
      | true =>
        rw [hs] at hf
        simp only [cond_true, Option.some.injEq] at hf
        subst hf
        simp [execOp, ho, ha.ev hx, Instr.field, run_underlying hu, hd, part, run_isAgg_scal hs, hv, asAgg]
end

/-- many entries, as one -/
def bag : List Asr → Asr
  | [] => fun h => h = fun _ => none
  | A :: l => fun h => ∃ h1 h2, A h1 ∧ bag l h2 ∧ (∀ b, h1 b ≠ none → h2 b = none) ∧ h = fun b => match h1 b with | some o => some o | none => h2 b
theorem SEnt.bagNil {M M' : List Asr} (h : SEnt M M') : SEnt M (bag [] :: M') := fun w U hs => by
  refine ⟨fun _ => none, rfl, ?_, ?_, ?_⟩
  · intro b o hb; cases hb
  · intro b hb; exact absurd rfl hb
  · refine Sat.mono (fun b hb => ?_) (h w U hs)
    rcases hb with h | h
    · exact h
    · exact absurd rfl h
theorem SEnt.bagPop {A : Asr} {l M : List Asr} : SEnt (bag (A :: l) :: M) (A :: bag l :: M) := fun w U hs => by
  obtain ⟨h, ⟨h1, h2, a1, a2, a3, rfl⟩, b1, b2, b3⟩ := hs
  refine ⟨h1, a1, fun b o hb => b1 b o (by simp only [hb]), fun b hb => b2 b (by
      cases hh : h1 b with
      | none => exact absurd hh hb
      | some o => simp [hh]), h2, a2, fun b o hb => b1 b o (by
      cases hh : h1 b with
      | none => simp [hh, hb]
      | some o' => have := a3 b (by rw [hh]; simp); rw [this] at hb; cases hb), fun b hb hu => ?_, Sat.mono (fun b hb => ?_) b3⟩
  · rcases hu with hu | hu
    · refine b2 b ?_ hu
      cases hh : h1 b with
      | none => simp [hh, hb]
      | some o' => simp [hh]
    · exact hb (a3 b hu)
  · rcases hb with (hb | hb) | hb
    · exact .inl hb
    · right
      cases hh : h1 b with
      | none => exact absurd hh hb
      | some o => simp [hh]
    · right
      cases hh : h1 b with
      | none => simp [hh, hb]
      | some o => simp [hh]
theorem SEnt.bagPush {A : Asr} {l M : List Asr} : SEnt (A :: bag l :: M) (bag (A :: l) :: M) := fun w U hs => by
  obtain ⟨h1, a1, b1, b2, h2, a2, c1, c2, c3⟩ := hs
  refine ⟨_, ⟨h1, h2, a1, a2, fun b hb => ?_, rfl⟩, fun b o hb => ?_, fun b hb hu => ?_, Sat.mono (fun b hb => ?_) c3⟩
  · apply Classical.byContradiction
    intro h
    exact c2 b h (.inr hb)
  · try simp only at hb
    cases hh : h1 b with
    | none => rw [hh] at hb; exact c1 b o hb
    | some o' => rw [hh] at hb; cases hb; exact b1 b _ hh
  · try simp only at hb
    cases hh : h1 b with
    | none => rw [hh] at hb; exact c2 b hb (.inl hu)
    | some o' => exact b2 b (by rw [hh]; simp) hu
  · rcases hb with hb | hb
    · exact .inl (.inl hb)
    · try simp only at hb
      cases hh : h1 b with
      | none => rw [hh] at hb; exact .inr hb
      | some o' => exact .inl (.inr (by rw [hh]; simp))
theorem SEnt.swap2 {A B : Asr} {M : List Asr} : SEnt (A :: B :: M) (B :: A :: M) := SEnt.take 1 rfl (SEnt.keep (SEnt.refl _))
theorem SEnt.bagOut {A : Asr} {l2 M : List Asr} : ∀ l1 : List Asr, SEnt (bag (l1 ++ A :: l2) :: M) (A :: bag (l1 ++ l2) :: M)
  | [] => SEnt.bagPop
  | B :: l1 => SEnt.trans SEnt.bagPop (SEnt.trans (SEnt.keep (SEnt.bagOut l1)) (SEnt.trans SEnt.swap2 (SEnt.keep SEnt.bagPush)))
theorem SEnt.bagIn {A : Asr} {l2 M : List Asr} : ∀ l1 : List Asr, SEnt (A :: bag (l1 ++ l2) :: M) (bag (l1 ++ A :: l2) :: M)
  | [] => SEnt.bagPush
  | B :: l1 => SEnt.trans (SEnt.keep SEnt.bagPop) (SEnt.trans SEnt.swap2 (SEnt.trans (SEnt.keep (SEnt.bagIn l1)) SEnt.bagPush))
theorem bagAt {α : Type} {f : α → Asr} {l : List α} {i : Nat} (h : i < l.length) (M : List Asr) : SEnt (bag (l.map f) :: M) (f l[i] :: bag ((l.eraseIdx i).map f) :: M) := by
  have e1 : l = l.take i ++ l[i] :: l.drop (i + 1) := by rw [List.getElem_cons_drop h, List.take_append_drop]
  have e2 : l.eraseIdx i = l.take i ++ l.drop (i + 1) := List.eraseIdx_eq_take_drop_succ _ _
  rw [e2]
  rw [show l.map f = (l.take i).map f ++ f l[i] :: (l.drop (i + 1)).map f from by
    conv => lhs; rw [e1]
    rw [List.map_append, List.map_cons], List.map_append]
  exact SEnt.bagOut _
theorem bagSet {α : Type} {f : α → Asr} {l : List α} {i : Nat} (h : i < l.length) (x : α) (M : List Asr) : SEnt (f x :: bag ((l.eraseIdx i).map f) :: M) (bag ((l.set i x).map f) :: M) := by
  have e2 : l.eraseIdx i = l.take i ++ l.drop (i + 1) := List.eraseIdx_eq_take_drop_succ _ _
  rw [e2, List.set_eq_take_append_cons_drop, if_pos h, List.map_append, List.map_append, List.map_cons]
  exact SEnt.bagIn _
theorem bagAdd {α : Type} {f : α → Asr} {l : List α} (x : α) (M : List Asr) : SEnt (f x :: bag (l.map f) :: M) (bag ((l ++ [x]).map f) :: M) := by
  have := SEnt.bagIn (A := f x) (l2 := []) (M := M) (l.map f)
  rw [List.append_nil] at this
  rw [List.map_append]
  exact this
section
variable {P : Program} {L : Env} {ρ : Ro} {M : List Asr} {o : Oper} {K : Value → Ro → List Asr → Prop}
theorem q_eqlStr {t u : TypeId} {x y : Operand} {a b : ByteArray} (ho : o.op = .binOp .eql t x y u) (hx : ev L x = some (.string a)) (hy : ev L y = some (.string b)) (_ht : P.underlying t = some .string) :
    QOp P L ρ M o (.bool (a.toList == b.toList)) := fun n act w ha _ => by
  have h1 : (binOp .eql t (.string a) (.string b)).run P w = .ok (.bool (a.toList == b.toList)) w := by
    simp [binOp, Op.stringOp]
  have h2 : (eqGuard .eql t x y (.string a) (.string b)).run P w = .ok () w := by simp [eqGuard]
  simp [execOp, ho, ha.ev hx, ha.ev hy, h1, h2]
theorem q_eqlStr' {t u : TypeId} {x y : Operand} {a b : ByteArray} {r : Bool} (ho : o.op = .binOp .eql t x y u) (hx : ev L x = some (.string a)) (hy : ev L y = some (.string b)) (ht : P.underlying t = some .string) (h : (a.toList == b.toList) = r) :
    QOp P L ρ M o (.bool r) := by rw [← h]; exact q_eqlStr ho hx hy ht
end
end E
end Go.Proofs.Ythpgjbdacknkgaa
