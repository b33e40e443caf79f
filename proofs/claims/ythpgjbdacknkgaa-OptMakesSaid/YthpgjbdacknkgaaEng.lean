/- A Hoare logic over the walk's own 'Code.wp': registers as a list of pairs, memory as a list of heaplet assertions beside a part that stays. No statement of the seat in it. -/
import Derived.OrdersHeld
import Derived.Tactics
import Derived.KernelRfl
namespace Go.Proofs.Ythpgjbdacknkgaa
namespace E
open Go

/-! ### registers -/
abbrev Env := List (Nat × Value)
def look : Env → Nat → Option Value
  | [], _ => none
  | (k, v) :: r, t => bif k == t then some v else look r t
def ev (L : Env) : Operand → Option Value
  | .tmp t => look L t
  | .const v => some v
  | .global g => some (.pointer (some ⟨g, 0, none⟩))
  | .func f => some (.func (.func f) #[] #[])
/-- of a list of registers those that are kept -/
def keep (L : Env) : List Nat → Env
  | [] => []
  | t :: r => match look L t with
    | some v => (t, v) :: keep L r
    | none => keep L r

structure Agr (n : Nat) (a : Act) (L : Env) : Prop where
  size : a.tmps.size = n
  defers : a.defers = []
  val : ∀ t v, look L t = some v → a.tmps[t]? = some v

theorem Agr.ev {n : Nat} {a : Act} {L : Env} (h : Agr n a L) {x : Operand} {v : Value} (hx : ev L x = some v) : a.eval x = v := by
  cases x with
  | tmp t => simp only [E.ev] at hx; simp [Act.eval, h.val t v hx]
  | const u => simp only [E.ev, Option.some.injEq] at hx; exact hx
  | global g => simp only [E.ev, Option.some.injEq] at hx; exact hx
  | func f => simp only [E.ev, Option.some.injEq] at hx; exact hx

theorem look_cons (k : Nat) (v : Value) (L : Env) (t : Nat) : look ((k, v) :: L) t = if k = t then some v else look L t := by
  simp only [look, Bool.cond_eq_ite, beq_iff_eq]

theorem Agr.put {n : Nat} {a : Act} {L : Env} (h : Agr n a L) {d : Nat} (hd : d < n) (v : Value) : Agr n (a.put (some d) v) ((d, v) :: L) where
  size := by simp [Act.put, h.size]
  defers := h.defers
  val := fun t u hu => by
    rw [look_cons] at hu
    by_cases e : d = t
    · subst e
      rw [if_pos rfl] at hu
      simp only [Act.put]
      rw [Array.getElem?_setIfInBounds_self_of_lt (by rw [h.size]; exact hd)]
      exact hu
    · rw [if_neg e] at hu
      simp only [Act.put]
      rw [Array.getElem?_setIfInBounds_ne e]
      exact h.val t u hu

/-- fewer registers -/
def SubEnv (L' L : Env) : Prop := ∀ t v, look L' t = some v → look L t = some v
theorem Agr.sub {n : Nat} {a : Act} {L L' : Env} (h : Agr n a L) (hs : SubEnv L' L) : Agr n a L' := ⟨h.size, h.defers, fun t v hv => h.val t v (hs t v hv)⟩
theorem SubEnv.nil (L : Env) : SubEnv [] L := fun t v h => by simp [look] at h
theorem SubEnv.cons {L L' : Env} {t : Nat} {v : Value} (h : look L t = some v) (hs : SubEnv L' L) : SubEnv ((t, v) :: L') L := fun u x hx => by
  rw [look_cons] at hx
  by_cases e : t = u
  · subst e; rw [if_pos rfl] at hx; rw [h]; exact hx
  · rw [if_neg e] at hx; exact hs u x hx
theorem SubEnv.refl (L : Env) : SubEnv L L := fun _ _ h => h
theorem SubEnv.keep (L : Env) : ∀ l : List Nat, SubEnv (keep L l) L
  | [] => SubEnv.nil L
  | t :: r => by
    unfold E.keep
    cases h : look L t with
    | some v => exact SubEnv.cons h (SubEnv.keep L r)
    | none => exact SubEnv.keep L r

/-! ### memory -/
abbrev Hl := Nat → Option Obj
abbrev Asr := Hl → Prop
/-- what stays: the world's other parts, and blocks that nobody writes any more -/
structure Ro where
  os : Os
  tape : Nat → Question → Nat
  output : Array (Nat × ByteArray)
  blk : Hl

structure RoOk (ρ : Ro) (w : World) : Prop where
  os : w.os = ρ.os
  tape : w.tape = ρ.tape
  output : w.output = ρ.output
  blk : ∀ b o, ρ.blk b = some o → w.heap[b]? = some o

def SubH (h : Hl) (w : World) : Prop := ∀ b o, h b = some o → w.heap[b]? = some o

def Sat (w : World) : List Asr → (Nat → Prop) → Prop
  | [], _ => True
  | P :: M, U => ∃ h : Hl, P h ∧ SubH h w ∧ (∀ b, h b ≠ none → ¬ U b) ∧ Sat w M (fun b => U b ∨ h b ≠ none)

def Heap (ρ : Ro) (w : World) (M : List Asr) : Prop := RoOk ρ w ∧ Sat w M (fun b => ρ.blk b ≠ none)

theorem Sat.mono {w : World} : ∀ {M : List Asr} {U U' : Nat → Prop}, (∀ b, U' b → U b) → Sat w M U → Sat w M U'
  | [], _, _, _, _ => trivial
  | _ :: _, _, _, hU, ⟨h, hp, hs, hd, hr⟩ => ⟨h, hp, hs, fun b hb hu => hd b hb (hU b hu), Sat.mono (fun b hb => hb.imp (hU b) id) hr⟩

/-- the blocks outside 'h' that were there are as they were -/
structure Ext (w w' : World) (h : Hl) : Prop where
  os : w'.os = w.os
  tape : w'.tape = w.tape
  output : w'.output = w.output
  blk : ∀ b o, h b = none → w.heap[b]? = some o → w'.heap[b]? = some o

theorem Ext.refl (w : World) (h : Hl) : Ext w w h := ⟨rfl, rfl, rfl, fun _ _ _ h => h⟩
theorem Ext.trans {w w' w'' : World} {h : Hl} (a : Ext w w' h) (b : Ext w' w'' h) : Ext w w'' h :=
  ⟨b.os.trans a.os, b.tape.trans a.tape, b.output.trans a.output, fun x o hx hw => b.blk x o hx (a.blk x o hx hw)⟩

theorem RoOk.ext {ρ : Ro} {w w' : World} {h : Hl} (r : RoOk ρ w) (e : Ext w w' h) (hd : ∀ b, h b ≠ none → ¬ (ρ.blk b ≠ none)) : RoOk ρ w' :=
  ⟨e.os.trans r.os, e.tape.trans r.tape, e.output.trans r.output, fun b o hb => e.blk b o (by
    cases hh : h b with
    | none => rfl
    | some x => exact absurd (by rw [hb]; simp) (hd b (by rw [hh]; simp))) (r.blk b o hb)⟩

theorem SubH.ext {g : Hl} {w w' : World} {h : Hl} (r : SubH g w) (e : Ext w w' h) (hd : ∀ b, g b ≠ none → h b = none) : SubH g w' :=
  fun b o hb => e.blk b o (hd b (by rw [hb]; simp)) (r b o hb)

/-- what has nothing of h's blocks lives on -/
theorem Sat.ext {w w' : World} {h : Hl} (e : Ext w w' h) : ∀ {M : List Asr} {U : Nat → Prop}, (∀ b, h b ≠ none → U b) → Sat w M U → Sat w' M U
  | [], _, _, _ => trivial
  | _ :: _, _, hU, ⟨g, hp, hs, hd, hr⟩ => ⟨g, hp, hs.ext e (fun b hb => by
      cases hh : h b with
      | none => rfl
      | some x => exact absurd (hU b (by rw [hh]; simp)) (hd b hb)), hd, Sat.ext e (fun b hb => .inl (hU b hb)) hr⟩

/-- THE ONE LAW: what entry k says of its blocks; and whatever it is turned into (in these blocks, or in new ones). -/
theorem Sat.focus {w : World} {P : Asr} : ∀ {M : List Asr} {U : Nat → Prop} (k : Nat), M[k]? = some P → Sat w M U →
    ∃ h : Hl, P h ∧ SubH h w ∧ (∀ b, h b ≠ none → ¬ U b) ∧ ∀ (w' : World) (P' : Asr) (h' : Hl), Ext w w' h → P' h' → SubH h' w' →
      (∀ b, h' b ≠ none → h b ≠ none ∨ (w.heap[b]? = none ∧ ¬ U b)) → Sat w' (M.set k P') U := by
  intro M
  induction M with
  | nil => intro U k hk; simp at hk
  | cons Q M ih =>
    rintro U k hk ⟨g, hp, hs, hd, hr⟩
    cases k with
    | zero =>
      simp only [List.getElem?_cons_zero, Option.some.injEq] at hk
      subst hk
      refine ⟨g, hp, hs, hd, fun w' P' h' e hp' hs' hin => ?_⟩
      refine ⟨h', hp', hs', fun b hb hu => ?_, ?_⟩
      · rcases hin b hb with h1 | h1
        · exact hd b h1 hu
        · exact h1.2 hu
      · -- the others: disjoint from g; from h' as well
        have h2 : Sat w' M (fun b => U b ∨ g b ≠ none) := Sat.ext e (fun b hb => .inr hb) hr
        have h3 : ∀ {M : List Asr} {V : Nat → Prop}, (∀ b, U b ∨ g b ≠ none → V b) → Sat w M V → Sat w' M V → Sat w' M (fun b => V b ∨ h' b ≠ none) := by
          intro M
          induction M with
          | nil => intros; trivial
          | cons R M ihM =>
            rintro V hV ⟨g1, a1, a2, a3, a4⟩ -
            refine ⟨g1, a1, a2.ext e (fun b hb => ?_), fun b hb hu => ?_, ?_⟩
            · cases hh : g b with
              | none => rfl
              | some x => exact absurd (hV b (.inr (by rw [hh]; simp))) (a3 b hb)
            · rcases hu with hu | hu
              · exact a3 b hb hu
              · rcases hin b hu with h1 | h1
                · exact a3 b hb (hV b (.inr h1))
                · cases hh : g1 b with
                  | none => exact hb hh
                  | some o => rw [a2 b o hh] at h1; cases h1.1
            · have := ihM (V := fun b => V b ∨ g1 b ≠ none) (fun b hb => .inl (hV b hb)) a4 (Sat.ext e (fun b hb => .inl (hV b (.inr hb))) a4)
              exact Sat.mono (fun b hb => by
                rcases hb with (hb | hb) | hb
                · exact .inl (.inl hb)
                · exact .inr hb
                · exact .inl (.inr hb)) this
        exact Sat.mono (fun b hb => by
          rcases hb with hb | hb
          · exact .inl (.inl hb)
          · exact .inr hb) (h3 (fun b hb => hb) hr h2)
    | succ k =>
      simp only [List.getElem?_cons_succ] at hk
      obtain ⟨h, a1, a2, a3, a4⟩ := ih (U := fun b => U b ∨ g b ≠ none) k hk hr
      refine ⟨h, a1, a2, fun b hb hu => a3 b hb (.inl hu), fun w' P' h' e hp' hs' hin => ?_⟩
      refine ⟨g, hp, hs.ext e (fun b hb => ?_), hd, ?_⟩
      · cases hh : h b with
        | none => rfl
        | some x => exact absurd (.inr hb) (a3 b (by rw [hh]; simp))
      · refine a4 w' P' h' e hp' hs' (fun b hb => ?_)
        rcases hin b hb with h1 | ⟨h1, h2⟩
        · exact .inl h1
        · refine .inr ⟨h1, fun h3 => ?_⟩
          rcases h3 with h3 | h3
          · exact h2 h3
          · cases hh : g b with
            | none => exact h3 hh
            | some o => rw [hs b o hh] at h1; cases h1

theorem Heap.focus {ρ : Ro} {w : World} {M : List Asr} {P : Asr} (H : Heap ρ w M) (k : Nat) (hk : M[k]? = some P) :
    ∃ h : Hl, P h ∧ SubH h w ∧ ∀ (w' : World) (P' : Asr) (h' : Hl), Ext w w' h → P' h' → SubH h' w' →
      (∀ b, h' b ≠ none → h b ≠ none ∨ w.heap[b]? = none) → Heap ρ w' (M.set k P') := by
  obtain ⟨h, a1, a2, a3, a4⟩ := Sat.focus k hk H.2
  refine ⟨h, a1, a2, fun w' P' h' e hp hs hin => ⟨H.1.ext e a3, a4 w' P' h' e hp hs (fun b hb => ?_)⟩⟩
  rcases hin b hb with h1 | h1
  · exact .inl h1
  · refine .inr ⟨h1, fun h2 => ?_⟩
    cases hh : ρ.blk b with
    | none => exact h2 hh
    | some o => rw [H.1.blk b o hh] at h1; cases h1

/-- an entry, and what becomes of the list when it is turned -/
inductive Ix : List Asr → Asr → (Asr → List Asr) → Prop where
  | here {P : Asr} {M : List Asr} : Ix (P :: M) P (fun P' => P' :: M)
  | there {P X : Asr} {M : List Asr} {f : Asr → List Asr} (h : Ix M P f) : Ix (X :: M) P (fun P' => X :: f P')
theorem Ix.idx {M : List Asr} {P : Asr} {f : Asr → List Asr} (h : Ix M P f) : ∃ k, M[k]? = some P ∧ ∀ P', f P' = M.set k P' := by
  induction h with
  | here => exact ⟨0, rfl, fun _ => rfl⟩
  | there h ih => obtain ⟨k, h1, h2⟩ := ih; exact ⟨k + 1, h1, fun P' => by simp only [h2 P', List.set_cons_succ]⟩
theorem Heap.at {ρ : Ro} {w : World} {M : List Asr} {P : Asr} {f : Asr → List Asr} (H : Heap ρ w M) (ix : Ix M P f) :
    ∃ h : Hl, P h ∧ SubH h w ∧ ∀ (w' : World) (P' : Asr) (h' : Hl), Ext w w' h → P' h' → SubH h' w' →
      (∀ b, h' b ≠ none → h b ≠ none ∨ w.heap[b]? = none) → Heap ρ w' (f P') := by
  obtain ⟨k, h1, h2⟩ := ix.idx
  obtain ⟨h, a1, a2, a3⟩ := H.focus k h1
  exact ⟨h, a1, a2, fun w' P' h' e hp hs hin => by rw [h2 P']; exact a3 w' P' h' e hp hs hin⟩

/-- a new entry, in blocks that are new -/
theorem Heap.fresh {ρ : Ro} {w w' : World} {M : List Asr} (H : Heap ρ w M) (P : Asr) (h : Hl) (e : Ext w w' (fun _ => none)) (hp : P h) (hs : SubH h w') (hn : ∀ b, h b ≠ none → w.heap[b]? = none) :
    Heap ρ w' (P :: M) := by
  refine ⟨H.1.ext e (fun b hb => absurd rfl hb), h, hp, hs, fun b hb hu => ?_, ?_⟩
  · cases hh : ρ.blk b with
    | none => exact hu hh
    | some o => have := hn b hb; rw [H.1.blk b o hh] at this; cases this
  · have h1 : Sat w' M (fun b => ρ.blk b ≠ none) := Sat.ext e (fun b hb => absurd rfl hb) H.2
    have h2 : ∀ {M : List Asr} {V : Nat → Prop}, Sat w M V → Sat w' M (fun b => V b ∨ h b ≠ none) := by
      intro M
      induction M with
      | nil => intros; trivial
      | cons R M ih =>
        rintro V ⟨g, a1, a2, a3, a4⟩
        refine ⟨g, a1, a2.ext e (fun _ _ => rfl), fun b hb hu => ?_, Sat.mono (fun b hb => ?_) (ih a4)⟩
        · rcases hu with hu | hu
          · exact a3 b hb hu
          · cases hh : g b with
            | none => exact hb hh
            | some o => have := hn b hu; rw [a2 b o hh] at this; cases this
        · rcases hb with (hb | hb) | hb
          · exact .inl (.inl hb)
          · exact .inr hb
          · exact .inl (.inr hb)
    exact h2 H.2

/-- nothing of memory has turned -/
theorem Heap.same {ρ : Ro} {w w' : World} {M : List Asr} (H : Heap ρ w M) (h : w'.heap = w.heap) (ho : w'.os = w.os) (ht : w'.tape = w.tape) (hp : w'.output = w.output) : Heap ρ w' M := by
  have e : Ext w w' (fun _ => none) := ⟨ho, ht, hp, fun b o _ hb => by rw [h]; exact hb⟩
  exact ⟨H.1.ext e (fun b hb => absurd rfl hb), Sat.ext e (fun b hb => absurd rfl hb) H.2⟩

/-! ### entailment -/
def Ent (ρ : Ro) (M : List Asr) (ρ' : Ro) (M' : List Asr) : Prop := ∀ w, Heap ρ w M → Heap ρ' w M'
theorem Ent.refl (ρ : Ro) (M : List Asr) : Ent ρ M ρ M := fun _ h => h
theorem Ent.nil (ρ : Ro) (M : List Asr) : Ent ρ M ρ [] := fun _ h => ⟨h.1, trivial⟩
theorem Ent.keep {ρ : Ro} {P : Asr} {M M' : List Asr} (h : ∀ w U, Sat w M U → Sat w M' U) : ∀ w U, Sat w (P :: M) U → Sat w (P :: M') U :=
  fun w U ⟨g, a1, a2, a3, a4⟩ => ⟨g, a1, a2, a3, h w _ a4⟩
def SEnt (M M' : List Asr) : Prop := ∀ w U, Sat w M U → Sat w M' U
theorem SEnt.refl (M : List Asr) : SEnt M M := fun _ _ h => h
theorem SEnt.nil (M : List Asr) : SEnt M [] := fun _ _ _ => trivial
theorem SEnt.keep {P : Asr} {M M' : List Asr} (h : SEnt M M') : SEnt (P :: M) (P :: M') := fun w U ⟨g, a1, a2, a3, a4⟩ => ⟨g, a1, a2, a3, h w _ a4⟩
theorem SEnt.drop {P : Asr} {M M' : List Asr} (h : SEnt M M') : SEnt (P :: M) M' := fun w U ⟨_, _, _, _, a4⟩ => Sat.mono (fun _ => .inl) (h w _ a4)
theorem SEnt.imp {P P' : Asr} {M M' : List Asr} (hp : ∀ h, P h → P' h) (h : SEnt M M') : SEnt (P :: M) (P' :: M') := fun w U ⟨g, a1, a2, a3, a4⟩ => ⟨g, hp _ a1, a2, a3, h w _ a4⟩
theorem SEnt.swap {P P' : Asr} {M : List Asr} : SEnt (P :: P' :: M) (P' :: P :: M) := fun w U ⟨g, a1, a2, a3, g', b1, b2, b3, b4⟩ =>
  ⟨g', b1, b2, fun b hb hu => b3 b hb (.inl hu), g, a1, a2, fun b hb hu => hu.elim (a3 b hb) (fun h' => b3 b h' (.inr hb)), Sat.mono (fun b hb => by
    rcases hb with (hb | hb) | hb
    · exact .inl (.inl hb)
    · exact .inr hb
    · exact .inl (.inr hb)) b4⟩
theorem SEnt.trans {M M' M'' : List Asr} (h : SEnt M M') (h' : SEnt M' M'') : SEnt M M'' := fun w U hs => h' w U (h w U hs)
theorem Ent.of {ρ : Ro} {M M' : List Asr} (h : SEnt M M') : Ent ρ M ρ M' := fun w H => ⟨H.1, h w _ H.2⟩
theorem Ent.trans {ρ ρ' ρ'' : Ro} {M M' M'' : List Asr} (h : Ent ρ M ρ' M') (h' : Ent ρ' M' ρ'' M'') : Ent ρ M ρ'' M'' := fun w H => h' w (h w H)
/-- entry k comes to the front -/
theorem SEnt.front : ∀ {M : List Asr} {P : Asr} (k : Nat), M[k]? = some P → SEnt M (P :: M.eraseIdx k)
  | [], _, _, h => by simp at h
  | Q :: M, P, 0, h => by
    simp only [List.getElem?_cons_zero, Option.some.injEq] at h
    subst h
    exact SEnt.refl _
  | Q :: M, P, k + 1, h => (SEnt.keep (SEnt.front k (by simpa using h))).trans SEnt.swap

/-! ### judgements -/
def NoAct (Q : Exit → Act → World → Prop) : Prop := ∀ c a a' w, Q (.panic c) a w → Q (.panic c) a' w

abbrev KP := Env → Ro → List Asr → Prop
abbrev QP := Exit → Env → Ro → List Asr → Prop

/-- the post of a piece of code -/
def post (n : Nat) (Q : QP) : Exit → Act → World → Prop
  | .panic c, _, w => ∃ L ρ M, Heap ρ w M ∧ Q (.panic c) L ρ M
  | e, a, w => ∃ L ρ M, Agr n a L ∧ Heap ρ w M ∧ Q e L ρ M

theorem post_noAct (n : Nat) (Q : QP) : NoAct (post n Q) := fun _ _ _ _ h => h

def Run (P : Program) (n : Nat) (c : Code) (L : Env) (ρ : Ro) (M : List Asr) (Q : QP) : Prop :=
  ∀ a w, Agr n a L → Heap ρ w M → c.wp P (post n Q) a w

def Hoa (P : Program) (f : FuncId) (args : Array Value) (ρ : Ro) (M : List Asr) (R : Value → Ro → List Asr → Prop) : Prop :=
  ∀ w, Heap ρ w M → Calls P f args w fun e w' => ∃ v ρ' M', e = .returned v ∧ Heap ρ' w' M' ∧ R v ρ' M'

theorem Hoa.mono {P : Program} {f : FuncId} {args : Array Value} {ρ : Ro} {M : List Asr} {R R' : Value → Ro → List Asr → Prop} (h : Hoa P f args ρ M R) (hr : ∀ v ρ' M', R v ρ' M' → R' v ρ' M') : Hoa P f args ρ M R' :=
  fun w H => (h w H).mono fun _ _ ⟨v, ρ', M', e, H', r⟩ => ⟨v, ρ', M', e, H', hr _ _ _ r⟩
theorem Hoa.ent {P : Program} {f : FuncId} {args : Array Value} {ρ ρ1 : Ro} {M M1 : List Asr} {R : Value → Ro → List Asr → Prop} (he : Ent ρ M ρ1 M1) (h : Hoa P f args ρ1 M1 R) : Hoa P f args ρ M R := fun w H => h w (he w H)

/-- an operation that leaves memory alone and yields v -/
def QOp (P : Program) (L : Env) (ρ : Ro) (M : List Asr) (o : Oper) (v : Value) : Prop :=
  ∀ n a w, Agr n a L → Heap ρ w M → (execOp a.eval o).run P w = .ok (.value v) w
/-- any other -/
def LOp (P : Program) (L : Env) (ρ : Ro) (M : List Asr) (o : Oper) (K : Value → Ro → List Asr → Prop) : Prop :=
  ∀ n a w, Agr n a L → Heap ρ w M → ∀ (next : Act → World → Prop) (Q : Exit → Act → World → Prop),
    (∀ v ρ' M' w', Heap ρ' w' M' → K v ρ' M' → next (a.put o.dst v) w') → o.wp P a w next Q

/-- the operations of a region, in the order of the list; S: what the quiet ones may lean on ('none': on all that holds then) -/
def dstOk (n : Nat) (o : Oper) : Bool := match o.dst with | some d => Nat.blt d n | none => true
def envPut (d : Option Tmp) (v : Value) (L : Env) : Env := match d with | some d => (d, v) :: L | none => L
theorem Agr.envPut {n : Nat} {a : Act} {L : Env} {o : Oper} (h : Agr n a L) (hd : dstOk n o = true) (v : Value) : Agr n (a.put o.dst v) (envPut o.dst v L) := by
  unfold dstOk at hd
  unfold E.envPut
  cases e : o.dst with
  | none => exact h
  | some d => rw [e] at hd; exact h.put (by rw [Nat.blt_eq] at hd; exact hd) v

def guardIs (all : Array Oper) (L : Env) (o : Oper) : Option Bool :=
  match o.guard with
  | none => some true
  | some (j, want) => match (all[j]?).bind (·.dst) with
    | none => none
    | some t => match look L t with
      | some (.bool b) => some (b == want)
      | some _ => some false
      | none => none

theorem guardIs_wanted {n : Nat} {a : Act} {L : Env} {all : Array Oper} {o : Oper} {b : Bool} (h : Agr n a L) (hg : guardIs all L o = some b) : Region.wanted o (yielded all a.tmps) = b := by
  unfold guardIs at hg
  unfold Region.wanted
  cases e : o.guard with
  | none => rw [e] at hg; simpa using hg
  | some jw =>
    obtain ⟨j, want⟩ := jw
    rw [e] at hg
    simp only at hg ⊢
    cases ht : (all[j]?).bind (·.dst) with
    | none => rw [ht] at hg; cases hg
    | some t =>
      rw [ht] at hg
      simp only at hg
      cases hl : look L t with
      | none => rw [hl] at hg; cases hg
      | some v =>
        rw [hl] at hg
        have hv := h.val t _ hl
        unfold yielded
        rw [ht]
        simp only [Option.bind_some, hv]
        cases v <;> simp only [Option.some.injEq] at hg <;> rw [← hg] <;> first | rfl | skip
        all_goals (rename_i x; cases x <;> cases want <;> rfl)

/-- sequential -/
def Ops (P : Program) (n : Nat) (all : Array Oper) (l : List Oper) (L : Env) (ρ : Ro) (M : List Asr) (K : KP) : Prop :=
  ∀ a w, Agr n a L → Heap ρ w M → ∀ Q : Exit → Act → World → Prop, NoAct Q →
    (∀ a' w' L' ρ' M', Agr n a' L' → Heap ρ' w' M' → K L' ρ' M' → Q .normal a' w') → wpList P all Q l a w

section
variable {P : Program} {n : Nat} {all : Array Oper} {l : List Oper} {o : Oper} {L : Env} {ρ : Ro} {M : List Asr} {K : KP}
theorem Ops.nil (h : K L ρ M) : Ops P n all [] L ρ M K := fun a w ha H Q _ hQ => hQ a w L ρ M ha H h
theorem Ops.q (v : Value) (hq : QOp P L ρ M o v) (hg : guardIs all L o = some true) (hd : dstOk n o = true) (h : Ops P n all l (envPut o.dst v L) ρ M K) : Ops P n all (o :: l) L ρ M K := by
  intro a w ha H Q hn hQ
  unfold wpList
  rw [if_pos (guardIs_wanted ha hg)]
  left
  unfold Oper.wp
  rw [hq n a w ha H]
  simp only [Oper.upon]
  exact h _ w (ha.envPut hd v) H Q hn hQ
theorem Ops.skip (hg : guardIs all L o = some false) (hd : dstOk n o = true) (h : Ops P n all l (envPut o.dst undef L) ρ M K) : Ops P n all (o :: l) L ρ M K := by
  intro a w ha H Q hn hQ
  unfold wpList
  rw [if_neg (by rw [guardIs_wanted ha hg]; simp)]
  exact h _ w (ha.envPut hd undef) H Q hn hQ
theorem Ops.loud (hg : guardIs all L o = some true) (hd : dstOk n o = true) (hl : LOp P L ρ M o (fun v ρ' M' => Ops P n all l (envPut o.dst v L) ρ' M' K)) : Ops P n all (o :: l) L ρ M K := by
  intro a w ha H Q hn hQ
  unfold wpList
  rw [if_pos (guardIs_wanted ha hg)]
  left
  exact hl n a w ha H _ Q fun v ρ' M' w' H' h => h _ w' (ha.envPut hd v) H' Q hn hQ
theorem Ops.ent {ρ1 : Ro} {M1 : List Asr} (he : Ent ρ M ρ1 M1) (h : Ops P n all l L ρ1 M1 K) : Ops P n all l L ρ M K := fun a w ha H => h a w ha (he w H)
theorem Ops.mono {K' : KP} (h : Ops P n all l L ρ M K) (hk : ∀ L ρ M, K L ρ M → K' L ρ M) : Ops P n all l L ρ M K' :=
  fun a w ha H Q hn hQ => h a w ha H Q hn (fun a' w' L' ρ' M' x y z => hQ a' w' L' ρ' M' x y (hk _ _ _ z))
end

/-! ### a region that draws its order -/
/-- a plan: which operation comes next; 'q': it is quiet and may be taken first; 'l': only it is ready; 'alt': one of two comes next -/
inductive Pl where
  | nil | q (i : Nat) (r : Pl) | l (i : Nat) (r : Pl) | alt (i j : Nat) (a b : Pl) | alt3 (i j k : Nat) (a b c : Pl) | ph (ds : List Nat) (r : Pl)
/-- whoever is not in ds, and has not come up, waits for each of ds -/
def tailOk (ops : Array Oper) (ds : List Nat) (listed : Array Bool) : Bool := (List.range ops.size).all fun j => ds.contains j || listed.getD j true || match ops[j]? with
  | some oj => ds.all fun d => oj.after.any fun e => Region.binds .any e && e.on == d
  | none => true
/-- operations that are quiet come up one by one, whoever else is there waits for all of them -/
def qOk (ops : Array Oper) (ds : List Nat) (fin : Nat → Array Bool → Bool) : List Nat → Nat → Array Bool → Bool
  | [], fuel, listed => (ds.all fun d => listed.getD d false) && fin fuel listed
  | i :: r, fuel, listed => match fuel with
    | 0 => false
    | fuel + 1 => (Region.ready .any ops listed).contains i && (Region.free .any ops listed i && (ds.contains i && (tailOk ops ds listed && qOk ops ds fin r fuel (listed.setIfInBounds i true))))
def planOk (ops : Array Oper) : Pl → Nat → Array Bool → Bool
  | .ph ds r, fuel, listed => qOk ops ds (fun fuel listed => planOk ops r fuel listed) ds fuel listed
  | .nil, fuel, listed => (Region.ready .any ops listed).isEmpty && fuel == 0
  | .q i r, fuel, listed => match fuel with
    | 0 => false
    | fuel + 1 => (Region.ready .any ops listed).contains i && Region.free .any ops listed i && planOk ops r fuel (listed.setIfInBounds i true)
  | .l i r, fuel, listed => match fuel with
    | 0 => false
    | fuel + 1 => (Region.ready .any ops listed == [i]) && planOk ops r fuel (listed.setIfInBounds i true)
  | .alt i j a b, fuel, listed => match fuel with
    | 0 => false
    | fuel + 1 => (Region.ready .any ops listed == [i, j]) && (planOk ops a fuel (listed.setIfInBounds i true) && planOk ops b fuel (listed.setIfInBounds j true))
  | .alt3 i j k a b c, fuel, listed => match fuel with
    | 0 => false
    | fuel + 1 => (Region.ready .any ops listed == [i, j, k]) && (planOk ops a fuel (listed.setIfInBounds i true) && (planOk ops b fuel (listed.setIfInBounds j true) && planOk ops c fuel (listed.setIfInBounds k true)))

/-- the plan's run: ρS, S: what every world in it meets -/
def Plan (P : Program) (n : Nat) (all : Array Oper) (ρS : Ro) (S : List Asr) (p : Pl) (L : Env) (ρ : Ro) (M : List Asr) (K : KP) : Prop :=
  ∀ fuel listed, planOk all p fuel listed = true → Region.noSelect all = true → ∀ a w, Agr n a L → Heap ρ w M → Heap ρS w S → ∀ Q : Exit → Act → World → Prop, NoAct Q →
    (∀ a' w' L' ρ' M', Agr n a' L' → Heap ρ' w' M' → K L' ρ' M' → Q .normal a' w') → wpAnyH P .any all Q (fun w => Heap ρS w S) fuel listed a w
/-- operation i, then the plan -/
def StepA (P : Program) (n : Nat) (all : Array Oper) (ρS : Ro) (S : List Asr) (i : Nat) (p : Pl) (L : Env) (ρ : Ro) (M : List Asr) (K : KP) : Prop :=
  ∀ (fuel : Nat) (listed : Array Bool), planOk all p fuel (listed.setIfInBounds i true) = true → Region.noSelect all = true → ∀ a w, Agr n a L → Heap ρ w M → Heap ρS w S → ∀ Q : Exit → Act → World → Prop, NoAct Q →
    (∀ a' w' L' ρ' M', Agr n a' L' → Heap ρ' w' M' → K L' ρ' M' → Q .normal a' w') →
    wpOp P all Q i (fun a' w' => Heap ρS w' S ∧ wpAnyH P .any all Q (fun w => Heap ρS w S) fuel (listed.setIfInBounds i true) a' w') a w

def nth : List Oper → Nat → Option Oper
  | [], _ => none
  | a :: r, i => match i with
    | 0 => some a
    | i + 1 => nth r i
theorem nth_eq : ∀ (l : List Oper) (i : Nat), nth l i = l[i]?
  | [], _ => by simp [nth]
  | a :: r, 0 => by simp [nth]
  | a :: r, i + 1 => by simp only [nth, List.getElem?_cons_succ]; exact nth_eq r i
section
variable {P : Program} {n : Nat} {all : List Oper} {p p' p'' : Pl} {o : Oper} {L : Env} {ρ ρS : Ro} {M S : List Asr} {K : KP} {i j k : Nat}
theorem Plan.nil (h : K L ρ M) : Plan P n all.toArray ρS S .nil L ρ M K := by
  intro fuel listed hp hs a w ha H HS Q hn hQ
  simp only [planOk, Bool.and_eq_true, List.isEmpty_iff, beq_iff_eq] at hp
  obtain ⟨hp, rfl⟩ := hp
  exact wpAnyH_done hp (hQ a w L ρ M ha H h) _
theorem Plan.q (o : Oper) (hi : nth all i = some o) (v : Value) (hq : QOp P L ρS S o v) (hg : guardIs all.toArray L o = some true) (hd : dstOk n o = true)
    (h : Plan P n all.toArray ρS S p (envPut o.dst v L) ρ M K) : Plan P n all.toArray ρS S (.q i p) L ρ M K := by
  intro fuel listed hp hs a w ha H HS Q hn hQ
  cases fuel with
  | zero => simp [planOk] at hp
  | succ fuel =>
  simp only [planOk, Bool.and_eq_true] at hp
  have hi : all.toArray[i]? = some o := by rw [List.getElem?_toArray, ← nth_eq]; exact hi
  refine wpAnyH_take hi hs hp.1.2 hp.1.1 (fun c a w h => hn c _ _ w h) (v := v) (.inl ⟨guardIs_wanted ha hg, fun w' hw' => hq n a w' ha hw'⟩) HS ?_
  exact h _ _ hp.2 hs _ w (ha.envPut hd v) H HS Q hn hQ
theorem Plan.skip (o : Oper) (hi : nth all i = some o) (hg : guardIs all.toArray L o = some false) (hd : dstOk n o = true)
    (h : Plan P n all.toArray ρS S p (envPut o.dst undef L) ρ M K) : Plan P n all.toArray ρS S (.q i p) L ρ M K := by
  intro fuel listed hp hs a w ha H HS Q hn hQ
  cases fuel with
  | zero => simp [planOk] at hp
  | succ fuel =>
  simp only [planOk, Bool.and_eq_true] at hp
  have hi : all.toArray[i]? = some o := by rw [List.getElem?_toArray, ← nth_eq]; exact hi
  refine wpAnyH_take hi hs hp.1.2 hp.1.1 (fun c a w h => hn c _ _ w h) (v := undef) (.inr ⟨guardIs_wanted ha hg, rfl⟩) HS ?_
  exact h _ _ hp.2 hs _ w (ha.envPut hd undef) H HS Q hn hQ
theorem StepA.loud (o : Oper) (hi : nth all i = some o) (hg : guardIs all.toArray L o = some true) (hd : dstOk n o = true)
    (hl : LOp P L ρ M o (fun v ρ' M' => Ent ρ' M' ρS S ∧ Plan P n all.toArray ρS S p (envPut o.dst v L) ρ' M' K)) : StepA P n all.toArray ρS S i p L ρ M K := by
  intro fuel listed hp hs a w ha H HS Q hn hQ
  have hi : all.toArray[i]? = some o := by rw [List.getElem?_toArray, ← nth_eq]; exact hi
  unfold wpOp
  simp only [hi, guardIs_wanted ha hg, if_true]
  left
  exact hl n a w ha H _ Q fun v ρ' M' w' H' h => ⟨h.1 w' H', h.2 _ _ hp hs _ w' (ha.envPut hd v) H' (h.1 w' H') Q hn hQ⟩
theorem StepA.loudskip (o : Oper) (hi : nth all i = some o) (hg : guardIs all.toArray L o = some false) (hd : dstOk n o = true)
    (h : Plan P n all.toArray ρS S p (envPut o.dst undef L) ρ M K) : StepA P n all.toArray ρS S i p L ρ M K := by
  intro fuel listed hp hs a w ha H HS Q hn hQ
  have hi : all.toArray[i]? = some o := by rw [List.getElem?_toArray, ← nth_eq]; exact hi
  unfold wpOp
  simp only [hi, guardIs_wanted ha hg]
  exact ⟨HS, h _ _ hp hs _ w (ha.envPut hd undef) H HS Q hn hQ⟩
/-- a quiet operation that comes up among others -/
theorem Plan.one (h : StepA P n all.toArray ρS S i p L ρ M K) : Plan P n all.toArray ρS S (.l i p) L ρ M K := by
  intro fuel listed hp hs a w ha H HS Q hn hQ
  cases fuel with
  | zero => simp [planOk] at hp
  | succ fuel =>
  simp only [planOk, Bool.and_eq_true, beq_iff_eq] at hp
  refine wpAnyH_all hp.1 (by simp) fun j hj => ?_
  obtain rfl := List.mem_singleton.1 hj
  exact h _ _ hp.2 hs a w ha H HS Q hn hQ
theorem Plan.loud (o : Oper) (hi : nth all i = some o) (hg : guardIs all.toArray L o = some true) (hd : dstOk n o = true)
    (hl : LOp P L ρ M o (fun v ρ' M' => Ent ρ' M' ρS S ∧ Plan P n all.toArray ρS S p (envPut o.dst v L) ρ' M' K)) : Plan P n all.toArray ρS S (.l i p) L ρ M K :=
  Plan.one (StepA.loud o hi hg hd hl)
theorem Plan.loudskip (o : Oper) (hi : nth all i = some o) (hg : guardIs all.toArray L o = some false) (hd : dstOk n o = true)
    (h : Plan P n all.toArray ρS S p (envPut o.dst undef L) ρ M K) : Plan P n all.toArray ρS S (.l i p) L ρ M K := Plan.one (StepA.loudskip o hi hg hd h)
theorem Plan.alt (h : StepA P n all.toArray ρS S i p L ρ M K) (h' : StepA P n all.toArray ρS S j p' L ρ M K) : Plan P n all.toArray ρS S (.alt i j p p') L ρ M K := by
  intro fuel listed hp hs a w ha H HS Q hn hQ
  cases fuel with
  | zero => simp [planOk] at hp
  | succ fuel =>
  simp only [planOk, Bool.and_eq_true, beq_iff_eq] at hp
  refine wpAnyH_all hp.1 (by simp) fun x hx => ?_
  rcases List.mem_cons.1 hx with rfl | hx
  · exact h _ _ hp.2.1 hs a w ha H HS Q hn hQ
  · obtain rfl := List.mem_singleton.1 hx
    exact h' _ _ hp.2.2 hs a w ha H HS Q hn hQ
theorem Plan.alt3 (h : StepA P n all.toArray ρS S i p L ρ M K) (h' : StepA P n all.toArray ρS S j p' L ρ M K) (h'' : StepA P n all.toArray ρS S k p'' L ρ M K) : Plan P n all.toArray ρS S (.alt3 i j k p p' p'') L ρ M K := by
  intro fuel listed hp hs a w ha H HS Q hn hQ
  cases fuel with
  | zero => simp [planOk] at hp
  | succ fuel =>
  simp only [planOk, Bool.and_eq_true, beq_iff_eq] at hp
  refine wpAnyH_all hp.1 (by simp) fun x hx => ?_
  rcases List.mem_cons.1 hx with rfl | hx
  · exact h _ _ hp.2.1 hs a w ha H HS Q hn hQ
  · rcases List.mem_cons.1 hx with rfl | hx
    · exact h' _ _ hp.2.2.1 hs a w ha H HS Q hn hQ
    · obtain rfl := List.mem_singleton.1 hx
      exact h'' _ _ hp.2.2.2 hs a w ha H HS Q hn hQ
end

/-! ### a phase: quiet operations that all others wait for -/
section
variable {P : Program} {ops : Array Oper} {Q : Exit → Act → World → Prop} {md : Region.Mode} {S : World → Prop}
def wpAnyC (P : Program) (md : Region.Mode) (ops : Array Oper) (Q : Exit → Act → World → Prop) (S : World → Prop) (ds : List Nat) (C : Nat → Array Bool → Act → World → Prop) : Nat → Array Bool → Act → World → Prop
  | 0, listed, a, w => bif ds.all (fun d => listed.getD d false) then C 0 listed a w else (Region.ready md ops listed = [] ∧ Q .normal a w)
  | fuel + 1, listed, a, w => bif ds.all (fun d => listed.getD d false) then C (fuel + 1) listed a w else
    ((Region.ready md ops listed = [] → Q .normal a w) ∧
    ∀ i ∈ Region.ready md ops listed, wpOp P ops Q i (fun a' w' => S w' ∧ wpAnyC P md ops Q S ds C fuel (listed.setIfInBounds i true) a' w') a w)
theorem wpAnyC_stop {ds : List Nat} {C : Nat → Array Bool → Act → World → Prop} {fuel : Nat} {listed : Array Bool} {a : Act} {w : World} (h : (ds.all fun d => listed.getD d false) = true) : wpAnyC P md ops Q S ds C fuel listed a w = C fuel listed a w := by
  cases fuel <;> simp only [wpAnyC, h, cond_true]
theorem wpAnyC_to {ds : List Nat} {S0 : World → Prop} (hs : ∀ w, S w → S0 w) : ∀ (fuel : Nat) (listed : Array Bool) (a : Act) (w : World),
    wpAnyC P md ops Q S ds (fun fuel listed a w => wpAnyH P md ops Q S0 fuel listed a w) fuel listed a w → wpAnyH P md ops Q S0 fuel listed a w
  | 0, listed, a, w, h => by
    cases ht : ds.all (fun d => listed.getD d false) with
    | true => rwa [wpAnyC_stop ht] at h
    | false => simp only [wpAnyC, ht, cond_false] at h; exact h
  | fuel + 1, listed, a, w, h => by
    cases ht : ds.all (fun d => listed.getD d false) with
    | true => rwa [wpAnyC_stop ht] at h
    | false =>
      simp only [wpAnyC, ht, cond_false] at h
      exact ⟨h.1, fun i hi => wpOp_mono (fun a' w' h' => ⟨hs _ h'.1, wpAnyC_to hs fuel _ a' w' h'.2⟩) (h.2 i hi)⟩
theorem wpAnyC_first {ds : List Nat} {C : Nat → Array Bool → Act → World → Prop} {i : Nat} {oi : Oper} {v : Value} (hi : ops[i]? = some oi) (hsel : ∀ (j : Nat) (o : Oper) cs b, ops[j]? = some o → o.op ≠ .select cs b)
    (hQ : ∀ c a w, Q (.panic c) (a.put oi.dst v) w → Q (.panic c) a w) (hds : i ∈ ds) :
    ∀ (fuel : Nat) (listed : Array Bool) (a : Act) (w : World),
      (∀ j oj, ops[j]? = some oj → j ≠ i → listed.getD j true = false → (∀ e ∈ oj.after, Region.binds md e = true → e.on ≠ i) → oi.apart ops oj = true) →
      (∀ j oj, ops[j]? = some oj → j ∉ ds → listed.getD j true = false → ∀ d ∈ ds, ∃ e ∈ oj.after, Region.binds md e = true ∧ e.on = d) →
      i ∈ Region.ready md ops listed → YieldsIf P ops S oi v a → S w →
      wpAnyC P md ops Q S ds C fuel (listed.setIfInBounds i true) (a.put oi.dst v) w → wpAnyC P md ops Q S ds C (fuel + 1) listed a w := by
  have notT : ∀ listed : Array Bool, i ∈ Region.ready md ops listed → (ds.all fun d => listed.getD d false) = false := fun listed hr => by
    rw [List.all_eq_false]
    refine ⟨i, hds, ?_⟩
    have h0 := (mem_ready.1 hr).1
    intro h1
    rcases Nat.lt_or_ge i listed.size with h' | h'
    · simp [h'] at h0 h1; rw [h0] at h1; cases h1
    · simp [Array.getElem?_eq_none h'] at h1
  have alone : ∀ listed : Array Bool, i ∈ Region.ready md ops listed → (∀ j oj, ops[j]? = some oj → j ∉ ds → listed.getD j true = false → ∀ d ∈ ds, ∃ e ∈ oj.after, Region.binds md e = true ∧ e.on = d) →
      (ds.all fun d => (listed.setIfInBounds i true).getD d false) = true → ∀ j ∈ Region.ready md ops listed, j = i := fun listed hr htail hT j hj => by
    obtain ⟨hjun, oj, hoj, hall⟩ := mem_ready.1 hj
    apply Classical.byContradiction
    intro hji
    by_cases hjd : j ∈ ds
    · have h1 := List.all_eq_true.1 hT j hjd
      rw [getD_set_ne false (Ne.symm hji)] at h1
      rcases Nat.lt_or_ge j listed.size with h' | h'
      · simp [h'] at hjun h1; rw [hjun] at h1; cases h1
      · simp [Array.getElem?_eq_none h'] at h1
    · obtain ⟨e, he, hb, hon⟩ := htail j oj hoj hjd hjun i hds
      have h1 := hall e he hb
      rw [hon] at h1
      have h0 := (mem_ready.1 hr).1
      rcases Nat.lt_or_ge i listed.size with h' | h'
      · simp [h'] at h0 h1; rw [h0] at h1; cases h1
      · simp [Array.getElem?_eq_none h'] at h1
  intro fuel
  induction fuel with
  | zero =>
    intro listed a w hfree htail hr hy hS H
    simp only [wpAnyC, notT listed hr, cond_false]
    refine ⟨fun h => (by rw [h] at hr; cases hr), fun j hj => ?_⟩
    by_cases hji : j = i
    · subst hji; exact hy.wpOp hi hS ⟨hS, H⟩
    · cases ht : ds.all (fun d => (listed.setIfInBounds i true).getD d false) with
      | true => exact absurd (alone listed hr htail ht j hj) hji
      | false =>
        simp only [wpAnyC, ht, cond_false] at H
        have := ready_mono hj hji
        rw [H.1] at this
        cases this
  | succ fuel ih =>
    intro listed a w hfree htail hr hy hS H
    simp only [wpAnyC, notT listed hr, cond_false]
    refine ⟨fun h => (by rw [h] at hr; cases hr), fun j hj => ?_⟩
    by_cases hji : j = i
    · subst hji; exact hy.wpOp hi hS ⟨hS, H⟩
    · cases ht : ds.all (fun d => (listed.setIfInBounds i true).getD d false) with
      | true => exact absurd (alone listed hr htail ht j hj) hji
      | false =>
      simp only [wpAnyC, ht, cond_false] at H
      have h1 := H.2 j (ready_mono hj hji)
      obtain ⟨hjun, oj, hoj, hall⟩ := mem_ready.1 hj
      have hnot : ∀ e ∈ oj.after, Region.binds md e = true → e.on ≠ i := fun e he hb heq => by
        have h1 := hall e he hb
        have h0 := (mem_ready.1 hr).1
        rw [heq] at h1
        rcases Nat.lt_or_ge i listed.size with h' | h'
        · simp [h'] at h0 h1; rw [h0] at h1; cases h1
        · simp [Array.getElem?_eq_none h'] at h1
      have h2 := wpOp_putIf hoj (hfree j oj hoj hji hjun hnot) (fun cs b => hsel i oi cs b hi) (fun cs b => hsel j oj cs b hoj) hQ hy h1
      have hun : ∀ k, (listed.setIfInBounds j true).getD k true = false → listed.getD k true = false := fun k hun => by
        by_cases hjk : j = k
        · subst hjk; exact hjun
        · rw [getD_set_ne true hjk] at hun; exact hun
      refine wpOp_mono (fun a' w' h3 => ⟨h3.2.1, ih (listed.setIfInBounds j true) a' w' (fun k ok hk hki hu hno => hfree k ok hk hki (hun k hu) hno) (fun k ok hk hkd hu => htail k ok hk hkd (hun k hu)) (ready_mono hr (Ne.symm hji)) h3.1 h3.2.1 ?_⟩) h2
      rw [Array.setIfInBounds_comm _ _ hji]
      exact h3.2.2
end
def PlanQ (P : Program) (n : Nat) (all : Array Oper) (ρS : Ro) (S : List Asr) (ds : List Nat) (p : Pl) (rest : List Nat) (L : Env) (ρ : Ro) (M : List Asr) (K : KP) : Prop :=
  ∀ (fuel : Nat) (listed : Array Bool), qOk all ds (fun fuel listed => planOk all p fuel listed) rest fuel listed = true → Region.noSelect all = true → ∀ a w, Agr n a L → Heap ρ w M → Heap ρS w S → ∀ Q : Exit → Act → World → Prop, NoAct Q →
    (∀ a' w' L' ρ' M', Agr n a' L' → Heap ρ' w' M' → K L' ρ' M' → Q .normal a' w') →
    wpAnyC P .any all Q (fun w => Heap ρ w M) ds (fun fuel listed a w => wpAnyH P .any all Q (fun w => Heap ρS w S) fuel listed a w) fuel listed a w
section
variable {P : Program} {n : Nat} {all : List Oper} {p : Pl} {o : Oper} {L : Env} {ρ ρS : Ro} {M S : List Asr} {K : KP} {i : Nat} {ds r : List Nat}
theorem Plan.ph (he : Ent ρ M ρS S) (h : PlanQ P n all.toArray ρS S ds p ds L ρ M K) : Plan P n all.toArray ρS S (.ph ds p) L ρ M K := by
  intro fuel listed hp hs a w ha H HS Q hn hQ
  exact wpAnyC_to he fuel listed a w (h fuel listed hp hs a w ha H HS Q hn hQ)
theorem PlanQ.nil (h : Plan P n all.toArray ρS S p L ρ M K) : PlanQ P n all.toArray ρS S ds p [] L ρ M K := by
  intro fuel listed hp hs a w ha H HS Q hn hQ
  simp only [qOk, Bool.and_eq_true] at hp
  rw [wpAnyC_stop hp.1]
  exact h fuel listed hp.2 hs a w ha H HS Q hn hQ
theorem tailOk_spec {ops : Array Oper} {ds : List Nat} {listed : Array Bool} (h : tailOk ops ds listed = true) (j : Nat) (oj : Oper) (hj : ops[j]? = some oj) (hd : j ∉ ds) (hu : listed.getD j true = false) :
    ∀ d ∈ ds, ∃ e ∈ oj.after, Region.binds .any e = true ∧ e.on = d := by
  intro d hdd
  unfold tailOk at h
  have h1 := List.all_eq_true.1 h j (List.mem_range.2 (Array.getElem?_eq_some_iff.1 hj).1)
  rw [hj, hu] at h1
  have hc : ds.contains j = false := by simpa using hd
  rw [hc] at h1
  simp only [Bool.false_or] at h1
  have h2 := List.all_eq_true.1 h1 d hdd
  obtain ⟨e, he, hb⟩ := Array.any_eq_true'.1 h2
  simp only [Bool.and_eq_true, beq_iff_eq] at hb
  exact ⟨e, he, hb.1, hb.2⟩
theorem PlanQ.take (o : Oper) (hi : nth all i = some o) (v : Value) (hy : ∀ a, Agr n a L → YieldsIf P all.toArray (fun w => Heap ρ w M) o v a) (hd : dstOk n o = true)
    (h : PlanQ P n all.toArray ρS S ds p r (envPut o.dst v L) ρ M K) : PlanQ P n all.toArray ρS S ds p (i :: r) L ρ M K := by
  intro fuel listed hp hs a w ha H HS Q hn hQ
  have hi : all.toArray[i]? = some o := by rw [List.getElem?_toArray, ← nth_eq]; exact hi
  cases fuel with
  | zero => simp [qOk] at hp
  | succ fuel =>
  simp only [qOk, Bool.and_eq_true] at hp
  obtain ⟨h1, h2, h3, h4, h5⟩ := hp
  exact wpAnyC_first hi (Region.noSelect_spec hs) (fun c a w h => hn c _ _ w h) (by simpa using h3) fuel listed a w (Region.free_spec hi h2) (tailOk_spec h4) (by simpa using h1) (hy a ha) H
    (h _ _ h5 hs _ w (ha.envPut hd v) H HS Q hn hQ)
theorem PlanQ.q (o : Oper) (hi : nth all i = some o) (v : Value) (hq : QOp P L ρ M o v) (hg : guardIs all.toArray L o = some true) (hd : dstOk n o = true)
    (h : PlanQ P n all.toArray ρS S ds p r (envPut o.dst v L) ρ M K) : PlanQ P n all.toArray ρS S ds p (i :: r) L ρ M K :=
  PlanQ.take o hi v (fun a ha => .inl ⟨guardIs_wanted ha hg, fun w' hw' => hq n a w' ha hw'⟩) hd h
theorem PlanQ.skip (o : Oper) (hi : nth all i = some o) (hg : guardIs all.toArray L o = some false) (hd : dstOk n o = true)
    (h : PlanQ P n all.toArray ρS S ds p r (envPut o.dst undef L) ρ M K) : PlanQ P n all.toArray ρS S ds p (i :: r) L ρ M K :=
  PlanQ.take o hi undef (fun a ha => .inr ⟨guardIs_wanted ha hg, rfl⟩) hd h
end

/-! ### control -/
def thenQ (next : KP) (Q : QP) : QP
  | .normal, L, ρ, M => next L ρ M
  | e, L, ρ, M => Q e L ρ M
def blockQ (id : Nat) (Q : QP) : QP
  | .exit i, L, ρ, M => if i = id then Q .normal L ρ M else Q (.exit i) L ρ M
  | e, L, ρ, M => Q e L ρ M

section
variable {P : Program} {n : Nat} {c c' : Code} {L : Env} {ρ : Ro} {M : List Asr} {Q : QP}
theorem Run.mono {Q' : QP} (h : Run P n c L ρ M Q) (hq : ∀ e L ρ M, Q e L ρ M → Q' e L ρ M) : Run P n c L ρ M Q' := fun a w ha H =>
  wp_mono (h a w ha H) fun e a' w' hp => by
    cases e <;> simp only [post] at hp ⊢ <;> (obtain ⟨L', ρ', M', r⟩ := hp; first | exact ⟨L', ρ', M', r.1, r.2.1, hq _ _ _ _ r.2.2⟩ | exact ⟨L', ρ', M', r.1, hq _ _ _ _ r.2⟩)
theorem Run.ent {ρ1 : Ro} {M1 : List Asr} (he : Ent ρ M ρ1 M1) (h : Run P n c L ρ1 M1 Q) : Run P n c L ρ M Q := fun a w ha H => h a w ha (he w H)
theorem Run.sub {L1 : Env} (hs : SubEnv L1 L) (h : Run P n c L1 ρ M Q) : Run P n c L ρ M Q := fun a w ha H => h a w (ha.sub hs) H
theorem Run.skip (h : Q .normal L ρ M) : Run P n .skip L ρ M Q := fun _ _ ha H => wp_skip ⟨L, ρ, M, ha, H, h⟩
theorem Run.exit {id : Nat} (h : Q (.exit id) L ρ M) : Run P n (.exit id) L ρ M Q := fun _ _ ha H => wp_exit ⟨L, ρ, M, ha, H, h⟩
theorem Run.ret (h : Q .ret L ρ M) : Run P n .ret L ρ M Q := fun _ _ ha H => wp_ret ⟨L, ρ, M, ha, H, h⟩
theorem Run.seq (h : Run P n c L ρ M (thenQ (fun L ρ M => Run P n c' L ρ M Q) Q)) : Run P n (.seq c c') L ρ M Q := fun a w ha H =>
  wp_seq (wp_mono (h a w ha H) fun e a' w' hp => by
    cases e <;> simp only [post, thenQ, Exit.then] at hp ⊢ <;> first | exact hp | (obtain ⟨L', ρ', M', r1, r2, r3⟩ := hp; exact r3 a' w' r1 r2))
theorem Run.block {id : Nat} (h : Run P n c L ρ M (blockQ id Q)) : Run P n (.block id c) L ρ M Q := fun a w ha H =>
  wp_block (wp_mono (h a w ha H) fun e a' w' hp => by
    cases e with
    | exit i =>
      simp only [post, blockQ, Exit.inBlock] at hp ⊢
      obtain ⟨L', ρ', M', r1, r2, r3⟩ := hp
      by_cases e : i = id
      · rw [if_pos e] at r3 ⊢; exact ⟨L', ρ', M', r1, r2, r3⟩
      · rw [if_neg e] at r3 ⊢; exact ⟨L', ρ', M', r1, r2, r3⟩
    | _ => exact hp)
theorem Run.condT {x : Operand} (hx : ev L x = some (.bool true)) (h : Run P n c L ρ M Q) : Run P n (.cond x c c') L ρ M Q := fun a w ha H => wp_cond_true (ha.ev hx) (h a w ha H)
theorem Run.condF {x : Operand} (hx : ev L x = some (.bool false)) (h : Run P n c' L ρ M Q) : Run P n (.cond x c c') L ρ M Q := fun a w ha H => wp_cond_false (ha.ev hx) (h a w ha H)
theorem Run.cond {x : Operand} {b : Bool} (hx : ev L x = some (.bool b)) (h : b = true → Run P n c L ρ M Q) (h' : b = false → Run P n c' L ρ M Q) : Run P n (.cond x c c') L ρ M Q := by
  cases b
  · exact Run.condF hx (h' rfl)
  · exact Run.condT hx (h rfl)
theorem Run.region {id : Nat} {l : List Oper} (h : Ops P n l.toArray l L ρ M (Q .normal)) : Run P n (.region id l.toArray false) L ρ M Q := fun a w ha H =>
  wp_region_lit (h a w ha H _ (post_noAct n Q) fun a' w' L' ρ' M' r1 r2 r3 => ⟨L', ρ', M', r1, r2, r3⟩)
theorem Run.draw {id : Nat} {ops : Array Oper} (p : Pl) (ρS : Ro) (S : List Asr) (hm : P.follows .mixedOrders = true)
    (hp : (planOk ops p ops.size (Array.replicate ops.size false) && Region.noSelect ops) = true) (hS : Ent ρ M ρS S)
    (h : Plan P n ops ρS S p L ρ M (Q .normal)) : Run P n (.region id ops true) L ρ M Q := fun a w ha H => by
  simp only [Bool.and_eq_true] at hp
  have H1 : Heap ρ { w with drawn := w.drawn + 1 } M := H.same rfl rfl rfl rfl
  refine wp_region_held (S := fun w => Heap ρS w S) hm ?_
  exact h _ _ hp.1 hp.2 a _ ha H1 (hS _ H1) _ (post_noAct n Q) fun a' w' L' ρ' M' r1 r2 r3 => ⟨L', ρ', M', r1, r2, r3⟩
/-- a loop, by a ghost -/
theorem Run.loop {α : Type} (I : α → KP) (μ : α → Nat) (x : α) (h0 : I x L ρ M)
    (round : ∀ x L ρ M, I x L ρ M → Run P n c L ρ M (thenQ (fun L ρ M => ∃ y, I y L ρ M ∧ μ y < μ x) Q)) : Run P n (.loop c) L ρ M Q := by
  intro a w ha H b kk cs
  have key : ∀ k (x : α) L ρ M a w, μ x = k → I x L ρ M → Agr n a L → Heap ρ w M →
      ∃ e a' w', post n Q e a' w' ∧ Arrives P (lone (b.at a (.code c :: .inLoop c :: kk)) cs w) b kk cs e a' w' := by
    intro k
    induction k using Nat.strongRecOn with
    | _ k ih =>
      intro x L ρ M a w hk hI ha H
      obtain ⟨e, a₁, w₁, hq, harr⟩ := round x L ρ M hI a w ha H b (.inLoop c :: kk) cs
      cases e with
      | normal =>
        simp only [post, thenQ] at hq
        obtain ⟨L', ρ', M', r1, r2, y, hy, hlt⟩ := hq
        obtain ⟨e₂, a₂, w₂, hq₂, harr₂⟩ := ih (μ y) (hk ▸ hlt) y L' ρ' M' a₁ w₁ rfl hy r1 r2
        exact ⟨e₂, a₂, w₂, hq₂, .of_steps (Steps.trans harr (.one step_inLoop)) harr₂⟩
      | exit id => exact ⟨.exit id, a₁, w₁, hq, .pass (x := .inLoop c) rfl (fun _ _ => .inl (by simp)) harr⟩
      | goto l => exact ⟨.goto l, a₁, w₁, hq, .pass (x := .inLoop c) rfl (fun _ _ => .inl (by simp)) harr⟩
      | ret => exact ⟨.ret, a₁, w₁, hq, .pass (x := .inLoop c) rfl (fun _ _ => .inl (by simp)) harr⟩
      | panic ch => exact ⟨.panic ch, a₁, w₁, hq, .pass (x := .inLoop c) rfl (fun _ _ => .inl (by simp)) harr⟩
      | outgrown => exact ⟨.outgrown, a₁, w₁, hq, .pass (x := .inLoop c) rfl (fun _ _ => .inl (by simp)) harr⟩
  obtain ⟨e, a', w', hq, harr⟩ := key _ x L ρ M a w rfl h0 ha H
  exact ⟨e, a', w', hq, .of_steps (.one step_loop) harr⟩
end
end E
end Go.Proofs.Ythpgjbdacknkgaa
