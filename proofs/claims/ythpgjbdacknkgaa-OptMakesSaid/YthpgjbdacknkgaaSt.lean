/- Elements of a slice of one's own, written; a slice of none. No statement of the seat in it. -/
import Derived.Test.YthpgjbdacknkgaaCmp
namespace Go.Proofs.Ythpgjbdacknkgaa
namespace E
open Go

theorem putAt_flatMap {α : Type} {enc : α → List Value} {sz : Nat} (hsz : ∀ y, (enc y).length = sz) (off : Nat) (vs : List Value) : ∀ (ys : List α) (k : Nat) (hk : k < ys.length) (y' : α), enc y' = putAt (enc ys[k]) off vs → off + vs.length ≤ sz →
    putAt (ys.flatMap enc) (k * sz + off) vs = (ys.set k y').flatMap enc
  | [], k, hk, _, _, _ => by simp at hk
  | y :: ys, 0, hk, y', he, hle => by
    rw [Nat.zero_mul, Nat.zero_add, List.set_cons_zero, List.flatMap_cons, List.flatMap_cons, he]
    unfold putAt
    simp only [List.getElem_cons_zero]
    have h1 : off ≤ (enc y).length := by rw [hsz]; omega
    have h2 : off + vs.length ≤ (enc y).length := by rw [hsz]; omega
    rw [List.take_append_of_le_length h1, List.drop_append_of_le_length h2]
    simp
  | y :: ys, k + 1, hk, y', he, hle => by
    have ih := putAt_flatMap hsz off vs ys k (by simpa using hk) y' (by simpa using he) hle
    rw [List.set_cons_succ, List.flatMap_cons, List.flatMap_cons, ← ih]
    unfold putAt
    have e1 : (k + 1) * sz + off = (enc y).length + (k * sz + off) := by rw [hsz, Nat.succ_mul]; omega
    have e2 : (k + 1) * sz + off + vs.length = (enc y).length + (k * sz + off + vs.length) := by rw [e1]; omega
    rw [e1, show (enc y).length + (k * sz + off) + vs.length = (enc y).length + (k * sz + off + vs.length) from by omega, List.take_length_add_append, List.drop_length_add_append]
    simp

section
variable {P : Program} {L : Env} {ρ : Ro} {M : List Asr} {o : Oper} {K : Value → Ro → List Asr → Prop}
theorem add_two (g m k : Nat) : ((⟨g, 0, none⟩ : Addr).add m).add k = ⟨g, m + k, none⟩ := by rw [add_add, add_none, Nat.zero_add]
/-- a store of a whole element -/
theorem l_storeEl {α : Type} {enc : α → List Value} {t T : TypeId} {x y : Operand} {g sz n c k : Nat} {ys : List α} (y' : α) {v : Value} {f : Asr → List Asr} (hsz : ∀ y, (enc y).length = sz) (ho : o.op = .store t x y) (hx : ev L x = some (.pointer (some ((⟨g, 0, none⟩ : Addr).add (k * sz))))) (hy : ev L y = some v)
    (hk : Ix M (arr T sz (some ⟨g, 0, none⟩) n c (ys.flatMap enc)) f) (ht : (P.info? t).map (·.size) = some sz) (hn : n = ys.length) (hlt : k < n) (hv : v.cells.toList = enc y') (h1 : v.cells.toList.all (·.oneCell') = true)
    (h : K undef ρ (f (arr T sz (some ⟨g, 0, none⟩) n c ((ys.set k y').flatMap enc)))) : LOp P L ρ M o K := by
  subst hn
  have hl : v.cells.toList.length = sz := by rw [hv, hsz]
  refine l_storeElem (i := 0) ho (by rw [hx, add_none, Nat.zero_add]) hy hk sz ht (by simpa using hl) ?_ h1 ?_ h
  · have : (k + 1) * sz ≤ ys.length * sz := Nat.mul_le_mul_right _ hlt
    rw [Nat.succ_mul] at this; omega
  · have := putAt_flatMap hsz 0 v.cells.toList ys k hlt y' (by
      unfold putAt
      rw [← hv]
      rw [List.take_zero, List.nil_append, Nat.zero_add, hl, List.drop_of_length_le (by rw [hsz]; omega), List.append_nil]) (by omega)
    rw [Nat.add_zero] at this; exact this
/-- a store of a part of an element -/
theorem l_storeField {α : Type} {enc : α → List Value} {t T : TypeId} {x y : Operand} {g sz n c k off : Nat} {ys : List α} (y' : α) {v : Value} {f : Asr → List Asr} (hsz : ∀ y, (enc y).length = sz) (ho : o.op = .store t x y) (hx : ev L x = some (.pointer (some (((⟨g, 0, none⟩ : Addr).add (k * sz)).add off)))) (hy : ev L y = some v)
    (hk : Ix M (arr T sz (some ⟨g, 0, none⟩) n c (ys.flatMap enc)) f) (m : Nat) (ht : (P.info? t).map (·.size) = some m) (hs : v.cells.size = m) (hn : n = ys.length) (hlt : k < ys.length) (hle : off + m ≤ sz) (hv : enc y' = putAt (enc ys[k]) off v.cells.toList) (h1 : v.cells.toList.all (·.oneCell') = true)
    (h : K undef ρ (f (arr T sz (some ⟨g, 0, none⟩) n c ((ys.set k y').flatMap enc)))) : LOp P L ρ M o K := by
  subst hn
  have hl : v.cells.toList.length = m := by simpa using hs
  refine l_storeElem (i := 0) ho (by rw [hx, add_two]) hy hk m ht hs ?_ h1 ?_ h
  · have : (k + 1) * sz ≤ ys.length * sz := Nat.mul_le_mul_right _ hlt
    rw [Nat.succ_mul] at this; omega
  · exact putAt_flatMap hsz off v.cells.toList ys k hlt y' hv (by omega)
theorem LoadAt.arr2 {T t : TypeId} {sz g n c m k : Nat} {xs : List Value} {v : Value} {f : Asr → List Asr} (hk : Ix M (E.arr T sz (some ⟨g, 0, none⟩) n c xs) f) (ht : isScal P t = true) (h : xs[m + k]? = some v) : LoadAt P ρ M t (((⟨g, 0, none⟩ : Addr).add m).add k) v := by
  rw [add_add]; exact LoadAt.arr hk ht h
/-- a literal of none -/
theorem l_slice0 {t T : TypeId} {ps : Array (Nat × Operand)} {z : Value} {sz by' : Nat} (ho : o.op = .buildSlice t 0 ps) (hps : ps = #[]) (ht : P.underlying t = some (.slice T)) (hT : tyOf P T = some (some z, sz, by'))
    (h : ∀ g, K (.slice (some ⟨g, 0, none⟩) 0 0) ρ (E.arr T sz (some ⟨g, 0, none⟩) 0 0 [] :: M)) : LOp P L ρ M o K := by
  subst hps
  obtain ⟨i, hi, he⟩ := Option.map_eq_some_iff.1 hT
  have hsz : i.size = sz := by simp only [Prod.mk.injEq] at he; exact he.2.1
  refine LOp.val fun n a w ha H => ⟨_, ρ, _, w.alloc (.cells #[] T), ?_, H.alloc (P := E.arr T sz (some ⟨w.heap.size, 0, none⟩) 0 0 []) _ ⟨by simp, .inr ⟨w.heap.size, #[], rfl, rfl, Nat.le_refl _, Nat.zero_le _, by simp, by simp⟩⟩, h w.heap.size⟩
  simp [execOp, ho, Instr.buildSlice, run_underlying ht, sizeOf, run_typeInfo hi, Instr.fill, newRow]
  congr 2
  apply Array.ext'
  simp
end
end E
end Go.Proofs.Ythpgjbdacknkgaa
