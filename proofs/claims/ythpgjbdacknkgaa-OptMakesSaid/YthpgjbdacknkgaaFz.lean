/- What stays may grow: entries of one's own that nobody writes any more. No statement of the seat in it. -/
import Derived.Test.YthpgjbdacknkgaaMap
namespace Go.Proofs.Ythpgjbdacknkgaa
namespace E
open Go

structure Ro.le (ρ ρ' : Ro) : Prop where
  os : ρ'.os = ρ.os
  tape : ρ'.tape = ρ.tape
  output : ρ'.output = ρ.output
  blk : ∀ b o, ρ.blk b = some o → ρ'.blk b = some o
theorem Ro.le.refl (ρ : Ro) : Ro.le ρ ρ := ⟨rfl, rfl, rfl, fun _ _ h => h⟩
theorem Ro.le.trans {ρ ρ' ρ'' : Ro} (h : Ro.le ρ ρ') (h' : Ro.le ρ' ρ'') : Ro.le ρ ρ'' :=
  ⟨h'.os.trans h.os, h'.tape.trans h.tape, h'.output.trans h.output, fun b o hb => h'.blk b o (h.blk b o hb)⟩
/-- less stays: it may be said -/
theorem Ent.weak {ρ ρ' : Ro} (h : Ro.le ρ ρ') (M : List Asr) : Ent ρ' M ρ M := fun w H =>
  ⟨⟨H.1.os.trans h.os, H.1.tape.trans h.tape, H.1.output.trans h.output, fun b o hb => H.1.blk b o (h.blk b o hb)⟩, Sat.mono (fun b hb => by
    cases hh : ρ.blk b with
    | none => exact absurd hh hb
    | some o => rw [h.blk b o hh]; simp) H.2⟩

theorem cellOf_mono {h h' : Hl} (hm : ∀ b o, h b = some o → h' b = some o) {a : Addr} {v : Value} (hc : cellOf h a = some v) : cellOf h' a = some v := by
  unfold cellOf at hc ⊢
  cases hb : h a.block with
  | none => rw [hb] at hc; cases hc
  | some o => rw [hm _ _ hb]; rw [hb] at hc; exact hc
theorem RdS.mono {α : Type} {h h' : Hl} {sz : Nat} {R R' : α → List Value → Prop} {A : Option Addr} {xs : List α} (hm : ∀ b o, h b = some o → h' b = some o) (hr : ∀ x cs, R x cs → R' x cs) (H : RdS h sz R A xs) : RdS h' sz R' A xs :=
  fun i x hx => by
    obtain ⟨ad, cs, h1, h2, h3, h4⟩ := H i x hx
    exact ⟨ad, cs, h1, hr x cs h2, h3, fun j u hu => cellOf_mono hm (h4 j u hu)⟩
theorem RdF.mono {α : Type} {h h' : Hl} {sz : Nat} {enc : α → List Value} {A : Option Addr} {xs : List α} (hm : ∀ b o, h b = some o → h' b = some o) (H : RdF h enc sz A xs) : RdF h' enc sz A xs := RdS.mono hm (fun _ _ e => e) H

/-- an entry freezes -/
theorem Heap.freeze {ρ : Ro} {w : World} {P : Asr} {M : List Asr} (H : Heap ρ w (P :: M)) : ∃ ρ', Ro.le ρ ρ' ∧ (∃ h, P h ∧ ∀ b o, h b = some o → ρ'.blk b = some o) ∧ Heap ρ' w M := by
  obtain ⟨H1, h, hp, hs, hd, hr⟩ := H
  refine ⟨{ ρ with blk := fun b => match h b with | some o => some o | none => ρ.blk b }, ⟨rfl, rfl, rfl, fun b o hb => ?_⟩, ⟨h, hp, fun b o hb => ?_⟩, ⟨H1.os, H1.tape, H1.output, fun b o hb => ?_⟩, Sat.mono (fun b hb => ?_) hr⟩
  · cases hh : h b with
    | none => simpa [hh] using hb
    | some x => exact absurd (show ρ.blk b ≠ none by rw [hb]; simp) (hd b (by rw [hh]; simp))
  · simp only [hb]
  · simp only at hb
    cases hh : h b with
    | none => rw [hh] at hb; exact H1.blk b o hb
    | some x => rw [hh] at hb; cases hb; exact hs b _ hh
  · simp only at hb
    cases hh : h b with
    | none => rw [hh] at hb; exact .inl hb
    | some x => exact .inr (by simp)
theorem Run.freeze {P : Program} {n : Nat} {c : Code} {L : Env} {ρ : Ro} {M : List Asr} {Q : QP} {A : Asr}
    (h : ∀ ρ', Ro.le ρ ρ' → (∃ h, A h ∧ ∀ b o, h b = some o → ρ'.blk b = some o) → Run P n c L ρ' M Q) : Run P n c L ρ (A :: M) Q := fun a w ha H => by
  obtain ⟨ρ', h1, h2, h3⟩ := H.freeze
  exact h ρ' h1 h2 a w ha h3
theorem Hoa.freeze {P : Program} {f : FuncId} {args : Array Value} {ρ : Ro} {M : List Asr} {R : Value → Ro → List Asr → Prop} {A : Asr}
    (h : ∀ ρ', Ro.le ρ ρ' → (∃ h, A h ∧ ∀ b o, h b = some o → ρ'.blk b = some o) → Hoa P f args ρ' M R) : Hoa P f args ρ (A :: M) R := fun w H => by
  obtain ⟨ρ', h1, h2, h3⟩ := H.freeze
  exact h ρ' h1 h2 w h3

/-- what a frozen block of cells says -/
theorem pt_frozen {b : Nat} {T : TypeId} {cs : List Value} {ρ : Ro} (h : ∃ h, pt b T cs h ∧ ∀ b o, h b = some o → ρ.blk b = some o) : ∀ j u, cs[j]? = some u → cellOf ρ.blk ⟨b, j, none⟩ = some u := by
  obtain ⟨g, rfl, h2⟩ := h
  intro j u hu
  refine cellOf_mono h2 ?_
  rw [cellOf_one]; exact hu
theorem pt_frozen_add {b : Nat} {T : TypeId} {cs : List Value} {ρ : Ro} (h : ∃ h, pt b T cs h ∧ ∀ b o, h b = some o → ρ.blk b = some o) : ∀ j u, cs[j]? = some u → cellOf ρ.blk ((⟨b, 0, none⟩ : Addr).add j) = some u := fun j u hu => by
  rw [add_none, Nat.zero_add]; exact pt_frozen h j u hu
theorem flatMap_at {α : Type} {enc : α → List Value} {sz : Nat} (hsz : ∀ y, (enc y).length = sz) : ∀ (ys : List α) (i : Nat) (y : α), ys[i]? = some y → ∀ j u, (enc y)[j]? = some u → (ys.flatMap enc)[i * sz + j]? = some u
  | [], i, y, h, _, _, _ => by simp at h
  | x :: ys, 0, y, h, j, u, hu => by
    simp only [List.getElem?_cons_zero, Option.some.injEq] at h
    subst h
    have : j < (enc x).length := (List.getElem?_eq_some_iff.1 hu).1
    rw [List.flatMap_cons, Nat.zero_mul, Nat.zero_add, List.getElem?_append_left this]; exact hu
  | x :: ys, i + 1, y, h, j, u, hu => by
    rw [List.flatMap_cons, List.getElem?_append_right (by rw [hsz, Nat.succ_mul]; omega), hsz, show (i + 1) * sz + j - sz = i * sz + j from by rw [Nat.succ_mul]; omega]
    exact flatMap_at hsz ys i y (by simpa using h) j u hu
theorem flatMap_where {α : Type} {enc : α → List Value} {sz : Nat} (hsz : ∀ y, (enc y).length = sz) : ∀ (ys : List α) (j : Nat) (u : Value), (ys.flatMap enc)[j]? = some u → ∃ i k y, ys[i]? = some y ∧ (enc y)[k]? = some u ∧ j = i * sz + k
  | [], j, u, h => by simp at h
  | y :: ys, j, u, h => by
    rw [List.flatMap_cons] at h
    by_cases hj : j < (enc y).length
    · rw [List.getElem?_append_left hj] at h
      exact ⟨0, j, y, rfl, h, by omega⟩
    · rw [List.getElem?_append_right (by omega)] at h
      obtain ⟨i, k, y', h1, h2, h3⟩ := flatMap_where hsz ys _ u h
      refine ⟨i + 1, k, y', h1, h2, ?_⟩
      rw [hsz] at h3 hj
      rw [Nat.succ_mul]; omega
theorem flatMap_length {α : Type} {enc : α → List Value} {sz : Nat} (hsz : ∀ y, (enc y).length = sz) (ys : List α) : (ys.flatMap enc).length = ys.length * sz := by
  induction ys with
  | nil => simp
  | cons y ys ih => rw [List.flatMap_cons, List.length_append, ih, hsz, List.length_cons, Nat.succ_mul]; omega
theorem SrcOf.ro {α : Type} {enc : α → List Value} {ρ : Ro} {M : List Asr} {sz : Nat} {A : Option Addr} {ys : List α} (hsz : ∀ y, (enc y).length = sz) (h : RdF ρ.blk enc sz A ys) : SrcOf ρ M sz A ys.length (ys.flatMap enc) := fun w H => by
  refine ⟨flatMap_length hsz ys, ?_⟩
  rcases Nat.eq_zero_or_pos ys.length with h0 | h0
  · exact .inl h0
  · obtain ⟨ad, rfl, _⟩ := RdF.at h h0
    refine .inr ⟨ad, rfl, fun j u hu => ?_⟩
    obtain ⟨i, k, y, h1, h2, rfl⟩ := flatMap_where hsz ys j u hu
    obtain ⟨ad', cs, e, rfl, _, h4⟩ := h i y h1
    cases e
    exact cellOf_world H.ro (h4 k u h2)
/-- what a frozen slice says -/
theorem arr_frozen {α : Type} {enc : α → List Value} {T : TypeId} {sz : Nat} {A : Option Addr} {n c : Nat} {ys : List α} {ρ : Ro} (hsz : ∀ y, (enc y).length = sz)
    (h : ∃ h, arr T sz A n c (ys.flatMap enc) h ∧ ∀ b o, h b = some o → ρ.blk b = some o) (hn : n = ys.length) : RdF ρ.blk enc sz A ys := by
  obtain ⟨g, H, hm⟩ := h
  intro i y hy
  have hi : i < ys.length := (List.getElem?_eq_some_iff.1 hy).1
  obtain ⟨b, rfl, hc⟩ := arr_cells H (by omega)
  refine ⟨_, _, rfl, rfl, hsz y, fun j u hu => ?_⟩
  rw [add_none, Nat.zero_add]
  exact cellOf_mono hm (hc _ u (flatMap_at hsz ys i y hy j u hu))
/-- a slice of one's own, shorter -/
theorem arr_take {T : TypeId} {sz : Nat} {A : Option Addr} {n c m : Nat} {xs : List Value} (hm : m ≤ n) (h : Hl) (H : arr T sz A n c xs h) : arr T sz A m c (xs.take (m * sz)) h := by
  obtain ⟨h1, h2⟩ := H
  have h3 : m * sz ≤ n * sz := Nat.mul_le_mul_right _ hm
  refine ⟨by rw [List.length_take, h1]; omega, ?_⟩
  rcases h2 with ⟨a1, a2, a3, a4⟩ | ⟨g, cur, a1, a2, a3, a4, a5, a6⟩
  · exact .inl ⟨a1, by omega, a3, a4⟩
  · refine .inr ⟨g, cur, a1, a2, by omega, a4, a5, ?_⟩
    rw [← a6, List.take_take, Nat.min_eq_left h3]
/-- elements of a slice of one's own -/
theorem LoadAt.arr {P : Program} {ρ : Ro} {M : List Asr} {T t : TypeId} {sz g n c k : Nat} {xs : List Value} {v : Value} {f : Asr → List Asr} (hk : Ix M (arr T sz (some ⟨g, 0, none⟩) n c xs) f) (ht : isScal P t = true) (h : xs[k]? = some v) : LoadAt P ρ M t ((⟨g, 0, none⟩ : Addr).add k) v := fun w H => by
  obtain ⟨h1, h2, h3, h4⟩ := arr_load H hk
  have hk0 : k < xs.length := (List.getElem?_eq_some_iff.1 h).1
  have hn : 0 < n := by
    rcases Nat.eq_zero_or_pos n with h0 | h0
    · rw [h0, Nat.zero_mul] at h1; omega
    · exact h0
  obtain ⟨g', e, hc⟩ := h4 hn
  cases e
  rw [add_none, Nat.zero_add]
  exact run_loadVar_scal ht (hc k v h)
theorem LoadAt.arrAgg {P : Program} {ρ : Ro} {M : List Asr} {T t : TypeId} {sz g n c k m : Nat} {xs ds : List Value} {f : Asr → List Asr} (hk : Ix M (E.arr T sz (some ⟨g, 0, none⟩) n c xs) f) (ht : isAggOf P t m = true) (h : ∀ j u, ds[j]? = some u → xs[k + j]? = some u) (hl : ds.length = m) (hm : 0 < m) : LoadAt P ρ M t ((⟨g, 0, none⟩ : Addr).add k) (.agg ds.toArray) := fun w H => by
  obtain ⟨h1, h2, h3, h4⟩ := arr_load H hk
  have h0 : ds[0]? = some (ds[0]'(by omega)) := List.getElem?_eq_getElem (by omega)
  have hk0 : k + 0 < xs.length := (List.getElem?_eq_some_iff.1 (h 0 _ h0)).1
  have hn : 0 < n := by
    rcases Nat.eq_zero_or_pos n with h0 | h0
    · rw [h0, Nat.zero_mul] at h1; omega
    · exact h0
  obtain ⟨g', e, hc⟩ := h4 hn
  cases e
  rw [add_none, Nat.zero_add]
  refine run_loadVar_agg (by rw [hl]; exact ht) fun j v hv => ?_
  rw [add_none]
  exact hc _ v (h j v hv)
theorem Run.arrSome {P : Program} {nn : Nat} {cd : Code} {L : Env} {ρ : Ro} {M : List Asr} {Q : QP} {T : TypeId} {sz n c : Nat} {A : Option Addr} {xs : List Value} {f : Asr → List Asr} (hk : Ix M (E.arr T sz A n c xs) f) (hn : 0 < n)
    (h : ∀ g, A = some ⟨g, 0, none⟩ → n ≤ c → Run P nn cd L ρ M Q) : Run P nn cd L ρ M Q := fun a w ha H => by
  obtain ⟨h1, h2, h3, h4⟩ := arr_load H hk
  obtain ⟨g, e, _⟩ := h4 hn
  exact h g e h2 a w ha H
theorem SEnt.addNil {T : TypeId} {sz : Nat} {M M' : List Asr} (h : SEnt M M') : SEnt M (E.arr T sz none 0 0 [] :: M') := fun w U hs => by
  refine ⟨fun _ => none, arr_nil T sz, ?_, ?_, ?_⟩
  · intro b o hb; cases hb
  · intro b hb; exact absurd rfl hb
  · refine Sat.mono (fun b hb => ?_) (h w U hs)
    rcases hb with h | h
    · exact h
    · exact absurd rfl h
end E
end Go.Proofs.Ythpgjbdacknkgaa
