/- How a program that is handed in lies in memory: what a row says, as the walks want it. No statement of the seat in it. -/
import Derived.Test.YthpgjbdacknkgaaA1
import Derived.Test.YthpgjbdacknkgaaProg
import Derived.SizedLaws
import Derived.Deep.Slices
set_option linter.unusedVariables false
set_option linter.unusedSimpArgs false
namespace Go.Proofs.Ythpgjbdacknkgaa
open Go Go.Deep


/-- a world's blocks -/
def hlW (W : World) : E.Hl := fun b => W.heap[b]?
theorem cellOf_hlW {W : World} {a : Addr} {v : Value} (h : W.cell? a = some v) : E.cellOf (hlW W) a = some v := by
  unfold World.cell? at h
  unfold E.cellOf hlW
  cases hb : W.heap[a.block]? with
  | none => rw [hb] at h; cases h
  | some o => rw [hb] at h; cases o <;> first | exact h | cases h
/-- a list by its elements -/
theorem listed {α : Type} {p : Nat → α → Prop} : ∀ (n : Nat), (∀ i, i < n → ∃ y, p i y) → ∃ ys : List α, ys.length = n ∧ ∀ i y, ys[i]? = some y → p i y
  | 0, _ => ⟨[], rfl, fun i y h => by simp at h⟩
  | n + 1, h => by
    obtain ⟨ys, hl, hys⟩ := listed n fun i hi => h i (by omega)
    obtain ⟨y, hy⟩ := h n (by omega)
    refine ⟨ys ++ [y], by simp [hl], fun i z hz => ?_⟩
    by_cases hi : i < ys.length
    · rw [List.getElem?_append_left hi] at hz; exact hys i z hz
    · rw [List.getElem?_append_right (by omega)] at hz
      have : i = n := by
        have := (List.getElem?_eq_some_iff.1 hz).1
        simp at this; omega
      subst this
      rw [hl] at hz
      simp at hz; subst hz; exact hy
theorem weightsAll_mem {H : Type} {P : Program} {e : TypeId} : ∀ {ds : List (DataW H)} {d : DataW H}, d ∈ ds → ∀ n ∈ d.weights P e, n ∈ DataW.weightsAll P e ds
  | [], d, h, _, _ => by cases h
  | d0 :: ds, d, h, n, hn => by
    simp only [DataW.weightsAll, List.mem_append]
    rcases List.mem_cons.1 h with rfl | h
    · exact .inl hn
    · exact .inr (weightsAll_mem h n hn)

section
variable {H : Type} {enc : TypeId × Value → H} {W : World}
theorem read_intG {P : Program} {t : TypeId} (ht : P.underlying t = some (.int .i64)) {n : Nat} {cs : List Value} {y : DataW H × List MemPlace} (h : DataW.trod enc P W 0 (fun _ => true) true n t cs = some y) : ∃ k : Int, cs = [.int .i64 k] ∧ (Lit.int .i64 k).wf = true := by
  cases n with
  | zero => cases h
  | succ n =>
    unfold DataW.trod at h
    rw [ht] at h
    split at h <;> rename_i h1 h2 <;> first | (cases h2; done) | (cases h1; done) | (cases h; done) | skip
    cases h2
    split at h
    · rename_i e
      obtain ⟨rfl, e2⟩ := e
      exact ⟨_, rfl, e2⟩
    · cases h
theorem read_int {n : Nat} {cs : List Value} {y : DataW H × List MemPlace} (h : DataW.trod enc Try.prog W 0 (fun _ => true) true n 3 cs = some y) : ∃ k : Int, cs = [.int .i64 k] ∧ (Lit.int .i64 k).wf = true := read_intG Try.underlying3 h
set_option maxRecDepth 100000 in
theorem read_ins {n : Nat} {cs : List Value} {y : DataW H × List MemPlace} (h : DataW.trod enc Try.prog W 0 (fun _ => true) true n 44 cs = some y) : ∃ i : E.Ins, cs = E.encIns i := by
  obtain ⟨xs, m, _, _, hl, hlen, hf⟩ := DataW.trod_struct Try.underlying44 h
  have c4 : Try.prog.cellsOf 44 = 4 := by kernel_rfl
  have c1 : Try.prog.cellsOf 3 = 1 := by kernel_rfl
  rw [c4] at hl
  match cs, hl, xs, hlen with
  | [a, b, c, d], _, [y0, y1, y2, y3], _ =>
    have h0 : DataW.trod enc Try.prog W 0 (fun _ => true) true m 3 (([a, b, c, d].drop 0).take (Try.prog.cellsOf 3)) = some y0 := hf 0 _ rfl
    have h1 : DataW.trod enc Try.prog W 0 (fun _ => true) true m 3 (([a, b, c, d].drop 1).take (Try.prog.cellsOf 3)) = some y1 := hf 1 _ rfl
    have h2 : DataW.trod enc Try.prog W 0 (fun _ => true) true m 3 (([a, b, c, d].drop 2).take (Try.prog.cellsOf 3)) = some y2 := hf 2 _ rfl
    have h3 : DataW.trod enc Try.prog W 0 (fun _ => true) true m 3 (([a, b, c, d].drop 3).take (Try.prog.cellsOf 3)) = some y3 := hf 3 _ rfl
    rw [c1] at h0 h1 h2 h3
    obtain ⟨x0, e0, _⟩ := read_int h0
    obtain ⟨x1, e1, _⟩ := read_int h1
    obtain ⟨x2, e2, _⟩ := read_int h2
    obtain ⟨x3, e3, _⟩ := read_int h3
    simp at e0 e1 e2 e3
    exact ⟨⟨x0, x1, x2, x3⟩, by rw [e0, e1, e2, e3]; rfl⟩
/-- a slice, element by element -/
theorem read_slice {α : Type} {t e : TypeId} {sz : Nat} {R : α → List Value → Prop} {n : Nat} {u : Value} {y : DataW H × List MemPlace} (ht : Try.prog.underlying t = some (.slice e)) (hc : Try.prog.cellsOf e = sz)
    (he : ∀ n cs (y : DataW H × List MemPlace), DataW.trod enc Try.prog W 0 (fun _ => true) true n e cs = some y → (y.1.weights Try.prog e).all (· ≤ reachBytes) = true → ∃ i : α, R i cs)
    (h : DataW.trod enc Try.prog W 0 (fun _ => true) true n t [u] = some y) (hw : (y.1.weights Try.prog t).all (· ≤ reachBytes) = true) :
    ∃ A l c, ∃ ys : List α, u = .slice A l c ∧ ys.length = l ∧ E.RdS (hlW W) sz R A ys ∧ l * Try.prog.bytesOf e ≤ reachBytes := by
  rcases open_slice ht h with ⟨hcs, _⟩ | ⟨a, len, cap, m, k, D, Pl, hcs, _, hl, hm, hmm, rfl, hx⟩
  · simp at hcs
    exact ⟨none, 0, 0, [], hcs, rfl, E.RdS.nil _ _ _ _, by simp⟩
  · simp at hcs
    subst hcs
    simp only [if_true] at hmm
    simp only [DataW.weights, ht, List.all_cons, Bool.and_eq_true, List.length_map, List.length_range, decide_eq_true_eq] at hw
    obtain ⟨hw1, hw2⟩ := hw
    have hex : ∀ i, i < len → ∃ x : α, ∃ cs, R x cs ∧ cs.length = sz ∧ ∀ j u, cs[j]? = some u → E.cellOf (hlW W) (a.add (i * sz + j)) = some u := by
      intro i hi
      obtain ⟨cs, h1, h2⟩ := hx i (by omega)
      rw [hc] at h1
      obtain ⟨_, h3, h4⟩ := World.cells?_some h1
      obtain ⟨x, hx'⟩ := he _ _ _ h2 (by
        rw [List.all_eq_true] at hw2 ⊢
        intro z hz
        apply hw2
        rw [List.mem_append]
        exact .inl (weightsAll_mem (List.mem_map.2 ⟨i, List.mem_range.2 hi, rfl⟩) z hz))
      refine ⟨x, cs, hx', h3, fun j u hu => ?_⟩
      have hj : j < cs.length := (List.getElem?_eq_some_iff.1 hu).1
      have := h4 j (by omega)
      rw [hu, E.add_add] at this
      exact cellOf_hlW this
    obtain ⟨ys, hys, hp⟩ := listed len hex
    refine ⟨some a, len, cap, ys, rfl, hys, fun i x hi => ?_, Nat.le_trans (Nat.mul_le_mul_right _ (by omega)) hw1⟩
    obtain ⟨cs, h1, h2, h3⟩ := hp i x hi
    exact ⟨a, cs, rfl, h1, h2, h3⟩
set_option maxRecDepth 100000 in
theorem read_words {n : Nat} {u : Value} {y : DataW H × List MemPlace} (h : DataW.trod enc Try.prog W 0 (fun _ => true) true n 23 [u] = some y) (hw : (y.1.weights Try.prog 23).all (· ≤ reachBytes) = true) :
    ∃ A c, ∃ ys : List Int, u = .slice A ys.length c ∧ E.RdF (hlW W) E.encI 1 A ys ∧ ys.length ≤ 140737488351232 := by
  obtain ⟨A, l, c, ys, rfl, hl, hr, hb⟩ := read_slice (sz := 1) (R := fun (x : Int) cs => cs = E.encI x) Try.underlying23 (by kernel_rfl) (fun n cs y h _ => by
    obtain ⟨k, hk, _⟩ := read_int h
    exact ⟨k, hk⟩) h hw
  have hb8 : Try.prog.bytesOf 3 = 8 := by kernel_rfl
  rw [hb8] at hb
  unfold reachBytes at hb
  subst hl
  exact ⟨A, c, ys, rfl, hr, by omega⟩
set_option maxRecDepth 100000 in
theorem read_thread {n : Nat} {u : Value} {y : DataW H × List MemPlace} (h : DataW.trod enc Try.prog W 0 (fun _ => true) true n 45 [u] = some y) (hw : (y.1.weights Try.prog 45).all (· ≤ reachBytes) = true) :
    ∃ A c, ∃ ys : List E.Ins, u = .slice A ys.length c ∧ E.RdF (hlW W) E.encIns 4 A ys ∧ ys.length ≤ 4398046511104 := by
  obtain ⟨A, l, c, ys, rfl, hl, hr, hb⟩ := read_slice (sz := 4) (R := fun (x : E.Ins) cs => cs = E.encIns x) Try.underlying45 (by kernel_rfl) (fun n cs y h _ => read_ins h) h hw
  have hb8 : Try.prog.bytesOf 44 = 32 := by kernel_rfl
  rw [hb8] at hb
  unfold reachBytes at hb
  subst hl
  exact ⟨A, c, ys, rfl, hr, by omega⟩
set_option maxRecDepth 100000 in
theorem read_code {n : Nat} {u : Value} {y : DataW H × List MemPlace} (h : DataW.trod enc Try.prog W 0 (fun _ => true) true n 22 [u] = some y) (hw : (y.1.weights Try.prog 22).all (· ≤ reachBytes) = true) :
    ∃ A c, ∃ ys : List (List E.Ins), u = .slice A ys.length c ∧ RdCode (hlW W) A ys ∧ ys.length ≤ 140737488351232 ∧ ∀ x ∈ ys, x.length ≤ 4398046511104 := by
  have c1 : Try.prog.cellsOf 45 = 1 := by kernel_rfl
  obtain ⟨A, l, c, ys, rfl, hl, hr, hb⟩ := read_slice (sz := 1) (R := fun (x : List E.Ins) cs => (∃ A' c', cs = [.slice A' x.length c'] ∧ E.RdF (hlW W) E.encIns 4 A' x) ∧ x.length ≤ 4398046511104) Try.underlying22 c1 (fun n cs y h hw => by
    rcases open_slice Try.underlying45 h with ⟨rfl, _⟩ | ⟨a, len, cap, m, k, D, Pl, rfl, _⟩
    all_goals
      obtain ⟨A, c, ys, e, h1, h2⟩ := read_thread h hw
      exact ⟨ys, ⟨A, c, by rw [e], h1⟩, h2⟩) h hw
  have hb8 : Try.prog.bytesOf 45 = 24 := by kernel_rfl
  rw [hb8] at hb
  unfold reachBytes at hb
  subst hl
  refine ⟨A, c, ys, rfl, fun i x hi => ?_, by omega, fun x hx => ?_⟩
  · obtain ⟨ad, cs, h1, h2, h3, h4⟩ := hr i x hi
    exact ⟨ad, cs, h1, h2.1, h3, h4⟩
  · obtain ⟨i, hi, rfl⟩ := List.getElem_of_mem hx
    obtain ⟨ad, cs, h1, h2, h3, h4⟩ := hr i _ (List.getElem?_eq_getElem hi)
    exact h2.2
/-- a program that is handed in -/
structure PrgW (h : E.Hl) (A : Option Addr) (A' : Option Addr) (p : Prg) : Prop where
  code : RdCode h A p.code
  words : E.RdF h E.encI 1 A' p.words
  small : p.code.length ≤ 140737488351232
  smallW : p.words.length ≤ 140737488351232
  smalls : ∀ c ∈ p.code, c.length ≤ 4398046511104
  locks : -9223372036854775808 ≤ p.locks ∧ p.locks < 9223372036854775808
  regs : -9223372036854775808 ≤ p.regs ∧ p.regs < 9223372036854775808
theorem wf_i64 {k : Int} (h : (Lit.int .i64 k).wf = true) : -9223372036854775808 ≤ k ∧ k < 9223372036854775808 := by
  simp [Lit.wf, IntKind.min, IntKind.max, IntKind.signed, IntKind.bits] at h
  omega
set_option maxRecDepth 100000 in
theorem read_prg {v : Value} {d : DataW H} {ps : List MemPlace} {base : Nat} (hval : Value.okWide Try.prog W .any base 25 v) (h : DataW.Trod enc Try.prog W 0 (fun _ => true) true 25 v d ps)
    (hw : (d.weights Try.prog 25).all (· ≤ reachBytes) = true) : ∃ A c A' c' p, v = prgV A c A' c' p ∧ PrgW (hlW W) A A' p := by
  obtain ⟨cs, rfl, hs⟩ := Go.WideShapes.okWide_struct Try.underlying25 hval
  obtain ⟨n, h⟩ := h
  have c4 : Try.prog.cellsOf 25 = 4 := by kernel_rfl
  have c1 : Try.prog.cellsOf 3 = 1 := by kernel_rfl
  have c2 : Try.prog.cellsOf 23 = 1 := by kernel_rfl
  have c3 : Try.prog.cellsOf 22 = 1 := by kernel_rfl
  obtain ⟨cs⟩ := cs
  rw [show (Value.agg ⟨cs⟩).cells.toList = cs from rfl] at h
  obtain ⟨xs, m, _, e, hl, hlen, hf⟩ := DataW.trod_struct Try.underlying25 h
  rw [c4] at hl
  match cs, hl, xs, hlen with
  | [a, b, c, d'], _, [y0, y1, y2, y3], _ =>
    have h0 : DataW.trod enc Try.prog W 0 (fun _ => true) true m 22 (([a, b, c, d'].drop 0).take (Try.prog.cellsOf 22)) = some y0 := hf 0 _ rfl
    have h1 : DataW.trod enc Try.prog W 0 (fun _ => true) true m 23 (([a, b, c, d'].drop 1).take (Try.prog.cellsOf 23)) = some y1 := hf 1 _ rfl
    have h2 : DataW.trod enc Try.prog W 0 (fun _ => true) true m 3 (([a, b, c, d'].drop 2).take (Try.prog.cellsOf 3)) = some y2 := hf 2 _ rfl
    have h3 : DataW.trod enc Try.prog W 0 (fun _ => true) true m 3 (([a, b, c, d'].drop 3).take (Try.prog.cellsOf 3)) = some y3 := hf 3 _ rfl
    rw [c3] at h0
    rw [c2] at h1
    rw [c1] at h2 h3
    have e' : d = .agg [y0.1, y1.1, y2.1, y3.1] := by
      have := congrArg Prod.fst e
      simpa using this
    subst e'
    simp only [DataW.weights, Try.underlying25, List.map_cons, List.map_nil, DataW.weightsEach, List.all_append, Bool.and_eq_true] at hw
    obtain ⟨A, cc, code, e0, r0, b0, b0'⟩ := read_code h0 hw.1
    obtain ⟨A', cc', words, e1, r1, b1⟩ := read_words h1 hw.2.1
    obtain ⟨x2, e2, w2⟩ := read_int h2
    obtain ⟨x3, e3, w3⟩ := read_int h3
    simp at e0 e1 e2 e3
    exact ⟨A, cc, A', cc', ⟨code, words, x2, x3⟩, by rw [e0, e1, e2, e3]; rfl, r0, r1, b0, b1, b0', wf_i64 w2, wf_i64 w3⟩
end
end Go.Proofs.Ythpgjbdacknkgaa
