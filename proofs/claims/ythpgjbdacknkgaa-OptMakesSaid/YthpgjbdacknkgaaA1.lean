/- What a program is, read; orders' names and numbers. No statement of the seat in it. -/
import Derived.Test.YthpgjbdacknkgaaMap
namespace Go.Proofs.Ythpgjbdacknkgaa
open Go

/-- a program -/
structure Prg where
  code : List (List E.Ins)
  words : List Int
  locks : Int
  regs : Int

def RdCode (h : E.Hl) (A : Option Addr) (code : List (List E.Ins)) : Prop :=
  E.RdS h 1 (fun (x : List E.Ins) cs => ∃ A' c', cs = [.slice A' x.length c'] ∧ E.RdF h E.encIns 4 A' x) A code
def prgV (A : Option Addr) (c : Nat) (A' : Option Addr) (c' : Nat) (p : Prg) : Value := .agg #[.slice A p.code.length c, .slice A' p.words.length c', .int .i64 p.locks, .int .i64 p.regs]
/-- a program that is read -/
structure PrgAt (ρ : E.Ro) (A : Option Addr) (A' : Option Addr) (p : Prg) : Prop where
  code : RdCode ρ.blk A p.code
  words : E.RdF ρ.blk E.encI 1 A' p.words
  small : p.code.length ≤ 4398046511104
  smallW : p.words.length ≤ 4398046511104
  smalls : ∀ c ∈ p.code, c.length ≤ 4398046511104

/-- thread t's orders -/
theorem PrgAt.thread {ρ : E.Ro} {A A' : Option Addr} {p : Prg} (h : PrgAt ρ A A' p) {t : Nat} (ht : t < p.code.length) :
    ∃ ad, A = some ad ∧ ∃ A1 c1, E.cellOf ρ.blk (ad.add (t * 1)) = some (.slice A1 p.code[t].length c1) ∧ E.RdF ρ.blk E.encIns 4 A1 p.code[t] := by
  obtain ⟨ad, rfl, hh⟩ := E.RdS.at h.code ht
  obtain ⟨cs, ⟨A1, c1, rfl, h2⟩, _, h3⟩ := hh t _ (List.getElem?_eq_getElem ht)
  exact ⟨ad, rfl, A1, c1, h3 0 _ rfl, h2⟩

structure Flt where
  code : Int
  thread : Int
  at' : Int
  deriving DecidableEq
def fltV (f : Flt) : Value := .agg #[.int .i64 f.code, .int .i64 f.thread, .int .i64 f.at']

/-- orders, their names, what their numbers are -/
def shp : List (Int × List UInt8 × List UInt8) := [
  (1, [99, 111, 110, 115, 116], [114, 110]), (2, [109, 111, 118, 101], [114, 114]), (3, [97, 100, 100], [114, 114, 114]), (4, [115, 117, 98], [114, 114, 114]), (5, [109, 117, 108], [114, 114, 114]),
  (6, [108, 101, 115, 115], [114, 114, 114]), (7, [115, 97, 109, 101], [114, 114, 114]), (8, [108, 111, 97, 100], [114, 119]), (9, [115, 116, 111, 114, 101], [119, 114]),
  (10, [108, 111, 97, 100, 97, 116], [114, 114]), (11, [115, 116, 111, 114, 101, 97, 116], [114, 114]), (12, [102, 101, 110, 99, 101], []), (13, [99, 97, 115], [119, 114, 114]),
  (14, [106, 117, 109, 112], [99]), (15, [122, 101, 114, 111], [114, 99]), (16, [112, 114, 105, 110, 116], [114]), (17, [108, 111, 99, 107], [108]), (18, [117, 110, 108, 111, 99, 107], [108])]
def shpOf (op : Int) : Option (List UInt8 × List UInt8) := (shp.find? fun p => p.1 == op).map (·.2)
def shpV (x : List UInt8 × List UInt8) : Value := .agg #[.string ⟨x.1.toArray⟩, .string ⟨x.2.toArray⟩]
def shpKvs : List (Int × Value) := shp.map fun p => (p.1, shpV p.2)
theorem getI_shp (op : Int) : E.getI shpKvs op = (shpOf op).map shpV := by
  unfold shpKvs shpOf
  generalize shp = l
  induction l with
  | nil => rfl
  | cons p r ih =>
    rw [List.map_cons, E.getI_cons, List.find?_cons]
    by_cases h : p.1 = op
    · simp [h]
    · have : (p.1 == op) = false := by simpa using h
      simp only [h, if_false, this]
      exact ih

def fitB (regs words locks size : Int) (kind : Int) (n : Int) : Bool :=
  if kind = 110 then true else
    decide (0 ≤ n ∧ n < (if kind = 114 then regs else if kind = 119 then words else if kind = 108 then locks else if kind = 99 then size + 1 else 0))
/-- may number k be n? -/
def okNum (p : Prg) (size : Nat) (ks : List UInt8) (k : Nat) (n : Int) : Bool :=
  match ks[k]? with
  | some c => fitB p.regs p.words.length p.locks size c.toNat n
  | none => decide (n = 0)
def badIns (p : Prg) (size : Nat) (i : E.Ins) : Option Int :=
  match shpOf i.op with
  | none => some 2
  | some x => if okNum p size x.2 0 i.a && okNum p size x.2 1 i.b && okNum p size x.2 2 i.c then none else some 3
def chkIns (p : Prg) (size : Nat) (t : Nat) : Nat → List E.Ins → Option Flt
  | _, [] => none
  | j, i :: r => match badIns p size i with
    | some c => some ⟨c, t, j⟩
    | none => chkIns p size t (j + 1) r
def chkThr (p : Prg) : Nat → List (List E.Ins) → Flt
  | _, [] => ⟨0, 0, 0⟩
  | t, c :: r => if c.length > 400 then ⟨1, t, 0⟩ else match chkIns p c.length t 0 c with
    | some f => f
    | none => chkThr p (t + 1) r
/-- what Check says -/
def chk (p : Prg) : Flt :=
  if p.code.length < 1 ∨ p.code.length > 4 ∨ p.words.length > 64 then ⟨1, 0, 0⟩
  else if p.locks < 0 ∨ p.locks > 4 ∨ p.regs < 1 ∨ p.regs > 200 then ⟨3, 0, 0⟩
  else chkThr p 0 p.code

theorem chkIns_drop (p : Prg) (size t j : Nat) (c : List E.Ins) (hj : j < c.length) : chkIns p size t j (c.drop j) = match badIns p size c[j] with
    | some e => some ⟨e, t, j⟩
    | none => chkIns p size t (j + 1) (c.drop (j + 1)) := by
  rw [List.drop_eq_getElem_cons hj]; rfl
theorem chkThr_drop (p : Prg) (t : Nat) (l : List (List E.Ins)) (ht : t < l.length) : chkThr p t (l.drop t) = if l[t].length > 400 then ⟨1, t, 0⟩ else match chkIns p l[t].length t 0 l[t] with
    | some f => f
    | none => chkThr p (t + 1) (l.drop (t + 1)) := by
  rw [List.drop_eq_getElem_cons ht]; rfl
end Go.Proofs.Ythpgjbdacknkgaa
