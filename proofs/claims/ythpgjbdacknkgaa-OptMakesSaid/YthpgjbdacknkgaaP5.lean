/- A small program of which Const makes what it should. Plain. No statement of the seat in it. -/
import Derived.Test.YthpgjbdacknkgaaP4
set_option linter.unusedVariables false
set_option linter.unusedSimpArgs false
namespace Go.Proofs.Ythpgjbdacknkgaa
open Go

def exCode : List E.Ins := [⟨1, 0, 2, 0⟩, ⟨3, 0, 0, 0⟩, ⟨16, 0, 0, 0⟩]
def exPrg : Prg := ⟨[exCode], [], 0, 1⟩
def exW : StE := fun k => if k = 0 then some zeroE else if k = 1 then some (updE zeroE 0 ⟨1, 2⟩) else some (updE zeroE 0 ⟨1, 4⟩)
theorem ex_ok : PrgOk exPrg := by
  refine ⟨by decide, by decide, by decide, by decide, by decide, ?_⟩
  intro c hc
  simp only [exPrg, List.mem_singleton] at hc
  subst hc
  refine ⟨by decide, ?_⟩
  intro i hi
  simp only [exCode, List.mem_cons, List.not_mem_nil, or_false] at hi
  rcases hi with rfl | rfl | rfl <;> decide
theorem ex_const {St : StE} (hF : Found 1 exCode St) : constS St exCode = [⟨1, 0, 2, 0⟩, ⟨1, 0, 4, 0⟩, ⟨16, 0, 0, 0⟩] := by
  have hc : CodeOk 1 exCode := codeOk_of (p := exPrg) (ex_ok.thr exCode (by simp [exPrg])).2 (by decide)
  have hl : leS 1 St exW := hF.least hc (T := St) (fun V hV => by cases hV; exact ⟨_, rfl, leE.rfl'⟩) (by
    intro k hk U X V hV hU hX h1 h2 x hx
    match k, hk with
    | 0, _ =>
      have : x = 1 := by simpa [goesV, insNexts, exCode] using hx
      subst this
      intro W hW
      cases hW
      refine ⟨updE zeroE 0 ⟨1, 2⟩, rfl, fun r a b => .inl ?_⟩
      have : r = 0 := by omega
      subst this
      simp [flowV, reck, exCode, updE]
    | 1, _ =>
      have : x = 2 := by simpa [goesV, insNexts, exCode] using hx
      subst this
      have hX' : X = updE zeroE 0 ⟨1, 2⟩ := by
        have : some (updE zeroE 0 ⟨1, 2⟩) = some X := hX
        cases this; rfl
      have hV0 : V 0 = ⟨1, 2⟩ := by
        have := nrm_one (h2 0 (by decide) (by decide)) (by rw [hX']; rfl)
        rw [this, hX']; rfl
      intro W hW
      cases hW
      refine ⟨updE zeroE 0 ⟨1, 4⟩, rfl, fun r a b => .inl ?_⟩
      have : r = 0 := by omega
      subst this
      have hw : IntKind.i64.wrap 4 = 4 := by decide
      simp [flowV, reck, exCode, updE, hV0, arithI, hw]
    | 2, _ =>
      have : x = 3 := by simpa [goesV, insNexts, exCode] using hx
      subst this
      have hX' : X = updE zeroE 0 ⟨1, 4⟩ := by
        have : some (updE zeroE 0 ⟨1, 4⟩) = some X := hX
        cases this; rfl
      intro W hW
      cases hW
      refine ⟨updE zeroE 0 ⟨1, 4⟩, rfl, ?_⟩
      rw [← hX']
      simpa [flowV, reck, exCode, insWrites] using h2
    | k + 3, h => simp [exCode] at h; omega)
  obtain ⟨V0, e0, _⟩ := hF.zero hc zeroE rfl
  obtain ⟨V1, e1, _⟩ := hF.closed hc 0 (by decide) V0 e0 1 (by simp [goesV, insNexts, exCode]) _ rfl
  obtain ⟨V2, e2, _⟩ := hF.closed hc 1 (by decide) V1 e1 2 (by simp [goesV, insNexts, exCode]) _ rfl
  obtain ⟨W1, e1', l1⟩ := hl 1 V1 e1
  have hW1 : W1 = updE zeroE 0 ⟨1, 2⟩ := by
    have : some (updE zeroE 0 ⟨1, 2⟩) = some W1 := e1'
    cases this; rfl
  have hV1 : V1 0 = ⟨1, 2⟩ := by
    have := nrm_one (l1 0 (by decide) (by decide)) (by rw [hW1]; rfl)
    rw [this, hW1]; rfl
  have hw : IntKind.i64.wrap 4 = 4 := by decide
  have b0 : becomeS St 0 ⟨1, 0, 2, 0⟩ = [⟨1, 0, 2, 0⟩] := by unfold becomeS; rw [e0]; simp
  have b1 : becomeS St 1 ⟨3, 0, 0, 0⟩ = [⟨1, 0, 4, 0⟩] := by unfold becomeS; rw [e1]; simp [reck, hV1, arithI, hw]
  have b2 : becomeS St 2 ⟨16, 0, 0, 0⟩ = [⟨16, 0, 0, 0⟩] := by unfold becomeS; rw [e2]; simp [reck]
  have ho : outN exCode (fun k i => becomeS St k i) 3 = [(0, ⟨1, 0, 2, 0⟩), (1, ⟨1, 0, 4, 0⟩), (2, ⟨16, 0, 0, 0⟩)] := by
    simp [outN, exCode, b0, b1, b2]
  have hl3 : exCode.length = 3 := rfl
  unfold constS movedS
  rw [hl3, ho]
  simp only [List.map_cons, List.map_nil]
  rw [fixN_not (by simp) (by simp), fixN_not (by simp) (by simp), fixN_not (by simp) (by simp)]
end Go.Proofs.Ythpgjbdacknkgaa
