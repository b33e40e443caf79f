/- More laws of one's own walks. No statement of the seat in it. -/
import Derived.Test.YthpgjbdacknkgaaSt
namespace Go.Proofs.Ythpgjbdacknkgaa
namespace E
open Go

section
variable {P : Program} {L : Env} {ρ : Ro} {M : List Asr} {o : Oper} {K : Value → Ro → List Asr → Prop}
/-- a quiet operation, taken at its place -/
theorem LOp.q {v : Value} (h : QOp P L ρ M o v) (hk : K v ρ M) : LOp P L ρ M o K := LOp.val fun n a w ha H => ⟨v, ρ, M, w, h n a w ha H, H, hk⟩
/-- a result that freezes -/
theorem Hoa.frz {f : FuncId} {args : Array Value} {R : Value → Ro → List Asr → Prop}
    (h : Hoa P f args ρ M (fun v ρ1 M1 => ∃ A M0, M1 = A :: M0 ∧ ∀ ρ2, Ro.le ρ1 ρ2 → (∃ h, A h ∧ ∀ b o, h b = some o → ρ2.blk b = some o) → R v ρ2 M0)) : Hoa P f args ρ M R := fun w H => by
  refine (h w H).mono ?_
  rintro e w' ⟨v, ρ1, M1, e1, H', A, M0, rfl, h2⟩
  obtain ⟨ρ2, k1, k2, k3⟩ := H'.freeze
  exact ⟨v, ρ2, M0, e1, k3, h2 ρ2 k1 k2⟩
/-- what stays may be said less -/
theorem Hoa.weak {f : FuncId} {args : Array Value} {R : Value → Ro → List Asr → Prop}
    (h : Hoa P f args ρ M (fun v ρ1 M1 => ∃ ρ2, Ro.le ρ2 ρ1 ∧ R v ρ2 M1)) : Hoa P f args ρ M R := fun w H => by
  refine (h w H).mono ?_
  rintro e w' ⟨v, ρ1, M1, e1, H', ρ2, k1, k2⟩
  exact ⟨v, ρ2, M1, e1, Ent.weak k1 M1 w' H', k2⟩
end
end E
end Go.Proofs.Ythpgjbdacknkgaa
