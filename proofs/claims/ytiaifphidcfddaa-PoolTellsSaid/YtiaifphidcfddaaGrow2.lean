/-
  A guarded operation of a drawn region whose guard has no value.
-/
import Derived.Test.YtiaifphidcfddaaGrow
set_option linter.unusedVariables false
set_option linter.unusedSimpArgs false
namespace Go.Proofs.Ytiaifphidcfddaa
open Go.RowKit

theorem wpOp_barU {P : Program} {ops : Array Oper} {Q : Exit → Act → World → Prop} {i j d n : Nat} {want : Bool} {o : Oper} {K : Act → World → Prop} {g : Nat → Value} {ds : List Deferred} {w : World} (hi : ops[i]? = some o) (hg : o.guard = some (j, want)) (hd : ((ops[j]?).bind (·.dst)) = some d) (hn : d < n) (hv : g d = undef)
    (h : K ((actOf n g ds).put o.dst undef) w) : wpOp P ops Q i K (actOf n g ds) w := by
  unfold wpOp
  simp only [hi]
  have hy : yielded ops (actOf n g ds).tmps j = none := by
    unfold yielded
    rw [hd]
    simp [actOf, hn, hv, undef]
  have : Region.wanted o (yielded ops (actOf n g ds).tmps) = false := by
    unfold Region.wanted
    rw [hg]
    simp only [hy]
    cases want <;> rfl
  rw [this]
  simpa using h
end Go.Proofs.Ytiaifphidcfddaa
