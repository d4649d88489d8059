/- Rules: three tests within one another, in a region that draws. -/
import Derived.Test.YtfeabbeebkkhaaaGreatSx21
namespace Go.Sx
open Go
set_option linter.unusedVariables false
variable {P : Program} {R : Ending → World → Prop} {env : Env} {b : Base} {S : List SH} {B : JB} {T : Tree} {v : Value} {ty : TypeId}
theorem jq_ggg {o : Oper} {qs : List Q} {next : Env → Prop} {c : Operand} {b0 w0 b1 w1 b2 want : Bool} (hc : ev env c = gd b0 w0 (gd b1 w1 (.bool b2))) (hq : b0 = w0 → b1 = w1 → b2 = want → QS P o env b S v) (h : JQ P b S qs (gd b0 w0 (gd b1 w1 (gd b2 want v)) :: env) next) : JQ P b S (⟨some (c, want), o⟩ :: qs) env next := by
  by_cases h0 : b0 = w0
  · rw [gd_eq h0] at hc h
    exact jq_gg hc (hq h0) h
  · refine ⟨fun e => ?_, fun _ => ?_⟩
    · rw [hc, gd, if_neg h0] at e
      cases e
    · have := h
      rwa [gd, if_neg h0] at this
end Go.Sx
