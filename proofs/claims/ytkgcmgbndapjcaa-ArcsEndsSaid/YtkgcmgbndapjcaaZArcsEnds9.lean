/- Contracts and plain laws that the law ArcsEnds needs, part 9. -/
import Derived.Test.YtkgcmgbndapjcaaZArcsEnds8
import Derived.Scope
namespace Go.Am
open Go
set_option linter.unusedVariables false
section
variable {P : Program} {w0 : World} {nt : Nat}
theorem awp_scope {c : Code} {Q : Exit → Env → Heap → Prop} {env : Env} {H : Heap} (hg : ∀ l env H, ¬ Q (.goto l) env H) (h : AWP P w0 nt c Q env H) : AWP P w0 nt (.scope c) Q env H := by
  intro w F M a r er
  refine wp_scope_straight (Code.wp_mono ?_ (h w F M a r er))
  rintro e a' w' ⟨env', H', F', M', x1, r', er', q⟩
  cases e with
  | goto l => exact hg l _ _ q
  | _ => exact ⟨env', H', F', M', x1, r', er', q⟩
theorem awp_scope_ret {c : Code} {ts : List Tmp} {K : AV → Heap → Prop} {env : Env} {H : Heap} (h : AWP P w0 nt c (RetPost ts K) env H) : AWP P w0 nt (.scope c) (RetPost ts K) env H :=
  awp_scope (fun _ _ _ q => q) h
end
end Go.Am
