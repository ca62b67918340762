/- The table compiled on the fly. -/
import Derived.Test.YthmcdebdkbhbmaaGreatDoorA20
import Derived.KernelRfl
namespace Go.Abs
open Go
def compT (P : Program) (an : FuncId → Ann) (f : FuncId) : Option Fn := match P.funcs[f]? with
  | some fn => (match fn.body with
    | some c => (match callable P f with
      | true => (match compC P (an f) fn.ntmps c, rsC P fn.results.toList with
        | some ac, some rs => some ⟨ac, rs, fn.ntmps⟩
        | _, _ => none)
      | false => none)
    | none => none)
  | none => none
def an0 : Ann := { opn := [], gl := fun _ => none, frz := fun _ => [] }
theorem compT_ok {P : Program} {W0 : World} {an : FuncId → Ann} (h : ∀ f g cells, (an f).gl g = some cells → GlobOK W0 g cells) : TabOK P W0 (compT P an) := by
  intro f F hF
  unfold compT at hF
  split at hF
  · rename_i fn hfn
    split at hF
    · rename_i c hc
      split at hF
      · rename_i hcal
        split at hF
        · rename_i ac rs hac hrs
          cases hF
          exact ⟨fn, c, an f, h f, hfn, hc, hcal, hac, hrs, rfl⟩
        · cases hF
      · cases hF
    · cases hF
  · cases hF
end Go.Abs
