/- Two of the kit's words (its module At, as print.sh laid it for this seat), taken out by themselves: the walks of this claim use no others of it. -/
import Derived.Test.YtpgfadljcmakfaaWWords
namespace Go.Proofs.YtpgfadljcmakfaaW.PrintWords
open Go.RowKit
theorem below_at {w w' u : World} {m B : Nat} (hq : w.drewN m = w') (h : Below B u w) : Below B u w' := by subst hq; exact pw_below_drewN h m
theorem Kd.R_at {α : Type} {d : Kd α} {e base m : Nat} {ok : Nat → Prop} {w w' : World} {v : Value} {xs : List α} (hq : w.drewN m = w') (h : d.R e w base ok v xs) : d.R e w' base ok v xs := by subst hq; exact Kd.R_drewN h m
end Go.Proofs.YtpgfadljcmakfaaW.PrintWords
