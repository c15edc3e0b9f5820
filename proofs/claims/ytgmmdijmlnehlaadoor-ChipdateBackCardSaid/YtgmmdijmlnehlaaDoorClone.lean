import Derived.Test.YtgmmdijmlnehlaaDoorCom
import Derived.Handy
namespace Go.Proofs.YtgmmdijmlnehlaaDoor
open Go.RowKit Go.TravelBase Go.TravelAbs
set_option linter.unusedVariables false
set_option linter.unusedSimpArgs false

theorem bequal_s (xs ys : List UInt8) : FnS Tryd.prog 59 [.by_ xs, .by_ ys] [] (.lit (.bool (decide (xs = ys)))) [] :=
  FnS.q (fun w S m vs hs hl ha => by
    obtain ⟨v, u, rfl, h1, h2⟩ := arr2 hl ha
    obtain ⟨A, c, rfl, hr⟩ := Rd_of_VR h1 hs
    obtain ⟨A', c', rfl, hr'⟩ := Rd_of_VR h2 hs
    exact (bequal_any A A' _ c _ c' xs ys w hr hr').mono fun e w' ⟨h1, h2⟩ => ⟨h1, 0, h2.symm⟩) rfl fun _ _ _ => .lit _

end Go.Proofs.YtgmmdijmlnehlaaDoor
