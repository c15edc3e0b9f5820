import Derived.Test.YtjhiagelgleomaaMemO
import Derived.Test.YtjhiagelgleomaaOpenA
namespace Go.Proofs.Ytjhiagelgleomaa
open Go.RowKit Go.TravelBase Go.TravelAbs
theorem walk_MemoryExact (A1 : Option Addr) (n1 c1 : Nat) (bs1 : List UInt8) (A2 : Option Addr) (n2 c2 : Nat) (bs2 : List UInt8) (A : Option Addr) (n c : Nat) (bs : List UInt8) (W : World) (w1 : Rd W A1 n1 c1 (bvs bs1)) (w2 : Rd W A2 n2 c2 (bvs bs2)) (w : Rd W A n c (bvs bs)) :
    Calls Try.prog 3 #[.agg #[.slice A1 n1 c1, .slice A2 n2 c2], .slice A n c] W fun e W' => e = .returned (.bool true) ∧ Below W.heap.size W W' := by
  refine FnS.law (exact_s bs1 bs2 bs) W _ rfl fun m j x u hx hu => ?_
  have hS : ∀ b o, b < W.heap.size → (fun b (_ : Nat) => b < W.heap.size) b o := fun _ _ h => h
  match j, hx, hu with
  | 0, hx, hu =>
    simp at hx hu
    subst hx hu
    refine .agg rfl fun j x u hx hu => ?_
    match j, hx, hu with
    | 0, hx, hu => simp at hx hu; subst hx hu; exact VR_of_Rd w1 hS
    | 1, hx, hu => simp at hx hu; subst hx hu; exact VR_of_Rd w2 hS
    | j + 2, hx, hu => simp at hx
  | 1, hx, hu => simp at hx hu; subst hx hu; exact VR_of_Rd w hS
  | j + 2, hx, hu => simp at hx
end Go.Proofs.Ytjhiagelgleomaa
