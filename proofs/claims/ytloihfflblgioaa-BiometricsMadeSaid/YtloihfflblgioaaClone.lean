import Derived.Test.YtloihfflblgioaaCom
import Derived.Handy
namespace Go.Proofs.Ytloihfflblgioaa
open Go.RowKit Go.TravelBase Go.TravelAbs
set_option linter.unusedVariables false
set_option linter.unusedSimpArgs false

theorem sclone_any (A : Option Addr) (n c : Nat) (xs : List UInt8) (w : World) (h : Rd w A n c (bvs xs)) (hr : n ≤ 140737488355328) :
    Calls Try.prog 45 #[.slice A n c] w (RetS 5 n (bvs xs) w) := by
  have hm := h.max
  obtain ⟨i0, hi, hz0, hz1, hz2⟩ := info_parts info_u8
  cases A with
  | none =>
    obtain ⟨rfl, rfl, h0⟩ := h.none_
    rw [h0]
    have k1 := fun (w : World) (a : Option Addr) (n c : Nat) => Lib.run_eql_slice_nil (P := Try.prog) w 35 5 a n c 0 0 Try.underlying35
    go_enter Try.func45, Try.ntmps45
    go_wp2
    go_ret
    exact RetS.ap (Ap.nil_ _ _ _) (Below.refl _ _)
  | some ad =>
    have k1 := fun (w : World) (a : Option Addr) (n c : Nat) => Lib.run_eql_slice_nil (P := Try.prog) w 35 5 a n c 0 0 Try.underlying35
    go_enter Try.func45, Try.ntmps45
    go_wp2_with (at_builtin; refine wpList_append_ap _ rfl _ _ 35 rfl w.heap.size 5 i0 _ 1 Try.underlying35 hi hz0 hz1 hz2 rfl _ 0 0 [] rfl (Ap.empty _ _ _ _) (some ad) n c (bvs xs) rfl (h.alloc _) (one_bvs _) (by omega) (by unfold maxLen; omega) (by simp) ?_; intro A2 c2 w2 hap hgr hb hne)
    go_ret
    simp only [Nat.zero_add, List.nil_append] at hap ⊢
    exact RetS.ap hap (((Below.refl _ _).alloc (Nat.le_refl _) _).trans hb)

theorem sclone_s (bs : List UInt8) (hb : bs.length ≤ 140737488355328) : FnS Try.prog 45 [.by_ bs] [] (.fr (.by_ bs)) [] :=
  FnS.fr1 (fun w S m vs hs hl ha => by
    obtain ⟨v, rfl, h⟩ := arr1 hl ha
    obtain ⟨A, c, rfl, hr⟩ := Rd_of_VR h hs
    exact sclone_any A _ c bs w hr hb)

end Go.Proofs.Ytloihfflblgioaa
