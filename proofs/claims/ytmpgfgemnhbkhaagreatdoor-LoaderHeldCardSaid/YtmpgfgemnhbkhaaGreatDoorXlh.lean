/- LoaderHeld: what it tells, whatever it is given. -/
import Derived.Test.YtmpgfgemnhbkhaaGreatDoorXlhr0
import Derived.Test.YtmpgfgemnhbkhaaGreatDoorXlhr1
set_option maxRecDepth 100000
set_option linter.unusedVariables false
namespace Go.Proofs.YtmpgfgemnhbkhaaGreatDoor
open Go Go.Eng
theorem lheld_ret (n : Int) (hr : -9223372036854775808 ≤ n ∧ n ≤ 9223372036854775807) (w : World) (hb : Begin 3 hG w) : Ret Tryz.prog 5 [.int .i64 n] w fun v w' => v = .bool true ∧ Kept none' w w' := by
  have h0 := Int.emod_nonneg (n % 18446744073709551616) (show (5 : Int) ≠ 0 by decide)
  have h1 := Int.emod_lt_of_pos (n % 18446744073709551616) (show (0 : Int) < 5 by decide)
  rcases (by omega : (n % 18446744073709551616) % 5 = 0 ∨ (n % 18446744073709551616) % 5 = 1 ∨ (n % 18446744073709551616) % 5 = 2 ∨ (n % 18446744073709551616) % 5 = 3 ∨ (n % 18446744073709551616) % 5 = 4) with hc | hc | hc | hc | hc
  · exact @ret_of_sym (lh_h0.sy (fun _ => n) ⟨hr, hc⟩) _ _ _ _ add_ok _ _ (xtabS_ok w hb) hb _ _ [.chan (some 0)] _ 300 _ (by kernel_rfl) ⟨.inl ⟨rfl, rfl⟩, trivial⟩ (lh_run0 _ _) rfl
  · exact @ret_of_sym (lh_h1.sy (fun _ => n) ⟨hr, hc⟩) _ _ _ _ add_ok _ _ (xtabS_ok w hb) hb _ _ [.chan (some 0)] _ 300 _ (by kernel_rfl) ⟨.inl ⟨rfl, rfl⟩, trivial⟩ (lh_run1 _ _) rfl
  · exact @ret_of_sym (lh_h2.sy (fun _ => n) ⟨hr, hc⟩) _ _ _ _ add_ok _ _ (xtabS_ok w hb) hb _ _ [.chan (some 0)] _ 300 _ (by kernel_rfl) ⟨.inl ⟨rfl, rfl⟩, trivial⟩ (lh_run2 _ _) rfl
  · exact @ret_of_sym (lh_h3.sy (fun _ => n) ⟨hr, hc⟩) _ _ _ _ add_ok _ _ (xtabS_ok w hb) hb _ _ [.chan (some 0)] _ 300 _ (by kernel_rfl) ⟨.inl ⟨rfl, rfl⟩, trivial⟩ (lh_run3 _ _) rfl
  · exact @ret_of_sym (lh_h4.sy (fun _ => n) ⟨hr, hc⟩) _ _ _ _ add_ok _ _ (xtabS_ok w hb) hb _ _ [.chan (some 0)] _ 300 _ (by kernel_rfl) ⟨.inl ⟨rfl, rfl⟩, trivial⟩ (lh_run4 _ _) rfl
end Go.Proofs.YtmpgfgemnhbkhaaGreatDoor
