/- Layer 11, part G: numbers read, with the library's errors; rights read back from words. -/
import Derived.Test.YtaaicadjoghbcaaDoorRtF
import Derived.Test.YtaaicadjoghbcaaDoorRtShelf3
set_option linter.unusedSimpArgs false
set_option linter.unusedVariables false
set_option maxRecDepth 8000
namespace Go.Proofs.YtaaicadjoghbcaaDoor
open Go.Eng

def PR.num? : PR → Option Nat
  | .num n => some n
  | _ => none
def PUIs (l : List Nat) (v : Value) : Prop := match (pu l).num? with
  | some n => v = .tuple #[.int .u64 n, .nilIface]
  | none => ∃ x t a, v = .tuple #[x, .iface t a]

@[simp] theorem varV_nilIface : varV .nilIface = some .nilIface := rfl
@[simp] theorem varV_iface (t : TypeId) (a : Value) : varV (.iface t a) = some (.iface t a) := rfl
@[simp] theorem nilV_nilIface : nilV 3 true .nilIface = some (.bool false) := rfl
@[simp] theorem nilV_iface (t : TypeId) (a : Value) : nilV 3 true (.iface t a) = some (.bool true) := rfl
theorem toErr_ret (l : List Nat) (w : World) (hlen : l.length ≤ 1000000) (hg : GlobT w) (k : Int) (hk : k = 1 ∨ k = 2) :
    Ret Tryd.prog 28 [.string ⟨#[80, 97, 114, 115, 101, 85, 105, 110, 116]⟩, .string (bs l), .int .i64 16, .int .i64 16, .iface 81 (.int .i64 k)] w fun v w' => Kept none' w w' ∧ ∃ t a, v = .iface t a := by
  obtain ⟨e1, h1, h1'⟩ := hg.syn
  obtain ⟨e2, h2, h2'⟩ := hg.rng
  rcases hk with rfl | rfl
  · refine ret_of_calls ((Tryd.toError_range _ (bs l) 16 16 e2 w (by simp; omega) (wcell_cell h2) h2').mono fun e w' he => ?_)
    obtain ⟨N, rfl, _, _, hb⟩ := he
    exact ⟨_, rfl, calm_of_below hb, _, _, rfl⟩
  · refine ret_of_calls ((Tryd.toError_syntax _ (bs l) 16 16 e1 w (by simp; omega) (wcell_cell h1) h1').mono fun e w' he => ?_)
    obtain ⟨N, rfl, _, _, hb⟩ := he
    exact ⟨_, rfl, calm_of_below hb, _, _, rfl⟩

theorem parseU_ret (l : List Nat) (w : World) (hl : Oct l) (hlen : l.length ≤ 1000000) (hg : GlobT w) :
    Ret Tryd.prog 16 [.string (bs l), .int .i64 16, .int .i64 16] w fun v w' => Kept none' w w' ∧ PUIs l v := by
  refine ret_of_W Tryd.func16 rfl ok_strconv_ParseUint ?_
  simp [c_strconv_ParseUint]
  refine W_calm (by simp) (inner_ret l w hl hlen) ?_
  intro w1 hk1
  cases hp : pu l with
  | num n =>
    simp [PR.inner]
    refine W_no (by simp) ?_
    simp
    exact ⟨hk1, by unfold PUIs; rw [hp]; rfl⟩
  | syn =>
    simp [PR.inner]
    refine W_yes (by simp) ?_
    simp
    refine W_calmP (by simp) (toErr_ret l w1 hlen (hg.calm hk1) 2 (.inr rfl)) ?_
    rintro v w2 hk2 ⟨t, a, rfl⟩
    simp
    exact ⟨hk1.trans hk2, by unfold PUIs; rw [hp]; exact ⟨_, _, _, rfl⟩⟩
  | rng =>
    simp [PR.inner]
    refine W_yes (by simp) ?_
    simp
    refine W_calmP (by simp) (toErr_ret l w1 hlen (hg.calm hk1) 1 (.inl rfl)) ?_
    rintro v w2 hk2 ⟨t, a, rfl⟩
    simp
    exact ⟨hk1.trans hk2, by unfold PUIs; rw [hp]; exact ⟨_, _, _, rfl⟩⟩
end Go.Proofs.YtaaicadjoghbcaaDoor
