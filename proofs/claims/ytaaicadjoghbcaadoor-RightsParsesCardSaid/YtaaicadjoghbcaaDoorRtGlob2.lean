/- What the listed variables of layer 11's texts give the walks; the world's shape kept. -/
import Derived.Test.YtaaicadjoghbcaaDoorRtGlob
import Derived.Test.YtaaicadjoghbcaaDoorRtE
import Derived.Stop.LaidErr
import Derived.Shelf.Vars
set_option linter.unusedSimpArgs false
set_option linter.unusedVariables false
set_option maxRecDepth 8000
namespace Go.Proofs.YtaaicadjoghbcaaDoor
open Go.ChangeShapes Go.WideShapes Go.ChangeAt Go.RowKit

theorem tyRow (u : TypeId) (h : Tryd.prog.typeName? 3 u = some "*errors.errorString") : u = 106 := by
  have star : "*" ++ "errors.errorString" = "*errors.errorString" := by decide
  exact typeName_ptr_named (nm := "errors.errorString") (by rw [star]; kernel_rfl) (by kernel_rfl) (by decide) u (by rw [star]; exact h)
theorem sentinel {W : World} {laid : List (String × DataW Unit)} (hL : laidMetH Tryd.prog laid W) (n : String) (text : List UInt8) (g : Nat)
    (h1 : (laid.filter fun x => x.1 == n) = [(n, .iface "*errors.errorString" (.ptr (.agg [.lit (.string text)])))]) (hg : Tryd.prog.globalNamed n = some g) (ht : (Tryd.prog.globals[g]?).map (·.type) = some 48) :
    ∃ e, Go.Eng.wcell W g 0 = some e ∧ (e = .nilIface ∨ ∃ te pe, e = .iface te pe) := by
  have h2 := hL.filter fun x => x.1 == n
  rw [h1, MakeChecks.laidMetH_plain _ _ _ (by rfl)] at h2
  obtain ⟨a1, s1, hv, _⟩ := laid_sentinel h2 hg ht Tryd.underlying48 tyRow Tryd.underlying106 Tryd.underlying108 rfl rfl Tryd.underlying9 (by kernel_rfl) (by kernel_rfl)
  have h3 := World.var?_cell hg hv 0
  exact ⟨_, (cell_wcell (h3.trans rfl)).2, .inr ⟨_, _, rfl⟩⟩
theorem globT_of {W : World} {laid : List (String × DataW Unit)} (hsh : W.ShapedOpen Tryd.prog) (hL : laidMetH Tryd.prog laid W)
    (h1 : (laid.filter fun x => x.1 == "tipstaff/rights.helpers") = [("tipstaff/rights.helpers", Rows.laid_tipstaff_rights_helpers)])
    (h2 : (laid.filter fun x => x.1 == "math/bits.deBruijn64tab") = [("math/bits.deBruijn64tab", Rows.laid_math_bits_deBruijn64tab)])
    (h3 : (laid.filter fun x => x.1 == "strconv.ErrSyntax") = [("strconv.ErrSyntax", Rows.laid_strconv_ErrSyntax)])
    (h4 : (laid.filter fun x => x.1 == "strconv.ErrRange") = [("strconv.ErrRange", Rows.laid_strconv_ErrRange)]) : GlobT W := by
  refine ⟨glob_of hL h1 h2, ?_, sentinel hL _ _ _ h3 (by kernel_rfl) (by kernel_rfl), sentinel hL _ _ _ h4 (by kernel_rfl) (by kernel_rfl)⟩
  obtain ⟨m, hm⟩ := cell_of_shapedOpen_int (g := 4) (t := 3) (zero := #[.int .i64 0]) (k := .i64) hsh (of_decide_eq_true (by kernel_rfl)) (by kernel_rfl) rfl (by kernel_rfl) (by kernel_rfl) Tryd.underlying3
  exact ⟨m, (cell_wcell hm).2⟩

/-- A law over listed variables, whose walk is told the world's shape too. -/
theorem handed_shaped {H : Type} {enc : TypeId × Value → H} {C : Checked} {os : Os} {f : FuncId} {fn : Func} {s : ChangeSpec} {laid : List (String × DataW Unit)}
    (own : ownKnob C.prog.godebug = none) (started : os.Started) (noInit : C.prog.inits.idxOf? f = none) (hfn : C.prog.funcs[f]? = some fn)
    (wit : ∃ (w : World) (tape : Tape) (i : Input), w.os = os ∧ (w.forCall tape i).Shaped C.prog ∧ i.vars = [] ∧ Input.okWide C.prog (w.forCall tape i) .any w.heap.size f i ∧
      ((s.pre enc C.prog fn [] false (w.forCall tape i).memory i.args ∧ laidMetH C.prog laid (w.forCall tape i).memory) ∧ sizedMet enc C.prog fn (OpenSpec.ofChange s) false (w.forCall tape i).memory i.args) ∧
      ({} : Assume).holds C.prog (lone (Frame.enter C.prog f i.args .normal) [] (w.forCall tape i)))
    (walk : ∀ (W : World) (base : Nat) (args : Array Value) (ds gs : List (DataW H)) (before : List MemPlace), W.ShapedOpen C.prog → laidMetH C.prog laid W →
      (∀ (j : Nat) t v, fn.params[j]? = some t → args[j]? = some v → Value.okWide C.prog W .any base t v) →
      DataW.Whole enc C.prog fn.params.toList s.vars false W args.toList ds gs before →
      Calls C.prog f args W fun e W' => ∃ v, e = .returned v ∧ s.post enc C.prog fn false true false false W args v W') :
    ReturnsInHanded {} C os f .any (fun w args => (s.pre enc C.prog fn [] false w args ∧ laidMetH C.prog laid w) ∧ sizedMet enc C.prog fn (OpenSpec.ofChange s) false w args) (s.post enc C.prog fn false true false false) := by
  refine returnsInHanded_of_calls own started noInit wit fun w tape i _ shaped _ okI pre _ => ?_
  obtain ⟨⟨⟨ds, gs, before, whole, _⟩, met⟩, _⟩ := pre
  obtain ⟨_, _, _, fn', eq', _, _, _, _, values⟩ := okI
  cases Option.some.inj (eq'.symm.trans hfn)
  refine Calls.mono (walk (w.forCall tape i) w.heap.size i.args ds gs before shaped (laidMetH.of_heap (w' := w.forCall tape i) (by rfl) met) values (DataW.Whole.of_heap (w' := w.forCall tape i) (by rfl) whole)) fun e W' hv => ?_
  obtain ⟨v, rfl, hp⟩ := hv
  exact ChangeSpec.post_blind hp
end Go.Proofs.YtaaicadjoghbcaaDoor
