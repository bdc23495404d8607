/- What the listed variables of layer 23's laws give the walks. -/
import Derived.Test.YtpannhipchnhaaaGreatDoorLawLaid
import Derived.Test.YtpannhipchnhaaaGreatDoorAs7
import Derived.Stop.LaidErr
import Derived.Shelf.Vars
import Derived.Lib.LaidTab
set_option linter.unusedSimpArgs false
set_option linter.unusedVariables false
set_option maxRecDepth 8000
namespace Go.Proofs.YtpannhipchnhaaaGreatDoor
open Go.ChangeShapes Go.WideShapes Go.ChangeAt Go.RowKit

/-- A table of strings. -/
theorem laid_strs {P : Program} {W : World} {laid : List (String × DataW Unit)} (name : String) (g : Nat) (t e : TypeId) (xs : List (List UInt8)) (hL : laidMetH P laid W)
    (hf : (laid.filter fun x => x.1 == name) = [(name, .agg (xs.map fun x => .lit (.string x)))]) (hg : P.globalNamed name = some g) (ht : (P.globals[g]?).map (·.type) = some t)
    (hu : P.underlying t = some (.array xs.length e)) (hue : P.underlying e = some .string) (hc : P.cellsOf e = 1) : ∀ (i : Nat) x, xs[i]? = some x → Go.Eng.wcell W g i = some (.string (us x)) := by
  have h1 := hL.filter fun x => x.1 == name
  rw [hf, MakeChecks.laidMetH_plain _ _ _ (by rfl)] at h1
  obtain ⟨ps, ⟨g0, t0, cs0, f0, p0, q0, hg0, ht0, hv0, hd0, _⟩, _⟩ := h1
  obtain rfl := Option.some.inj (hg.symm.trans hg0)
  obtain rfl := Option.some.inj (ht.symm.trans ht0)
  obtain ⟨ys, m1, rfl, hy1, hlen, hn3, hel⟩ := DataW.trod_array hu hd0
  intro i x hx
  have hi : i < xs.length := by
    rcases Nat.lt_or_ge i xs.length with h | h
    · exact h
    · rw [List.getElem?_eq_none h] at hx; cases hx
  have h0 := hel i hi
  rw [hc, Nat.mul_one] at h0
  simp only [Prod.mk.injEq, DataW.agg.injEq] at hy1
  have hiy : i < ys.length := by omega
  rw [List.getElem?_eq_getElem hiy] at h0
  obtain ⟨n, e1, e2, _⟩ := DataW.trod_string hue h0
  have hx2 : (xs.map fun x => (DataW.lit (.string x) : DataW Unit))[i]? = (ys.map (·.1))[i]? := by rw [hy1.1]
  rw [List.getElem?_map, List.getElem?_map, hx, List.getElem?_eq_getElem hiy] at hx2
  simp only [Option.map_some, Option.some.injEq] at hx2
  rw [e2] at hx2
  simp only [DataW.lit.injEq, Lit.string.injEq] at hx2
  have h2 := World.var?_cell hg0 hv0 i
  have h3 : cs0[i]? = some (.string n) := by
    have := drop_take_one e1
    simpa using this
  rw [h3] at h2
  have h4 := (cell_wcell h2).2
  rw [h4, hx2]
  simp [us]
theorem tyRow (u : TypeId) (h : Tryz.prog.typeName? 3 u = some "*errors.errorString") : u = 167 := by
  have star : "*" ++ "errors.errorString" = "*errors.errorString" := by decide
  exact typeName_ptr_named (nm := "errors.errorString") (by rw [star]; kernel_rfl) (by kernel_rfl) (by decide) u (by rw [star]; exact h)
theorem sentinel {W : World} {laid : List (String × DataW Unit)} (hL : laidMetH Tryz.prog laid W) (n : String) (text : List UInt8) (g : Nat)
    (h1 : (laid.filter fun x => x.1 == n) = [(n, .iface "*errors.errorString" (.ptr (.agg [.lit (.string text)])))]) (hg : Tryz.prog.globalNamed n = some g) (ht : (Tryz.prog.globals[g]?).map (·.type) = some 59) :
    ∃ e, Go.Eng.wcell W g 0 = some e ∧ (e = .nilIface ∨ ∃ te pe, e = .iface te pe) := by
  have h2 := hL.filter fun x => x.1 == n
  rw [h1, MakeChecks.laidMetH_plain _ _ _ (by rfl)] at h2
  obtain ⟨a1, s1, hv, _⟩ := laid_sentinel h2 hg ht Tryz.underlying59 tyRow Tryz.underlying167 Tryz.underlying169 rfl rfl Tryz.underlying9 (by kernel_rfl) (by kernel_rfl)
  have h3 := World.var?_cell hg hv 0
  exact ⟨_, (cell_wcell (h3.trans rfl)).2, .inr ⟨_, _, rfl⟩⟩
theorem globA_of {W : World} {laid : List (String × DataW Unit)} (hsh : W.ShapedOpen Tryz.prog) (hL : laidMetH Tryz.prog laid W)
    (h1 : (laid.filter fun x => x.1 == "tipstaff/asm.alus") = [("tipstaff/asm.alus", Rows.laid_tipstaff_asm_alus)])
    (h2 : (laid.filter fun x => x.1 == "tipstaff/asm.jumps") = [("tipstaff/asm.jumps", Rows.laid_tipstaff_asm_jumps)])
    (h3 : (laid.filter fun x => x.1 == "tipstaff/asm.atomics") = [("tipstaff/asm.atomics", Rows.laid_tipstaff_asm_atomics)])
    (h4 : (laid.filter fun x => x.1 == "tipstaff/asm.sizes") = [("tipstaff/asm.sizes", Rows.laid_tipstaff_asm_sizes)])
    (h5 : (laid.filter fun x => x.1 == "tipstaff/asm.atoms") = [("tipstaff/asm.atoms", Rows.laid_tipstaff_asm_atoms)])
    (h6 : (laid.filter fun x => x.1 == "internal/strconv.uint64pow10") = [("internal/strconv.uint64pow10", Rows.laid_internal_strconv_uint64pow10)])
    (h7 : (laid.filter fun x => x.1 == "strconv.ErrSyntax") = [("strconv.ErrSyntax", Rows.laid_strconv_ErrSyntax)])
    (h8 : (laid.filter fun x => x.1 == "strconv.ErrRange") = [("strconv.ErrRange", Rows.laid_strconv_ErrRange)]) : GlobA W := by
  refine ⟨?_, ?_, ?_, ?_, ?_, ?_, ?_, sentinel hL _ _ _ h7 (by kernel_rfl) (by kernel_rfl), sentinel hL _ _ _ h8 (by kernel_rfl) (by kernel_rfl)⟩
  · exact laid_strs "tipstaff/asm.alus" 0 84 9 aluW hL h1 (by kernel_rfl) (by kernel_rfl) Tryz.underlying84 Tryz.underlying9 (by kernel_rfl)
  · exact laid_strs "tipstaff/asm.jumps" 1 87 9 jumpW hL h2 (by kernel_rfl) (by kernel_rfl) Tryz.underlying87 Tryz.underlying9 (by kernel_rfl)
  · exact laid_strs "tipstaff/asm.atomics" 2 88 9 atomW hL h3 (by kernel_rfl) (by kernel_rfl) Tryz.underlying88 Tryz.underlying9 (by kernel_rfl)
  · exact laid_strs "tipstaff/asm.sizes" 4 88 9 sizeW hL h4 (by kernel_rfl) (by kernel_rfl) Tryz.underlying88 Tryz.underlying9 (by kernel_rfl)
  · exact laid_ints "tipstaff/asm.atoms" 3 90 21 .i32 atomN hL h5 (by kernel_rfl) (by kernel_rfl) Tryz.underlying90 Tryz.underlying21 (by kernel_rfl)
  · have h := hL.filter fun x => x.1 == "internal/strconv.uint64pow10"
    rw [h6, MakeChecks.laidMetH_plain _ _ _ (by rfl)] at h
    exact Lib.tabIs_of_head (g := 6) (t := 147) (e := 33) (n := 20) (by kernel_rfl) (by kernel_rfl) Tryz.underlying147 Tryz.underlying33 (by kernel_rfl) (by kernel_rfl) h
  · obtain ⟨m, hm⟩ := cell_of_shapedOpen_int (g := 5) (t := 3) (zero := #[.int .i64 0]) (k := .i64) hsh (of_decide_eq_true (by kernel_rfl)) (by kernel_rfl) rfl (by kernel_rfl) (by kernel_rfl) Tryz.underlying3
    exact ⟨m, (cell_wcell hm).2⟩
/-- A law over listed variables, whose walk is told the world's shape too. -/
theorem handed_shaped {H : Type} {enc : TypeId × Value → H} {C : Checked} {os : Os} {f : FuncId} {fn : Func} {s : ChangeSpec} {laid : List (String × DataW Unit)}
    (own : ownKnob C.prog.godebug = none) (started : os.Started) (noInit : C.prog.inits.idxOf? f = none) (hfn : C.prog.funcs[f]? = some fn)
    (wit : ∃ (w : World) (tape : Tape) (i : Input), w.os = os ∧ (w.forCall tape i).Shaped C.prog ∧ i.vars = [] ∧ Input.okWide C.prog (w.forCall tape i) .any w.heap.size f i ∧
      ((s.pre enc C.prog fn [] false (w.forCall tape i).memory i.args ∧ laidMetH C.prog laid (w.forCall tape i).memory) ∧ sizedMet enc C.prog fn (OpenSpec.ofChange s) false (w.forCall tape i).memory i.args) ∧
      ({} : Assume).holds C.prog (lone (Frame.enter C.prog f i.args .normal) [] (w.forCall tape i)))
    (walk : ∀ (W : World) (base : Nat) (args : Array Value) (ds gs : List (DataW H)) (before : List MemPlace), W.ShapedOpen C.prog → laidMetH C.prog laid W →
      (∀ (j : Nat) t v, fn.params[j]? = some t → args[j]? = some v → Value.okWide C.prog W .any base t v) →
      DataW.Whole enc C.prog fn.params.toList s.vars false W args.toList ds gs before →
      Calls C.prog f args W fun e W' => ∃ v, e = .returned v ∧ s.post enc C.prog fn false true false false W args v W') :
    ReturnsInHanded {} C os f .any (fun w args => (s.pre enc C.prog fn [] false w args ∧ laidMetH C.prog laid w) ∧ sizedMet enc C.prog fn (OpenSpec.ofChange s) false w args) (s.post enc C.prog fn false true false false) := by
  refine returnsInHanded_of_calls own started noInit wit fun w tape i _ shaped _ okI pre _ => ?_
  obtain ⟨⟨⟨ds, gs, before, whole, _⟩, met⟩, _⟩ := pre
  obtain ⟨_, _, _, fn', eq', _, _, _, _, values⟩ := okI
  cases Option.some.inj (eq'.symm.trans hfn)
  refine Calls.mono (walk (w.forCall tape i) w.heap.size i.args ds gs before shaped (laidMetH.of_heap (w' := w.forCall tape i) (by rfl) met) values (DataW.Whole.of_heap (w' := w.forCall tape i) (by rfl) whole)) fun e W' hv => ?_
  obtain ⟨v, rfl, hp⟩ := hv
  exact ChangeSpec.post_blind hp
end Go.Proofs.YtpannhipchnhaaaGreatDoor
