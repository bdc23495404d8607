/- Layer 20: a program's run. -/
import Derived.Test.YtepbpapbkonhnaaVmL
set_option linter.unusedSimpArgs false
set_option linter.unusedVariables false
set_option maxRecDepth 8000
namespace Go.Proofs.Ytepbpapbkonhnaa
open Go.Eng

/-! What a run tells. -/
def vrun (xs : List Ins) (clock : Int) (us : List Int) : Nat → Nat → VSt → RMem → Int × Int × Int × Int
  | 0, n, s, _ => (0, s.pos, n, 62)
  | f + 1, n, s, m =>
    match vstep xs clock us s m with
    | none => (0, s.pos, n, 14)
    | some (s', m') => if s'.done = true then ((s'.r 0).n, s'.pos, (n : Int) + 1, 0) else vrun xs clock us f (n + 1) s' m'
def startSt : VSt := { VSt.init0 with r := fset (fset VSt.init0.r 1 { RVal.zero with tag := 2 }) 10 { RVal.zero with tag := 3 } }
def fuelOf (fuel : Int) : Nat := min fuel.toNat 4096
def runOf (xs : List Ins) (ctx : Nat → Int) (clock : Int) (us : List Int) (fuel : Int) (maps : Value) : Int × Int × Int × Int := vrun xs clock us (fuelOf fuel) 0 startSt (RMem.fresh ctx maps)

structure GoodSt (s : VSt) (m : RMem) : Prop where
  ok : SOk s
  luck : 0 ≤ s.luck
  mem : MOk m
  no : NoMaps m
theorem good_set {s s' : VSt} {m : RMem} (h : GoodSt s m) {d : Nat} {v : RVal} (hv : ROk v) (e : setOf s d v = some s') : GoodSt s' m ∧ s'.done = s.done := by
  unfold setOf at e
  split at e
  · cases e
  · cases e
    refine ⟨⟨fun i => ?_, h.luck, h.mem, h.no⟩, rfl⟩
    show ROk (fset s.r d v i)
    unfold fset
    split
    · exact hv
    · exact h.ok i
theorem wrap_u64_nonneg (z : Int) : 0 ≤ IntKind.u64.wrap z := by rw [IntKind.wrap_u64]; omega
theorem low32_nonneg {wide : Bool} {x : Int} (h : 0 ≤ x) : 0 ≤ low32 wide x := by
  unfold low32; split
  · exact h
  · exact wrap_u64_nonneg _
theorem plain_nonneg {op : Nat} {x y : Int} (hx : 0 ≤ x) (hy : 0 ≤ y) : 0 ≤ plainOf op x y := by
  unfold plainOf
  repeat' split
  all_goals first | exact wrap_u64_nonneg _ | exact hx | exact hy | omega | skip
  exact Int.tmod_nonneg _ hx
theorem shift_nonneg {op : Nat} {wide : Bool} {x y : Int} (hx : 0 ≤ x) : 0 ≤ shiftOf op wide x y := by
  unfold shiftOf
  simp only
  repeat' split
  all_goals first | exact wrap_u64_nonneg _ | skip
  all_goals
    rw [Int.fdiv_eq_ediv_of_nonneg _ (Int.pow_nonneg (by omega))]
    exact Int.ediv_nonneg hx (Int.pow_nonneg (by omega))
theorem eval_nonneg {op : Nat} {wide : Bool} {x y : Int} (hx : 0 ≤ x) (hy : 0 ≤ y) : 0 ≤ evalOf op wide x y := by
  unfold evalOf
  refine low32_nonneg ?_
  split
  · exact shift_nonneg (low32_nonneg hx)
  · exact plain_nonneg (low32_nonneg hx) (low32_nonneg hy)
theorem rok_further {v : RVal} (h : ROk v) (y : Int) : ROk (furth v y) := ⟨h.1, h.2.1, wrap_u64_nonneg _⟩
theorem rok_onPlace {op : Nat} {a b : RVal} (ha : ROk a) (hb : ROk b) : ROk (onPlaceOf op a b).1 := by
  unfold onPlaceOf
  repeat' split
  all_goals first | exact hb | exact rok_further ha _ | exact rok_further hb _ | exact rok_zero
theorem good_alu {s s' : VSt} {m : RMem} {x : Ins} {p : Parts} (h : GoodSt s m) (e : aluOf s x p = some s') : GoodSt s' m ∧ s'.done = s.done := by
  unfold aluOf at e
  simp only at e
  have kA : ROk (aluA p (s.r x.dst) (secondOf s x p.reg)) := rok_aluA (h.ok _)
  have kB : ROk (aluB p (secondOf s x p.reg)) := rok_aluB (rok_second h.ok x p.reg)
  split at e
  · exact good_set h (rok_num (eval_nonneg kA.2.2 kB.2.2)) e
  · split at e
    · exact good_set h (rok_onPlace kA kB) e
    · cases e
theorem good_step {xs : List Ins} {clock : Int} {us : List Int} {s s' : VSt} {m m' : RMem} (h : GoodSt s m) (hu : ∀ n ∈ us, 0 ≤ n) (hul : us.length < 4611686018427387904) (hcl : 0 ≤ clock) (hd : s.done = false)
    (e : vstep xs clock us s m = some (s', m')) : GoodSt s' m' ∧ m'.maps = m.maps := by
  unfold vstep at e
  split at e
  · cases e
  split at e
  · cases e
  rename_i x hx
  split at e
  · cases e
  generalize partsOf x.op = p at e
  have one : ∀ (o : Option VSt), (o.map fun q => (q, m)) = some (s', m') → (∀ q, o = some q → GoodSt q m ∧ q.done = s.done) → GoodSt s' m' ∧ m'.maps = m.maps := by
    intro o ho hq
    cases o with
    | none => cases ho
    | some q => cases ho; exact ⟨(hq _ rfl).1, rfl⟩
  have sav : ∀ (size : Int) (v : RVal), ROk v → saveStep s m x size v = some (s', m') → GoodSt s' m' ∧ m'.maps = m.maps := by
    intro size v hv ho
    unfold saveStep at ho
    split at ho
    · cases ho
      have hmm : (saveOf m (s.r x.dst) (IntKind.i64.wrap x.off) size v).1.maps = m.maps := by
        unfold saveOf saveS
        repeat' split
        all_goals rfl
      exact ⟨⟨h.ok, h.luck, mok_save h.mem _ _ _ hv, by unfold NoMaps; rw [hmm]; exact h.no⟩, hmm⟩
    · cases ho
  unfold vstep1 at e
  split at e
  · exact one _ e fun q hq => good_alu h hq
  split at e
  · refine one _ e fun q hq => ?_
    unfold jumpOf at hq
    repeat' split at hq
    all_goals first | cases hq
    all_goals exact ⟨⟨h.ok, h.luck, h.mem, h.no⟩, rfl⟩
  split at e
  · cases e
    exact ⟨⟨h.ok, h.luck, h.mem, h.no⟩, rfl⟩
  split at e
  · refine one _ e fun q hq => ?_
    unfold callOf at hq
    have key : ∀ o, helpOf s clock us x.imm = some o → ROk o.2 ∧ SOk o.1 ∧ 0 ≤ o.1.luck ∧ o.1.done = s.done := by
      intro o ho
      unfold helpOf at ho
      split at ho
      · cases ho; exact ⟨rok_num hcl, h.ok, h.luck, rfl⟩
      split at ho
      · cases ho
        unfold luckyOf
        split
        · rename_i n hn
          have hl : s.luck.toNat < us.length := (List.getElem?_eq_some_iff.1 hn).1
          refine ⟨rok_num (hu n (List.mem_of_getElem? hn)), h.ok, ?_, rfl⟩
          show 0 ≤ IntKind.i64.wrap (s.luck + 1)
          have := h.luck
          rw [i64w (by omega) (by omega)]
          omega
        · exact ⟨rok_num (by omega), h.ok, h.luck, rfl⟩
      · cases ho
    cases ho : helpOf s clock us x.imm with
    | none => rw [ho] at hq; cases hq
    | some o =>
      rw [ho] at hq
      cases hq
      obtain ⟨k1, k2, k3, k4⟩ := key o ho
      refine ⟨⟨fun i => ?_, k3, h.mem, h.no⟩, k4⟩
      show ROk (fset (clr5 o.1 6).r 0 o.2 i)
      unfold fset
      split
      · exact k1
      · show ROk (if 1 ≤ i ∧ i < 6 then RVal.zero else o.1.r i)
        split
        · exact rok_zero
        · exact k2 i
  split at e
  · split at e
    · cases e; exact ⟨⟨h.ok, h.luck, h.mem, h.no⟩, rfl⟩
    · cases e
  split at e
  · refine one _ e fun q hq => ?_
    unfold loadStep at hq
    split at hq
    · exact good_set h (rok_load h.mem _ _ _) hq
    · cases hq
  split at e
  · exact sav _ _ (rok_second h.ok x p.reg) e
  split at e
  · unfold atomicStep at e
    split at e
    · cases hn : atomN x.imm (loadOf m (s.r x.dst) (IntKind.i64.wrap x.off) p.size).1.n (s.r x.src).n with
      | none => rw [hn] at e; cases e
      | some n => rw [hn] at e; exact sav _ _ (rok_num (atomN_ok hn)) e
    · cases e
  · cases e
end Go.Proofs.Ytepbpapbkonhnaa
