/- Layer 17: does a state cover another one? Maybes by a map of their numbers. -/
import Derived.Test.YtkgpmjjleemdlaaGreatVh1
set_option linter.unusedSimpArgs false
set_option linter.unusedVariables false
set_option maxRecDepth 8000
namespace Go.Eng
theorem run_look2 {P : Program} {t kt e : TypeId} {z : Value} {w : World} {b n : Nat} {f : Nat → Option Value} (g1 : P.underlying t = some (.map kt e)) (g2 : P.underlying kt = some (.int .i64)) (g3 : (P.info? e).bind (·.zero) = some z) (h : MapN w b f) :
    ((Tag.look t true).sem [.map (some b), .int .i64 n]).run P w = .ok (.tuple #[(f n).getD z, .bool (f n).isSome]) w := by
  obtain ⟨ents, clock, q1, q2, q3⟩ := h
  have hkey : ∀ b, (Instr.checkKey b 10000 kt (.int .i64 n)).run P w = .ok () w := fun b => MapKept.run_checkKey g2 (by simp [MapKept.IsKey]) b 9999
  have hzero : (zeroValue e).run P w = .ok z w := by
    cases hi : P.info? e with
    | none => rw [hi] at g3; cases g3
    | some i => rw [hi] at g3; simp [zeroValue, run_info hi, show i.zero = some z from g3]
  rw [← q3 n]
  rcases find_n n ents.toList 0 q2 with ⟨h1, h2⟩ | ⟨j, x, h1, h2, h3, h4, h5⟩
  · have hf : (Instr.findKey kt (.int .i64 n) ents.toList).run P w = .ok none w := MapKept.run_findKey g2 h2
    rw [h1]
    simp [Tag.sem, Instr.lookup, run_underlying g1, MapKept.run_getObj_map q1, hkey, hf, hzero]
  · have hf : (Instr.findKey kt (.int .i64 n) ents.toList).run P w = .ok (some (0 + j, x.val)) w := MapKept.run_findKey g2 h4
    rw [h3]
    simp [Tag.sem, Instr.lookup, run_underlying g1, MapKept.run_getObj_map q1, hkey, hf]
theorem run_look_nil {P : Program} {t kt e : TypeId} {z : Value} {w : World} {n : Nat} (g1 : P.underlying t = some (.map kt e)) (g2 : P.underlying kt = some (.int .i64)) (g3 : (P.info? e).bind (·.zero) = some z) :
    ((Tag.look t true).sem [.map none, .int .i64 n]).run P w = .ok (.tuple #[z, .bool false]) w := by
  have hkey : ∀ b, (Instr.checkKey b 10000 kt (.int .i64 n)).run P w = .ok () w := fun b => MapKept.run_checkKey g2 (by simp [MapKept.IsKey]) b 9999
  have hzero : (zeroValue e).run P w = .ok z w := by
    cases hi : P.info? e with
    | none => rw [hi] at g3; cases g3
    | some i => rw [hi] at g3; simp [zeroValue, run_info hi, show i.zero = some z from g3]
  have hf : (Instr.findKey kt (.int .i64 n) []).run P w = .ok none w := MapKept.run_findKey g2 (l := []) rfl
  simp [Tag.sem, Instr.lookup, run_underlying g1, hkey, hzero, hf]
theorem mapN_ne {w : World} {b : Nat} {f : Nat → Option Value} (h : MapN w b f) {c : Array Value} {T : TypeId} {fz : Nat × Nat} {j : Nat} (hj : w.heap[j]? = some (.cells c T fz)) : j ≠ b := by
  intro e
  obtain ⟨en, cl, h2, _⟩ := h
  rw [← e, hj] at h2
  cases h2
end Go.Eng
namespace Go.Proofs.YtkgpmjjleemdlaaGreat
open Go.Eng Go.Sort
attribute [local irreducible] Go.Eng.W

theorem cells_ne {w : World} {b b' : Nat} {c c' : Array Value} {T T' : TypeId} {fz fz' : Nat × Nat} (h : w.heap[b]? = some (.cells c T fz)) (h' : w.heap[b']? = some (.cells c' T' fz')) (hT : T ≠ T') : b ≠ b' := by
  intro e
  subst e
  rw [h] at h'
  injection h' with h'
  injection h' with _ h'
  exact hT h'
abbrev Ids := Nat → Option Int
def maybeF (f : Ids) (a b : AReg) : Bool × Ids := match f a.id.toNat with
  | some t => (decide (t = b.id), f)
  | none => (true, fun n => if n = a.id.toNat then some b.id else f n)
def coverF (f : Ids) (a b : AReg) : Bool × Ids :=
  if a.kind = 0 then (true, f) else if a.kind ≠ b.kind then (false, f)
  else if a.kind = 1 then (withinR b.rng a.rng, f) else if a.kind = 4 then (decide (a.slot = b.slot), f)
  else if a.kind = 6 then (if a.slot = b.slot then maybeF f a b else (false, f))
  else (decide (a.slot = b.slot) && decide (a.low ≤ b.low) && decide (b.high ≤ a.high), f)
def coverN (s t : Nat → AReg) (f : Ids) : Nat → Option Ids
  | 0 => some f
  | i + 1 => match coverN s t f i with
    | none => none
    | some g => if (coverF g (s i) (t i)).1 = true then some (coverF g (s i) (t i)).2 else none
def coversS (s t : AState) : Bool := match coverN s.r t.r (fun _ => none) 11 with
  | none => false
  | some f => match coverN s.kept t.kept f 8 with
    | none => false
    | some _ => (List.range 64).all fun i => !s.what i || t.what i
theorem coverN_none {s t : Nat → AReg} {f : Ids} {i : Nat} (h : coverN s t f i = none) : ∀ k, coverN s t f (i + k) = none
  | 0 => h
  | k + 1 => by
    show (match coverN s t f (i + k) with | none => none | some g => _) = none
    rw [coverN_none h k]
theorem coverN_fail {s t : Nat → AReg} {f g : Ids} {i n : Nat} (h : coverN s t f i = some g) (hf : (coverF g (s i) (t i)).1 = false) (hn : i < n) : coverN s t f n = none := by
  have h1 : coverN s t f (i + 1) = none := by
    show (match coverN s t f i with | none => none | some g => _) = none
    rw [h]
    simp only [hf]
    rfl
  have := coverN_none h1 (n - (i + 1))
  rwa [show i + 1 + (n - (i + 1)) = n by omega] at this
theorem coverN_on {s t : Nat → AReg} {f g : Ids} {i : Nat} (h : coverN s t f i = some g) (hf : (coverF g (s i) (t i)).1 = true) : coverN s t f (i + 1) = some (coverF g (s i) (t i)).2 := by
  show (match coverN s t f i with | none => none | some g => _) = _
  rw [h]
  simp only [hf, if_true]

/-- The map of Maybes, in its box. -/
def IdsAt (w : World) (b lo : Nat) (f : Ids) : Prop :=
  (w.heap[b]? = some (.cells #[.map none] 145 (0, 0)) ∧ ∀ n, f n = none) ∨
  ∃ mb, w.heap[b]? = some (.cells #[.map (some mb)] 145 (0, 0)) ∧ MapN w mb (fun n => (f n).map (Value.int .i64)) ∧ lo ≤ mb
def IdsS (w : World) (b : Nat) (j : Nat) : Prop := j = b ∨ w.heap[b]? = some (.cells #[.map (some j)] 145 (0, 0))
theorem IdsAt.calm {w w' : World} {b lo : Nat} {f : Ids} (h : IdsAt w b lo f) (hk : Kept none' w w') : IdsAt w' b lo f := by
  rcases h with ⟨h1, h2⟩ | ⟨mb, h1, h2, h3⟩
  · exact .inl ⟨hk.has h1 fun h => h, h2⟩
  · exact .inr ⟨mb, hk.has h1 fun h => h, h2.calm hk, h3⟩
/-- What isn't the box, nor its map, stays. -/
theorem ids_other {w w' : World} {b lo : Nat} {f : Ids} (h : IdsAt w b lo f) (hk : Kept (IdsS w b) w w') {j : Nat} {c : Array Value} {T : TypeId} {fz : Nat × Nat} (hj : w.heap[j]? = some (.cells c T fz)) (hT : T ≠ 145) : w'.heap[j]? = some (.cells c T fz) := by
  refine hk.has hj ?_
  rintro (rfl | e)
  · rcases h with ⟨h1, _⟩ | ⟨mb, h1, _⟩
    · rw [hj] at h1; injection h1 with h1; injection h1 with _ h1; exact hT h1
    · rw [hj] at h1; injection h1 with h1; injection h1 with _ h1; exact hT h1
  · rcases h with ⟨h1, _⟩ | ⟨mb, h1, h2, _⟩
    · rw [h1] at e; injection e with e; injection e with e; injection e with e; cases e
    · rw [h1] at e
      injection e with e
      injection e with e
      injection e with e
      injection e with e _
      injection e with e
      injection e with e
      exact mapN_ne h2 hj e.symm
theorem ids_below {w0 w w' : World} {b lo : Nat} {f : Ids} (h : IdsAt w b lo f) (hk0 : Kept none' w0 w) (hb : w0.heap.size ≤ b) (hlo : w0.heap.size ≤ lo) (hk : Kept (IdsS w b) w w') : Kept none' w0 w' := by
  refine hk0.then hk fun j hj e => ?_
  rcases e with rfl | e
  · omega
  · rcases h with ⟨h1, _⟩ | ⟨mb, h1, _, h3⟩
    · rw [h1] at e; injection e with e; injection e with e; injection e with e; cases e
    · rw [h1] at e
      injection e with e
      injection e with e
      injection e with e
      injection e with e _
      injection e with e
      injection e with e
      omega
set_option maxHeartbeats 4000000 in
theorem maybe_ret (w : World) {b lo : Nat} {f : Ids} (h : IdsAt w b lo f) (hlo : lo ≤ w.heap.size) (x y : AReg) (hx : 0 ≤ x.id) : Ret Tryz.prog 118 [.pointer (some ⟨b, 0, none⟩), x.val, y.val] w fun r w' => r = .bool (maybeF f x y).1 ∧ IdsAt w' b lo (maybeF f x y).2 ∧ Kept (IdsS w b) w w' := by
  refine ret_of_W Tryz.func118 rfl ok_absreg_ids_maybe ?_
  obtain ⟨n, hn⟩ := Int.eq_ofNat_of_zero_le hx
  unfold maybeF
  rw [hn]
  simp only [Int.toNat_natCast]
  simp only [c_absreg_ids_maybe, W_seq, AReg.val]
  refine W_new' (v := .agg x.arr) (cs := x.arr) (by simp) rfl ?_
  have h4 : RegBox _ w.heap.size x := hp_new w (.cells x.arr 68)
  have hk1 := (Kept.refl none' w).alloc (.cells x.arr 68)
  generalize hb4 : w.heap.size = b4 at *
  generalize (w.alloc (.cells x.arr 68)) = w1 at *
  try simp only [W_seq]
  refine W_new' (v := .agg y.arr) (cs := y.arr) (by simp) rfl ?_
  have h5 : RegBox _ w1.heap.size y := hp_new w1 (.cells y.arr 68)
  have hk2 := (Kept.refl none' w1).alloc (.cells y.arr 68)
  have h42 := h4.calm hk2
  have hk02 := hk1.trans hk2
  generalize (w1.alloc (.cells y.arr 68)) = w2 at *
  generalize w1.heap.size = b5 at *
  clear h4 hk1 hk2
  simp only [W_seq, W_set]
  refine ok_intro (.bool false) (by simp) ?_
  simp only [W_seq, W_draw]
  have hk03 : Kept none' w w2.drew := hk02.drew
  have h43 : RegBox w2.drew b4 x := h42
  have h53 : RegBox w2.drew b5 y := h5
  generalize w2.drew = w3 at *
  clear h42 h5 hk02
  have hi3 := h.calm hk03
  have c4 : wcell w3 b4 8 = some (.int .i64 n) := by rw [wcell_of h43, ← hn]; exact areg_8 x
  have c5 : ∀ {w' : World}, RegBox w' b5 y → wcell w' b5 8 = some (.int .i64 y.id) := fun h => by rw [wcell_of h]; exact areg_8 y
  rcases hi3 with ⟨g1, g2⟩ | ⟨mb, g1, g2, g3⟩
  · have cb : wcell w3 b 0 = some (.map none) := by rw [wcell_of g1]; rfl
    try simp only [W_seq]
    refine W_sem (vs := [.map none, .int .i64 n]) (by simp [cb, c4]) (run_look_nil Tryz.underlying143 Tryz.underlying3 (by kernel_rfl) (z := .int .i64 0)) (stab_nil _ _ _) ?_
    rw [g2 n]
    simp only
    try simp only [W_seq]
    refine W_chkIn [.bool false] (by simp) ?_
    simp only [W_seq, W_set]
    refine ok_intro (.int .i64 0) (by simp) ?_
    try simp only [W_seq, W_set]
    refine ok_intro (.bool false) (by simp) ?_
    refine W_no (by simp) ?_
    simp only [W_skip, W_seq]
    refine W_yes (by simp [cb]; rfl) ?_
    simp only [W_seq]
    refine W_chkIn [.pointer (some ⟨b, 0, none⟩)] (by simp) ?_
    try simp only [W_seq]
    refine W_sem (vs := []) (by simp) (run_mkm w3) (stab_nil _ _ _) ?_
    have hm := mapN_new w3
    have hk4 := (Kept.refl none' w3).alloc (.map #[] 0)
    have g14 := hk4.has g1 fun h => h
    have h44 := h43.calm hk4
    have h54 := h53.calm hk4
    have hk04 := hk03.trans hk4
    have hmb : w.heap.size ≤ w3.heap.size := hk03.size
    generalize (w3.alloc (.map #[] 0)) = w4 at *
    generalize w3.heap.size = mb at *
    have hlt : b < w4.heap.size := blk_lt g14
    have hs : stv w4 1 (.pointer (some ⟨b, 0, none⟩)) (.map (some mb)) = some (Eng.put w4 b (.cells #[.map (some mb)] 145 (0, 0))) := box_store (v := .map (some mb)) g14 rfl rfl (by simp [Value.cells, Value.oneCell'])
    try simp only [W_seq]
    refine W_store (xv := .pointer (some ⟨b, 0, none⟩)) (vv := .map (some mb)) (by simp) (by simp) hs (stab_nil _ _ _) ?_
    have hbw : b < w.heap.size := by
      rcases h with ⟨q, _⟩ | ⟨_, q, _⟩ <;> exact blk_lt q
    have hbm : b ≠ mb := by omega
    have g15 : (Eng.put w4 b (.cells #[.map (some mb)] 145 (0, 0))).heap[b]? = some (.cells #[.map (some mb)] 145 (0, 0)) := put_same hlt
    have hkb : Kept (fun j => j = b) w4 (Eng.put w4 b (.cells #[.map (some mb)] 145 (0, 0))) := (Kept.refl (fun j => j = b) w4).put (b := b) (fun _ => rfl) _
    have hm5 := hm.keep hkb (fun e => hbm e.symm)
    have hn5 : b5 ≠ b := cells_ne h54 g14 (by decide)
    have hn4 : b4 ≠ b := cells_ne h44 g14 (by decide)
    have h55 : RegBox _ b5 y := hkb.has h54 hn5
    have h45 : RegBox _ b4 x := hkb.has h44 hn4
    have hk05 : Kept (fun j => j = b) w _ := hk04.any.trans hkb
    generalize Eng.put w4 b (.cells #[.map (some mb)] 145 (0, 0)) = w5 at *
    simp only [W_seq, W_draw]
    have hk6 : Kept none' w5 w5.drew := (Kept.refl _ _).drew
    have g16 := hk6.has g15 fun h => h
    have h56 := h55.calm hk6
    have h46 := h45.calm hk6
    have hm6 := hm5.calm hk6
    have hk06 := hk05.trans hk6.any
    generalize w5.drew = w6 at *
    have cb6 : wcell w6 b 0 = some (.map (some mb)) := by rw [wcell_of g16]; rfl
    have c46 : wcell w6 b4 8 = some (.int .i64 n) := by rw [wcell_of h46, ← hn]; exact areg_8 x
    obtain ⟨w7, hupd, hm7, hk7⟩ := run_mapupd (P := Tryz.prog) (t := 143) (n := n) (v := .int .i64 y.id) Tryz.underlying143 Tryz.underlying3 hm6
    refine W_sem (vs := [.map (some mb), .int .i64 n, .int .i64 y.id]) (by simp [cb6, c46, c5 h56]) hupd (stab_nil _ _ _) ?_
    have g17 := hk7.has g16 hbm
    simp
    refine ⟨.inr ⟨mb, g17, ?_, by omega⟩, ?_⟩
    · have e : (fput (fun _ => none) n (.int .i64 y.id)) = fun m => (if m = n then some y.id else f m).map (Value.int .i64) := by
        funext m
        unfold fput
        by_cases hm : m = n
        · simp [hm]
        · simp [hm, g2 m]
      rw [← e]
      exact hm7
    · refine (hk06.mono fun j _ e => .inl e).then hk7 fun j hj e => ?_
      omega
  · have cb : wcell w3 b 0 = some (.map (some mb)) := by rw [wcell_of g1]; rfl
    try simp only [W_seq]
    refine W_sem (vs := [.map (some mb), .int .i64 n]) (by simp [cb, c4]) (run_look2 Tryz.underlying143 Tryz.underlying3 (by kernel_rfl) g2 (z := .int .i64 0)) (stab_nil _ _ _) ?_
    cases hf : f n with
    | some t =>
      simp only [Option.map_some, Option.getD_some, Option.isSome_some]
      try simp only [W_seq]
      refine W_chkIn [.bool true] (by simp) ?_
      simp only [W_seq, W_set]
      refine ok_intro (.int .i64 t) (by simp) ?_
      try simp only [W_seq, W_set]
      refine ok_intro (.bool true) (by simp) ?_
      refine W_yes (by simp) ?_
      simp [c5 h53]
      exact ⟨.inr ⟨mb, g1, g2, g3⟩, hk03.mono fun j _ e => e.elim⟩
    | none =>
      simp only [Option.map_none, Option.getD_none, Option.isSome_none]
      try simp only [W_seq]
      refine W_chkIn [.bool false] (by simp) ?_
      simp only [W_seq, W_set]
      refine ok_intro (.int .i64 0) (by simp) ?_
      try simp only [W_seq, W_set]
      refine ok_intro (.bool false) (by simp) ?_
      refine W_no (by simp) ?_
      simp only [W_skip, W_seq]
      refine W_no (by simp [cb]; rfl) ?_
      simp only [W_skip, W_seq, W_draw]
      have hk6 : Kept none' w3 w3.drew := (Kept.refl _ _).drew
      have g16 := hk6.has g1 fun h => h
      have h56 := h53.calm hk6
      have h46 := h43.calm hk6
      have hm6 := g2.calm hk6
      have hk06 := hk03.trans hk6
      generalize w3.drew = w6 at *
      have cb6 : wcell w6 b 0 = some (.map (some mb)) := by rw [wcell_of g16]; rfl
      have c46 : wcell w6 b4 8 = some (.int .i64 n) := by rw [wcell_of h46, ← hn]; exact areg_8 x
      obtain ⟨w7, hupd, hm7, hk7⟩ := run_mapupd (P := Tryz.prog) (t := 143) (n := n) (v := .int .i64 y.id) Tryz.underlying143 Tryz.underlying3 hm6
      refine W_sem (vs := [.map (some mb), .int .i64 n, .int .i64 y.id]) (by simp [cb6, c46, c5 h56]) hupd (stab_nil _ _ _) ?_
      have g17 := hk7.has g16 (mapN_ne hm6 g16)
      simp
      refine ⟨.inr ⟨mb, g17, ?_, g3⟩, ?_⟩
      · have e : (fput (fun n => (f n).map (Value.int .i64)) n (.int .i64 y.id)) = fun m => (if m = n then some y.id else f m).map (Value.int .i64) := by
          funext m
          unfold fput
          by_cases hm : m = n
          · simp [hm]
          · simp [hm]
        rw [← e]
        exact hm7
      · have hwb : w.heap[b]? = some (.cells #[.map (some mb)] 145 (0, 0)) := by
          rcases h with ⟨q, _⟩ | ⟨mb', q, _⟩
          · have := hk03.has q fun h => h
            rw [g1] at this
            injection this with e; injection e with e; injection e with e; injection e with e _; injection e with e; cases e
          · have := hk03.has q fun h => h
            rw [g1] at this
            rw [this]
            exact q
        refine (hk06.any.trans hk7).mono fun j _ e => .inr ?_
        rw [e]; exact hwb
end Go.Proofs.YtkgpmjjleemdlaaGreat

set_option linter.unusedSimpArgs false
set_option linter.unusedVariables false
set_option maxRecDepth 8000
namespace Go.Proofs.YtkgpmjjleemdlaaGreat
open Go.Eng Go.Sort
attribute [local irreducible] Go.Eng.W

theorem RegBox.k {w : World} {b : Nat} {r : AReg} (h : RegBox w b r) : wcell w b 0 = some (.int .i64 r.kind) ∧ wcell w b 7 = some (.int .i64 r.slot) ∧ wcell w b 9 = some (.int .i64 r.low) ∧ wcell w b 10 = some (.int .i64 r.high) := by
  refine ⟨?_, ?_, ?_, ?_⟩ <;> rw [wcell_of h]
  · exact areg_kind0 r
  · exact areg_7 r
  · exact areg_9 r
  · exact areg_10 r
theorem RegBox.rng {w : World} {b : Nat} {r : AReg} (h : RegBox w b r) : wrow w b 1 6 = some r.rng.arr := by
  rw [wrow_of h (by simp)]
  rfl
set_option maxHeartbeats 4000000 in
theorem covers_ret (w : World) {b lo : Nat} {f : Ids} (h : IdsAt w b lo f) (hlo : lo ≤ w.heap.size) (x y : AReg) (hx : 0 ≤ x.id) : Ret Tryz.prog 90 [.pointer (some ⟨b, 0, none⟩), x.val, y.val] w fun r w' => r = .bool (coverF f x y).1 ∧ IdsAt w' b lo (coverF f x y).2 ∧ Kept (IdsS w b) w w' := by
  refine ret_of_W Tryz.func90 rfl ok_absreg_ids_covers ?_
  unfold coverF
  simp only [c_absreg_ids_covers, W_seq, AReg.val]
  refine W_new' (v := .agg x.arr) (cs := x.arr) (by simp) rfl ?_
  have h4 : RegBox _ w.heap.size x := hp_new w (.cells x.arr 68)
  have hk1 := (Kept.refl none' w).alloc (.cells x.arr 68)
  generalize hb4 : w.heap.size = b4 at *
  generalize (w.alloc (.cells x.arr 68)) = w1 at *
  try simp only [W_seq]
  refine W_new' (v := .agg y.arr) (cs := y.arr) (by simp) rfl ?_
  have h5 : RegBox _ w1.heap.size y := hp_new w1 (.cells y.arr 68)
  have hk2 := (Kept.refl none' w1).alloc (.cells y.arr 68)
  have h42 := h4.calm hk2
  have hk02 := hk1.trans hk2
  generalize (w1.alloc (.cells y.arr 68)) = w2 at *
  generalize w1.heap.size = b5 at *
  clear h4 hk1 hk2
  have hi2 := h.calm hk02
  have hkS : Kept (IdsS w b) w w2 := hk02.any
  simp only [W_seq, W_set]
  refine ok_intro (.bool false) (by simp) ?_
  obtain ⟨xk, xs, xl, xh⟩ := h42.k
  obtain ⟨yk, ys, yl, yh⟩ := h5.k
  try simp only [W_seq]
  rw [W_block]
  simp only [W_seq, W_set]
  refine ok_intro (.bool (decide (x.kind = 0))) (by simp [xk]) ?_
  by_cases k0 : x.kind = 0
  · rw [if_pos k0]
    refine W_yes (by simp [k0]) ?_
    simp
    exact ⟨hi2, hkS⟩
  rw [if_neg k0]
  refine W_no (by simp [k0]) ?_
  simp only [W_seq, W_set]
  refine ok_intro (.bool (!decide (x.kind = y.kind))) (by simp [xk, yk]) ?_
  by_cases ke : x.kind ≠ y.kind
  · rw [if_pos ke]
    refine W_yes (by simp [ke]) ?_
    simp
    exact ⟨hi2, hkS⟩
  rw [if_neg ke]
  have ke : x.kind = y.kind := Classical.not_not.1 ke
  refine W_no (by simp [ke]) ?_
  simp only [W_skip, W_blk, W_seq, W_set]
  refine ok_intro (.int .i64 x.kind) (by simp [xk]) ?_
  try simp only [W_seq]
  rw [W_block]
  simp only [W_seq, W_set]
  refine ok_intro (.bool (decide (x.kind = 1))) (by simp) ?_
  by_cases k1 : x.kind = 1
  · rw [if_pos k1]
    refine W_yes (by simp [k1]) ?_
    simp only [W_seq]
    refine W_calm (vs := [y.rng.val, x.rng.val]) (by simp [h42.rng, h5.rng]) (ret_of_T (within_T w2 y.rng x.rng)) ?_
    intro w3 hk3
    simp
    exact ⟨hi2.calm hk3, hkS.trans hk3.any⟩
  rw [if_neg k1]
  refine W_no (by simp [k1]) ?_
  simp only [W_seq, W_set]
  refine ok_intro (.bool (decide (x.kind = 4))) (by simp) ?_
  by_cases k4 : x.kind = 4
  · rw [if_pos k4]
    refine W_yes (by simp [k4]) ?_
    simp [xs, ys]
    exact ⟨hi2, hkS⟩
  rw [if_neg k4]
  refine W_no (by simp [k4]) ?_
  simp only [W_seq, W_set]
  refine ok_intro (.bool (decide (x.kind = 6))) (by simp) ?_
  by_cases k6 : x.kind = 6
  · rw [if_pos k6]
    refine W_yes (by simp [k6]) ?_
    simp only [W_seq, W_set]
    refine ok_intro (.bool (decide (x.slot = y.slot))) (by simp [xs, ys]) ?_
    try simp only [W_seq]
    by_cases hs : x.slot = y.slot
    · rw [if_pos hs]
      refine W_chkIn [.agg y.arr, .agg x.arr, .pointer (some ⟨b, 0, none⟩)] (by simp [hs, h42.row, h5.row]) ?_
      simp only [W_seq]
      refine W_yes (by simp [hs]) ?_
      refine W_call (vs := [.pointer (some ⟨b, 0, none⟩), x.val, y.val]) (by simp [h42.row, h5.row, AReg.val]) (maybe_ret w2 hi2 (by have := hk02.size; omega) x y hx) ?_
      rintro r w3 ⟨rfl, hi3, hk3⟩
      refine ⟨stab_nil _ _ _, ?_⟩
      simp [hs]
      refine ⟨hi3, hkS.then hk3 fun j hj e => ?_⟩
      rcases e with rfl | e
      · exact .inl rfl
      · refine .inr ?_
        have hbw : ∃ c, w.heap[b]? = some (.cells c 145 (0, 0)) := by rcases h with ⟨q, _⟩ | ⟨_, q, _⟩ <;> exact ⟨_, q⟩
        obtain ⟨c, hc⟩ := hbw
        have := hk02.has hc fun h => h
        rw [e] at this
        rw [hc, ← this]
    · rw [if_neg hs]
      refine W_chkIn [.bool false, .bool false, .bool false] (by simp [hs]) ?_
      simp only [W_seq]
      refine W_no (by simp [hs]) ?_
      simp [hs]
      exact ⟨hi2, hkS⟩
  rw [if_neg k6]
  refine W_no (by simp [k6]) ?_
  simp [xs, ys, xl, yl, xh, yh, pickV_bool]
  exact ⟨hi2, hkS⟩

theorem SBox.what {w : World} {b : Nat} {s : AState} (h : SBox w b s) {i : Nat} (hi : i < 64) : wcell w b (121 + i) = some (.bool (s.what i)) := by
  rw [wcell_of h, at_what s hi]
theorem SBox.whats {w : World} {b : Nat} {s : AState} (h : SBox w b s) : wrow w b 121 64 = some (s.arr.extract 121 (121 + 64)) := by
  rw [wrow_of h (by rw [astate_size]; omega)]
theorem whats_at (s : AState) {i : Nat} (h : i < 64) : (s.arr.extract 121 (121 + 64))[i]? = some (.bool (s.what i)) := by
  rw [Array.getElem?_extract, if_pos (by rw [astate_size]; omega), at_what s h]
theorem all_upto {s t : AState} {n : Nat} (h : ∀ i, i < n → (!s.what i || t.what i) = true) : ((List.range n).all fun i => !s.what i || t.what i) = true := by
  rw [List.all_eq_true]
  intro i hi
  exact h i (List.mem_range.1 hi)
theorem all_fails {s t : AState} {n i : Nat} (hi : i < n) (h : (!s.what i || t.what i) = false) : ((List.range n).all fun i => !s.what i || t.what i) = false := by
  cases hx : (List.range n).all fun i => !s.what i || t.what i with
  | false => rfl
  | true =>
    rw [List.all_eq_true] at hx
    have := hx i (List.mem_range.2 hi)
    rw [h] at this
    cases this
structure CovAt (w0 w : World) (b3 b4 b5 : Nat) (s t : AState) (f : Ids) : Prop where
  kept : Kept none' w0 w
  s3 : SBox w b3 s
  s4 : SBox w b4 t
  ids : IdsAt w b5 w0.heap.size f
theorem CovAt.calm {w0 w w' : World} {b3 b4 b5 : Nat} {s t : AState} {f : Ids} (h : CovAt w0 w b3 b4 b5 s t f) (hk : Kept none' w w') : CovAt w0 w' b3 b4 b5 s t f := ⟨h.kept.trans hk, h.s3.calm hk, h.s4.calm hk, h.ids.calm hk⟩
theorem CovAt.step {w0 w w' : World} {b3 b4 b5 : Nat} {s t : AState} {f g : Ids} (h : CovAt w0 w b3 b4 b5 s t f) (hb : w0.heap.size ≤ b5) (hk : Kept (IdsS w b5) w w') (hg : IdsAt w' b5 w0.heap.size g) : CovAt w0 w' b3 b4 b5 s t g :=
  ⟨ids_below h.ids h.kept hb (Nat.le_refl _) hk, ids_other h.ids hk h.s3 (by decide), ids_other h.ids hk h.s4 (by decide), hg⟩
set_option maxHeartbeats 8000000 in
theorem Covers_ret (w : World) (s t : AState) (hs : s.wf) : Ret Tryz.prog 50 [s.val, t.val] w fun r w' => r = .bool (coversS s t) ∧ Kept none' w w' := by
  refine ret_of_W Tryz.func50 rfl ok_absreg_Covers ?_
  simp only [c_absreg_Covers, W_seq, AState.val]
  refine W_new' (v := .agg s.arr) (cs := s.arr) (by simp) rfl ?_
  have h3 := SBox.new w s
  have hk1 := (Kept.refl none' w).alloc (.cells s.arr 73)
  generalize hb3 : w.heap.size = b3 at *
  generalize (w.alloc (.cells s.arr 73)) = w1 at *
  try simp only [W_seq]
  refine W_new' (v := .agg t.arr) (cs := t.arr) (by simp) rfl ?_
  have h4 := SBox.new w1 t
  have hk2 := (Kept.refl none' w1).alloc (.cells t.arr 73)
  have h32 := h3.calm hk2
  have hk02 := hk1.trans hk2
  generalize (w1.alloc (.cells t.arr 73)) = w2 at *
  generalize w1.heap.size = b4 at *
  clear h3 hk1 hk2
  simp only [W_seq, W_set]
  refine ok_intro (.bool false) (by simp) ?_
  try simp only [W_seq]
  refine W_new' (v := .agg #[.map none]) (cs := #[.map none]) (by simp) rfl ?_
  have h5 := hp_new w2 (.cells #[.map none] 145)
  have hk3 := (Kept.refl none' w2).alloc (.cells #[.map none] 145)
  have hb5 : w.heap.size ≤ w2.heap.size := hk02.size
  have hA : CovAt w (w2.alloc (.cells #[.map none] 145)) b3 b4 w2.heap.size s t (fun _ => none) := ⟨hk02.trans hk3, h32.calm hk3, h4.calm hk3, .inl ⟨h5, fun _ => rfl⟩⟩
  generalize (w2.alloc (.cells #[.map none] 145)) = w3 at *
  generalize w2.heap.size = b5 at *
  clear h32 h4 h5 hk3 hk02
  rw [hb3] at hb5
  simp only [W_seq, W_set]
  refine ok_intro (.pointer (some ⟨b5, 0, none⟩)) (by simp) ?_
  try simp only [W_seq, W_set]
  refine ok_intro (.agg (s.arr.extract 0 121)) (by simp [hA.s3.regs]) ?_
  try simp only [W_seq, W_set]
  refine ok_intro (.int .i64 0) (by simp) ?_
  try simp only [W_seq]
  rw [W_block]
  refine W_loop (fun env w' => ∃ (i : Nat) (f : Ids), i ≤ 11 ∧ coverN s.r t.r (fun _ => none) i = some f ∧ CovAt w w' b3 b4 b5 s t f ∧
    env = [undef, undef, undef, .pointer (some ⟨b3, 0, none⟩), .pointer (some ⟨b4, 0, none⟩), undef, .pointer (some ⟨b5, 0, none⟩), .int .i64 i, .agg (s.arr.extract 0 121), undef, undef, undef, undef, undef, undef, undef, undef, undef, undef, undef, undef]) (fun env _ => 11 - natAt env 7) ?_ ?_
  · exact ⟨0, _, by omega, rfl, hA, by simp⟩
  clear hA
  rintro env w4 ⟨i, f, hi, hf, hA, rfl⟩
  simp only [W_seq]
  by_cases hgo : i < 11
  · have hgo' : (i : Int) < 11 := by omega
    have e1 := i64_succ (j := i) (by omega)
    have ri := regs_at s hgo
    refine W_yes (by simp [hgo']) ?_
    simp only [W_skip, W_seq, W_block]
    refine W_chkIn [.agg (s.r i).arr] (by simp [hgo', ri]) ?_
    try simp only [W_seq]
    refine W_new' (v := .agg AReg.zero.arr) (cs := AReg.zero.arr) (by simp) rfl ?_
    have h9 : RegBox _ w4.heap.size AReg.zero := hp_new w4 (.cells AReg.zero.arr 68)
    have hk5 := (Kept.refl none' w4).alloc (.cells AReg.zero.arr 68)
    have hn := hA.kept.size
    generalize (w4.alloc (.cells AReg.zero.arr 68)) = w5 at *
    generalize hb9 : w4.heap.size = b9 at *
    simp only [W_seq, W_set]
    refine ok_intro (.int .i64 i) (by simp) ?_
    try simp only [W_seq]
    refine W_store (xv := .pointer (some ⟨b9, 0, none⟩)) (vv := .agg (s.r i).arr) (by simp) (by simp [hgo', ri]) (h9.store _) (stab_nil _ _ _) ?_
    have h96 : RegBox _ b9 (s.r i) := put_same (blk_lt h9)
    have hk6 : Kept none' w4 _ := hk5.putNew (Nat.le_of_eq hb9) (.cells (s.r i).arr 68 (0, 0))
    generalize Eng.put w5 b9 (.cells (s.r i).arr 68 (0, 0)) = w6 at *
    simp only [W_seq, W_draw]
    have hk7 : Kept none' w4 w6.drew := hk6.drew
    have h97 : RegBox w6.drew b9 (s.r i) := h96
    generalize w6.drew = w7 at *
    have hA7 := hA.calm hk7
    refine W_call (vs := [.pointer (some ⟨b5, 0, none⟩), (s.r i).val, (t.r i).val]) (by simp [h97.row, hA7.s4.reg hgo, hgo, hgo', AReg.val]) (covers_ret w7 hA7.ids hA7.kept.size (s.r i) (t.r i) (hs.r i hgo).id0) ?_
    rintro r w8 ⟨rfl, hi8, hk8⟩
    refine ⟨stab_nil _ _ _, ?_⟩
    have hA8 := hA7.step (by omega) hk8 hi8
    try simp only [W_seq]
    cases hc : (coverF f (s.r i) (t.r i)).1 with
    | false =>
      refine W_yes (by simp [hc]) ?_
      have hn0 : coverN s.r t.r (fun _ => none) 11 = none := coverN_fail hf hc hgo
      simp [coversS, hn0]
      exact hA8.kept
    | true =>
      refine W_no (by simp [hc]) ?_
      simp [e1, -Int.natCast_add]
      exact ⟨⟨i + 1, by omega, (coverF f (s.r i) (t.r i)).2, coverN_on hf hc, hA8, rfl⟩, by simp [natAt]; omega⟩
  have hie : i = 11 := by omega
  subst hie
  refine W_no (by simp) ?_
  simp only [W_skip, W_exit, Wx_exit_c, Wx_exit_post, Wx_exit_blk, W_seq, W_set, if_true, if_false]
  have hcov : coversS s t = match coverN s.kept t.kept f 8 with | none => false | some _ => (List.range 64).all fun i => !s.what i || t.what i := by unfold coversS; rw [hf]; try rfl
  rw [hcov]
  clear hcov hf hi hgo
  refine ok_intro (.agg (s.arr.extract 185 (185 + 88))) (by simp [hA.s3.kepts]) ?_
  try simp only [W_seq, W_set]
  refine ok_intro (.int .i64 0) (by simp) ?_
  try simp only [W_seq]
  rw [W_block]
  refine W_loop (fun env w' => ∃ (i : Nat) (g : Ids), i ≤ 8 ∧ coverN s.kept t.kept f i = some g ∧ CovAt w w' b3 b4 b5 s t g ∧
    env = [undef, undef, undef, .pointer (some ⟨b3, 0, none⟩), .pointer (some ⟨b4, 0, none⟩), undef, .pointer (some ⟨b5, 0, none⟩), undef, undef, undef, undef, undef, .int .i64 i, .agg (s.arr.extract 185 (185 + 88)), undef, undef, undef, undef, undef, undef, undef]) (fun env _ => 8 - natAt env 12) ?_ ?_
  · exact ⟨0, _, by omega, rfl, hA, by simp⟩
  clear hA
  rintro env w4 ⟨i, g, hi, hg, hA, rfl⟩
  simp only [W_seq]
  by_cases hgo : i < 8
  · have hgo' : (i : Int) < 8 := by omega
    have e1 := i64_succ (j := i) (by omega)
    have ri := kepts_at s hgo
    refine W_yes (by simp [hgo']) ?_
    simp only [W_skip, W_seq, W_block]
    refine W_chkIn [.agg (s.kept i).arr] (by simp [hgo', ri]) ?_
    try simp only [W_seq]
    refine W_new' (v := .agg AReg.zero.arr) (cs := AReg.zero.arr) (by simp) rfl ?_
    have h9 : RegBox _ w4.heap.size AReg.zero := hp_new w4 (.cells AReg.zero.arr 68)
    have hk5 := (Kept.refl none' w4).alloc (.cells AReg.zero.arr 68)
    have hn := hA.kept.size
    generalize (w4.alloc (.cells AReg.zero.arr 68)) = w5 at *
    generalize hb9 : w4.heap.size = b9 at *
    simp only [W_seq, W_set]
    refine ok_intro (.int .i64 i) (by simp) ?_
    try simp only [W_seq]
    refine W_store (xv := .pointer (some ⟨b9, 0, none⟩)) (vv := .agg (s.kept i).arr) (by simp) (by simp [hgo', ri]) (h9.store _) (stab_nil _ _ _) ?_
    have h96 : RegBox _ b9 (s.kept i) := put_same (blk_lt h9)
    have hk6 : Kept none' w4 _ := hk5.putNew (Nat.le_of_eq hb9) (.cells (s.kept i).arr 68 (0, 0))
    generalize Eng.put w5 b9 (.cells (s.kept i).arr 68 (0, 0)) = w6 at *
    simp only [W_seq, W_draw]
    have hk7 : Kept none' w4 w6.drew := hk6.drew
    have h97 : RegBox w6.drew b9 (s.kept i) := h96
    generalize w6.drew = w7 at *
    have hA7 := hA.calm hk7
    refine W_call (vs := [.pointer (some ⟨b5, 0, none⟩), (s.kept i).val, (t.kept i).val]) (by simp [h97.row, hA7.s4.keptRow hgo, hgo, hgo', AReg.val]) (covers_ret w7 hA7.ids hA7.kept.size (s.kept i) (t.kept i) (hs.kept i hgo).id0) ?_
    rintro r w8 ⟨rfl, hi8, hk8⟩
    refine ⟨stab_nil _ _ _, ?_⟩
    have hA8 := hA7.step (by omega) hk8 hi8
    try simp only [W_seq]
    cases hc : (coverF g (s.kept i) (t.kept i)).1 with
    | false =>
      refine W_yes (by simp [hc]) ?_
      have hn0 : coverN s.kept t.kept f 8 = none := coverN_fail hg hc hgo
      simp [hn0]
      exact hA8.kept
    | true =>
      refine W_no (by simp [hc]) ?_
      simp [e1, -Int.natCast_add]
      exact ⟨⟨i + 1, by omega, (coverF g (s.kept i) (t.kept i)).2, coverN_on hg hc, hA8, rfl⟩, by simp [natAt]; omega⟩
  have hie : i = 8 := by omega
  subst hie
  refine W_no (by simp) ?_
  simp only [W_skip, W_exit, Wx_exit_c, Wx_exit_post, Wx_exit_blk, W_seq, W_set, if_true, if_false]
  rw [hg]
  simp only
  clear hg hi hgo
  refine ok_intro (.agg (s.arr.extract 121 (121 + 64))) (by simp [hA.s3.whats]) ?_
  try simp only [W_seq, W_set]
  refine ok_intro (.int .i64 0) (by simp) ?_
  try simp only [W_seq]
  rw [W_block]
  refine W_loop (fun env w' => ∃ i : Nat, i ≤ 64 ∧ (∀ j, j < i → (!s.what j || t.what j) = true) ∧ CovAt w w' b3 b4 b5 s t g ∧
    env = [undef, undef, undef, undef, .pointer (some ⟨b4, 0, none⟩), undef, undef, undef, undef, undef, undef, undef, undef, undef, undef, undef, undef, .int .i64 i, .agg (s.arr.extract 121 (121 + 64)), undef, undef]) (fun env _ => 64 - natAt env 17) ?_ ?_
  · exact ⟨0, by omega, fun j hj => by omega, hA, by simp⟩
  clear hA
  rintro env w4 ⟨i, hi, hall, hA, rfl⟩
  simp only [W_seq]
  by_cases hgo : i < 64
  · have hgo' : (i : Int) < 64 := by omega
    have e1 := i64_succ (j := i) (by omega)
    have ri := whats_at s hgo
    have rt := hA.s4.what hgo
    refine W_yes (by simp [hgo']) ?_
    simp only [W_skip, W_seq, W_block]
    refine W_chkIn [.bool (s.what i)] (by simp [hgo', ri]) ?_
    simp only [W_seq, W_set]
    refine ok_intro (.int .i64 i) (by simp) ?_
    try simp only [W_seq, W_set]
    refine ok_intro (.bool (s.what i)) (by simp [hgo', ri]) ?_
    refine W_cond (t := s.what i && !t.what i) (by simp [hgo, hgo', rt, pickV_bool]) ?_ ?_
    · intro hb
      have hb' : (!s.what i || t.what i) = false := by cases h1 : s.what i <;> cases h2 : t.what i <;> simp_all
      simp [all_fails hgo hb']
      exact hA.kept
    · intro hb
      have hb' : (!s.what i || t.what i) = true := by cases h1 : s.what i <;> cases h2 : t.what i <;> simp_all
      simp [e1, -Int.natCast_add]
      refine ⟨⟨i + 1, by omega, fun j hj => ?_, hA, rfl⟩, by simp [natAt]; omega⟩
      rcases (by omega : j < i ∨ j = i) with h | rfl
      · simpa using hall j h
      · simpa using hb'
  have hie : i = 64 := by omega
  subst hie
  refine W_no (by simp) ?_
  simp [all_upto hall]
  exact hA.kept
theorem Covers_T (w0 : World) (s t : AState) (hs : s.wf) : T Tryz.prog w0 50 [s.val, t.val] = some (.bool (coversS s t)) :=
  T_of_ret (by kernel_rfl) (by simp [AState.val]) (by simp) fun w _ => Covers_ret w s t hs
end Go.Proofs.YtkgpmjjleemdlaaGreat

set_option linter.unusedSimpArgs false
set_option linter.unusedVariables false
set_option maxRecDepth 8000
namespace Go.Proofs.YtkgpmjjleemdlaaGreat
open Go.Eng Go.Sort

/-- A map's spec. -/
structure Sp where
  ty : Int
  key : Int
  val : Int
  ent : Int
def Sp.arr (x : Sp) : Array Value := #[.int .i64 x.ty, .int .i64 x.key, .int .i64 x.val, .int .i64 x.ent]
def Sp.zero : Sp := ⟨0, 0, 0, 0⟩
theorem repSp : (Array.replicate 4 (Value.int .i64 0) : Array Value) = Sp.zero.arr := by simp [Sp.zero, Sp.arr, Array.replicate]
def SpecsAt (w : World) (v : Value) (xs : List Sp) : Prop := (xs = [] ∧ v = .slice none 0 0) ∨ ∃ b o c, v = .slice (some ⟨b, o, none⟩) xs.length c ∧ (∀ (i : Nat) (x : Sp), xs[i]? = some x → wrow w b (o + i * 4) 4 = some x.arr) ∧ b < w.heap.size
def FrozAt (w : World) (v : Value) (xs : List Bool) : Prop := (xs = [] ∧ v = .slice none 0 0) ∨ ∃ b o c, v = .slice (some ⟨b, o, none⟩) xs.length c ∧ (∀ (i : Nat) (x : Bool), xs[i]? = some x → wcell w b (o + i) = some (.bool x)) ∧ b < w.heap.size
theorem SpecsAt.calm {w w' : World} {v : Value} {xs : List Sp} (h : SpecsAt w v xs) (hk : Kept none' w w') : SpecsAt w' v xs := by
  rcases h with h | ⟨b, o, c, h1, h2, h3⟩
  · exact .inl h
  · exact .inr ⟨b, o, c, h1, fun i x hx => wrow_calm hk (h2 i x hx), Nat.lt_of_lt_of_le h3 hk.size⟩
theorem FrozAt.calm {w w' : World} {v : Value} {xs : List Bool} (h : FrozAt w v xs) (hk : Kept none' w w') : FrozAt w' v xs := by
  rcases h with h | ⟨b, o, c, h1, h2, h3⟩
  · exact .inl h
  · exact .inr ⟨b, o, c, h1, fun i x hx => wcell_calm hk (h2 i x hx), Nat.lt_of_lt_of_le h3 hk.size⟩
/-- What a checker is for: blocks, rows; the program, the specs, which are frozen, privilege. -/
structure Jb where
  cb : Nat
  mb : Nat
  l : Value
  specs : Value
  frozen : Value
  priv : Bool
  xs : List Ins
  sp : List Sp
  fz : List Bool
structure JAt (J : Jb) (w : World) (left : Value) (ids : Int) : Prop where
  chk : ChkAt w J.cb J.l J.specs J.frozen J.priv left J.mb ids
  code : SlIs w J.l J.xs
  sps : SpecsAt w J.specs J.sp
  frs : FrozAt w J.frozen J.fz
theorem JAt.calm {J : Jb} {w w' : World} {left : Value} {ids : Int} (h : JAt J w left ids) (hk : Kept none' w w') : JAt J w' left ids := ⟨h.chk.calm hk, h.code.calm hk, h.sps.calm hk, h.frs.calm hk⟩
theorem JAt.lt {J : Jb} {w : World} {left : Value} {ids : Int} (h : JAt J w left ids) : J.cb < w.heap.size := blk_lt h.chk.box
theorem JAt.cells {J : Jb} {w : World} {left : Value} {ids : Int} (h : JAt J w left ids) : wcell w J.cb 0 = some J.l ∧ wcell w J.cb 1 = some J.specs ∧ wcell w J.cb 2 = some J.frozen ∧ wcell w J.cb 3 = some (.bool J.priv) ∧ wcell w J.cb 6 = some (.int .i64 ids) := by
  refine ⟨?_, ?_, ?_, ?_, ?_⟩ <;> (rw [wcell_of h.chk.box]; rfl)
def specOf (sp : List Sp) (slot : Int) : Sp × Bool := if slot < 0 ∨ (sp.length : Int) ≤ slot then (Sp.zero, false) else ((sp[slot.toNat]?).getD Sp.zero, true)
def frozenOf (fz : List Bool) (slot : Int) : Bool := (fz[slot.toNat]?).getD false
theorem ost_spec (c : Array Value) (x : Sp) (h : c.size = 4) : ostC c 4 0 (.agg x.arr) = some x.arr := ostC_all c 4 x.arr h rfl (by simp [Sp.arr, Value.oneCell'])
set_option maxHeartbeats 4000000 in
theorem spec_T {J : Jb} {w0 : World} {left : Value} {ids : Int} (h : JAt J w0 left ids) (slot : Int) : T Tryz.prog w0 99 [.pointer (some ⟨J.cb, 0, none⟩), .int .i64 slot] = some (.tuple #[.agg (specOf J.sp slot).1.arr, .bool (specOf J.sp slot).2]) :=
  T_of (by kernel_rfl) Tryz.func99 rfl ok_verify_checker_spec (by simp; exact h.lt) (by simp [Sp.arr]) fun B hB => by
    have f1 := fun l => own_ext (l := l) hB h.cells.2.1
    unfold specOf
    rcases h.sps with ⟨e, ev⟩ | ⟨b, o, c, ev, hrow, hlt⟩
    · rw [ev] at f1
      rw [e]
      by_cases hs : slot < 0
      · rw [if_pos (.inl hs)]
        simp [c_verify_checker_spec, C_cond_eq, pickV_bool, f1, repSp, ost_spec, hs, Sp.arr]
      · have hs' : (0 : Int) ≤ slot := by omega
        rw [if_pos (.inr (by simpa using hs'))]
        simp [c_verify_checker_spec, C_cond_eq, pickV_bool, f1, repSp, ost_spec, hs, hs', Sp.arr]
    · rw [ev] at f1
      by_cases hs : slot < 0
      · rw [if_pos (.inl hs)]
        simp [c_verify_checker_spec, C_cond_eq, pickV_bool, f1, repSp, ost_spec, hs, Sp.arr]
      · by_cases hs2 : (J.sp.length : Int) ≤ slot
        · rw [if_pos (.inr hs2)]
          simp [c_verify_checker_spec, C_cond_eq, pickV_bool, f1, repSp, ost_spec, hs, hs2, Sp.arr]
        · rw [if_neg (by omega)]
          obtain ⟨n, rfl⟩ := Int.eq_ofNat_of_zero_le (show 0 ≤ slot by omega)
          have hn : n < J.sp.length := by omega
          have hx : J.sp[n]? = some J.sp[n] := List.getElem?_eq_getElem hn
          have hr := fun l => own_extR (l := l) hB (hrow n _ hx)
          have hn' : (n : Int) < J.sp.length := by omega
          simp only [Int.toNat_natCast, hx, Option.getD_some]
          generalize J.sp[n] = x at *
          simp [Sp.arr] at hr
          simp [c_verify_checker_spec, C_cond_eq, pickV_bool, f1, repSp, hr, hn, hn', hs2, Sp.arr]
theorem frozen_T {J : Jb} {w0 : World} {left : Value} {ids : Int} (h : JAt J w0 left ids) (slot : Int) (hs : 0 ≤ slot) : T Tryz.prog w0 130 [.pointer (some ⟨J.cb, 0, none⟩), .int .i64 slot] = some (.bool (frozenOf J.fz slot)) :=
  T_of (by kernel_rfl) Tryz.func130 rfl ok_verify_checker_frozen (by simp; exact h.lt) (by simp) fun B hB => by
    have f2 := fun l => own_ext (l := l) hB h.cells.2.2.1
    unfold frozenOf
    obtain ⟨n, rfl⟩ := Int.eq_ofNat_of_zero_le hs
    simp only [Int.toNat_natCast]
    rcases h.frs with ⟨e, ev⟩ | ⟨b, o, c, ev, hrow, hlt⟩
    · rw [ev] at f2
      rw [e]
      have hn : ¬ (n : Int) < 0 := by omega
      simp [c_verify_checker_frozen, C_cond_eq, pickV_bool, f2, hn]
    · rw [ev] at f2
      by_cases hn : n < J.fz.length
      · have hx : J.fz[n]? = some J.fz[n] := List.getElem?_eq_getElem hn
        have hr := fun l => own_ext (l := l) hB (hrow n _ hx)
        have hn' : (n : Int) < J.fz.length := by omega
        simp only [hx, Option.getD_some]
        generalize J.fz[n] = x at *
        simp [c_verify_checker_frozen, C_cond_eq, pickV_bool, f2, hr, hn, hn']
      · have hn' : ¬ (n : Int) < J.fz.length := by omega
        have hx : J.fz[n]? = none := List.getElem?_eq_none (by omega)
        simp only [hx, Option.getD_none]
        simp [c_verify_checker_frozen, C_cond_eq, pickV_bool, f2, hn, hn']
def linedOf (x : Sp) : Bool := decide (x.ty = 3) || decide (x.ty = 4)
theorem lined_T (w0 : World) (x : Sp) : T Tryz.prog w0 129 [.agg x.arr] = some (.bool (linedOf x)) :=
  T_of (by kernel_rfl) Tryz.func129 rfl ok_verify_lined (by simp [Sp.arr]) (by simp) fun B hB => by
    simp [c_verify_lined, Sp.arr, linedOf, pickV_bool]
def readsOf (sp : List Sp) (s : AState) (r : AReg) (off n : Int) : Bool :=
  if r.kind = 2 then insideOf r off n 0 32 else if r.kind = 3 then readyOf s (i64 (r.low + off)) n
  else if r.kind = 5 then (specOf sp r.slot).2 && insideOf r off n 0 (specOf sp r.slot).1.val else false
set_option maxHeartbeats 8000000 in
theorem reads_T {J : Jb} {w0 : World} {left : Value} {ids : Int} (h : JAt J w0 left ids) (s : AState) (r : AReg) (off n : Int) : T Tryz.prog w0 103 [.pointer (some ⟨J.cb, 0, none⟩), s.val, r.val, .int .i64 off, .int .i64 n] = some (.bool (readsOf J.sp s r off n)) :=
  T_of (by kernel_rfl) Tryz.func103 rfl ok_verify_checker_reads (by simp [AState.val, AReg.val]; exact h.lt) (by simp) fun B hB => by
    have e1 := inside_T w0 r off n 0 32
    have e2 := ready_T w0 s (i64 (r.low + off)) n (i64_in _)
    have e3 := spec_T h r.slot
    have e4 := inside_T w0 r off n 0 (specOf J.sp r.slot).1.val
    simp only [AReg.val, AState.val] at e1 e2 e4
    unfold readsOf
    by_cases h2 : r.kind = 2
    · simp [c_verify_checker_reads, C_cond_eq, AState.val, AReg.val, h2, e1]
    by_cases h3 : r.kind = 3
    · simp [c_verify_checker_reads, C_cond_eq, AState.val, AReg.val, h3, e2]
    by_cases h5 : r.kind = 5
    · generalize specOf J.sp r.slot = q at *
      obtain ⟨q, ok⟩ := q
      cases ok with
      | false => simp [c_verify_checker_reads, C_cond_eq, AState.val, AReg.val, h5, e3, repSp, ost_spec, pickV_bool, Sp.arr, Sp.zero] at *
      | true => simp [c_verify_checker_reads, C_cond_eq, AState.val, AReg.val, h5, e3, e4, repSp, ost_spec, pickV_bool, Sp.arr, Sp.zero] at *
    simp [c_verify_checker_reads, C_cond_eq, AState.val, AReg.val, h2, h3, h5]
def writesOf (sp : List Sp) (fz : List Bool) (r : AReg) (off n : Int) : Bool :=
  if r.kind = 3 then insideOf r off n (-64) 0 else if r.kind = 5 then (specOf sp r.slot).2 && !frozenOf fz r.slot && insideOf r off n 0 (specOf sp r.slot).1.val else false
theorem specOf_ge {sp : List Sp} {slot : Int} (h : (specOf sp slot).2 = true) : 0 ≤ slot := by
  unfold specOf at h
  split at h
  · cases h
  · omega
set_option maxHeartbeats 8000000 in
theorem vwrites_T {J : Jb} {w0 : World} {left : Value} {ids : Int} (h : JAt J w0 left ids) (r : AReg) (off n : Int) : T Tryz.prog w0 104 [.pointer (some ⟨J.cb, 0, none⟩), r.val, .int .i64 off, .int .i64 n] = some (.bool (writesOf J.sp J.fz r off n)) :=
  T_of (by kernel_rfl) Tryz.func104 rfl ok_verify_checker_writes (by simp [AReg.val]; exact h.lt) (by simp) fun B hB => by
    have e1 := inside_T w0 r off n (-64) 0
    have e3 := spec_T h r.slot
    have e4 := inside_T w0 r off n 0 (specOf J.sp r.slot).1.val
    simp only [AReg.val] at e1 e4
    have e5 := fun hs => frozen_T h r.slot hs
    have hge := fun hs => specOf_ge (sp := J.sp) (slot := r.slot) hs
    unfold writesOf
    by_cases h3 : r.kind = 3
    · simp [c_verify_checker_writes, C_cond_eq, AReg.val, h3, e1]
    by_cases h5 : r.kind = 5
    · generalize specOf J.sp r.slot = q at *
      obtain ⟨q, ok⟩ := q
      cases ok with
      | false => simp [c_verify_checker_writes, C_cond_eq, AReg.val, h5, e3, repSp, ost_spec, pickV_bool, Sp.arr, Sp.zero] at *
      | true =>
        have e5 := e5 (hge rfl)
        clear hge
        cases hf : frozenOf J.fz r.slot with
        | true =>
          rw [hf] at e5
          simp [c_verify_checker_writes, C_cond_eq, AReg.val, h5, e3, e4, e5, repSp, ost_spec, pickV_bool, Sp.arr, Sp.zero] at *
        | false =>
          rw [hf] at e5
          simp [c_verify_checker_writes, C_cond_eq, AReg.val, h5, e3, e4, e5, repSp, ost_spec, pickV_bool, Sp.arr, Sp.zero] at *
    simp [c_verify_checker_writes, C_cond_eq, AReg.val, h3, h5]
/-- An operation on what isn't two numbers. -/
def onPlaceA (priv : Bool) (op : Nat) (a b : AReg) : AReg × Bool :=
  if op = 11 then (b, !decide (b.kind = 0)) else if op = 0 ∧ placeOf a = true ∧ b.kind = 1 then movedA priv a b.rng false
  else if op = 1 ∧ placeOf a = true ∧ b.kind = 1 then movedA priv a b.rng true else if op = 0 ∧ placeOf b = true ∧ a.kind = 1 then movedA priv b a.rng false else (AReg.zero, false)
set_option maxHeartbeats 8000000 in
theorem onPlace_T {J : Jb} {w0 : World} {left : Value} {ids : Int} (h : JAt J w0 left ids) (op : Nat) (a b : AReg) : T Tryz.prog w0 94 [.pointer (some ⟨J.cb, 0, none⟩), .int .i64 op, a.val, b.val] = some (.tuple #[(onPlaceA J.priv op a b).1.val, .bool (onPlaceA J.priv op a b).2]) :=
  T_of (by kernel_rfl) Tryz.func94 rfl ok_verify_checker_onPlace (by simp [AReg.val]; exact h.lt) (by simp [AReg.val]) fun B hB => by
    have e1 := place_T w0 a
    have e2 := place_T w0 b
    have m1 := moved_TA h.chk a b.rng false
    have m2 := moved_TA h.chk a b.rng true
    have m3 := moved_TA h.chk b a.rng false
    have ra := areg_rng a
    have rb := areg_rng b
    simp only [AReg.val, Rng.val] at e1 e2 m1 m2 m3
    unfold onPlaceA
    by_cases h11 : op = 11
    · subst h11
      simp [c_verify_checker_onPlace, C_cond_eq, AReg.val]
    by_cases h0 : op = 0
    · subst h0
      by_cases hb : b.kind = 1
      · cases hpa : placeOf a with
        | true =>
          rw [hpa] at e1
          simp [-Rng.arr, c_verify_checker_onPlace, C_cond_eq, AReg.val, e1, hb, pickV_bool, m1, ra, rb]
        | false =>
          rw [hpa] at e1
          by_cases ha : a.kind = 1
          · cases hpb : placeOf b with
            | true =>
              rw [hpb] at e2
              simp [-Rng.arr, c_verify_checker_onPlace, C_cond_eq, AReg.val, e1, e2, hb, ha, pickV_bool, m3, ra, rb]
            | false =>
              rw [hpb] at e2
              simp [-Rng.arr, c_verify_checker_onPlace, C_cond_eq, AReg.val, e1, e2, hb, ha, pickV_bool, ra, rb]
          · cases hpb : placeOf b <;> rw [hpb] at e2 <;> simp [-Rng.arr, c_verify_checker_onPlace, C_cond_eq, AReg.val, e1, e2, hb, ha, pickV_bool, ra, rb]
      · by_cases ha : a.kind = 1
        · cases hpa : placeOf a <;> rw [hpa] at e1 <;> cases hpb : placeOf b <;> rw [hpb] at e2 <;> simp [-Rng.arr, c_verify_checker_onPlace, C_cond_eq, AReg.val, e1, e2, hb, ha, pickV_bool, m3, ra, rb]
        · cases hpa : placeOf a <;> rw [hpa] at e1 <;> cases hpb : placeOf b <;> rw [hpb] at e2 <;> simp [-Rng.arr, c_verify_checker_onPlace, C_cond_eq, AReg.val, e1, e2, hb, ha, pickV_bool, ra, rb]
    by_cases h1 : op = 1
    · subst h1
      by_cases hb : b.kind = 1
      · cases hpa : placeOf a <;> rw [hpa] at e1 <;> simp [-Rng.arr, c_verify_checker_onPlace, C_cond_eq, AReg.val, e1, hb, pickV_bool, m2, ra, rb]
      · cases hpa : placeOf a <;> rw [hpa] at e1 <;> simp [-Rng.arr, c_verify_checker_onPlace, C_cond_eq, AReg.val, e1, hb, pickV_bool, ra, rb]
    have k : ∀ n : Nat, op ≠ n → ¬ (op : Int) = n := fun n h e => h (by omega)
    simp [-Rng.arr, c_verify_checker_onPlace, C_cond_eq, AReg.val, h11, h0, h1, k 11 h11, k 0 h0, k 1 h1, ci_eq, pickV_bool]
end Go.Proofs.YtkgpmjjleemdlaaGreat

set_option linter.unusedSimpArgs false
set_option linter.unusedVariables false
set_option maxRecDepth 8000
namespace Go.Proofs.YtkgpmjjleemdlaaGreat
open Go.Eng Go.Sort

def argsOf (sp : List Sp) (fz : List Bool) (s : AState) (hp : Int) (slot : Int) (q : Sp) : Bool :=
  if hp = 1 then !linedOf q && readsOf sp s (s.r 2) 0 q.key
  else if hp = 3 then !linedOf q && readsOf sp s (s.r 2) 0 q.key && !frozenOf fz slot && !decide (q.ty = 0)
  else if hp = 2 then !linedOf q && readsOf sp s (s.r 2) 0 q.key && !frozenOf fz slot && readsOf sp s (s.r 3) 0 q.val && decide ((s.r 4).kind = 1)
  else if hp = 87 then linedOf q && !frozenOf fz slot && readsOf sp s (s.r 2) 0 q.val && decide ((s.r 3).kind = 1)
  else if hp = 88 then linedOf q && !frozenOf fz slot else if hp = 89 then linedOf q else false
theorem at_kind (s : AState) {d : Nat} (h : d < 11) : s.arr[d * 11]? = some (.int .i64 (s.r d).kind) := by
  have := cell_reg s d 0 h (by omega)
  rw [astate_at _ _ (by omega)]
  rw [Nat.add_zero] at this
  rw [this]
  rfl
set_option maxHeartbeats 16000000 in
theorem args_TV {J : Jb} {w0 : World} {left : Value} {ids : Int} (h : JAt J w0 left ids) (s : AState) (hp slot : Int) (q : Sp) (hs : 0 ≤ slot) :
    T Tryz.prog w0 100 [.pointer (some ⟨J.cb, 0, none⟩), s.val, .int .i32 hp, .int .i64 slot, .agg q.arr] = some (.bool (argsOf J.sp J.fz s hp slot q)) :=
  T_of (by kernel_rfl) Tryz.func100 rfl ok_verify_checker_arguments (by simp [AState.val, Sp.arr]; exact h.lt) (by simp) fun B hB => by
    have e1 := reads_T h s (s.r 2) 0 q.key
    have e2 := reads_T h s (s.r 2) 0 q.val
    have e3 := reads_T h s (s.r 3) 0 q.val
    have el := lined_T w0 q
    have ef := frozen_T h slot hs
    have r2 := row_reg s (d := 2) (by omega)
    have r3 := row_reg s (d := 3) (by omega)
    have k3 := at_kind s (d := 3) (by omega)
    have k4 := at_kind s (d := 4) (by omega)
    simp only [AState.val, AReg.val, Sp.arr] at e1 e2 e3 el
    simp only [Nat.reduceMul] at r2 r3 k3 k4
    have g3 : ∀ h, s.arr[33]'h = .int .i64 (s.r 3).kind := fun h => by rw [Array.getElem?_eq_getElem h] at k3; exact Option.some.inj k3
    have g4 : ∀ h, s.arr[44]'h = .int .i64 (s.r 4).kind := fun h => by rw [Array.getElem?_eq_getElem h] at k4; exact Option.some.inj k4
    generalize hk : readsOf J.sp s (s.r 2) 0 q.key = key at *
    generalize hl : linedOf q = ln at *
    generalize hf : frozenOf J.fz slot = fr at *
    generalize hv2 : readsOf J.sp s (s.r 2) 0 q.val = v2 at *
    generalize hv3 : readsOf J.sp s (s.r 3) 0 q.val = v3 at *
    unfold argsOf
    rw [hk, hl, hf, hv2, hv3]
    by_cases h1 : hp = 1
    · subst h1
      cases ln <;> simp [c_verify_checker_arguments, C_cond_eq, AState.val, AReg.val, Sp.arr, e1, el, r2, pickV_bool]
    by_cases h3 : hp = 3
    · subst h3
      cases ln <;> cases key <;> cases fr <;> simp [c_verify_checker_arguments, C_cond_eq, AState.val, AReg.val, Sp.arr, e1, el, ef, r2, pickV_bool]
    by_cases h2 : hp = 2
    · subst h2
      cases ln <;> cases key <;> cases fr <;> cases v3 <;> simp [c_verify_checker_arguments, C_cond_eq, AState.val, AReg.val, Sp.arr, e1, e3, el, ef, r2, r3, g4, pickV_bool]
    by_cases h87 : hp = 87
    · subst h87
      cases ln <;> cases fr <;> cases v2 <;> simp [c_verify_checker_arguments, C_cond_eq, AState.val, AReg.val, Sp.arr, e1, e2, el, ef, r2, r3, g3, pickV_bool]
    by_cases h88 : hp = 88
    · subst h88
      cases ln <;> cases fr <;> simp [c_verify_checker_arguments, C_cond_eq, AState.val, AReg.val, Sp.arr, e1, el, ef, r2, pickV_bool]
    by_cases h89 : hp = 89
    · subst h89
      simp [c_verify_checker_arguments, C_cond_eq, AState.val, AReg.val, Sp.arr, e1, el, r2, pickV_bool]
    simp [c_verify_checker_arguments, C_cond_eq, AState.val, AReg.val, Sp.arr, e1, r2, h1, h2, h3, h87, h88, h89, pickV_bool]
end Go.Proofs.YtkgpmjjleemdlaaGreat

set_option linter.unusedSimpArgs false
set_option linter.unusedVariables false
set_option maxRecDepth 8000
namespace Go.Proofs.YtkgpmjjleemdlaaGreat
open Go.Eng Go.Sort

/-- Registers 1 to i - 1 have nothing. -/
def clrR (s : AState) (i : Nat) : AState := { s with r := fun j => if 1 ≤ j ∧ j < i then AReg.zero else s.r j }
def calledOf (s : AState) (r : AReg) : AState := (clrR s 6).setR 0 r
theorem clrR_one (s : AState) : clrR s 1 = s := by
  unfold clrR
  have : (fun j => if 1 ≤ j ∧ j < 1 then AReg.zero else s.r j) = s.r := by funext j; rw [if_neg (by omega)]
  rw [this]
theorem clrR_succ (s : AState) (i : Nat) (h : 1 ≤ i) : (clrR s i).setR i AReg.zero = clrR s (i + 1) := by
  unfold clrR AState.setR fsetR
  simp only
  congr 1
  funext j
  by_cases h1 : j = i
  · subst h1; rw [if_pos rfl, if_pos (by omega)]
  · rw [if_neg h1]
    by_cases h2 : 1 ≤ j ∧ j < i
    · rw [if_pos h2, if_pos (by omega)]
    · rw [if_neg h2, if_neg (by omega)]
set_option maxHeartbeats 4000000 in
theorem called_T (w0 : World) (s : AState) (r : AReg) : T Tryz.prog w0 98 [s.val, r.val] = some (calledOf s r).val :=
  T_of (by kernel_rfl) Tryz.func98 rfl ok_verify_called (by simp [AState.val, AReg.val]) (by simp [AState.val]) fun B hB => by
    simp only [c_verify_called, C_seq, C_new, C_set, AState.val, AReg.val]
    simp
    refine C_loop (fun env l => ∃ i : Nat, 1 ≤ i ∧ i ≤ 6 ∧ l = [(( clrR s i).arr, 73), (r.arr, 68), (AState.zero.arr, 73)] ∧
      env = [undef, undef, .pointer (some ⟨B.heap.size + 2, 0, none⟩), .pointer (some ⟨B.heap.size, 0, none⟩), .pointer (some ⟨B.heap.size + 1, 0, none⟩), .int .i64 i]) (fun env _ => 6 - natAt env 5) ?_ ?_
    · exact ⟨1, by omega, by omega, by rw [clrR_one], by simp⟩
    rintro env l ⟨i, h1, h6, rfl, rfl⟩
    simp only [C_seq]
    by_cases hgo : i < 6
    · have hle : (i : Int) ≤ 5 := by omega
      have hlt : (i : Int) < 11 := by omega
      have hlt' : i < 11 := by omega
      have e1 := i64_succ (j := i) (by omega)
      have hst := ost_reg (clrR s i) (d := i) (by omega) AReg.zero
      rw [clrR_succ s i h1] at hst
      refine C_yes (by simp [hle]) ?_
      simp [hlt, hlt', hst, e1, -Int.natCast_add]
      exact ⟨⟨i + 1, by omega, by omega, rfl, rfl⟩, by simp [natAt]; omega⟩
    · have hie : i = 6 := by omega
      subst hie
      have hst := ost_reg (clrR s 6) (d := 0) (by omega) r
      simp only [Nat.zero_mul] at hst
      refine C_no (by simp) ?_
      simp [hst]
      rfl
def fillGo (s : AState) (low : Int) : Nat → AState × Bool
  | 0 => (s, true)
  | i + 1 => if (fillGo s low i).2 = true then saveOf (fillGo s low i).1 (i64 (low + i)) 1 (knownR 0) else fillGo s low i
def filledOf (sp : List Sp) (fz : List Bool) (s : AState) (d : Nat) (n : Int) : AState × Bool :=
  if writesOf sp fz (s.r d) 0 n = false then (s, false) else if (s.r d).kind ≠ 3 then (s, true) else fillGo s (s.r d).low n.toNat
theorem known0_wf : (knownR 0).wf := by rw [known_num]; exact numR_wf (constR_wf zero_in)
theorem fillGo_bad {s : AState} {low : Int} {i : Nat} (h : (fillGo s low i).2 = false) : ∀ k, fillGo s low (i + k) = fillGo s low i
  | 0 => rfl
  | k + 1 => by
    show (if (fillGo s low (i + k)).2 = true then _ else fillGo s low (i + k)) = _
    rw [fillGo_bad h k, if_neg (by rw [h]; simp)]
set_option maxHeartbeats 8000000 in
theorem filled_T {J : Jb} {w0 : World} {left : Value} {ids : Int} (h : JAt J w0 left ids) (s : AState) (d : Nat) (hd : d < 11) (n : Int) (hn0 : 0 ≤ n) (hn : n ≤ 1000000) :
    T Tryz.prog w0 101 [.pointer (some ⟨J.cb, 0, none⟩), s.val, .int .i64 d, .int .i64 n] = some (.tuple #[(filledOf J.sp J.fz s d n).1.val, .bool (filledOf J.sp J.fz s d n).2]) :=
  T_of (by kernel_rfl) Tryz.func101 rfl ok_verify_checker_filled (by simp [AState.val]; exact h.lt) (by simp [AState.val]) fun B hB => by
    have e1 := vwrites_T h (s.r d) 0 n
    have rd := row_reg s hd
    have hd' : (d : Int) < 11 := by omega
    have ek := known_T w0 0
    have hso := @save_T
    simp only [AReg.val, AState.val] at e1 ek
    unfold filledOf
    cases hw : writesOf J.sp J.fz (s.r d) 0 n with
    | false =>
      rw [hw] at e1
      simp [c_verify_checker_filled, C_cond_eq, AState.val, AReg.val, e1, rd, hd, hd']
    | true =>
      rw [hw] at e1
      by_cases hk : (s.r d).kind ≠ 3
      · simp [c_verify_checker_filled, C_cond_eq, AState.val, AReg.val, e1, rd, hd, hd', hk]
      · have hk : (s.r d).kind = 3 := Classical.not_not.1 hk
        obtain ⟨m, rfl⟩ := Int.eq_ofNat_of_zero_le hn0
        simp [c_verify_checker_filled, C_cond_eq, AState.val, AReg.val, e1, rd, hd, hd', hk]
        refine C_loop (fun env l => ∃ i : Nat, i ≤ m ∧ (fillGo s (s.r d).low i).2 = true ∧ l = [((fillGo s (s.r d).low i).1.arr, 73), (AState.zero.arr, 73), ((s.r d).arr, 68)] ∧
          env = [undef, undef, undef, undef, .pointer (some ⟨B.heap.size + 1, 0, none⟩), undef, .pointer (some ⟨B.heap.size, 0, none⟩), .pointer (some ⟨B.heap.size + 2, 0, none⟩), undef, undef, .int .i64 i, .int .i64 m, undef, undef, undef, undef, undef, undef]) (fun env _ => m - natAt env 10) ?_ ?_
        · exact ⟨0, by omega, rfl, rfl, by simp⟩
        rintro env l ⟨i, him, hok, rfl, rfl⟩
        simp only [C_seq]
        by_cases hgo : i < m
        · have hgo' : (i : Int) < m := by omega
          have e2 := i64_succ (j := i) (by omega)
          have hsv := save_T w0 (fillGo s (s.r d).low i).1 (i64 ((s.r d).low + i)) 1 (knownR 0) (i64_in _)
          have hnx : fillGo s (s.r d).low (i + 1) = saveOf (fillGo s (s.r d).low i).1 (i64 ((s.r d).low + i)) 1 (knownR 0) := by
            show (if (fillGo s (s.r d).low i).2 = true then _ else _) = _
            rw [if_pos hok]
          rw [← hnx] at hsv
          simp only [AState.val, AReg.val] at hsv
          refine C_yes (by simp [hgo']) ?_
          simp [ek, hsv, e2, -Int.natCast_add]
          refine C_cond (t := !(fillGo s (s.r d).low (i + 1)).2) (by simp) ?_ ?_
          · intro hb
            have hb : (fillGo s (s.r d).low (i + 1)).2 = false := by simpa using hb
            have := fillGo_bad hb (m - (i + 1))
            rw [show i + 1 + (m - (i + 1)) = m by omega] at this
            simp [this, hb]
          · intro hb
            have hb : (fillGo s (s.r d).low (i + 1)).2 = true := by simpa using hb
            simp [e2, -Int.natCast_add]
            exact ⟨⟨i + 1, by omega, hb, rfl, rfl⟩, by simp [natAt]; omega⟩
        · have hie : i = m := by omega
          subst hie
          refine C_no (by simp) ?_
          simp [hok]
end Go.Proofs.YtkgpmjjleemdlaaGreat

