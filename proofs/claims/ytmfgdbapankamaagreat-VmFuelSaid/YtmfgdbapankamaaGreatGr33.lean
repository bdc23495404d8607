/- Layer 9: the reference's maps (part 2: exact, use). -/
import Derived.Test.YtmfgdbapankamaaGreatGr32
set_option linter.unusedSimpArgs false
set_option linter.unusedVariables false
set_option maxRecDepth 8000
namespace Go.Proofs.YtmfgdbapankamaaGreat
open Go.Eng
section
variable {w0 w : World} {b : Nat} {ty ks : Int} {vs cap n : Nat} {L : Value} {xs : List Value}
theorem RefAt.len (h : RefAt w0 w b ty ks vs cap L n xs) : xs.length = n * 2 := h.row.1
theorem RefAt.form (h : RefAt w0 w b ty ks vs cap L n xs) (hn : 0 < n) : ∃ g c, L = .slice (some ⟨g, 0, none⟩) n c ∧ n ≤ c ∧ (∀ j, j < n * 2 → ∃ s, wcell w g j = some (.string s)) ∧ w0.heap.size ≤ g ∧ ∃ cs, w.heap[g]? = some (.cells cs 86 (0, 0)) := by
  obtain ⟨h1, h2⟩ := h.row
  rcases h2 with ⟨_, h0⟩ | ⟨g, c, cur, hL, hb, h3, h4, h5, h6, h7⟩
  · omega
  · have hx := rowForm h.row hn
    obtain ⟨g', c', q, hc, ho, hg⟩ := hx
    rw [hL] at q
    simp at q
    obtain ⟨rfl, rfl⟩ := q
    refine ⟨g, c, hL, hc, fun j hj => ?_, h.low.2 g ho, cur, h3⟩
    have hlen := h.len
    have hj' : j < xs.length := by omega
    obtain ⟨s, hs⟩ := h.strs xs[j] (List.getElem_mem hj')
    exact ⟨s, by rw [hg j xs[j] (List.getElem?_eq_getElem hj'), hs]⟩
set_option maxHeartbeats 2000000 in
theorem fexact_ret (h : RefAt w0 w b ty ks vs cap L n xs) (k : ByteArray) (hk : (k.size : Int) = ks) : Ret Tryz.prog 28 [.pointer (some ⟨b, 0, none⟩), .string k] w fun v w' => Kept none' w w' ∧ ∃ z : Int, v = .int .i64 z ∧ -1 ≤ z ∧ z < n := by
  refine ret_of_W Tryz.func28 rfl ok_tipstaffref09_Map_exact ?_
  simp only [c_tipstaffref09_Map_exact]
  simp
  have hsm := h.small
  refine W_loop (fun env w' => ∃ i : Nat, env = [.pointer (some ⟨b, 0, none⟩), .string k, undef, .int .i64 i, undef, undef, undef] ∧ i ≤ n ∧ Kept none' w w') (fun env _ => n - natAt env 3) ?_ ?_
  · exact ⟨0, by simp, by omega, Kept.refl _ _⟩
  · rintro env w1 ⟨i, rfl, hi, hk1⟩
    have h1 := h.calm hk1
    have c4 := h1.c4
    have hl := rowLen h1.row
    have e3 : IntKind.i64.wrap ((i : Int) + 1) = ((i + 1 : Nat) : Int) := i64w (by omega) (by omega)
    try simp only [W_seq]
    by_cases hin : i < n
    · refine W_yes (by simp [c4, hl]; omega) ?_
      simp
      have h2 := h1.calm (Kept.refl none' w1).drew
      have hk2 := hk1.drew
      generalize w1.drew = w2 at *
      obtain ⟨g, c, rfl, hc, hstr, _⟩ := h2.form (by omega)
      have c42 := h2.c4
      obtain ⟨s, hs⟩ := hstr (i * 2) (by omega)
      have hlt : (i : Int) < n := by omega
      simp [c4, c42, hlt, hs]
      refine W_calmP (vs := [.pointer (some ⟨b, 0, none⟩), .string k]) (by simp) (fplain_ret h2 k hk) ?_
      rintro v w3 hk3 ⟨s2, rfl⟩
      obtain ⟨t, ht⟩ := strBin_eql s s2
      cases t with
      | true =>
        refine W_yes (by simp [ht]) ?_
        simp
        exact ⟨hk2.trans hk3, by omega⟩
      | false =>
        refine W_no (by simp [ht]) ?_
        simp [e3]
        exact ⟨⟨i + 1, by simp, by omega, hk2.trans hk3⟩, by simp [natAt]; omega⟩
    · refine W_no (by simp [c4, hl]; omega) ?_
      simp
      exact ⟨hk1, by omega⟩
theorem app_W {R : Eng.Env → World → Prop} {ks' : List It} {env : Eng.Env} {dst : Nat} {a c' : Ex} {st : List Ex} {va : Value} {m g so k c : Nat} {ys : List Value} (ha : evs env w [a, c'] = some [va, .slice (some ⟨g, so, none⟩) k c]) (hr : Eng.Row 86 2 w va m ys) (hys : ∀ x ∈ ys, ∃ s, x = .string s)
    (hsrc : ∀ j, j < k * 2 → ∃ s, wcell w g (so + j) = some (.string s)) (hmk : m + k ≤ 1000) (hst : ∀ w', Kept (fun j => va.ownBlock = some j) w w' → Stab st env w w')
    (h : ∀ w' v' ys', Eng.Row 86 2 w' v' (m + k) ys' → (∀ x ∈ ys', ∃ s, x = .string s) → Kept (fun j => va.ownBlock = some j) w w' → (v'.ownBlock = va.ownBlock ∨ v'.ownBlock = some w.heap.size) → W Tryz.prog R ks' (setO (some dst) env v') w') :
    W Tryz.prog R (.c (.bi (some dst) .append [60, 60] 60 [a, c'] st) :: ks') env w := by
  have hz : ∀ j y, ((List.range (k * 2)).map fun j => (wcell w g (so + j)).getD (.bool false))[j]? = some y → j < k * 2 ∧ wcell w g (so + j) = some y := by
    intro j y hj
    rw [List.getElem?_map, Option.map_eq_some_iff] at hj
    obtain ⟨i, hi, rfl⟩ := hj
    have hlt : j < k * 2 := by have := (List.getElem?_eq_some_iff.1 hi).1; simpa using this
    rw [List.getElem?_range hlt] at hi
    cases hi
    obtain ⟨s, hs⟩ := hsrc j hlt
    exact ⟨hlt, by rw [hs]; rfl⟩
  have hzs : ∀ y ∈ ((List.range (k * 2)).map fun j => (wcell w g (so + j)).getD (.bool false)), ∃ s, y = .string s := by
    intro y hy
    obtain ⟨j, hj⟩ := List.mem_iff_getElem?.1 hy
    obtain ⟨h1, h2⟩ := hz j y hj
    obtain ⟨s, hs⟩ := hsrc j h1
    rw [hs] at h2
    cases h2
    exact ⟨s, rfl⟩
  obtain ⟨v', w', h1, h2, h3, h4⟩ := Go.Eng.row_append (P := Tryz.prog) (t := 60) (T := 86) (k := 2) (sb := g) (so := so) (c := c) (m := k) Tryz.underlying60 (by kernel_rfl) (by omega) hr (by omega) (by simp)
    (fun j y hj => (hz j y hj).2) (fun y hy => by obtain ⟨s, rfl⟩ := hzs y hy; rfl)
  refine W_bi ha h1 (hst w' h3) (h w' v' _ h2 (fun x hx => ?_) h3 h4)
  rcases List.mem_append.1 hx with hx | hx
  · exact hys x hx
  · exact hzs x hx
theorem RefAt.setL {L' : Value} {n' : Nat} {ys : List Value} (h : RefAt w0 w b ty ks vs cap L n xs) (hr : Eng.Row 86 2 w L' n' ys) (hys : ∀ x ∈ ys, ∃ s, x = .string s) (hn : n' ≤ 64) (hl : ∀ g, L'.ownBlock = some g → w0.heap.size ≤ g) :
    ∃ w', stv w 1 (.pointer (some ⟨b, 4, none⟩)) L' = some w' ∧ RefAt w0 w' b ty ks vs cap L' n' ys ∧ Kept (· = b) w w' := by
  have hk : Kept (· = b) w (put w b (.cells #[.int .i64 ty, .int .i64 ks, .int .i64 vs, .int .i64 cap, L', .bool false] 62 (0, 0))) := (Kept.refl (· = b) w).put (b := b) (fun _ => rfl) _
  refine ⟨put w b (.cells #[.int .i64 ty, .int .i64 ks, .int .i64 vs, .int .i64 cap, L', .bool false] 62 (0, 0)), ?_, ⟨put_same (blk_lt h.blk), rowKeep hr hk fun i hi e => ?_, hn, hys, ⟨h.low.1, hl⟩, h.keys⟩, hk⟩
  · have h1 := rowCells hr
    have h2 := rowOne hr
    rw [stv_of (n := 1) (v := L') h.blk (by rw [h1]; rfl) (by simp) (.inl (by simp)) (by rw [h1]; simp [h2]), h1]
    rfl
  · rcases hr.2 with ⟨rfl, _⟩ | ⟨g, c, cur, rfl, _, h3, _⟩
    · simp [Value.ownBlock] at hi
    · simp [Value.ownBlock] at hi
      exact heap_ne h3 h.blk (by decide) (hi.trans e)
theorem use_end {R : Eng.Env → World → Prop} {ks' : List It} {env : Eng.Env} {v9 : Value} {n9 rp : Nat} {ys : List Value} (h : RefAt w0 w b ty ks vs cap L n xs) (e0 : env[0]? = some (.pointer (some ⟨b, 0, none⟩))) (e9 : env[9]? = some v9) (e11 : env[11]? = some (.slice (some ⟨rp, 0, none⟩) 1 1)) (h12 : 12 < env.length)
    (hr : Eng.Row 86 2 w v9 n9 ys) (hys : ∀ x ∈ ys, ∃ s, x = .string s) (hn : n9 + 1 ≤ 64) (hl : ∀ g, v9.ownBlock = some g → w0.heap.size ≤ g) (hnb : ∀ g, v9.ownBlock = some g → g ≠ b ∧ L.ownBlock ≠ some g) (hw0 : w0.heap.size ≤ w.heap.size) {s1 s2 : ByteArray} (hrp : w.heap[rp]? = some (.cells #[.string s1, .string s2] 86 (0, 0)))
    (hk : ∀ w' L' ys' y, RefAt w0 w' b ty ks vs cap L' (n9 + 1) ys' → (∀ j, L'.ownBlock = some j → v9.ownBlock = some j ∨ w.heap.size ≤ j) → Kept (fun j => j = b ∨ v9.ownBlock = some j) w w' → W Tryz.prog R ks' (env.set 12 y) w') :
    W Tryz.prog R (.c (.bi (some 12) .append [60, 60] 60 [(.var 9), (.var 11)] []) :: .c (.store 1 (.offp 4 (.nn (.var 0))) (.var 12) []) :: ks') env w := by
  have hv9 := rowVar hr
  refine app_W (g := rp) (so := 0) (k := 1) (c := 1) (by simp [e9, e11, hv9]) hr hys (fun j hj => ?_) (by omega) (fun _ _ => stab_nil _ _ _) fun w1 v12 ys' h1 h2 h3 h4 => ?_
  · rw [Nat.zero_add, wcell_of hrp]
    have : j = 0 ∨ j = 1 := by omega
    rcases this with rfl | rfl
    · exact ⟨s1, rfl⟩
    · exact ⟨s2, rfl⟩
  · have hb1 : RefAt w0 w1 b ty ks vs cap L n xs := ⟨h3.has h.blk fun e => (hnb b e).1 rfl, rowKeep h.row h3 fun i hi e => (hnb i e).2 hi, h.small, h.strs, h.low, h.keys⟩
    obtain ⟨w2, g1, g2, g3⟩ := hb1.setL h1 h2 hn fun g hg => by
      rcases h4 with h4 | h4
      · exact hl g (h4 ▸ hg)
      · rw [h4] at hg; cases hg; exact hw0
    have hv12 := rowVar h1
    have c0 : (env.set 12 v12)[0]? = some (.pointer (some ⟨b, 0, none⟩)) := by rw [List.getElem?_set_ne (by omega)]; exact e0
    have c12 : (env.set 12 v12)[12]? = some v12 := by rw [List.getElem?_set_self h12]
    simp only [setO]
    refine W_store (by simp [c0]) (by simp [c12, hv12]) g1 (stab_nil _ _ _) ?_
    exact hk w2 v12 _ _ g2 (fun j hj => by
      rcases h4 with h4 | h4
      · exact .inl (h4 ▸ hj)
      · rw [h4] at hj; cases hj; exact .inr (Nat.le_refl _)) ((h3.mono fun _ _ h => .inr h).trans (g3.mono fun _ _ h => .inl h))
end
end Go.Proofs.YtmfgdbapankamaaGreat
namespace Go.Proofs.YtmfgdbapankamaaGreat
open Go.Eng
section
variable {w0 w w' : World} {b : Nat} {ty ks : Int} {vs cap n : Nat} {L : Value} {xs : List Value}
theorem RefAt.keep {S : Nat → Prop} (h : RefAt w0 w b ty ks vs cap L n xs) (hk : Kept S w w') (h1 : ¬ S b) (h2 : ∀ g, L.ownBlock = some g → ¬ S g) : RefAt w0 w' b ty ks vs cap L n xs :=
  ⟨hk.has h.blk h1, rowKeep h.row hk h2, h.small, h.strs, h.low, h.keys⟩
theorem RefAt.cells {g c : Nat} (h : RefAt w0 w b ty ks vs cap (.slice (some ⟨g, 0, none⟩) n c) n xs) (hn : 0 < n) : ∀ j, j < n * 2 → ∃ s, wcell w g j = some (.string s) := by
  obtain ⟨g', c', q, _, hs, _⟩ := h.form hn
  simp at q
  obtain ⟨rfl, rfl⟩ := q
  exact hs
theorem row5_W {R : Eng.Env → World → Prop} {ks' : List It} {env : Eng.Env} {dst : Nat} {st : List Ex} (h : ∀ w2, Kept none' w w2 → Eng.Row 86 2 w2 (.slice (some ⟨w.heap.size, 0, none⟩) 0 0) 0 [] → w2.heap.size = w.heap.size + 1 → W Tryz.prog R ks' (setO (some dst) env (.slice (some ⟨w.heap.size, 0, none⟩) 0 0)) w2) :
    W Tryz.prog R (.c (.row (some dst) 86 0 (.const (.agg #[])) st) :: ks') env w := by
  refine W_row' (v := .agg #[]) (cs := #[]) (by simp) rfl ?_
  have hrow := hp_new w (.cells #[] 86)
  exact h _ ((Kept.refl _ _).alloc _) ⟨by simp, .inr ⟨_, 0, #[], rfl, by omega, hrow, by omega, by unfold maxLen; omega, by simp, by simp⟩⟩ (by simp)
theorem row11_W {R : Eng.Env → World → Prop} {ks' : List It} {env : Eng.Env} {st : List Ex} {s1 s2 : ByteArray} (e10 : env[10]? = some (.agg #[.string s1, .string s2])) (h : ∀ w2, Kept none' w w2 → w2.heap[w.heap.size]? = some (.cells #[.string s1, .string s2] 86 (0, 0)) → w2.heap.size = w.heap.size + 1 → W Tryz.prog R ks' (setO (some 11) env (.slice (some ⟨w.heap.size, 0, none⟩) 1 1)) w2) :
    W Tryz.prog R (.c (.row (some 11) 86 1 (.upd 0 2 (.const (.agg #[(.string ⟨#[]⟩), (.string ⟨#[]⟩)])) (.var 10)) st) :: ks') env w := by
  refine W_row' (v := .agg #[.string s1, .string s2]) (cs := #[.string s1, .string s2]) (by simp [e10]) rfl ?_
  exact h _ ((Kept.refl _ _).alloc _) (hp_new _ _) (by simp)
theorem app2_W {R : Eng.Env → World → Prop} {ks' : List It} {env : Eng.Env} {dst : Nat} {a c' : Ex} {st : List Ex} {va : Value} {m g c so k cc bx : Nat} {ys : List Value} {wk : World} {s1 s2 : ByteArray} (h : RefAt w0 w b ty ks vs cap (.slice (some ⟨g, 0, none⟩) n c) n xs) (hn : 0 < n) (hz : w.heap.size = bx)
    (ha : evs env wk [a, c'] = some [va, .slice (some ⟨g, so, none⟩) k cc]) (hr : Eng.Row 86 2 wk va m ys) (hys : ∀ x ∈ ys, ∃ s, x = .string s) (hown : ∀ j, va.ownBlock = some j → bx < j) (hK : Kept none' w wk) (hB : wk.heap[bx]? = some (.cells #[.string s1, .string s2] 86 (0, 0)))
    (hso : ∀ j, j < k * 2 → so + j < n * 2) (hmk : m + k ≤ 1000) (hst : ∀ e ∈ st, e = .ld (some 2) (.var 3) ∨ e = .ld none (.offp 4 (.nn (.var 0)))) (e0 : env[0]? = some (.pointer (some ⟨b, 0, none⟩))) (e3 : env[3]? = some (.pointer (some ⟨bx, 0, none⟩)))
    (hgo : ∀ w' v' ys', Eng.Row 86 2 w' v' (m + k) ys' → (∀ x ∈ ys', ∃ s, x = .string s) → (∀ j, v'.ownBlock = some j → bx < j) → Kept none' w w' → w'.heap[bx]? = some (.cells #[.string s1, .string s2] 86 (0, 0)) →
      (∀ q, q < wk.heap.size → va.ownBlock ≠ some q → w'.heap[q]? = wk.heap[q]? ∧ v'.ownBlock ≠ some q) → wk.heap.size ≤ w'.heap.size → W Tryz.prog R ks' (setO (some dst) env v') w') :
    W Tryz.prog R (.c (.bi (some dst) .append [60, 60] 60 [a, c'] st) :: ks') env wk := by
  have hk := h.calm hK
  have hbb := blk_lt h.blk
  have hzs := hK.size
  refine app_W ha hr hys (fun j hj => hk.cells hn _ (hso j hj)) hmk (fun w' hk' => ?_) fun w' v' ys' h1 h2 h3 h4 => ?_
  · intro e he v hv
    have q1 : w'.heap[bx]? = wk.heap[bx]? := hk'.block bx (blk_lt hB) fun e => by have := hown bx e; omega
    have q2 : w'.heap[b]? = wk.heap[b]? := hk'.block b (by omega) fun e => by have := hown b e; omega
    rcases hst e he with rfl | rfl
    · simp [e3, wrow] at hv ⊢
      rw [q1]; exact hv
    · simp [e0, wcell] at hv ⊢
      rw [q2]; exact hv
  · have hsz := h3.size
    refine hgo w' v' ys' h1 h2 (fun j hj => ?_) (hK.then h3 fun j hj e => by have := hown j e; omega) (h3.has hB fun e => by have := hown bx e; omega) (fun q hq hne => ⟨h3.block q hq hne, fun e => ?_⟩) hsz
    · rcases h4 with h4 | h4
      · exact hown j (h4 ▸ hj)
      · rw [h4] at hj; cases hj; have := blk_lt hB; omega
    · rcases h4 with h4 | h4
      · exact hne (h4 ▸ e)
      · rw [h4] at e; cases e; omega
def RefU (w0 : World) (b : Nat) (ty ks : Int) (vs cap : Nat) (L : Value) (n : Nat) (w w' : World) : Prop := ∃ L' xs', RefAt w0 w' b ty ks vs cap L' n xs' ∧ ∀ j, L'.ownBlock = some j → L.ownBlock = some j ∨ w.heap.size ≤ j
set_option maxHeartbeats 4000000 in
theorem fuse_ret (h : RefAt w0 w b ty ks vs cap L n xs) (i : Nat) (hi : i < n) (hw0 : w0.heap.size ≤ w.heap.size) : Ret Tryz.prog 29 [.pointer (some ⟨b, 0, none⟩), .int .i64 i] w
    fun v w' => Kept (fun j => j = b) w w' ∧ (∃ z : Nat, v = .int .i64 z ∧ z < n) ∧ RefU w0 b ty ks vs cap L n w w' := by
  refine ret_of_W Tryz.func29 rfl ok_tipstaffref09_Map_use ?_
  have hsm := h.small
  simp only [c_tipstaffref09_Map_use]
  simp
  have c0 := h.c0
  by_cases h2 : ty = 2
  · refine W_no (by simp [c0, h2]) ?_
    obtain ⟨g, c, rfl, hc, hstr, hg0, curg, hgb⟩ := h.form (by omega)
    have c4 := h.c4
    have hlt : (i : Int) < n := by omega
    obtain ⟨s1, hs1⟩ := hstr (i * 2) (by omega)
    obtain ⟨s2, hs2⟩ := hstr (i * 2 + 1) (by omega)
    have hrw : wrow w g (i * 2) 2 = some #[.string s1, .string s2] := by
      refine wrow_list (r := [.string s1, .string s2]) (by simp) ?_
      intro j hj
      have : j = 0 ∨ j = 1 := by simp at hj; omega
      rcases this with rfl | rfl
      · exact hs1
      · exact hs2
    simp only [W_seq, W_skip, W_set]
    refine ok_intro (.agg #[.string s1, .string s2]) (by simp [c4, hlt, hrw]) ?_
    try simp only [W_seq]
    refine W_new' (v := .agg #[.string ⟨#[]⟩, .string ⟨#[]⟩]) (cs := #[.string ⟨#[]⟩, .string ⟨#[]⟩]) (by simp) rfl ?_
    have hb1 := hp_new w (.cells #[.string ⟨#[]⟩, .string ⟨#[]⟩] 86)
    have hk1 : Kept none' w (w.alloc (.cells #[.string ⟨#[]⟩, .string ⟨#[]⟩] 86)) := (Kept.refl _ _).alloc _
    have hz1 : (w.alloc (.cells #[.string ⟨#[]⟩, .string ⟨#[]⟩] 86)).heap.size = w.heap.size + 1 := by simp
    generalize w.alloc (.cells #[.string ⟨#[]⟩, .string ⟨#[]⟩] 86) = w1 at *
    generalize hbx : w.heap.size = bx at *
    have hst : stv w1 2 (.pointer (some ⟨bx, 0, none⟩)) (.agg #[.string s1, .string s2]) = some (put w1 bx (.cells #[.string s1, .string s2] 86 (0, 0))) := by
      have := box_store (n := 2) (v := .agg #[.string s1, .string s2]) hb1 rfl rfl (by simp [Value.oneCell', Value.cells])
      simpa [Value.cells] using this
    refine W_store (by simp) (by simp) hst (stab_nil _ _ _) ?_
    have hbx2 := put_same (o := .cells #[.string s1, .string s2] 86 (0, 0)) (blk_lt hb1)
    have hk2 : Kept none' w (put w1 bx (.cells #[.string s1, .string s2] 86 (0, 0))) := hk1.putNew (by omega) _
    have hz2 : (put w1 bx (.cells #[.string s1, .string s2] 86 (0, 0))).heap.size = bx + 1 := by simp [hz1]
    generalize put w1 bx (.cells #[.string s1, .string s2] 86 (0, 0)) = w2 at *
    simp only [W_seq, W_draw]
    have hk3 := hk2.drew
    have hbx3 : w2.drew.heap[bx]? = _ := hbx2
    have hz3 : w2.drew.heap.size = bx + 1 := hz2
    generalize w2.drew = w3 at *
    have h3 := h.calm hk3
    have c43 := h3.c4
    have hbb := blk_lt h.blk
    have hgg := blk_lt hgb
    have e1 : IntKind.i64.wrap ((i : Int) + 1) = ((i + 1 : Nat) : Int) := i64w (by omega) (by omega)
    have hic : (i : Int) ≤ c := by omega
    simp only [W_set]
    refine ok_intro (.slice (some ⟨g, 0, none⟩) i c) (by simp [c43, hic]) ?_
    try simp only [W_seq, W_set]
    refine ok_intro (.slice (some ⟨g, if c = i + 1 then 0 else (i + 1) * 2, none⟩) (n - (i + 1)) (c - (i + 1))) ?_ ?_
    · have g1 : (i : Int) + 1 ≤ n := by omega
      have g2 : (n : Int) ≤ c := by omega
      have g3 : (0 : Int) ≤ (i : Int) + 1 := by omega
      have g4 : ((i : Int) + 1).toNat = i + 1 := by omega
      simp [c43, e1, g1, g2, g3, g4]
      split <;> rfl
    try simp only [W_seq, W_set]
    have r3 : wrow w3 bx 0 2 = some #[.string s1, .string s2] := wrow_box hbx3 rfl
    refine ok_intro (.agg #[.string s1, .string s2]) (by simp [r3]) ?_
    generalize ho8 : (if c = i + 1 then 0 else (i + 1) * 2) = o8
    have hs8 : ∀ j, j < (n - (i + 1)) * 2 → o8 + j < n * 2 := fun j hj => by
      rw [← ho8]
      split <;> omega
    have hs6 : ∀ j, j < i * 2 → 0 + j < n * 2 := fun j hj => by omega
    have fin : ∀ (env : Eng.Env) (w' : World) (L' : Value) (ys' : List Value), env[0]? = some (.pointer (some ⟨b, 0, none⟩)) → 2 < env.length → RefAt w0 w' b ty ks vs cap L' n ys' → (∀ j, L'.ownBlock = some j → bx ≤ j) → Kept (fun j => j = b) w w' →
        W Tryz.prog (Eng.Fin r_tipstaffref09_Map_use fun v w' => Kept (fun j => j = b) w w' ∧ (∃ z : Nat, v = .int .i64 z ∧ z < n) ∧ RefU w0 b ty ks vs cap (.slice (some ⟨g, 0, none⟩) n c) n w w')
          [.c (.set 2 (.bin .sub (.len false (.ld none (.offp 4 (.nn (.var 0))))) (.const (.int .i64 1)))), .c .ret] env w' := by
      intro env w' L' ys' e0 el hR hO hK
      have c4' := hR.c4
      have hl' := rowLen hR.row
      have hv' := rowVar hR.row
      have e2 : IntKind.i64.wrap ((n : Int) - 1) = ((n - 1 : Nat) : Int) := by rw [i64w (by omega) (by omega)]; omega
      simp only [W_set]
      refine ok_intro (.int .i64 ((n - 1 : Nat) : Int)) (by simp [e0, c4', hl', hv', e2]) ?_
      simp [List.getElem?_set_self el]
      exact ⟨hK, ⟨n - 1, rfl, by omega⟩, L', ys', hR, fun j hj => .inr (by have := hO j hj; omega)⟩
    have hnn : 0 + i + (n - (i + 1)) + 1 = n := by omega
    have hgb' : g < bx := by omega
    have hbb' : b < bx := by omega
    have close : ∀ {env : Eng.Env} {v9 : Value} {ys9 : List Value} {rp : Nat} {wk : World}, env[0]? = some (.pointer (some ⟨b, 0, none⟩)) → env[9]? = some v9 → env[11]? = some (.slice (some ⟨rp, 0, none⟩) 1 1) → 12 < env.length →
        Eng.Row 86 2 wk v9 (0 + i + (n - (i + 1))) ys9 → (∀ x ∈ ys9, ∃ s, x = .string s) → (∀ j, v9.ownBlock = some j → bx < j) → Kept none' w wk → wk.heap[rp]? = some (.cells #[.string s1, .string s2] 86 (0, 0)) →
        W Tryz.prog (Eng.Fin r_tipstaffref09_Map_use fun v w' => Kept (fun j => j = b) w w' ∧ (∃ z : Nat, v = .int .i64 z ∧ z < n) ∧ RefU w0 b ty ks vs cap (.slice (some ⟨g, 0, none⟩) n c) n w w')
          [.c (.bi (some 12) .append [60, 60] 60 [(.var 9), (.var 11)] []), .c (.store 1 (.offp 4 (.nn (.var 0))) (.var 12) []), .c (.seq (.set 2 (.bin .sub (.len false (.ld none (.offp 4 (.nn (.var 0))))) (.const (.int .i64 1)))) .ret)] env wk := by
      intro env v9 ys9 rp wk e0 e9 e11 el hr hys hown hK hrp
      refine use_end (h.calm hK) e0 e9 e11 el hr hys (by omega) (fun j hj => by have := hown j hj; omega) (fun j hj => ⟨by have := hown j hj; omega, fun e => by simp [Value.ownBlock] at e; have := hown j hj; omega⟩) (by have := hK.size; omega) hrp fun w' L' ys' y hR hO hk => ?_
      rw [hnn] at hR
      rw [W_seq]
      exact fin _ w' L' ys' (by rw [List.getElem?_set_ne (by omega)]; exact e0) (by rw [List.length_set]; omega) hR (fun j hj => by
        rcases hO j hj with h | h
        · have := hown j h; omega
        · have := hK.size; omega) ((hK.mono (fun _ _ h => h.elim) : Kept (fun j => j = b) w wk).then hk fun j hj h => h.elim id fun h => by have := hown j h; omega)
    have nil : ∀ x ∈ ([] : List Value), ∃ s, x = Value.string s := fun x hx => by simp at hx
    have own5 : ∀ (q : Nat), bx < q → ∀ j, (Value.slice (some ⟨q, 0, none⟩) 0 0).ownBlock = some j → bx < j := fun q hq j hj => by simp [Value.ownBlock] at hj; omega
    have hz3' : bx < w3.heap.size := by omega
    simp only [setO, List.set_cons_succ, List.set_cons_zero, W_seq]
    rw [W_alt]
    refine ⟨?_, ?_⟩
    · rw [W_seq]
      refine row5_W fun w4 k4 r4 z4 => ?_
      have hK4 := hk3.trans k4
      have hB4 := k4.has hbx3 fun h => h
      rw [W_alt]
      refine ⟨?_, ?_⟩
      · rw [W_seq]
        refine app2_W (cc := c) h (by omega) hbx (by simp) r4 nil (own5 _ hz3') hK4 hB4 hs6 (by omega) (by simp) rfl rfl fun w5 v7 y7 r7 s7 o7 hK5 hB5 q5 z5 => ?_
        rw [W_alt]
        refine ⟨?_, ?_⟩
        · rw [W_seq]
          refine app2_W (cc := c - (i + 1)) h (by omega) hbx (by simp [rowVar r7]) r7 s7 o7 hK5 hB5 hs8 (by omega) (by simp) rfl rfl fun w6 v9 y9 r9 s9 o9 hK6 hB6 q6 z6 => ?_
          rw [W_seq]
          refine row11_W rfl fun w7 k7 b7 z7 => ?_
          rw [W_seq]
          exact close rfl rfl rfl (by simp) (rowCalm r9 k7) s9 o9 (hK6.trans k7) b7
        · rw [W_seq]
          refine row11_W rfl fun w6 k6 b6 z6 => ?_
          rw [W_seq]
          refine app2_W (cc := c - (i + 1)) h (by omega) hbx (by simp [rowVar r7]) (rowCalm r7 k6) s7 o7 (hK5.trans k6) (k6.has hB5 fun h => h) hs8 (by omega) (by simp) rfl rfl fun w7 v9 y9 r9 s9 o9 hK7 hB7 q7 z7 => ?_
          rw [W_seq]
          have hrp := (q7 w5.heap.size (by omega) (fun e => by have := rowLt r7 e; omega)).1.trans b6
          exact close rfl rfl rfl (by simp) r9 s9 o9 hK7 hrp
      · rw [W_seq]
        refine row11_W rfl fun w5 k5 b5 z5 => ?_
        rw [W_seq]
        refine app2_W (cc := c) h (by omega) hbx (by simp) (rowCalm r4 k5) nil (own5 _ hz3') (hK4.trans k5) (k5.has hB4 fun h => h) hs6 (by omega) (by simp) rfl rfl fun w6 v7 y7 r7 s7 o7 hK6 hB6 q6 z6 => ?_
        obtain ⟨g6, n6⟩ := q6 w4.heap.size (by omega) (fun e => by simp [Value.ownBlock] at e; omega)
        rw [W_seq]
        refine app2_W (cc := c - (i + 1)) h (by omega) hbx (by simp [rowVar r7]) r7 s7 o7 hK6 hB6 hs8 (by omega) (by simp) rfl rfl fun w7 v9 y9 r9 s9 o9 hK7 hB7 q7 z7 => ?_
        obtain ⟨g7, n7⟩ := q7 w4.heap.size (by omega) n6
        rw [W_seq]
        exact close rfl rfl rfl (by simp) r9 s9 o9 hK7 (g7.trans (g6.trans b5))
    · rw [W_seq]
      refine row11_W rfl fun w4 k4 b4 z4 => ?_
      have hK4 := hk3.trans k4
      have hB4 := k4.has hbx3 fun h => h
      rw [W_seq]
      refine row5_W fun w5 k5 r5 z5 => ?_
      rw [W_seq]
      refine app2_W (cc := c) h (by omega) hbx (by simp) r5 nil (own5 _ (by omega)) (hK4.trans k5) (k5.has hB4 fun h => h) hs6 (by omega) (by simp) rfl rfl fun w6 v7 y7 r7 s7 o7 hK6 hB6 q6 z6 => ?_
      obtain ⟨g6, n6⟩ := q6 w3.heap.size (by omega) (fun e => by simp [Value.ownBlock] at e; omega)
      rw [W_seq]
      refine app2_W (cc := c - (i + 1)) h (by omega) hbx (by simp [rowVar r7]) r7 s7 o7 hK6 hB6 hs8 (by omega) (by simp) rfl rfl fun w7 v9 y9 r9 s9 o9 hK7 hB7 q7 z7 => ?_
      obtain ⟨g7, n7⟩ := q7 w3.heap.size (by omega) n6
      rw [W_seq]
      exact close rfl rfl rfl (by simp) r9 s9 o9 hK7 (g7.trans (g6.trans (k5.has b4 fun h => h)))
  · refine W_yes (by simp [c0, h2]) ?_
    simp
    exact ⟨Kept.refl _ _, ⟨i, rfl, hi⟩, _, _, h, fun j hj => .inl hj⟩
end
end Go.Proofs.YtmfgdbapankamaaGreat
namespace Go.Proofs.YtmfgdbapankamaaGreat
open Go.Eng
section
variable {w0 w w' : World} {b : Nat} {ty ks : Int} {vs cap n : Nat} {L : Value} {xs : List Value}
def RefP (w0 : World) (b : Nat) (ty ks : Int) (vs cap : Nat) (L : Value) (w w' : World) : Prop := Kept (fun j => j = b ∨ L.ownBlock = some j) w w' ∧ ∃ L' n' xs', RefAt w0 w' b ty ks vs cap L' n' xs'
theorem RefAt.same (h : RefAt w0 w b ty ks vs cap L n xs) (hk : Kept none' w w') : RefP w0 b ty ks vs cap L w w' := ⟨hk.mono fun _ _ h => h.elim, L, n, xs, h.calm hk⟩
theorem RefAt.gne (h : RefAt w0 w b ty ks vs cap L n xs) {g : Nat} (hg : L.ownBlock = some g) : g ≠ b := by
  rcases h.row.2 with ⟨rfl, _⟩ | ⟨g', c, cur, rfl, _, h3, _⟩
  · simp [Value.ownBlock] at hg
  · simp [Value.ownBlock] at hg
    subst hg
    exact heap_ne h3 h.blk (by decide)
theorem setL' {L0 L' : Value} {n' : Nat} {ys : List Value} (hb : w.heap[b]? = some (.cells #[.int .i64 ty, .int .i64 ks, .int .i64 vs, .int .i64 cap, L0, .bool false] 62 (0, 0))) (hr : Eng.Row 86 2 w L' n' ys) (hys : ∀ x ∈ ys, ∃ s, x = .string s) (hn : n' ≤ 64) (hw : w0.heap.size ≤ b) (hks : ty = 5 → 5 ≤ ks ∧ ks ≤ 16) (hl : ∀ g, L'.ownBlock = some g → w0.heap.size ≤ g) :
    ∃ w', stv w 1 (.pointer (some ⟨b, 4, none⟩)) L' = some w' ∧ RefAt w0 w' b ty ks vs cap L' n' ys ∧ Kept (· = b) w w' := by
  have hk : Kept (· = b) w (put w b (.cells #[.int .i64 ty, .int .i64 ks, .int .i64 vs, .int .i64 cap, L', .bool false] 62 (0, 0))) := (Kept.refl (· = b) w).put (b := b) (fun _ => rfl) _
  refine ⟨put w b (.cells #[.int .i64 ty, .int .i64 ks, .int .i64 vs, .int .i64 cap, L', .bool false] 62 (0, 0)), ?_, ⟨put_same (blk_lt hb), rowKeep hr hk fun i hi e => ?_, hn, hys, ⟨hw, hl⟩, hks⟩, hk⟩
  · have h1 := rowCells hr
    have h2 := rowOne hr
    rw [stv_of (n := 1) (v := L') hb (by rw [h1]; rfl) (by simp) (.inl (by simp)) (by rw [h1]; simp [h2]), h1]
    rfl
  · rcases hr.2 with ⟨rfl, _⟩ | ⟨g, c, cur, rfl, _, h3, _⟩
    · simp [Value.ownBlock] at hi
    · simp [Value.ownBlock] at hi
      exact heap_ne h3 hb (by decide) (hi.trans e)
theorem RefAt.setV (h : RefAt w0 w b ty ks vs cap L n xs) {i : Nat} (hi : i < n) (s : ByteArray) : ∃ w' xs', (∀ g c, L = .slice (some ⟨g, 0, none⟩) n c → stv w 1 (.pointer (some ⟨g, i * 2 + 1, none⟩)) (.string s) = some w') ∧ RefAt w0 w' b ty ks vs cap L n xs' ∧ Kept (fun j => L.ownBlock = some j) w w' := by
  have hlen := h.len
  obtain ⟨h1, h2⟩ := id h.row
  rcases h2 with ⟨_, h0⟩ | ⟨g, c, cur, rfl, hb, h3, h4, h5, h6, h7⟩
  · omega
  have hne := h.gne (g := g) rfl
  have hcs : i * 2 + 1 < cur.size := by rw [h6]; omega
  refine ⟨put w g (.cells (cur.setIfInBounds (i * 2 + 1) (.string s)) 86 (0, 0)), xs.set (i * 2 + 1) (.string s), fun g' c' q => ?_, ⟨(put_other hne.symm).trans h.blk, ⟨by rw [List.length_set]; exact h1, .inr ⟨g, c, cur.setIfInBounds (i * 2 + 1) (.string s), rfl, hb, put_same (blk_lt h3), h4, h5, by simpa using h6, ?_⟩⟩, h.small, fun x hx => ?_, h.low, h.keys⟩, Kept.put (S := fun j => (Value.slice (some ⟨g, 0, none⟩) n c).ownBlock = some j) (Kept.refl _ w) (b := g) (fun _ => rfl) _⟩
  · simp at q
    obtain ⟨rfl, rfl⟩ := q
    rw [stv_of (n := 1) (v := .string s) h3 rfl (by omega) (.inl (by simp)) (by simp [Value.oneCell'])]
    simp
  · rw [← h7]
    apply List.ext_getElem?
    intro j
    rw [List.getElem?_take, List.getElem?_set]
    simp only [Array.getElem?_toList, List.getElem?_take, Array.getElem?_setIfInBounds, List.length_take, Array.length_toList]
    by_cases e : i * 2 + 1 = j
    · subst e
      rw [if_pos rfl, if_pos (by omega), if_pos rfl, if_pos (by omega), if_pos (by omega)]
    · rw [if_neg e, if_neg e]
  · rcases List.mem_or_eq_of_mem_set hx with hx | rfl
    · exact h.strs x hx
    · exact ⟨s, rfl⟩
def RefK (w0 w : World) (b : Nat) (ty ks : Int) (vs cap : Nat) (L : Value) (k v : ByteArray) (z : Int) (env' : Eng.Env) (w' : World) : Prop :=
  ∃ y10 y11 L' n' xs', env' = [.pointer (some ⟨b, 0, none⟩), .string k, .string v, .int .u64 0, .int .i64 0, .bool true, .int .i64 z, .int .i64 z, undef, undef, y10, y11, undef, undef, undef, undef] ∧ RefAt w0 w' b ty ks vs cap L' n' xs' ∧ n' + 1 ≤ 64 ∧ Kept (fun j => j = b ∨ L.ownBlock = some j) w w' ∧ ∀ j, L'.ownBlock = some j → L.ownBlock = some j ∨ w.heap.size ≤ j
set_option maxHeartbeats 4000000 in
theorem fupdate_ret (h : RefAt w0 w b ty ks vs cap L n xs) (k v : ByteArray) (hcap : 1 ≤ cap ∧ cap ≤ 64) (hw0 : w0.heap.size ≤ w.heap.size) : Ret Tryz.prog 12 [.pointer (some ⟨b, 0, none⟩), .string k, .string v, .int .u64 0] w
    fun _ w' => RefP w0 b ty ks vs cap L w w' := by
  refine ret_of_W Tryz.func12 rfl ok_tipstaffref09_Map_DocUpdate ?_
  have hsm := h.small
  have c5 := h.c5
  have c2 := h.c2
  simp only [c_tipstaffref09_Map_DocUpdate]
  simp
  refine W_no (by simp [c5]) ?_
  simp only [W_skip, W_seq]
  try simp only [W_seq]
  refine W_calmP (vs := [.pointer (some ⟨b, 0, none⟩), .string k]) (by simp) (may_ret h k) ?_
  rintro r w1 hk1 ⟨t, rfl, ht⟩
  have h1 := h.calm hk1
  have c21 := h1.c2
  by_cases hbad : t = true ∧ (v.size : Int) = vs
  · obtain ⟨rfl, hv⟩ := hbad
    have hks := ht rfl
    refine W_no (by simp [c21, hv]) ?_
    simp only [W_skip, W_seq]
    try simp only [W_seq]
    refine W_calmP (vs := [.pointer (some ⟨b, 0, none⟩), .string k]) (by simp) (fexact_ret h1 k hks) ?_
    rintro r w2 hk2 ⟨z, rfl, hz1, hz2⟩
    have h2 := h1.calm hk2
    have hk02 := hk1.trans hk2
    have c02 := h2.c0
    simp only [W_set]
    refine ok_intro (.int .i64 z) (by simp) ?_
    try simp only [W_seq]
    refine W_no (by by_cases hz : 0 ≤ z <;> simp [hz]) ?_
    simp only [W_skip, W_seq]
    by_cases hz : 0 ≤ z
    · have hzn : ¬ z < 0 := by omega
      refine W_no (by simp [hzn]) ?_
      simp only [W_skip, W_seq]
      refine W_no (by simp [hzn]) ?_
      simp only [W_skip, W_seq]
      refine W_yes (by simp [hz]) ?_
      obtain ⟨i, rfl⟩ : ∃ i : Nat, z = i := ⟨z.toNat, by omega⟩
      simp only [W_seq]
      refine W_call0 (vs := [.pointer (some ⟨b, 0, none⟩), .int .i64 i]) (by simp) (fuse_ret h2 i (by omega) (by have := hk02.size; omega)) ?_
      rintro r w3 ⟨hk3, ⟨j, rfl, hj⟩, L3, x3, h3, ho3⟩
      simp only [W_set]
      refine ok_intro (.int .i64 j) (by simp) ?_
      try simp only [W_seq]
      have c43 := h3.c4
      have hv3 := rowVar h3.row
      obtain ⟨w4, x4, hs4, h4, hk4⟩ := h3.setV hj v
      obtain ⟨g, c, rfl, hc, _⟩ := h3.form (by omega)
      have hlt : (j : Int) < n := by omega
      refine W_store (by simp [c43, hlt]) (by simp) (hs4 g c rfl) (stab_nil _ _ _) ?_
      simp
      exact ⟨(((hk02.mono fun _ _ h => h.elim : Kept (fun j => j = b ∨ L.ownBlock = some j) w w2)).then hk3 fun j hj e => .inl e).then hk4 fun j hj e => (ho3 j e).elim .inr fun h => by have := hk02.size; omega, _, _, _, h4⟩
    · have hzn : z < 0 := by omega
      by_cases h0 : ty = 0
      · refine W_yes (by simp [hzn, c02, h0]) ?_
        simp
        exact h.same hk02
      refine W_no (by simp [hzn, c02, h0]) ?_
      simp only [W_skip, W_seq]
      refine W_no (by simp [hzn]) ?_
      simp only [W_skip, W_seq]
      refine W_no (by simp [hz]) ?_
      simp only [W_skip, W_seq, W_draw]
      have h3 := h2.calm (Kept.refl none' w2).drew
      have hk3 := hk02.drew
      have hs3 := hk3.size
      generalize w2.drew = w3 at *
      have c33 := h3.c3
      have c43 := h3.c4
      have c03 := h3.c0
      have hl3 := rowLen h3.row
      have hv3 := rowVar h3.row
      refine W_cut (RefK w0 w b ty ks vs cap L k v z) ?_ ?_
      · by_cases hfull : cap ≤ n
        · refine W_yes (by simp [c43, c33, hl3, hv3]; omega) ?_
          simp only [W_seq]
          by_cases ht2 : ty = 2
          · refine W_no (by simp [c03, ht2]) ?_
            simp only [W_skip, W_seq]
            refine W_chkIn [.pointer (some ⟨b, 0, none⟩)] (by simp) ?_
            try simp only [W_seq]
            obtain ⟨g, c, rfl, hc, hstr, hg0, curg, hgb⟩ := h3.form (by omega)
            refine row5_W fun w4 k4 r4 z4 => ?_
            have h4 := h3.calm k4
            try simp only [W_seq]
            have c44 := h4.c4
            refine app_W (g := g) (so := if c = 1 then 0 else 2) (k := n - 1) (c := c - 1) ?_ r4 (fun x hx => by simp at hx) (fun j hj => h4.cells (by omega) _ (by split <;> omega)) (by omega) (fun _ _ => stab_nil _ _ _) fun w5 v11 y11 r5 s5 k5 o5 => ?_
            · have g1 : (1 : Int) ≤ n := by omega
              have g2 : (n : Int) ≤ c := by omega
              simp [c44, g1, g2]
              split <;> rfl
            · have n4 : w3.heap.size ≠ b := by have := blk_lt h3.blk; omega
              have n5 : w3.heap.size ≠ g := by have := blk_lt hgb; omega
              have h5 := h4.keep k5 (fun e => by simp [Value.ownBlock] at e; exact n4 e) (fun j hj e => by simp [Value.ownBlock] at e hj; omega)
              have low5 : ∀ j, v11.ownBlock = some j → w.heap.size ≤ j := fun j hj => by
                rcases o5 with o | o
                · rw [o] at hj; simp [Value.ownBlock] at hj; omega
                · rw [o] at hj; cases hj; omega
              obtain ⟨w6, hs6, h6, k6⟩ := h5.setL r5 s5 (by omega) fun j hj => by have := low5 j hj; omega
              have hv11 := rowVar r5
              refine W_store (by simp) (by simp [hv11]) hs6 (stab_nil _ _ _) ?_
              simp
              have hk5 : Kept none' w w5 := (hk3.trans k4).then k5 fun j hj e => by simp [Value.ownBlock] at e; omega
              exact ⟨_, _, _, _, _, rfl, h6, by omega, ((hk5.mono fun _ _ h => h.elim : Kept (fun j => j = b ∨ (Value.slice (some ⟨g, 0, none⟩) n c).ownBlock = some j) w w5)).then k6 fun j hj e => .inl e, fun j hj => .inr (low5 j hj)⟩
          · refine W_yes (by simp [c03, ht2]) ?_
            simp
            exact h.same hk3
        · refine W_no (by simp [c43, c33, hl3, hv3]; omega) ?_
          simp
          exact ⟨_, _, _, _, _, rfl, h3, by omega, hk3.mono fun _ _ h => h.elim, fun j hj => .inl hj⟩
      · rintro env' w4 ⟨y10, y11, L4, n4, x4, rfl, h4, hn4, hk4, ho4⟩
        simp only [W_seq, W_draw]
        have h5 := h4.calm (Kept.refl none' w4).drew
        have hk5 := hk4.drew
        have hs5 := hk5.size
        generalize w4.drew = w5 at *
        have c45 := h5.c4
        have hv5 := rowVar h5.row
        simp only [W_set]
        refine ok_intro L4 (by simp [c45, hv5]) ?_
        try simp only [W_seq]
        refine W_chkIn [.string v] (by simp) ?_
        try simp only [W_seq]
        refine W_calmP (vs := [.pointer (some ⟨b, 0, none⟩), .string k]) (by simp) (fplain_ret h5 k hks) ?_
        rintro r w6 hk6 ⟨s, rfl⟩
        have h6 := h5.calm hk6
        try simp only [W_seq]
        refine W_chkIn [.agg #[.string s, .string v]] (by simp) ?_
        try simp only [W_seq]
        refine W_row' (v := .agg #[.string s, .string v]) (cs := #[.string s, .string v]) (by simp) rfl ?_
        have hrp := hp_new w6 (.cells #[.string s, .string v] 86)
        have hk7 : Kept none' w6 (w6.alloc (.cells #[.string s, .string v] 86)) := (Kept.refl _ _).alloc _
        generalize hz : w6.heap.size = rp at *
        generalize w6.alloc (.cells #[.string s, .string v] 86) = w7 at *
        have h7 := h6.calm hk7
        have hs6 := hk6.size
        try simp only [W_seq]
        refine app_W (g := rp) (so := 0) (k := 1) (c := 1) (by simp [hv5]) h7.row h7.strs (fun j hj => ?_) (by omega) (fun _ _ => stab_nil _ _ _) fun w8 v15 y15 r8 s8 k8 o8 => ?_
        · rw [Nat.zero_add, wcell_of hrp]
          have : j = 0 ∨ j = 1 := by omega
          rcases this with rfl | rfl
          · exact ⟨s, rfl⟩
          · exact ⟨v, rfl⟩
        · have hs7 := hk7.size
          have hkw7 : Kept (fun j => j = b ∨ L.ownBlock = some j) w w7 := (hk5.trans (hk6.mono fun _ _ h => h.elim)).trans (hk7.mono fun _ _ h => h.elim)
          have h8b : w8.heap[b]? = _ := k8.has h7.blk fun e => h7.gne e rfl
          have hst : ∃ w9, stv w8 1 (.pointer (some ⟨b, 4, none⟩)) v15 = some w9 ∧ RefAt w0 w9 b ty ks vs cap v15 (n4 + 1) y15 ∧ Kept (· = b) w8 w9 := setL' h8b r8 s8 hn4 h7.low.1 h7.keys fun j hj => by
            rcases o8 with o | o
            · exact h7.low.2 j (o ▸ hj)
            · rw [o] at hj; cases hj; omega
          obtain ⟨w9, hs9, h9, k9⟩ := hst
          have hv15 := rowVar r8
          refine W_store (by simp) (by simp [hv15]) hs9 (stab_nil _ _ _) ?_
          simp
          refine ⟨(hkw7.then k8 fun j hj e => ?_).then k9 fun j hj e => .inl e, _, _, _, h9⟩
          rcases ho4 j e with h | h
          · exact .inr h
          · omega
  · refine W_yes ?_ ?_
    · cases t with
      | false => simp
      | true =>
        have : ¬ (v.size : Int) = vs := fun e => hbad ⟨rfl, e⟩
        simp [c21, this]
    simp
    exact h.same hk1
set_option maxHeartbeats 4000000 in
theorem fpush_ret (h : RefAt w0 w b ty ks vs cap L n xs) (v : ByteArray) (hcap : 1 ≤ cap ∧ cap ≤ 64) (hw0 : w0.heap.size ≤ w.heap.size) : Ret Tryz.prog 14 [.pointer (some ⟨b, 0, none⟩), .string v, .int .u64 0] w
    fun _ w' => RefP w0 b ty ks vs cap L w w' := by
  refine ret_of_W Tryz.func14 rfl ok_tipstaffref09_Map_DocPush ?_
  have hsm := h.small
  have c5 := h.c5
  have c2 := h.c2
  have c0 := h.c0
  simp only [c_tipstaffref09_Map_DocPush]
  simp
  refine W_no (by simp [c5]) ?_
  simp only [W_skip, W_seq]
  by_cases hgo : (ty = 3 ∨ ty = 4) ∧ (v.size : Int) = vs
  · obtain ⟨ht, hv⟩ := hgo
    refine W_no (by rcases ht with rfl | rfl <;> simp [c0, c2, hv]) ?_
    simp only [W_skip, W_seq, W_draw]
    have h3 := h.calm (Kept.refl none' w).drew
    have hk3 : Kept none' w w.drew := (Kept.refl _ _).drew
    generalize w.drew = w3 at *
    have c33 := h3.c3
    have c43 := h3.c4
    have hl3 := rowLen h3.row
    have hv3 := rowVar h3.row
    by_cases hfull : cap ≤ n
    · refine W_yes (by simp [c43, c33, hl3, hv3]; omega) ?_
      simp
      exact h.same hk3
    · refine W_no (by simp [c43, c33, hl3, hv3]; omega) ?_
      simp only [W_skip, W_seq, W_set]
      refine ok_intro L (by simp [c43, hv3]) ?_
      try simp only [W_seq]
      refine W_chkIn [.agg #[.string ⟨#[]⟩, .string v]] (by simp) ?_
      try simp only [W_seq]
      refine W_row' (v := .agg #[.string ⟨#[]⟩, .string v]) (cs := #[.string ⟨#[]⟩, .string v]) (by simp) rfl ?_
      have hrp := hp_new w3 (.cells #[.string ⟨#[]⟩, .string v] 86)
      have hk7 : Kept none' w3 (w3.alloc (.cells #[.string ⟨#[]⟩, .string v] 86)) := (Kept.refl _ _).alloc _
      generalize hz : w3.heap.size = rp at *
      generalize w3.alloc (.cells #[.string ⟨#[]⟩, .string v] 86) = w7 at *
      have h7 := h3.calm hk7
      have hs3 := hk3.size
      have hs7 := hk7.size
      try simp only [W_seq]
      refine app_W (g := rp) (so := 0) (k := 1) (c := 1) (by simp [hv3]) h7.row h7.strs (fun j hj => ?_) (by omega) (fun _ _ => stab_nil _ _ _) fun w8 v15 y15 r8 s8 k8 o8 => ?_
      · rw [Nat.zero_add, wcell_of hrp]
        have : j = 0 ∨ j = 1 := by omega
        rcases this with rfl | rfl
        · exact ⟨_, rfl⟩
        · exact ⟨v, rfl⟩
      · have hkw7 : Kept (fun j => j = b ∨ L.ownBlock = some j) w w7 := (hk3.trans hk7).mono fun _ _ h => h.elim
        have h8b : w8.heap[b]? = _ := k8.has h7.blk fun e => h7.gne e rfl
        obtain ⟨w9, hs9, h9, k9⟩ := setL' (w0 := w0) h8b r8 s8 (by omega) h7.low.1 h7.keys fun j hj => by
          rcases o8 with o | o
          · exact h7.low.2 j (o ▸ hj)
          · rw [o] at hj; cases hj; omega
        have hv15 := rowVar r8
        refine W_store (by simp) (by simp [hv15]) hs9 (stab_nil _ _ _) ?_
        simp
        exact ⟨(hkw7.then k8 fun j hj e => .inr e).then k9 fun j hj e => .inl e, _, _, _, h9⟩
  · refine W_yes ?_ ?_
    · by_cases h3 : ty = 3
      · have : ¬ (v.size : Int) = vs := fun e => hgo ⟨.inl h3, e⟩
        simp [c0, c2, h3, this]
      · by_cases h4 : ty = 4
        · have : ¬ (v.size : Int) = vs := fun e => hgo ⟨.inr h4, e⟩
          simp [c0, c2, h4, this]
        · simp [c0, c2, h3, h4]
    simp
    exact h.same (Kept.refl _ _)
end
end Go.Proofs.YtmfgdbapankamaaGreat
