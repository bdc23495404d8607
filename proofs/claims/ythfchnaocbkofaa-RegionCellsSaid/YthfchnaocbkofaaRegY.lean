/- Layer 19: saves in cells of maps; what is refused; New with a map. -/
import Derived.Test.YthfchnaocbkofaaRegX
set_option linter.unusedSimpArgs false
set_option linter.unusedVariables false
set_option maxRecDepth 8000
namespace Go.Proofs.Ythfchnaocbkofaa
open Go.Eng

theorem VBytes.keep {w w' : World} {vb V : Nat} {x : Nat → Int} {S : Nat → Prop} (h : VBytes w vb V x) (hk : Kept S w w') (hS : ¬ S vb) : VBytes w' vb V x := by
  obtain ⟨cs, h1, h2⟩ := h
  exact ⟨cs, hk.has h1 hS, h2⟩

/-- The bytes behind a save of a number in a cell. -/
def saveV (x : Nat → Int) (V : Nat) (s k n : Int) : (Nat → Int) × Int := if sizeOk k ∧ 0 ≤ s ∧ s + k ≤ V then (putN x s.toNat (s.toNat + k.toNat) n, 0) else (x, 14)

theorem save_cell (b cb vb V c mb : Nat) (m : RMem) (M : BMap) (bs : List Nat) (x : Nat → Int) (a : RVal) (n off k : Int) (w : World) (hm : IsMem w b m) (hmaps : MapsAt w m.maps bs) (h5 : a.tag = 5) (hc : a.cell = some ⟨cb, 0, none⟩) (hs : mapAt bs a.slot = some mb)
    (hM : MapAt w mb M) (hf : M.frozen = false) (hb : CellBox w cb vb V c) (hv : VBytes w vb V x) (hV : V ≤ 1000) (hn : 0 ≤ n) (ho1 : -9223372036854775808 ≤ off) (ho2 : off ≤ 9223372036854775807) :
    Ret Try.prog 12 [.pointer (some ⟨b, 0, none⟩), a.val, .int .i64 off, .int .i64 k, (RVal.mk 1 n 0 none).val] w
      fun r w' => Kept (· = vb) w w' ∧ r = .int .i64 (saveV x V (IntKind.i64.wrap a.n + off) k n).2 ∧ VBytes w' vb V (saveV x V (IntKind.i64.wrap a.n + off) k n).1 := by
  refine ret_of_W Try.func12 rfl ok_region_Memory_Save ?_
  have hb' := blk_lt hm
  simp only [c_region_Memory_Save]
  generalize hvv : RVal.mk 1 n 0 none = v
  have ht : v.tag = 1 := by rw [← hvv]
  have hvn : v.n = n := by rw [← hvv]
  have h6 := hp_new w (.cells a.arr 43)
  have h4 := hp_new (w.alloc (.cells a.arr 43)) (.cells v.arr 43)
  have h6' := hp_old h6 (.cells v.arr 43)
  have hk0 : Kept none' w ((w.alloc (.cells a.arr 43)).alloc (.cells v.arr 43)) := ((Kept.refl _ _).alloc _).alloc _
  rw [alloc_size] at h4
  simp
  generalize (w.alloc (.cells a.arr 43)).alloc (.cells v.arr 43) = w2 at h4 h6' hk0 ⊢
  have hb2 : CellBox w2 cb vb V c := ⟨hb.1, hk0.has hb.2 (fun h => h)⟩
  refine W_call0 (by simp) (sized_ret k w2) ?_
  rintro r w3 ⟨rfl, rfl⟩
  simp
  by_cases hs1 : sizeOk k
  · have hs' := hs1
    unfold sizeOk at hs'
    refine W_no (by simp [wcell_of h4, ht]; omega) ?_
    simp
    refine W_call0 (by simp [rval_row h6']) (view_cell b cb vb V c a off k w3 h5 hc hb2 hV ho1 ho2 (by omega) (by omega)) ?_
    rintro r w4 ⟨hk1, hr⟩
    have hk2 := hk0.trans hk1
    have h4' := hk1.has h4 (fun h => h)
    have h6'' := hk1.has h6' (fun h => h)
    generalize hN : IntKind.i64.wrap a.n = N at *
    by_cases hin : 0 ≤ N + off ∧ N + off + k ≤ V
    · rw [if_pos hin] at hr
      obtain ⟨f, hf', rfl⟩ := hr
      have hcV := hb.1
      have hne : ¬ (c = f) := by omega
      simp [hne, rval_row h6'']
      refine W_yes (by simp) ?_
      refine W_call0 (by simp [rval_row h6'']) (writes_cell b mb m bs M a w4 (hk2.has hm (fun h => h)) (hmaps.keep hk2 (fun _ _ h => h)) h5 hs (hM.calm hk2)) ?_
      rintro r w5 ⟨rfl, hk3⟩
      have hk4 := hk2.trans hk3
      have h4'' := hk3.has h4' (fun h => h)
      have h6x := hk3.has h6'' (fun h => h)
      simp [hf]
      refine W_no (by simp) ?_
      simp
      have hff : (N + off).toNat = f := by omega
      obtain ⟨k, rfl⟩ : ∃ k' : Nat, k = k' := ⟨k.toNat, by omega⟩
      refine W_yes (by simp [wcell_of h4'', ht]) ?_
      simp
      refine W_call0 (by simp [rval_row h6x, wcell_of h4'']) (number_cell b vb V (c - f) a f k v.n x w5 (by omega) (by omega) (by omega) (by omega) (hv.keep hk4 (fun h => h))) ?_
      rintro r w6 ⟨rfl, hk5, hv6⟩
      simp
      have hl : saveV x V (N + off) k n = (putN x f (f + k) n, 0) := by
        unfold saveV
        rw [hff, if_pos ⟨hs1, hin⟩]
        simp
      rw [hl]
      rw [hvn] at hv6
      exact ⟨(hk4.mono fun _ _ h => h.elim).trans hk5, rfl, hv6⟩
    · rw [if_neg hin] at hr
      subst hr
      simp
      refine W_no (by simp) ?_
      simp
      refine W_yes (by simp) ?_
      have : ¬ (sizeOk k ∧ 0 ≤ N + off ∧ N + off + k ≤ V) := fun h => hin h.2
      simp [saveV, this]
      exact ⟨hk2.mono fun _ _ h => h.elim, hv.keep hk2 (fun h => h)⟩
  · have hs' := hs1
    unfold sizeOk at hs'
    refine W_yes (by simp [wcell_of h4, ht]; omega) ?_
    have : ∀ s, ¬ (sizeOk k ∧ 0 ≤ s ∧ s + k ≤ V) := fun s h => hs1 h.1
    simp [saveV, this]
    exact ⟨hk0.mono fun _ _ h => h.elim, hv.keep hk0 (fun h => h)⟩

/-- What isn't saved, for a view that is there or not, and a place that may be written or not. -/
theorem save_no (b : Nat) (a v : RVal) (wr : Bool) (off k : Int) (w : World) (ht0 : 0 < v.tag) (ht5 : v.tag ≤ 5) (ha : a.tag ≠ 3) (hno : wr = false ∨ v.tag ≠ 1)
    (hview : ∀ w', Kept none' w w' → sizeOk k → Ret Try.prog 27 [.pointer (some ⟨b, 0, none⟩), a.val, .int .i64 off, .int .i64 k] w'
      fun r w2 => Kept none' w' w2 ∧ ((∃ q o n c f : Nat, r = .tuple #[.slice (some ⟨q, o, none⟩) n c, .int .i64 f, .bool true]) ∨ r = .tuple #[.slice none 0 0, .int .i64 0, .bool false]))
    (hw : ∀ w', Kept none' w w' → Ret Try.prog 31 [.pointer (some ⟨b, 0, none⟩), a.val] w' fun r w2 => r = .bool wr ∧ Kept none' w' w2) :
    Ret Try.prog 12 [.pointer (some ⟨b, 0, none⟩), a.val, .int .i64 off, .int .i64 k, v.val] w fun r w' => r = .int .i64 14 ∧ Kept none' w w' := by
  refine ret_of_W Try.func12 rfl ok_region_Memory_Save ?_
  simp only [c_region_Memory_Save]
  have h6 := hp_new w (.cells a.arr 43)
  have h4 := hp_new (w.alloc (.cells a.arr 43)) (.cells v.arr 43)
  have h6' := hp_old h6 (.cells v.arr 43)
  have hk0 : Kept none' w ((w.alloc (.cells a.arr 43)).alloc (.cells v.arr 43)) := ((Kept.refl _ _).alloc _).alloc _
  rw [alloc_size] at h4
  simp
  generalize (w.alloc (.cells a.arr 43)).alloc (.cells v.arr 43) = w2 at h4 h6' hk0 ⊢
  refine W_call0 (by simp) (sized_ret k w2) ?_
  rintro r w3 ⟨rfl, rfl⟩
  simp
  by_cases hs1 : sizeOk k
  · have hs' := hs1
    unfold sizeOk at hs'
    refine W_no (by simp [wcell_of h4]; omega) ?_
    simp
    refine W_call0 (by simp [rval_row h6']) (hview w3 hk0 hs1) ?_
    rintro r w4 ⟨hk1, hr⟩
    have hk2 := hk0.trans hk1
    have h4' := hk1.has h4 (fun h => h)
    have h6'' := hk1.has h6' (fun h => h)
    rcases hr with ⟨q, o, n, c, f, rfl⟩ | rfl
    · simp [rval_row h6'']
      refine W_yes (by simp) ?_
      refine W_call0 (by simp [rval_row h6'']) (hw w4 hk2) ?_
      rintro r w5 ⟨rfl, hk3⟩
      have hk4 := hk2.trans hk3
      have h4'' := hk3.has h4' (fun h => h)
      have h6x := hk3.has h6'' (fun h => h)
      simp
      cases wr
      · refine W_yes (by simp) ?_
        simp
        exact hk4
      · have ht : v.tag ≠ 1 := by simpa using hno
        refine W_no (by simp) ?_
        simp
        refine W_no (by simp [wcell_of h4'', ht]) ?_
        simp
        refine W_call0 (by simp [rval_row h6x]) (exact_ret a f k w5) ?_
        rintro r w6 ⟨rfl, hk5⟩
        simp
        refine W_yes (by simp [ha]) ?_
        simp
        exact hk4.trans hk5
    · simp
      refine W_no (by simp) ?_
      simp
      refine W_yes (by simp) ?_
      simp
      exact hk2
  · have hs' := hs1
    unfold sizeOk at hs'
    refine W_yes (by simp [wcell_of h4]; omega) ?_
    simp
    exact hk0

theorem save_cell_no (b cb vb V c mb : Nat) (m : RMem) (M : BMap) (bs : List Nat) (a v : RVal) (off k : Int) (w : World) (hm : IsMem w b m) (hmaps : MapsAt w m.maps bs) (h5 : a.tag = 5) (hc : a.cell = some ⟨cb, 0, none⟩) (hs : mapAt bs a.slot = some mb)
    (hM : MapAt w mb M) (hb : CellBox w cb vb V c) (hV : V ≤ 1000) (ht0 : 0 < v.tag) (ht5 : v.tag ≤ 5) (hno : M.frozen = true ∨ v.tag ≠ 1) (ho1 : -9223372036854775808 ≤ off) (ho2 : off ≤ 9223372036854775807) :
    Ret Try.prog 12 [.pointer (some ⟨b, 0, none⟩), a.val, .int .i64 off, .int .i64 k, v.val] w fun r w' => r = .int .i64 14 ∧ Kept none' w w' := by
  refine save_no b a v (!M.frozen) off k w ht0 ht5 (by omega) (by simpa using hno) (fun w' hk hs1 => ?_) (fun w' hk => writes_cell b mb m bs M a w' (hk.has hm (fun h => h)) (hmaps.keep hk (fun _ _ h => h)) h5 hs (hM.calm hk))
  unfold sizeOk at hs1
  refine (view_cell b cb vb V c a off k w' h5 hc ⟨hb.1, hk.has hb.2 (fun h => h)⟩ hV ho1 ho2 (by omega) (by omega)).mono ?_
  rintro r w2 ⟨h1, h2⟩
  refine ⟨h1, ?_⟩
  split at h2
  · obtain ⟨f, _, rfl⟩ := h2
    left
    by_cases h : c = f
    · exact ⟨vb, 0, _, _, f, by rw [if_pos h]⟩
    · exact ⟨vb, _, _, _, f, by rw [if_neg h]⟩
  · exact .inr h2

theorem writes_ctx (b : Nat) (a : RVal) (w : World) (ha : a.tag = 2) : Ret Try.prog 31 [.pointer (some ⟨b, 0, none⟩), a.val] w fun v w' => v = .bool false ∧ Kept none' w w' := by
  refine ret_of_W Try.func31 rfl ok_region_Memory_writes ?_
  simp [c_region_Memory_writes]
  refine W_no (by simp [ha]) ?_
  simp [ha]
  exact (Kept.refl _ _).alloc _

theorem save_ctx_no (b : Nat) (a v : RVal) (off k : Int) (w : World) (ha : a.tag = 2) (ht0 : 0 < v.tag) (ht5 : v.tag ≤ 5) (ho1 : -9223372036854775808 ≤ off) (ho2 : off ≤ 9223372036854775807) :
    Ret Try.prog 12 [.pointer (some ⟨b, 0, none⟩), a.val, .int .i64 off, .int .i64 k, v.val] w fun r w' => r = .int .i64 14 ∧ Kept none' w w' := by
  refine save_no b a v false off k w ht0 ht5 (by omega) (.inl rfl) (fun w' hk hs1 => ?_) (fun w' hk => writes_ctx b a w' ha)
  unfold sizeOk at hs1
  refine (view_ctx b a off k w' ha ho1 ho2 (by omega) (by omega)).mono ?_
  rintro r w2 ⟨h1, h2⟩
  refine ⟨h1, ?_⟩
  split at h2
  · obtain ⟨f, _, rfl⟩ := h2
    left
    by_cases h : 32 = f
    · exact ⟨b, 0, _, _, f, by rw [if_pos h]⟩
    · exact ⟨b, _, _, _, f, by rw [if_neg h]⟩
  · exact .inr h2

/-- What isn't filled. -/
theorem fill_no (b n c : Nat) (sa : Option Addr) (a : RVal) (w : World) (hn : n ≤ 64)
    (hview : ∀ w', Kept none' w w' → Ret Try.prog 27 [.pointer (some ⟨b, 0, none⟩), a.val, .int .i64 0, .int .i64 n] w'
      fun r w2 => Kept none' w' w2 ∧ ((∃ q o n c f : Nat, r = .tuple #[.slice (some ⟨q, o, none⟩) n c, .int .i64 f, .bool true]) ∨ r = .tuple #[.slice none 0 0, .int .i64 0, .bool false]))
    (hw : ∀ w', Kept none' w w' → Ret Try.prog 31 [.pointer (some ⟨b, 0, none⟩), a.val] w' fun r w2 => r = .bool false ∧ Kept none' w' w2) :
    Ret Try.prog 15 [.pointer (some ⟨b, 0, none⟩), a.val, .slice sa n c] w fun r w' => r = .int .i64 14 ∧ Kept none' w w' := by
  refine ret_of_W Try.func15 rfl ok_region_Memory_Fill ?_
  simp only [c_region_Memory_Fill]
  have h5 := hp_new w (.cells a.arr 43)
  have hk0 : Kept none' w (w.alloc (.cells a.arr 43)) := (Kept.refl _ _).alloc _
  simp
  generalize w.alloc (.cells a.arr 43) = w2 at h5 hk0 ⊢
  refine W_call0 (by simp [rval_row h5]) (hview w2 hk0) ?_
  rintro r w3 ⟨hk1, hr⟩
  have hk2 := hk0.trans hk1
  have h5' := hk1.has h5 (fun h => h)
  have hn64 : ¬ (64 < (n : Int)) := by omega
  rcases hr with ⟨q, o, n', c', f, rfl⟩ | rfl
  · simp [hn64, rval_row h5']
    refine W_yes (by simp [hn64]) ?_
    refine W_call0 (by simp [rval_row h5']) (hw w3 hk2) ?_
    rintro v w4 ⟨rfl, hk3⟩
    simp
    refine W_yes (by simp [hn64]) ?_
    simp
    exact hk2.trans hk3
  · simp
    refine W_no (by simp) ?_
    simp
    refine W_yes (by simp) ?_
    simp
    exact hk2

theorem fill_cell_no (b cb vb V c mb n sc : Nat) (sa : Option Addr) (m : RMem) (M : BMap) (bs : List Nat) (a : RVal) (w : World) (hm : IsMem w b m) (hmaps : MapsAt w m.maps bs) (h5 : a.tag = 5) (hc : a.cell = some ⟨cb, 0, none⟩) (hs : mapAt bs a.slot = some mb)
    (hM : MapAt w mb M) (hb : CellBox w cb vb V c) (hV : V ≤ 1000) (hf : M.frozen = true) (hn : n ≤ 64) :
    Ret Try.prog 15 [.pointer (some ⟨b, 0, none⟩), a.val, .slice sa n sc] w fun r w' => r = .int .i64 14 ∧ Kept none' w w' := by
  refine fill_no b n sc sa a w hn (fun w' hk => ?_) (fun w' hk => (writes_cell b mb m bs M a w' (hk.has hm (fun h => h)) (hmaps.keep hk (fun _ _ h => h)) h5 hs (hM.calm hk)).mono (by rintro r w2 ⟨rfl, h⟩; rw [hf]; exact ⟨rfl, h⟩))
  refine (view_cell b cb vb V c a 0 n w' h5 hc ⟨hb.1, hk.has hb.2 (fun h => h)⟩ hV (by omega) (by omega) (by omega) (by omega)).mono ?_
  rintro r w2 ⟨h1, h2⟩
  refine ⟨h1, ?_⟩
  split at h2
  · obtain ⟨f, _, rfl⟩ := h2
    left
    by_cases h : c = f
    · exact ⟨vb, 0, _, _, f, by rw [if_pos h]⟩
    · exact ⟨vb, _, _, _, f, by rw [if_neg h]⟩
  · exact .inr h2

theorem fill_ctx_no (b n sc : Nat) (sa : Option Addr) (a : RVal) (w : World) (ha : a.tag = 2) (hn : n ≤ 64) :
    Ret Try.prog 15 [.pointer (some ⟨b, 0, none⟩), a.val, .slice sa n sc] w fun r w' => r = .int .i64 14 ∧ Kept none' w w' := by
  refine fill_no b n sc sa a w hn (fun w' hk => ?_) (fun w' hk => writes_ctx b a w' ha)
  refine (view_ctx b a 0 n w' ha (by omega) (by omega) (by omega) (by omega)).mono ?_
  rintro r w2 ⟨h1, h2⟩
  refine ⟨h1, ?_⟩
  split at h2
  · obtain ⟨f, _, rfl⟩ := h2
    left
    by_cases h : 32 = f
    · exact ⟨b, 0, _, _, f, by rw [if_pos h]⟩
    · exact ⟨b, _, _, _, f, by rw [if_neg h]⟩
  · exact .inr h2
end Go.Proofs.Ythfchnaocbkofaa
