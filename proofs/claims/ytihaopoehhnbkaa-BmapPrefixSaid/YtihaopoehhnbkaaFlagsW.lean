/- BmapFlags: the walk. -/
import Derived.Test.YtihaopoehhnbkaaBmL
import Derived.Test.YtihaopoehhnbkaaCmdsFlags
set_option linter.unusedSimpArgs false
set_option linter.unusedVariables false
set_option maxRecDepth 8000
namespace Go.Proofs.Ytihaopoehhnbkaa
open Go.Eng

/-- A slice of bytes that is given. -/
def Octs (w : World) (v : Value) (xs : List Int) : Prop :=
  ∃ (a : Option Addr) (n c : Nat), v = .slice a n c ∧ n = xs.length ∧ n ≤ c ∧ n ≤ 9223372036854775807 ∧ (∀ i, 0 ≤ xs.getD i 0 ∧ xs.getD i 0 ≤ 255) ∧ (n = 0 ∨ ∃ b off, a = some ⟨b, off, none⟩ ∧ ∀ i, i < n → wcell w b (off + i) = some (.int .u8 (xs.getD i 0)))

theorem ok_intro {α : Type} {o : Option α} {F : α → Prop} (v : α) (h : o = some v) (hF : F v) : Ok o F := by rw [h]; exact hF

def bools (n : Nat) (t : Nat → Bool) : Array Value := Array.ofFn (n := n) fun i => .bool (t i.val)
theorem bools_at (n : Nat) (t : Nat → Bool) (i : Nat) (h : i < n) : (bools n t)[i]? = some (.bool (t i)) := by simp [bools, h]
theorem bools_size (n : Nat) (t : Nat → Bool) : (bools n t).size = n := by simp [bools]
theorem bools_set (n : Nat) (t : Nat → Bool) (i : Nat) (x : Bool) (h : i < n) : (bools n t).setIfInBounds i (.bool x) = bools n (fset t i x) := by
  apply Array.ext_getElem?
  intro j
  have hs := bools_size n t
  rw [Array.getElem?_setIfInBounds]
  by_cases hj : j < n
  · rw [bools_at _ _ _ hj, bools_at _ _ _ hj]
    by_cases hij : i = j
    · subst hij; rw [if_pos rfl, if_pos (by omega), fset_same]
    · rw [if_neg hij, fset_other _ _ (fun q => hij q.symm)]
  · have e2 : (bools n (fset t i x))[j]? = none := by simp [bools_size]; omega
    have e1 : (bools n t)[j]? = none := by simp [bools_size]; omega
    rw [e1, e2]
    split
    · omega
    · rfl
theorem bools_new (n : Nat) : Array.replicate n (Value.bool false) = bools n (fun _ => false) := by
  apply Array.ext_getElem?
  intro j
  by_cases hj : j < n
  · rw [bools_at _ _ _ hj]; simp [hj]
  · have e2 : (bools n (fun _ => false))[j]? = none := by simp [bools_size]; omega
    rw [e2]; simp; omega

structure FlSt (w0 w : World) (b p : Nat) (t : Nat → Bool) (M : BMap) (c : Int) : Prop where
  mp : Mp w0 w b M
  ty : M.ty = 1
  ks : M.ks = 1
  vs : M.vs = 1
  cap : M.cap = 3
  fr : M.frozen = false
  blk : w.heap[p]? = some (.cells (bools 6 t) 73 (0, 0))
  low : w0.heap.size ≤ p
  there : ∀ k, k < 6 → (t k = true ↔ ∃ e ∈ M.l, e.key = key1 k)
  clock : M.clock ≤ c
  few : M.l.length ≤ 3

theorem FlSt.calm {w0 w w' : World} {b p : Nat} {t : Nat → Bool} {M : BMap} {c : Int} (h : FlSt w0 w b p t M c) (hk : Kept none' w w') : FlSt w0 w' b p t M c :=
  ⟨h.mp.calm hk, h.ty, h.ks, h.vs, h.cap, h.fr, hk.has h.blk (fun h => h), h.low, h.there, h.clock, h.few⟩

/-- The block of truths is no map's. -/
theorem FlSt.out {w0 w : World} {b p : Nat} {t : Nat → Bool} {M : BMap} {c : Int} (h : FlSt w0 w b p t M c) : ¬ M.own b p := by
  have hm := h.mp.map
  rintro (rfl | ho | ⟨e, he, rfl | rfl | rfl⟩)
  · exact heap_ne h.blk hm.blk (by decide) rfl
  · rcases hm.row with ⟨hL, _⟩ | ⟨g, cap, cur, hL, hg, _⟩
    · rw [hL] at ho; simp [Value.ownBlock] at ho
    · rw [hL] at ho
      simp [Value.ownBlock] at ho
      subst ho
      exact heap_ne h.blk hg (by decide) rfl
  · exact heap_ne h.blk (hm.ents e he).ent (by decide) rfl
  · obtain ⟨c, _, hc⟩ := (hm.ents e he).cell
    exact heap_ne h.blk hc (by decide) rfl
  · obtain ⟨c, hc, _⟩ := (hm.ents e he).val
    exact heap_ne h.blk hc (by decide) rfl

def wantOf (t : Bool) (f n : Nat) : Int := if t = true ∧ f = 1 then 17 else if t = false ∧ f = 2 then 2 else if t = false ∧ n = 3 then 7 else 0

set_option maxHeartbeats 4000000 in
theorem flags_ret (v0 v1 : Value) (xs ys : List Int) (w : World) (h0 : Octs w v0 xs) (h1 : Octs w v1 ys) : Ret Try.prog 8 [v0, v1] w fun v w' => v = .bool true ∧ Kept none' w w' := by
  refine ret_of_W Try.func8 rfl ok_tipstafflaw09_BmapFlags ?_
  obtain ⟨ra, rn, rc, rfl, hrn, hrc, hrmax, hrx, hrow⟩ := h0
  obtain ⟨fa, fn, fc, rfl, hfn, hfc, hfmax, hfx, hfrow⟩ := h1
  simp [c_tipstafflaw09_BmapFlags, bools_new]
  refine W_call0 (by simp; rfl) (newmap_ret 1 1 1 3 w (by unfold specOk; omega) (by decide)) ?_
  rintro v w1 ⟨b, rfl, hb, hk1, hm1⟩
  simp
  refine W_call0 (by simp) (maps_ret w1) ?_
  rintro v w2 ⟨rfl, hk2⟩
  simp
  refine W_no (by simp) ?_
  simp
  have hMp2 : Mp w w2 b (newM 1 1 1 3) := ⟨hk1.trans hk2, hm1.calm hk2, fun i hi => by
      rcases hi with rfl | hi | ⟨e, he, _⟩
      · exact hb
      · simp [newM, Value.ownBlock] at hi
      · simp [newM] at he⟩
  have hblk := hp_new w2 (.cells (bools 6 (fun _ => false)) 73)
  have hMp3 := hMp2.calm ((Kept.refl none' w2).alloc (.cells (bools 6 (fun _ => false)) 73))
  have hs2 := hMp2.kept.size
  have hSt : FlSt w (w2.alloc (.cells (bools 6 (fun _ => false)) 73)) b w2.heap.size (fun _ => false) (newM 1 1 1 3) 0 :=
    ⟨hMp3, rfl, rfl, rfl, rfl, rfl, hblk, hs2, fun k hk => by simp [newM], by simp [newM], by simp [newM]⟩
  generalize w2.alloc (.cells (bools 6 (fun _ => false)) 73) = w3 at hSt ⊢
  generalize w2.heap.size = p at hSt ⊢
  refine W_loop (fun env w' => ∃ (i : Nat) (t : Nat → Bool) (M : BMap), env = [.slice ra rn rc, .slice fa fn fc, undef, undef, .pointer (some ⟨b, 0, none⟩), undef, undef, .pointer (some ⟨p, 0, none⟩), .int .i64 M.l.length, .int .i64 i, undef, undef, undef, undef, undef, undef, undef, undef, undef, undef] ∧
      i ≤ 30 ∧ FlSt w w' b p t M i) (fun env _ => 30 - natAt env 9) ?_ ?_
  · exact ⟨0, _, newM 1 1 1 3, by simp [newM], by omega, hSt⟩
  rintro env w4 ⟨i, t, M, rfl, hi, hS⟩
  by_cases hgo : i < rn ∧ i < 30
  · simp
    refine W_yes (by simp; omega) ?_
    obtain ⟨rb, ro, rfl, hcells⟩ := hrow.resolve_left (by omega)
    have hx := wcell_kept hS.mp.kept (fun h => h) (hcells i hgo.1)
    have hxr := hrx i
    generalize xs.getD i 0 = x at hx hxr
    obtain ⟨k, hk6, hk⟩ : ∃ k : Nat, k < 6 ∧ x.tmod 6 = k := ⟨(x % 6).toNat, by omega, by rw [Int.tmod_eq_emod_of_nonneg hxr.1]; omega⟩
    simp [hgo.1, hx, hk]
    refine W_cut (fun env w' => w' = w4 ∧ ∃ f : Nat, f < 3 ∧ env = [.slice (some ⟨rb, ro, none⟩) rn rc, .slice fa fn fc, undef, undef, .pointer (some ⟨b, 0, none⟩), undef, undef, .pointer (some ⟨p, 0, none⟩), .int .i64 M.l.length, .int .i64 i, .int .u8 k, .int .u64 f, undef, undef, undef, undef, undef, undef, undef, undef]) ?_ ?_
    · refine W_cond (t := decide (i < fn)) (by simp) ?_ ?_
      · intro hif
        have hif' : i < fn := by simpa using hif
        obtain ⟨fb, fo, rfl, hfcells⟩ := hfrow.resolve_left (by omega)
        have hy := wcell_kept hS.mp.kept (fun h => h) (hfcells i hif')
        have hyr := hfx i
        generalize ys.getD i 0 = y at hy hyr
        obtain ⟨f, hf3, hf⟩ : ∃ f : Nat, f < 3 ∧ y.tmod 3 = f := ⟨(y % 3).toNat, by omega, by rw [Int.tmod_eq_emod_of_nonneg hyr.1]; omega⟩
        have ef : IntKind.u64.wrap (f : Int) = f := u64w (by omega) (by omega)
        simp [hif', hy, hf, ef]
        exact ⟨f, hf3, rfl⟩
      · intro hif
        simp
        exact ⟨0, by omega, rfl⟩
    rintro env w5 ⟨rfl, f, hf3, rfl⟩
    have hS0 := hS
    have hbl := hS.blk
    have hbk := bools_at 6 t k hk6
    have hk6' : (k : Int) < 6 := by omega
    rw [W_seq, W_set]
    refine ok_intro (.int .i64 0) (by simp) ?_
    rw [W_seq]
    refine W_cut (fun env w' => w' = w5 ∧ ∃ y13 y14 y15 : Value, env = [.slice (some ⟨rb, ro, none⟩) rn rc, .slice fa fn fc, undef, undef, .pointer (some ⟨b, 0, none⟩), undef, undef, .pointer (some ⟨p, 0, none⟩), .int .i64 M.l.length, .int .i64 i, .int .u8 k, .int .u64 f, .int .i64 (wantOf (t k) f M.l.length), y13, y14, y15, undef, undef, undef, undef]) ?_ ?_
    · simp [wcell_of hbl, hbk, hk6, hk6']
      cases htk : t k
      · simp
        refine W_no (by simp) ?_
        simp [wcell_of hbl, hbk, hk6, hk6', htk]
        refine W_cond (t := decide (f = 2)) (by simp; omega) ?_ ?_
        · intro hf2
          have hf2' : f = 2 := by simpa using hf2
          subst hf2'
          simp [wantOf]
        · intro hf2
          have hf2' : ¬ f = 2 := by simpa using hf2
          simp [wcell_of hbl, hbk, hk6, hk6', htk]
          refine W_cond (t := decide (M.l.length = 3)) (by simp; omega) ?_ ?_
          · intro hn3
            have hn3' : M.l.length = 3 := by simpa using hn3
            simp [wantOf, hf2', hn3']
          · intro hn3
            have hn3' : ¬ M.l.length = 3 := by simpa using hn3
            simp [wantOf, hf2', hn3']
      · simp
        refine W_cond (t := decide (f = 1)) (by simp; omega) ?_ ?_
        · intro hf1
          have hf1' : f = 1 := by simpa using hf1
          subst hf1'
          simp [wantOf]
        · intro hf1
          have hf1' : ¬ f = 1 := by simpa using hf1
          simp [wcell_of hbl, hbk, hk6, hk6', htk]
          refine W_no (by simp) ?_
          simp [wcell_of hbl, hbk, hk6, hk6', htk]
          refine W_no (by simp) ?_
          simp [wantOf, hf1']
    rintro env w6 ⟨rfl, y13, y14, y15, rfl⟩
    have ei : IntKind.u8.wrap (i : Int) = i := u8w (by omega) (by omega)
    simp [ei]
    have hown4 : ∀ j, M.own b j → j < w6.heap.size := fun j hj => hS.mp.lt hj
    have hkey0 : KeyAt (w6.alloc (.cells #[.int .u8 k] 5)) (.slice (some ⟨w6.heap.size, 0, none⟩) 1 1) (key1 k) := keyAt1 (by omega) (by simp)
    have hkA : Kept none' w6 (w6.alloc (.cells #[.int .u8 k] 5)) := (Kept.refl _ _).alloc _
    have hS7 := hS.calm hkA
    have hs7 : (w6.alloc (.cells #[.int .u8 k] 5)).heap.size = w6.heap.size + 1 := by simp
    generalize w6.alloc (.cells #[.int .u8 k] 5) = w7 at hkey0 hkA hS7 hs7 ⊢
    have hp17 := hp_new w7 (.cells #[.int .u8 i] 5)
    have hkB : Kept none' w7 (w7.alloc (.cells #[.int .u8 i] 5)) := (Kept.refl _ _).alloc _
    have hS8 := hS7.calm hkB
    have hkey := hkey0.same (w' := w7.alloc (.cells #[.int .u8 i] 5)) w6.heap.size 0 1 rfl (RowKit.Below.heap_alloc _ _ _ (by omega))
    have hs8 : (w7.alloc (.cells #[.int .u8 i] 5)).heap.size = w7.heap.size + 1 := by simp
    generalize w7.alloc (.cells #[.int .u8 i] 5) = w8 at hp17 hkB hS8 hkey hs8 ⊢
    have hck := hS.clock
    have hty := hS.ty
    have hfew := hS.few
    have hup := update_ret b M _ (key1 k) w7.heap.size 0 1 (fun _ => (i : Int)) f w8 hS8.mp.map hkey (by omega) (by omega) (by omega) (by rw [hS.ks]; rfl) (by omega) hS.fr (by rw [hS.cap]; omega) (by rw [hS.vs]; omega) (by omega) (by omega)
      (fun j hj => by
        have : j = 0 := by rw [hS.vs] at hj; omega
        subst this; rw [wcell_of hp17]; rfl) (fun j => by omega) ⟨by omega, fun ho => by have := hown4 _ ho; omega⟩ ⟨_, _, _, rfl, by omega, fun ho => by have := hown4 _ ho; omega⟩
    rw [hS.vs] at hup
    refine W_call0 (by simp) hup ?_
    clear hup
    have e2 : IntKind.i64.wrap ((i : Int) + 1) = ((i + 1 : Nat) : Int) := i64w (by omega) (by omega)
    have hth := hS.there k hk6
    rintro r w9 (⟨i', e, hi', hek, ⟨hf1, rfl, hk9⟩ | ⟨hf1, rfl, hk9, hm9⟩⟩ | ⟨hno, ⟨q, _⟩ | ⟨_, hf2, rfl, hk9⟩ | ⟨_, hf2, hfull, _, rfl, hk9⟩ | ⟨_, hf2, rfl, hk9, lo, L', a, hlo, hak, hav, hau, hg1, hg2, hg3, hL', hm9⟩⟩)
    · have htk : t k = true := hth.2 ⟨e, List.mem_of_getElem? hi', hek⟩
      have hf1' : f = 1 := by omega
      have hw : wantOf (t k) f M.l.length = 17 := by unfold wantOf; rw [if_pos ⟨htk, hf1'⟩]
      have hS9 := hS8.calm hk9
      simp
      refine W_no (by simp [hw]) ?_
      simp
      refine W_no (by simp [wcell_of hS9.blk, hbk, hk6, hk6', hw, htk]) ?_
      simp
      refine W_call0 (by simp) (len_ret b M w9 hS9.mp.map) ?_
      rintro r w10 ⟨rfl, rfl⟩
      simp
      refine W_no (by simp) ?_
      simp
      refine ⟨⟨i + 1, t, M, ⟨rfl, e2⟩, by omega, { hS9 with clock := by omega }⟩, by simp [natAt, e2]; omega⟩
    · have htk : t k = true := hth.2 ⟨e, List.mem_of_getElem? hi', hek⟩
      have hf1' : ¬ f = 1 := by omega
      have hw : wantOf (t k) f M.l.length = 0 := by unfold wantOf; rw [if_neg (fun q => hf1' q.2), if_neg (by rw [htk]; simp), if_neg (by rw [htk]; simp)]
      have hout := hS8.out
      have hS9 : FlSt w w9 b p t (writtenM M i' e fun _ => (i : Int)) (i + 1) := by
        refine ⟨hS8.mp.written hi' hk9 hm9, hS.ty, hS.ks, hS.vs, hS.cap, hS.fr, hk9.has hS8.blk hout, hS.low, ?_, by show M.clock + 1 ≤ _; omega, by simpa [writtenM] using hfew⟩
        intro k' hk'
        rw [hS.there k' hk']
        constructor
        · rintro ⟨c, hc, hck'⟩
          obtain ⟨q, hq⟩ := List.mem_iff_getElem?.1 hc
          by_cases hqi : q = i'
          · subst hqi
            rw [hi'] at hq
            simp at hq
            subst hq
            exact ⟨_, List.mem_set (List.getElem?_eq_some_iff.1 hi').1 _, hck'⟩
          · refine ⟨c, List.mem_of_getElem? (i := q) ?_, hck'⟩
            show (M.l.set i' _)[q]? = _
            rw [List.getElem?_set_ne (fun h => hqi h.symm)]
            exact hq
        · rintro ⟨c, hc, hck'⟩
          rcases List.mem_or_eq_of_mem_set hc with hc | rfl
          · exact ⟨c, hc, hck'⟩
          · exact ⟨e, List.mem_of_getElem? hi', hck'⟩
      have hll : (writtenM M i' e fun _ => (i : Int)).l.length = M.l.length := by simp [writtenM]
      simp
      refine W_no (by simp [hw]) ?_
      simp
      refine W_no (by simp [wcell_of hS9.blk, hbk, hk6, hk6', hw, htk]) ?_
      simp
      refine W_call0 (by simp) (len_ret b _ w9 hS9.mp.map) ?_
      rintro r w10 ⟨rfl, rfl⟩
      rw [hll]
      simp
      refine W_no (by simp) ?_
      simp
      refine ⟨⟨i + 1, t, _, ⟨?_, e2⟩, by omega, hS9⟩, by simp [natAt, e2]; omega⟩
      rw [hll]
    · omega
    · have htk : t k = false := by
        cases h : t k
        · rfl
        · obtain ⟨e, he, hek⟩ := hth.1 h
          exact absurd hek (hno e he)
      have hf2' : f = 2 := by omega
      have hw : wantOf (t k) f M.l.length = 2 := by unfold wantOf; rw [if_neg (by rw [htk]; simp), if_pos ⟨htk, hf2'⟩]
      have hS9 := hS8.calm hk9
      simp
      refine W_no (by simp [hw]) ?_
      simp
      refine W_no (by simp [wcell_of hS9.blk, hbk, hk6, hk6', hw]) ?_
      simp
      refine W_call0 (by simp) (len_ret b M w9 hS9.mp.map) ?_
      rintro r w10 ⟨rfl, rfl⟩
      simp
      refine W_no (by simp) ?_
      simp
      refine ⟨⟨i + 1, t, M, ⟨rfl, e2⟩, by omega, { hS9 with clock := by omega }⟩, by simp [natAt, e2]; omega⟩
    · have htk : t k = false := by
        cases h : t k
        · rfl
        · obtain ⟨e, he, hek⟩ := hth.1 h
          exact absurd hek (hno e he)
      have hf2' : ¬ f = 2 := by omega
      have hn3 : M.l.length = 3 := by rw [hS.cap] at hfull; omega
      have hw : wantOf (t k) f M.l.length = 7 := by unfold wantOf; rw [if_neg (by rw [htk]; simp), if_neg (fun q => hf2' q.2), if_pos ⟨htk, hn3⟩]
      have hS9 := hS8.calm hk9
      simp
      refine W_no (by simp [hw]) ?_
      simp
      refine W_no (by simp [wcell_of hS9.blk, hbk, hk6, hk6', hw]) ?_
      simp
      refine W_call0 (by simp) (len_ret b M w9 hS9.mp.map) ?_
      rintro r w10 ⟨rfl, rfl⟩
      simp
      refine W_no (by simp) ?_
      simp
      refine ⟨⟨i + 1, t, M, ⟨rfl, e2⟩, by omega, { hS9 with clock := by omega }⟩, by simp [natAt, e2]; omega⟩
    · have htk : t k = false := by
        cases h : t k
        · rfl
        · obtain ⟨e, he, hek⟩ := hth.1 h
          exact absurd hek (hno e he)
      have hf2' : ¬ f = 2 := by omega
      obtain ⟨hlt, rfl⟩ : (M.l.length : Int) < M.cap ∧ lo = M.l := by
        rcases hlo with h | ⟨_, q, _⟩
        · exact h
        · omega
      have hn3 : ¬ M.l.length = 3 := by rw [hS.cap] at hlt; omega
      have hw : wantOf (t k) f M.l.length = 0 := by unfold wantOf; rw [if_neg (by rw [htk]; simp), if_neg (fun q => hf2' q.2), if_neg (fun q => hn3 q.2)]
      have hout := hS8.out
      have hM9 := hS8.mp.pushed hk9 (fun c hc => hc) hg1 hg2 hg3 hL' hm9
      have hblk9 := hk9.has hS8.blk hout
      have hp9 : p < w8.heap.size := blk_lt hS8.blk
      have hout9 : ¬ BMap.own { M with clock := M.clock + 1, L := L', l := M.l ++ [a] } b p := fun hc => hout (out_pushed (M := M) (fun c hc => hc) hg1 hg2 hg3 hL' p hp9 hc)
      have hll : ((M.l.length : Int) + 1) = ((M.l.length + 1 : Nat) : Int) := by omega
      have en : IntKind.i64.wrap ((M.l.length : Int) + 1) = (M.l.length : Int) + 1 := i64w (by omega) (by omega)
      simp
      refine W_no (by simp [hw]) ?_
      simp
      have hw' : wantOf false f M.l.length = 0 := by rw [← htk]; exact hw
      refine W_yes (by simp [wcell_of hblk9, hbk, hk6, hk6', hw', htk]) ?_
      have hst : stv w9 1 (.pointer (some ⟨p, k, none⟩)) (.bool true) = some (put w9 p (.cells (bools 6 (fset t k true)) 73 (0, 0))) := by
        rw [stv_of (n := 1) (v := .bool true) hblk9 rfl (by rw [bools_size]; omega) (.inl (by simp)) (by simp [Value.oneCell'])]
        simp [bools_set _ _ _ _ hk6]
      simp
      refine W_store (by simp [hk6, hk6']) (by simp) hst (stab_nil _ _ _) ?_
      have hlow := hS.low
      have hk10 : Kept (fun j => j = p) w9 (put w9 p (.cells (bools 6 (fset t k true)) 73 (0, 0))) := (Kept.refl (fun j => j = p) w9).put (b := p) (fun _ => rfl) _
      have hM10 := hM9.other hk10 (fun j hj => by subst hj; exact ⟨hout9, hlow⟩)
      have hblk10 : (put w9 p (.cells (bools 6 (fset t k true)) 73 (0, 0))).heap[p]? = some (.cells (bools 6 (fset t k true)) 73 (0, 0)) := put_same (blk_lt hblk9)
      generalize put w9 p (.cells (bools 6 (fset t k true)) 73 (0, 0)) = w10 at hk10 hM10 hblk10 ⊢
      simp [en]
      refine W_call0 (by simp) (len_ret b _ w10 hM10.map) ?_
      rintro r w11 ⟨rfl, rfl⟩
      simp
      refine W_no (by simp) ?_
      simp
      refine ⟨⟨i + 1, fset t k true, { M with clock := M.clock + 1, L := L', l := M.l ++ [a] }, ⟨by simp, e2⟩, by omega, ⟨hM10, hS.ty, hS.ks, hS.vs, hS.cap, hS.fr, hblk10, hlow, ?_, by show M.clock + 1 ≤ _; omega, by rw [hS.cap] at hlt; simp; omega⟩⟩, by simp [natAt, e2]; omega⟩
      intro k' hk'
      by_cases hkk : k' = k
      · subst hkk
        rw [fset_same]
        exact ⟨fun _ => ⟨a, by simp, hak⟩, fun _ => rfl⟩
      · rw [fset_other _ _ hkk, hS.there k' hk']
        constructor
        · rintro ⟨c, hc, hck'⟩; exact ⟨c, List.mem_append_left _ hc, hck'⟩
        · rintro ⟨c, hc, hck'⟩
          rcases List.mem_append.1 hc with hc | hc
          · exact ⟨c, hc, hck'⟩
          · simp at hc
            subst hc
            exact absurd (key1_inj (by omega) (by omega) (hck'.symm.trans hak)) hkk
  · simp
    refine W_no (by simp; omega) ?_
    simp
    exact hS.mp.kept
end Go.Proofs.Ytihaopoehhnbkaa
