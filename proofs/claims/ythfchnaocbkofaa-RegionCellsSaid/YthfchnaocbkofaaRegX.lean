/- Layer 19: places in cells of maps. -/
import Derived.Test.YthfchnaocbkofaaRegN
import Derived.Test.YthfchnaocbkofaaBmA
set_option linter.unusedSimpArgs false
set_option linter.unusedVariables false
set_option maxRecDepth 8000
namespace Go.Proofs.Ythfchnaocbkofaa
open Go.Eng

/-- A memory's maps: a row of pointers. -/
def MapsAt (w : World) (v : Value) (bs : List Nat) : Prop :=
  ∃ p c, v = .slice p bs.length c ∧ bs.length ≤ 1000 ∧ (bs = [] ∨ ∃ q, p = some ⟨q, 0, none⟩ ∧ ∀ (i b : Nat), bs[i]? = some b → wcell w q i = some (.pointer (some ⟨b, 0, none⟩)))
theorem MapsAt.keep {w w' : World} {v : Value} {bs : List Nat} {S : Nat → Prop} (h : MapsAt w v bs) (hk : Kept S w w') (hS : ∀ i, v.ownBlock = some i → ¬ S i) : MapsAt w' v bs := by
  obtain ⟨p, c, rfl, hl, h⟩ := h
  refine ⟨p, c, rfl, hl, h.imp id ?_⟩
  rintro ⟨q, rfl, hc⟩
  exact ⟨q, rfl, fun i b hi => wcell_kept hk (hS q rfl) (hc i b hi)⟩
def mapAt (bs : List Nat) (slot : Int) : Option Nat := if slot < 0 then none else bs[slot.toNat]?
theorem map_ret (b : Nat) (m : RMem) (bs : List Nat) (slot : Int) (w : World) (hm : IsMem w b m) (h : MapsAt w m.maps bs) :
    Ret Try.prog 9 [.pointer (some ⟨b, 0, none⟩), .int .i64 slot] w fun v w' => v = .pointer ((mapAt bs slot).map fun q => ⟨q, 0, none⟩) ∧ w' = w := by
  refine ret_of_W Try.func9 rfl ok_region_Memory_Map ?_
  obtain ⟨p, c, hv, hl, hc⟩ := h
  have e : wcell w b 192 = some (.slice p bs.length c) := by rw [wcell_of hm, mem_maps, hv]
  simp [c_region_Memory_Map]
  by_cases h0 : slot < 0
  · refine W_yes (by simp [h0]) ?_
    simp [mapAt, h0]
  · by_cases h1 : (bs.length : Int) ≤ slot
    · refine W_yes (by simp [h0, e, h1]) ?_
      have : bs[slot.toNat]? = none := by simp; omega
      simp [mapAt, h0, this]
    · refine W_no (by simp [h0, e]; omega) ?_
      have hlt : slot.toNat < bs.length := by omega
      rcases hc with rfl | ⟨q, rfl, hc⟩
      · simp at hlt
      · have hce := hc slot.toNat _ (List.getElem?_eq_getElem hlt)
        have hb : bs[slot.toNat]? = some bs[slot.toNat] := List.getElem?_eq_getElem hlt
        simp [e, show 0 ≤ slot by omega, show slot < bs.length by omega, hce, mapAt, h0, hb]

/-- A cell, and the bytes that it has. -/
def CellBox (w : World) (cb vb V c : Nat) : Prop := V ≤ c ∧ w.heap[cb]? = some (.cells #[.slice (some ⟨vb, 0, none⟩) V c] 60 (0, 0))
def VBytes (w : World) (vb V : Nat) (x : Nat → Int) : Prop := ∃ cs, w.heap[vb]? = some (.cells cs 5 (0, 0)) ∧ V ≤ cs.size ∧ ∀ j, j < V → cs[j]? = some (.int .u8 (x j))
theorem bytes_cell (b cb vb V c : Nat) (a : RVal) (w : World) (h5 : a.tag = 5) (hc : a.cell = some ⟨cb, 0, none⟩) (hb : CellBox w cb vb V c) : Ret Try.prog 47 [.pointer (some ⟨b, 0, none⟩), a.val] w
    fun v w' => v = .tuple #[.slice (some ⟨vb, 0, none⟩) V c, .int .i64 0] ∧ Kept none' w w' := by
  refine ret_of_W Try.func47 rfl ok_region_Memory_bytes ?_
  have h1 := hp_old hb.2 (.cells a.arr 43)
  have h2 := hp_new w (.cells a.arr 43)
  have hk : Kept none' w (w.alloc (.cells a.arr 43)) := (Kept.refl _ _).alloc _
  simp [c_region_Memory_bytes]
  generalize w.alloc (.cells a.arr 43) = w1 at h1 h2 hk ⊢
  simp [wcell_of h2, h5]
  refine W_no (by simp) ?_
  simp
  refine W_no (by simp) ?_
  simp
  refine W_yes (by simp) ?_
  refine W_yes (by simp [wcell_of h2, hc]) ?_
  simp [wcell_of h2, hc, wcell_of h1]
  exact hk

theorem view_retG (len below base cap q : Nat) (b : Nat) (a : RVal) (off n : Int) (w : World) (hl : len ≤ 1000) (hcap : len ≤ cap) (hb : below ≤ 64) (ho1 : -9223372036854775808 ≤ off) (ho2 : off ≤ 9223372036854775807) (hn0 : 0 ≤ n) (hn : n ≤ 140737488351232)
    (hbytes : ∀ w', Kept none' w w' → Ret Try.prog 47 [.pointer (some ⟨b, 0, none⟩), a.val] w'
      fun v w2 => v = .tuple #[.slice (some ⟨q, base, none⟩) len cap, .int .i64 below] ∧ Kept none' w' w2) :
    Ret Try.prog 27 [.pointer (some ⟨b, 0, none⟩), a.val, .int .i64 off, .int .i64 n] w fun v w' => Kept none' w w' ∧
      (if -(below : Int) ≤ IntKind.i64.wrap a.n + off ∧ IntKind.i64.wrap a.n + off + n ≤ len - below then
        ∃ f : Nat, (f : Int) = IntKind.i64.wrap a.n + off + below ∧
          v = .tuple #[.slice (some (if cap = f then ⟨q, base, none⟩ else ⟨q, base + f, none⟩)) n.toNat (cap - f), .int .i64 f, .bool true]
       else v = .tuple #[.slice none 0 0, .int .i64 0, .bool false]) := by
  refine ret_of_W Try.func27 rfl ok_region_Memory_view ?_
  have k1 := i64_lo a.n
  have k2 := i64_hi a.n
  simp [c_region_Memory_view]
  refine W_no (by simp) ?_
  simp
  refine W_call0 (by simp) (hbytes _ ((Kept.refl _ _).alloc _)) ?_
  rintro v w1 ⟨rfl, hk⟩
  have h7 := hk.has (hp_new w _) (fun h => h)
  simp
  refine W_call0 (by simp [wcell_of h7]) (plus_ret (IntKind.i64.wrap a.n) off _) ?_
  rintro v w2 ⟨rfl, rfl⟩
  have hkk : Kept none' w w2 := ((Kept.refl _ _).alloc _).trans (hk.mono fun _ _ h => h)
  simp
  generalize hN : IntKind.i64.wrap a.n = N at *
  by_cases hin : -(below : Int) ≤ N + off ∧ N + off + n ≤ len - below
  · have e1 : IntKind.i64.wrap (N + off) = N + off := i64w (by omega) (by omega)
    have e2 : IntKind.i64.wrap (len - below) = (len : Int) - below := i64w (by omega) (by omega)
    have e3 : IntKind.i64.wrap ((len : Int) - below - n) = (len : Int) - below - n := i64w (by omega) (by omega)
    have e4 : IntKind.i64.wrap (-(below : Int)) = -(below : Int) := i64w (by omega) (by omega)
    have e5 : IntKind.i64.wrap (N + off + below) = N + off + below := i64w (by omega) (by omega)
    have e6 : IntKind.i64.wrap (N + off + below + n) = N + off + below + n := i64w (by omega) (by omega)
    have hok : (decide (N < 0) != decide (off < 0) || (decide (N + off < 0) == decide (N < 0))) = true := by
      by_cases h1 : N < 0 <;> by_cases h2 : off < 0 <;> simp [h1, h2] <;> omega
    refine W_no ?_ ?_
    · simp [e1, e2, e3, e4]
      omega
    simp [e1, e5, e6]
    have hf : ∃ f : Nat, (f : Int) = N + off + below := ⟨(N + off + below).toNat, by omega⟩
    obtain ⟨f, hf⟩ := hf
    rw [← hf]
    simp
    rw [if_pos (by omega)]
    simp
    exact ⟨hkk, hin, f, rfl, ⟨rfl, by omega, rfl⟩, rfl⟩
  · refine W_yes ?_ ?_
    · simp
      simp (disch := omega) only [i64w]
      by_cases h1 : N + off < -9223372036854775808
      · refine .inl (.inl ?_)
        have := IntKind.wrap_i64 (N + off)
        omega
      · by_cases h2 : 9223372036854775807 < N + off
        · refine .inl (.inl ?_)
          have := IntKind.wrap_i64 (N + off)
          omega
        · simp (disch := omega) only [i64w]
          omega
    simp
    exact ⟨hkk, fun h1 => by omega⟩
theorem view_cell (b cb vb V c : Nat) (a : RVal) (off n : Int) (w : World) (h5 : a.tag = 5) (hc : a.cell = some ⟨cb, 0, none⟩) (hb : CellBox w cb vb V c) (hV : V ≤ 1000) (ho1 : -9223372036854775808 ≤ off) (ho2 : off ≤ 9223372036854775807) (hn0 : 0 ≤ n) (hn : n ≤ 140737488351232) :
    Ret Try.prog 27 [.pointer (some ⟨b, 0, none⟩), a.val, .int .i64 off, .int .i64 n] w fun v w' => Kept none' w w' ∧
      (if 0 ≤ IntKind.i64.wrap a.n + off ∧ IntKind.i64.wrap a.n + off + n ≤ V then
        ∃ f : Nat, (f : Int) = IntKind.i64.wrap a.n + off ∧ v = .tuple #[.slice (some (if c = f then ⟨vb, 0, none⟩ else ⟨vb, 0 + f, none⟩)) n.toNat (c - f), .int .i64 f, .bool true]
       else v = .tuple #[.slice none 0 0, .int .i64 0, .bool false]) := by
  have h := view_retG V 0 0 c vb b a off n w hV hb.1 (by omega) ho1 ho2 hn0 hn (fun w' hk => bytes_cell b cb vb V c a w' h5 hc ⟨hb.1, hk.has hb.2 (fun h => h)⟩)
  simpa using h

/-- What a load of a cell's bytes tells. -/
def loadV (x : Nat → Int) (V : Nat) (s k : Int) : RVal × Int := if sizeOk k ∧ 0 ≤ s ∧ s + k ≤ V then (⟨1, leN (fun j => x (s.toNat + j)) k.toNat, 0, none⟩, 0) else (RVal.zero, 14)
theorem load_cell (b cb vb V c : Nat) (m : RMem) (x : Nat → Int) (a : RVal) (off k : Int) (w : World) (hm : IsMem w b m) (h5 : a.tag = 5) (hc : a.cell = some ⟨cb, 0, none⟩) (hb : CellBox w cb vb V c) (hv : VBytes w vb V x) (hx : ∀ j, 0 ≤ x j ∧ x j ≤ 255) (hV : V ≤ 1000)
    (ho1 : -9223372036854775808 ≤ off) (ho2 : off ≤ 9223372036854775807) :
    Ret Try.prog 11 [.pointer (some ⟨b, 0, none⟩), a.val, .int .i64 off, .int .i64 k] w
      fun v w' => Kept none' w w' ∧ v = .tuple #[(loadV x V (IntKind.i64.wrap a.n + off) k).1.val, .int .i64 (loadV x V (IntKind.i64.wrap a.n + off) k).2] := by
  refine ret_of_W Try.func11 rfl ok_region_Memory_Load ?_
  have hb' := blk_lt hm
  have hz : (Value.agg #[.int .i64 0, .int .u64 0, .int .i64 0, .pointer none]) = RVal.zero.val := rfl
  simp only [c_region_Memory_Load, hz]
  have h6 := hp_new w (.cells a.arr 43)
  have h4 := hp_new (w.alloc (.cells a.arr 43)) (.cells RVal.zero.arr 43)
  have h6' := hp_old h6 (.cells RVal.zero.arr 43)
  have hk0 : Kept none' w ((w.alloc (.cells a.arr 43)).alloc (.cells RVal.zero.arr 43)) := ((Kept.refl _ _).alloc _).alloc _
  rw [alloc_size] at h4
  simp
  generalize (w.alloc (.cells a.arr 43)).alloc (.cells RVal.zero.arr 43) = w2 at h4 h6' hk0 ⊢
  have hb2 : CellBox w2 cb vb V c := ⟨hb.1, hk0.has hb.2 (fun h => h)⟩
  refine W_call0 (by simp) (sized_ret k w2) ?_
  rintro v w3 ⟨rfl, rfl⟩
  simp
  by_cases hs : sizeOk k
  · have hs' := hs
    unfold sizeOk at hs'
    refine W_no (by simp; omega) ?_
    simp
    refine W_call0 (by simp [rval_row h6']) (view_cell b cb vb V c a off k w3 h5 hc hb2 hV ho1 ho2 (by omega) (by omega)) ?_
    rintro v w4 ⟨hk1, hvv⟩
    have hk2 := hk0.trans hk1
    have h4' := hk1.has h4 (fun h => h)
    have h6'' := hk1.has h6' (fun h => h)
    generalize hN : IntKind.i64.wrap a.n = N at *
    by_cases hin : 0 ≤ N + off ∧ N + off + k ≤ V
    · rw [if_pos hin] at hvv
      obtain ⟨f, hf, rfl⟩ := hvv
      have hcV := hb.1
      have hne : ¬ (c = f) := by omega
      simp [hne]
      refine W_no (by simp) ?_
      simp
      refine W_call0 (by simp [rval_row h6'']) (exact_ret a f k w4) ?_
      rintro v w5 ⟨rfl, hk3⟩
      have hk4 := hk2.trans hk3
      have h4'' := hk3.has h4' (fun h => h)
      have h6x := hk3.has h6'' (fun h => h)
      have hff : (N + off).toNat = f := by omega
      simp
      refine W_no (by simp [h5]) ?_
      simp [wcell_of h6x, h5]
      refine W_no (by simp) ?_
      simp
      refine W_no (by simp) ?_
      simp
      obtain ⟨n, rfl⟩ : ∃ n : Nat, k = n := ⟨k.toNat, by omega⟩
      refine W_call0 (by simp) (little_ret vb f n (c - f) (fun j => x (f + j)) w5 (by omega) (fun j => hx _) ?_) ?_
      · intro j hj
        obtain ⟨cs, hcs, hsz, hcell⟩ := hv
        rw [wcell_of (hk4.has hcs (fun h => h)), hcell _ (by omega)]
      rintro v w7 ⟨rfl, rfl⟩
      simp
      refine W_store (by simp) (by simp; rfl) (store_val (v := ⟨1, leN (fun j => x (f + j)) n, 0, none⟩) h4'') (stab_nil _ _ _) ?_
      have hl : loadV x V (N + off) n = (⟨1, leN (fun j => x (f + j)) n, 0, none⟩, 0) := by
        unfold loadV
        rw [hff, if_pos ⟨hs, hin⟩]
        simp
      simp [rval_row (put_same (blk_lt h4'')), hl]
      exact hk4.put (fun h => absurd h (by omega)) _
    · rw [if_neg hin] at hvv
      subst hvv
      simp
      refine W_yes (by simp) ?_
      simp
      refine W_store (by simp) (by simp) (store_val (v := RVal.zero) h4') (stab_nil _ _ _) ?_
      have : ¬ (sizeOk k ∧ 0 ≤ N + off ∧ N + off + k ≤ V) := fun h => hin h.2
      simp [rval_row (put_same (blk_lt h4')), loadV, this]
      exact hk2.put (fun h => absurd h (by omega)) _
  · have hs' := hs
    unfold sizeOk at hs'
    refine W_yes (by simp; omega) ?_
    simp
    refine W_store (by simp) (by simp) (store_val (v := RVal.zero) h4) (stab_nil _ _ _) ?_
    simp [rval_row (put_same (blk_lt h4)), loadV, hs]
    exact hk0.put (fun h => absurd h (by omega)) _

theorem writes_cell (b mb : Nat) (m : RMem) (bs : List Nat) (M : BMap) (a : RVal) (w : World) (hm : IsMem w b m) (h : MapsAt w m.maps bs) (h5 : a.tag = 5) (hs : mapAt bs a.slot = some mb) (hM : MapAt w mb M) :
    Ret Try.prog 31 [.pointer (some ⟨b, 0, none⟩), a.val] w fun v w' => v = .bool (!M.frozen) ∧ Kept none' w w' := by
  refine ret_of_W Try.func31 rfl ok_region_Memory_writes ?_
  have h3 := hp_new w (.cells a.arr 43)
  have hk : Kept none' w (w.alloc (.cells a.arr 43)) := (Kept.refl _ _).alloc _
  simp [c_region_Memory_writes]
  generalize w.alloc (.cells a.arr 43) = w1 at h3 hk ⊢
  have hm1 : IsMem w1 b m := hk.has hm (fun h => h)
  refine W_yes (by simp [wcell_of h3, h5]) ?_
  simp
  refine W_call0 (by simp [wcell_of h3]) (map_ret b m bs a.slot w1 hm1 (h.keep hk (fun _ _ h => h))) ?_
  rintro v w2 ⟨rfl, rfl⟩
  rw [hs]
  simp
  refine W_yes (by simp) ?_
  refine W_call0 (by simp) (frozen_ret mb M w2 (hM.calm hk)) ?_
  rintro v w3 ⟨rfl, rfl⟩
  simp
  exact hk

/-- The bytes behind a number's save. -/
def putN (x : Nat → Int) (f e : Nat) (n : Int) : Nat → Int := fun q => if f ≤ q ∧ q < e then byteN n (q - f) else x q
theorem putN_self (x : Nat → Int) (f : Nat) (n : Int) : putN x f f n = x := by funext q; unfold putN; rw [if_neg (by omega)]
theorem putN_byte {x : Nat → Int} (hx : ∀ j, 0 ≤ x j ∧ x j ≤ 255) (f e : Nat) (n : Int) (j : Nat) : 0 ≤ putN x f e n j ∧ putN x f e n j ≤ 255 := by
  unfold putN; split
  · exact byteN_range _ _
  · exact hx j
theorem store_vb {w : World} {vb V i : Nat} {x : Nat → Int} (h : VBytes w vb V x) (hi : i < V) (z : Int) : ∃ cs, w.heap[vb]? = some (.cells cs 5 (0, 0)) ∧ stv w 1 (.pointer (some ⟨vb, i, none⟩)) (.int .u8 z) = some (put w vb (.cells (cs.setIfInBounds i (.int .u8 z)) 5 (0, 0))) ∧
    VBytes (put w vb (.cells (cs.setIfInBounds i (.int .u8 z)) 5 (0, 0))) vb V (fun q => if q = i then z else x q) := by
  obtain ⟨cs, hcs, hsz, hcell⟩ := h
  refine ⟨cs, hcs, ?_, _, put_same (blk_lt hcs), by simpa using hsz, fun j hj => ?_⟩
  · rw [stv_of (n := 1) (v := .int .u8 z) hcs rfl (show i + 1 ≤ cs.size by omega) (.inl (by simp)) (by simp [Value.cells, Value.oneCell'])]
    rfl
  · rw [Array.getElem?_setIfInBounds]
    by_cases h : i = j
    · subst h; rw [if_pos rfl, if_pos (by omega)]; simp
    · rw [if_neg h, hcell j hj]; simp only []; rw [if_neg (fun e => h e.symm)]
theorem number_cell (b vb V c : Nat) (a : RVal) (f len : Nat) (n : Int) (x : Nat → Int) (w : World) (h3 : a.tag ≠ 3) (h : f + len ≤ V) (hlen : len ≤ 8) (h0 : 0 ≤ n) (hv : VBytes w vb V x) :
    Ret Try.prog 32 [.pointer (some ⟨b, 0, none⟩), a.val, .slice (some ⟨vb, f, none⟩) len c, .int .i64 f, .int .u64 n] w
      fun v w' => v = .tuple #[] ∧ Kept (· = vb) w w' ∧ VBytes w' vb V (putN x f (f + len) n) := by
  refine ret_of_W Try.func32 rfl ok_region_Memory_number ?_
  simp [c_region_Memory_number]
  have h7 := hp_new w (.cells a.arr 43)
  have hk0 : Kept (· = vb) w (w.alloc (.cells a.arr 43)) := (Kept.refl _ _).alloc _
  have hv0 : VBytes (w.alloc (.cells a.arr 43)) vb V x := by
    obtain ⟨cs, h1, h2⟩ := hv
    exact ⟨cs, hp_old h1 _, h2⟩
  have hb : vb < w.heap.size := by obtain ⟨cs, h1, _⟩ := hv; exact blk_lt h1
  generalize w.alloc (.cells a.arr 43) = w0 at h7 hk0 hv0 ⊢
  refine W_loop (fun env w' => Kept (· = vb) w w' ∧ w'.heap[w.heap.size]? = some (.cells a.arr 43 (0, 0)) ∧
      ∃ i : Nat, env = [.pointer (some ⟨b, 0, none⟩), undef, .slice (some ⟨vb, f, none⟩) len c, .int .i64 f, .int .u64 n, .pointer (some ⟨w.heap.size, 0, none⟩), .int .i64 i, .int .i64 len, undef] ∧ i ≤ len ∧ VBytes w' vb V (putN x f (f + i) n))
    (fun env _ => len - natAt env 6) ?_ ?_
  · exact ⟨hk0, h7, 0, by simp, by omega, by rw [Nat.add_zero, putN_self]; exact hv0⟩
  · rintro env w1 ⟨hk, hx, i, rfl, h1, hv1⟩
    by_cases hi : i < len
    · simp
      refine W_yes (by simp; omega) ?_
      have e2 : IntKind.i64.wrap ((i : Int) + 1) = ((i + 1 : Nat) : Int) := i64w (by omega) (by omega)
      have e3 : IntKind.i64.wrap (8 * (i : Int)) = 8 * (i : Int) := i64w (by omega) (by omega)
      have e4 := byte_eq n i h0 (by omega)
      obtain ⟨cs, hcs, hst, hv2⟩ := store_vb hv1 (i := f + i) (by omega) (byteN n i)
      simp
      refine W_store (by simp [hi]) (by simp [e3]; rw [intBin_shr _ _ _ _ (by omega)]; simp [e4]) hst (stab_nil _ _ _) ?_
      simp
      refine ⟨⟨hk.put (fun _ => rfl) _, ?_, i + 1, by simp [e2], by omega, ?_⟩, by simp [natAt, e2]; omega⟩
      · rw [put_other (by omega)]; exact hx
      · have : (fun q => if q = f + i then byteN n i else putN x f (f + i) n q) = putN x f (f + (i + 1)) n := by
          funext q
          unfold putN
          by_cases hq : q = f + i
          · subst hq; rw [if_pos rfl, if_pos (by omega), Nat.add_sub_cancel_left]
          · rw [if_neg hq]
            by_cases h2 : f ≤ q ∧ q < f + i
            · rw [if_pos h2, if_pos (by omega)]
            · rw [if_neg h2, if_neg (by omega)]
        rw [← this]
        exact hv2
    · simp
      refine W_no (by simp; omega) ?_
      have : i = len := by omega
      subst this
      simp
      refine W_no (by simp [wcell_of hx, h3]) ?_
      simp
      exact ⟨hk, hv1⟩
end Go.Proofs.Ythfchnaocbkofaa
