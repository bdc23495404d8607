/- Layer 9, part P: keys of all sizes as lists of numbers; counted, masked. -/
import Derived.Test.YtihaopoehhnbkaaBmO
set_option linter.unusedSimpArgs false
set_option linter.unusedVariables false
set_option maxRecDepth 8000
namespace Go.Proofs.Ytihaopoehhnbkaa
open Go.Eng

def bs (m : List Nat) : ByteArray := ⟨(m.map UInt8.ofNat).toArray⟩
def nb (k : ByteArray) : List Nat := k.data.toList.map UInt8.toNat
@[simp] theorem nb_len (k : ByteArray) : (nb k).length = k.size := by
  show (k.data.toList.map UInt8.toNat).length = k.data.size
  rw [List.length_map, Array.length_toList]
@[simp] theorem bs_size (m : List Nat) : (bs m).size = m.length := by
  show (m.map UInt8.ofNat).toArray.size = _
  rw [List.size_toArray, List.length_map]
theorem nb_le (k : ByteArray) : ∀ x ∈ nb k, x ≤ 255 := by
  intro x hx
  simp only [nb, List.mem_map] at hx
  obtain ⟨y, _, rfl⟩ := hx
  have := y.toNat_lt
  omega
theorem bs_nb (k : ByteArray) : bs (nb k) = k := by
  refine ByteArray.ext ?_
  simp [bs, nb, Function.comp_def]
theorem nb_bs {m : List Nat} (h : ∀ x ∈ m, x ≤ 255) : nb (bs m) = m := by
  simp only [bs, nb, List.map_map]
  conv => rhs; rw [← List.map_id m]
  refine List.map_congr_left fun x hx => ?_
  have := h x hx
  simp
  omega
theorem bs_inj {m l : List Nat} (hm : ∀ x ∈ m, x ≤ 255) (hl : ∀ x ∈ l, x ≤ 255) (h : bs m = bs l) : m = l := by
  rw [← nb_bs hm, ← nb_bs hl, h]

theorem bytesIn_map (m : List Nat) : bytesIn (m.map fun (x : Nat) => Value.int .u8 (x : Int)) = some (m.map UInt8.ofNat) := by
  induction m with
  | nil => rfl
  | cons a r ih => simp [bytesIn, ih]

theorem bytes_bstr {w : World} {b off c : Nat} {m : List Nat} (h0 : 0 < m.length) (h : ∀ (j x : Nat), m[j]? = some x → wcell w b (off + j) = some (.int .u8 x)) :
    bstrv w (.slice (some ⟨b, off, none⟩) m.length c) = some (.string (bs m)) := by
  have hw := wrow_list (w := w) (b := b) (off := off) (r := m.map fun (x : Nat) => Value.int .u8 (x : Int)) (by simpa using h0) (by
    intro j hj
    have hj' : j < m.length := by simpa using hj
    rw [h j m[j] (List.getElem?_eq_getElem hj')]
    simp [hj'])
  rw [List.length_map] at hw
  simp only [bstrv, hw, Option.bind_some, bytesIn_map, Option.map_some]
  rfl

/-- A slice of bytes that is a key; it has room. -/
def KeyP (w : World) (v : Value) (k : ByteArray) : Prop := ∃ b off c, v = .slice (some ⟨b, off, none⟩) k.size c ∧ k.size ≤ c ∧ ∀ (j x : Nat), (nb k)[j]? = some x → wcell w b (off + j) = some (.int .u8 x)

theorem KeyP.var {w : World} {v : Value} {k : ByteArray} (h : KeyP w v k) : varV v = some v := by obtain ⟨b, o, c, rfl, _⟩ := h; rfl
theorem KeyP.at {w : World} {v : Value} {k : ByteArray} (h : KeyP w v k) (h0 : 0 < k.size) : KeyAt w v k := by
  obtain ⟨b, o, c, rfl, hc, hx⟩ := h
  refine ⟨b, o, c, rfl, ?_, fun j hj => ?_⟩
  · have := bytes_bstr (c := c) (by simpa using h0) hx
    rw [nb_len, bs_nb] at this
    exact this
  · have hj' : j < (nb k).length := by simpa using hj
    refine ⟨(nb k)[j], nb_le k _ (List.getElem_mem hj'), ?_, hx j _ (List.getElem?_eq_getElem hj')⟩
    have e : (bs (nb k)).data[j]? = some (UInt8.ofNat (nb k)[j]) := by simp [bs, hj]
    rw [bs_nb] at e
    exact e
theorem KeyP.of {w : World} {b o c : Nat} {m : List Nat} (hle : ∀ x ∈ m, x ≤ 255) (hc : m.length ≤ c) (h : ∀ (j x : Nat), m[j]? = some x → wcell w b (o + j) = some (.int .u8 x)) : KeyP w (.slice (some ⟨b, o, none⟩) m.length c) (bs m) :=
  ⟨b, o, c, by rw [bs_size], by rw [bs_size]; exact hc, fun j x hj => h j x (by rwa [nb_bs hle] at hj)⟩
theorem KeyP.keep {w w' : World} {v : Value} {k : ByteArray} {S : Nat → Prop} (h : KeyP w v k) (hk : Kept S w w') (hS : ∀ j, v.ownBlock = some j → ¬ S j) : KeyP w' v k := by
  obtain ⟨b, o, c, rfl, hc, hx⟩ := h
  exact ⟨b, o, c, rfl, hc, fun j x hj => wcell_kept hk (hS b rfl) (hx j x hj)⟩
theorem KeyP.calm {w w' : World} {v : Value} {k : ByteArray} (h : KeyP w v k) (hk : Kept none' w w') : KeyP w' v k := h.keep hk fun _ _ h => h

def nbk (k : ByteArray) (j : Nat) : Int := (((nb k).getD j 0 : Nat) : Int)
/-- The number in a key's first four bytes. -/
def cnt (k : ByteArray) : Int := leN (nbk k) 4
theorem nbk_le (k : ByteArray) (j : Nat) : 0 ≤ nbk k j ∧ nbk k j ≤ 255 := by
  unfold nbk
  have : (nb k).getD j 0 ≤ 255 := by
    rw [List.getD_eq_getElem?_getD]
    cases h : (nb k)[j]? with
    | none => simp
    | some x => exact nb_le k x (List.mem_of_getElem? h)
  omega
theorem cnt_range (k : ByteArray) : 0 ≤ cnt k ∧ cnt k < 4294967296 := by
  have := leN_bound (nbk k) (nbk_le k) 4
  exact ⟨this.1, this.2⟩

theorem or_addI (a c : Int) (n : Nat) (hn : n < 4) (ha0 : 0 ≤ a) (ha : a < 256 ^ n) (hc0 : 0 ≤ c) (hc : c ≤ 255) :
    bitOr .i64 a (c * 256 ^ n) = a + c * 256 ^ n := by
  have h := or_add a c n (by omega) ha0 ha hc0 hc
  have hp0 : (0 : Int) < 256 ^ n := Int.pow_pos (by omega)
  have hp : (256 : Int) ^ n ≤ 16777216 := by
    have : n = 0 ∨ n = 1 ∨ n = 2 ∨ n = 3 := by omega
    rcases this with rfl | rfl | rfl | rfl <;> decide
  have hm : c * 256 ^ n ≤ 255 * 16777216 := by
    have h1 : c * 256 ^ n ≤ 255 * 256 ^ n := Int.mul_le_mul_of_nonneg_right hc (by omega)
    omega
  have hm0 : 0 ≤ c * 256 ^ n := Int.mul_nonneg hc0 (by omega)
  have e : bitOr .i64 a (c * 256 ^ n) = IntKind.i64.wrap ((BitVec.ofInt 64 a ||| BitVec.ofInt 64 (c * 256 ^ n)).toNat : Nat) := rfl
  have e' : bitOr .u64 a (c * 256 ^ n) = IntKind.u64.wrap ((BitVec.ofInt 64 a ||| BitVec.ofInt 64 (c * 256 ^ n)).toNat : Nat) := rfl
  have hlt := (BitVec.ofInt 64 a ||| BitVec.ofInt 64 (c * 256 ^ n)).isLt
  rw [e'] at h
  rw [u64w (by omega) (by omega)] at h
  rw [e, h, i64w (by omega) (by omega)]

theorem counted_ret (kv : Value) (k : ByteArray) (w : World) (hk : KeyP w kv k) (h4 : 4 ≤ k.size) :
    Ret Try.prog 68 [kv] w fun v w' => v = .int .i64 (cnt k) ∧ w' = w := by
  refine ret_of_W Try.func68 rfl ok_bmap_counted ?_
  obtain ⟨kb, ko, kc, rfl, hkc, hx⟩ := hk
  have c1 : (4 : Int) ≤ kc := by omega
  simp [c_bmap_counted, c1]
  refine W_loop (fun env w' => w' = w ∧ ∃ i : Nat, env = [undef, undef, .int .i64 (leN (nbk k) i), .int .i64 i, .int .i64 4, .slice (some ⟨kb, ko, none⟩) 4 kc, undef, undef] ∧ i ≤ 4) (fun env _ => 4 - natAt env 3) ?_ ?_
  · refine ⟨rfl, 0, ?_, by omega⟩
    simp [leN]
  · rintro env w' ⟨rfl, i, rfl, hi⟩
    by_cases hgo : i < 4
    · have e1 : IntKind.i64.wrap ((i : Int) + 1) = ((i + 1 : Nat) : Int) := i64w (by omega) (by omega)
      have e3 : IntKind.i64.wrap (8 * (i : Int)) = 8 * (i : Int) := i64w (by omega) (by omega)
      have hj' : i < (nb k).length := by simp; omega
      have hc := hx i _ (List.getElem?_eq_getElem hj')
      have hcn : (((nb k)[i] : Nat) : Int) = nbk k i := by simp [nbk, List.getD, List.getElem?_eq_getElem hj']
      rw [hcn] at hc
      simp
      refine W_yes (by simp; omega) ?_
      have hi4 : (i : Int) < 4 := by omega
      have hb := nbk_le k i
      have e4 : IntKind.i64.wrap (nbk k i) = nbk k i := i64w (by omega) (by omega)
      have hl := leN_bound (nbk k) (nbk_le k) i
      have e5 : min (8 * (i : Int)).toNat IntKind.i64.bits = 8 * i := by
        have : IntKind.i64.bits = 64 := rfl
        omega
      have e6 : IntKind.i64.wrap (nbk k i * 256 ^ i) = nbk k i * 256 ^ i := by
        have hp0 : (0 : Int) < 256 ^ i := Int.pow_pos (by omega)
        have hp : (256 : Int) ^ i ≤ 16777216 := by
          have : i = 0 ∨ i = 1 ∨ i = 2 ∨ i = 3 := by omega
          rcases this with rfl | rfl | rfl | rfl <;> decide
        have h1 : nbk k i * 256 ^ i ≤ 255 * 256 ^ i := Int.mul_le_mul_of_nonneg_right hb.2 (by omega)
        have h2 : 0 ≤ nbk k i * 256 ^ i := Int.mul_nonneg hb.1 (by omega)
        exact i64w (by omega) (by omega)
      have e7 := or_addI (leN (nbk k) i) (nbk k i) i hgo hl.1 hl.2 hb.1 hb.2
      simp [hi4, hc, e3, convV, e4]
      rw [intBin_shl _ _ _ _ (by omega), e5, pow_256]
      simp [e6, e7, e1]
      exact ⟨⟨i + 1, ⟨rfl, rfl⟩, by omega⟩, by simp [natAt]; omega⟩
    · have : i = 4 := by omega
      subst this
      simp
      refine W_no (by simp) ?_
      simp [cnt]

/-! masked. -/
def left8 (n : Int) (i : Nat) : Nat := (min (max (n - 8 * i) 0) 8).toNat
def maskb (x l : Nat) : Nat := x / 2 ^ (8 - l) * 2 ^ (8 - l)
def maskI (n : Int) (i : Nat) (j x : Nat) : Nat := if j < 4 ∨ i + 4 ≤ j then x else maskb x (left8 n (j - 4))
def maskl (m : List Nat) (n : Int) : List Nat := m.mapIdx (maskI n m.length)
theorem left8_le (n : Int) (i : Nat) : left8 n i ≤ 8 := by unfold left8; omega
theorem maskb_eq : ∀ x < 256, ∀ l < 9, bitAnd .u8 (x : Nat) (IntKind.u8.wrap (BitVec.ofInt IntKind.u8.bits (if IntKind.u8.signed then -1 else IntKind.u8.max) ^^^ BitVec.ofInt IntKind.u8.bits ((255 : Int).fdiv (2 ^ min l 8))).toNat) = ((maskb x l : Nat) : Int) := by decide +kernel
theorem maskb_le (x l : Nat) : maskb x l ≤ x := Nat.div_mul_le_self _ _
theorem maskI_le (n : Int) (i j x : Nat) : maskI n i j x ≤ x := by
  unfold maskI
  split
  · omega
  · exact maskb_le _ _
theorem maskl_len (m : List Nat) (n : Int) : (maskl m n).length = m.length := by simp [maskl]
theorem maskl_le {m : List Nat} (h : ∀ x ∈ m, x ≤ 255) (n : Int) : ∀ x ∈ maskl m n, x ≤ 255 := by
  intro x hx
  obtain ⟨j, hj, rfl⟩ := List.mem_iff_getElem.1 hx
  simp only [maskl, List.getElem_mapIdx]
  rw [maskl_len] at hj
  have := h m[j] (List.getElem_mem hj)
  have := maskI_le n m.length j m[j]
  omega

theorem Bys.store {w : World} {g cap : Nat} {l : List Nat} {j y : Nat} (h : Bys w (.slice (some ⟨g, 0, none⟩) l.length cap) l) (hj : j < l.length) :
    ∃ w', stv w 1 (.pointer (some ⟨g, j, none⟩)) (.int .u8 y) = some w' ∧ Bys w' (.slice (some ⟨g, 0, none⟩) l.length cap) (l.set j y) ∧ Kept (fun i => i = g) w w' := by
  rcases h with ⟨q, _⟩ | ⟨g', cap', cur, q, h2, h3, h4, h5, h6⟩
  · simp at q
  · simp at q
    obtain ⟨rfl, rfl⟩ := q
    refine ⟨put w g (.cells (cur.setIfInBounds j (.int .u8 y)) 5 (0, 0)), ?_, .inr ⟨g, cap, cur.setIfInBounds j (.int .u8 y), by simp, put_same (blk_lt h2), by simpa using h3, h4, by simpa using h5, ?_⟩, (Kept.refl (fun i => i = g) w).put (b := g) (fun _ => rfl) _⟩
    · rw [stv_of (n := 1) (v := .int .u8 y) h2 rfl (by omega) (.inl (by simp)) (by simp [Value.oneCell'])]
      simp
    · intro i x hi
      rw [List.getElem?_set] at hi
      rw [Array.getElem?_setIfInBounds]
      by_cases e : j = i
      · subst e
        rw [if_pos rfl, if_pos hj] at hi
        rw [if_pos rfl, if_pos (by omega)]
        simp at hi
        rw [hi]
      · rw [if_neg e] at hi
        rw [if_neg e]
        exact h6 i x hi
theorem Bys.cell {w : World} {g cap : Nat} {l : List Nat} {j x : Nat} (h : Bys w (.slice (some ⟨g, 0, none⟩) l.length cap) l) (hj : l[j]? = some x) : wcell w g j = some (.int .u8 x) := by
  rcases h with ⟨q, _⟩ | ⟨g', cap', cur, q, h2, h3, h4, h5, h6⟩
  · simp at q
  · simp at q
    obtain ⟨rfl, rfl⟩ := q
    rw [wcell_of h2]
    exact h6 j x hj

theorem sclone_ret (kv : Value) (k : ByteArray) (w : World) (hk : KeyP w kv k) (hn : k.size ≤ 1000) :
    Ret Try.prog 78 [kv] w fun v w' => Kept none' w w' ∧ Bys w' v (nb k) ∧ ∀ j, v.ownBlock = some j → w.heap.size ≤ j := by
  obtain ⟨b, off, c, rfl, hc, hx⟩ := hk
  refine ret_of_W Try.func78 rfl ok_slices_Clone ?_
  simp [c_slices_Clone]
  refine W_no (by simp) ?_
  simp
  have hk0 : Kept none' w (w.alloc (.cells #[] 5)) := (Kept.refl _ _).alloc _
  have hB0 : Bys (w.alloc (.cells #[] 5)) (.slice (some ⟨w.heap.size, 0, none⟩) 0 0) [] := .inr ⟨_, 0, #[], rfl, hp_new w _, Nat.le_refl _, by simp, rfl, fun i x h => by simp at h⟩
  have hs0 : (w.alloc (.cells #[] 5)).heap.size = w.heap.size + 1 := by simp
  generalize w.alloc (.cells #[] 5) = w1 at hk0 hB0 hs0 ⊢
  obtain ⟨v', w2, hr, hB, hk2, ho⟩ := bys_append (sb := b) (so := off) (c := c) (m := nb k) hB0 (by simpa using hn) (fun j x hj => wcell_kept hk0 (fun h => h) (hx j x hj))
  rw [nb_len] at hr
  refine W_bi (by simp) hr (stab_nil _ _ _) ?_
  have hv := hB.var
  simp [hv]
  refine ⟨hk0.then hk2 (fun j hj h => by simp [Value.ownBlock] at h; omega), by simpa using hB, fun j hj => ?_⟩
  rcases ho with q | q
  · rw [q] at hj; simp [Value.ownBlock] at hj; omega
  · rw [q] at hj; simp at hj; omega

theorem maskI_zero (m : List Nat) (n : Int) : m.mapIdx (maskI n 0) = m := by
  apply List.ext_getElem?
  intro j
  rw [List.getElem?_mapIdx]
  cases m[j]? with
  | none => rfl
  | some x => simp [maskI]; omega
theorem maskI_step (m : List Nat) (n : Int) (i x : Nat) (hx : m[i + 4]? = some x) : (m.mapIdx (maskI n i)).set (i + 4) (maskb x (left8 n i)) = m.mapIdx (maskI n (i + 1)) := by
  apply List.ext_getElem?
  intro j
  rw [List.getElem?_set, List.getElem?_mapIdx, List.getElem?_mapIdx, List.length_mapIdx]
  have hl := (List.getElem?_eq_some_iff.1 hx).1
  by_cases e : i + 4 = j
  · subst e
    rw [if_pos rfl, if_pos hl, hx]
    simp [maskI]
    omega
  · rw [if_neg e]
    cases m[j]? with
    | none => rfl
    | some y =>
      simp only [Option.map_some]
      congr 1
      unfold maskI
      by_cases h : j < 4 ∨ i + 4 ≤ j
      · rw [if_pos h, if_pos (by omega)]
      · rw [if_neg h, if_neg (by omega)]
theorem maskI_end (m : List Nat) (n : Int) (h : 4 ≤ m.length) : m.mapIdx (maskI n (m.length - 4)) = maskl m n := by
  apply List.ext_getElem?
  intro j
  unfold maskl
  rw [List.getElem?_mapIdx, List.getElem?_mapIdx]
  cases hj : m[j]? with
  | none => rfl
  | some y =>
    have hl := (List.getElem?_eq_some_iff.1 hj).1
    simp only [Option.map_some]
    congr 1
    unfold maskI
    by_cases h4 : j < 4
    · rw [if_pos (.inl h4), if_pos (.inl h4)]
    · rw [if_neg (by omega), if_neg (by omega)]

theorem masked_ret (kv : Value) (k : ByteArray) (n : Int) (w : World) (hk : KeyP w kv k) (h4 : 4 ≤ k.size) (hs : k.size ≤ 1000) (hn : 0 ≤ n ∧ n < 4294967296) :
    Ret Try.prog 75 [kv, .int .i64 n] w fun v w' => Kept none' w w' ∧ Bys w' v (maskl (nb k) n) ∧ ∀ j, v.ownBlock = some j → w.heap.size ≤ j := by
  refine ret_of_W Try.func75 rfl ok_bmap_masked ?_
  simp [c_bmap_masked, hk.var]
  refine W_call0 (by simp [hk.var]) (sclone_ret kv k w hk hs) ?_
  rintro v w1 ⟨hk1, hB, hown⟩
  obtain ⟨g, cap, rfl, hcap, hog, hby⟩ := hB.form (by simp; omega)
  have c1 : ((nb k).length : Int) ≤ cap := by omega
  have c2 : (4 : Int) ≤ (nb k).length := by simp; omega
  have hgs := hown g hog
  simp at c1 c2
  simp [c1, c2]
  rw [nb_len] at hB
  clear hown hog hby
  refine W_loop (fun env w' => ∃ i : Nat, env = [undef, .int .i64 n, undef, undef, .slice (some ⟨g, 0, none⟩) k.size cap, .int .i64 i, .int .i64 ((k.size - 4 : Nat) : Int), undef, undef] ∧ i ≤ k.size - 4 ∧ Kept none' w w' ∧ Bys w' (.slice (some ⟨g, 0, none⟩) k.size cap) ((nb k).mapIdx (maskI n i))) (fun env _ => k.size - natAt env 5) ?_ ?_
  · refine ⟨0, by simp, by omega, hk1, ?_⟩
    rw [maskI_zero]
    exact hB
  · rintro env w2 ⟨i, rfl, hi, hk2, hB2⟩
    by_cases hgo : i < k.size - 4
    · have e1 : IntKind.i64.wrap ((i : Int) + 1) = ((i + 1 : Nat) : Int) := i64w (by omega) (by omega)
      have e2 : IntKind.i64.wrap (8 * (i : Int)) = 8 * (i : Int) := i64w (by omega) (by omega)
      have e3 : IntKind.i64.wrap (n - 8 * (i : Int)) = n - 8 * (i : Int) := i64w (by omega) (by omega)
      have e4 : IntKind.i64.wrap (4 + (i : Int)) = ((i + 4 : Nat) : Int) := by rw [i64w (by omega) (by omega)]; omega
      have e5 : (if (8 : Int) < (if (0 : Int) > n - 8 * (i : Int) then 0 else n - 8 * (i : Int)) then 8 else (if (0 : Int) > n - 8 * (i : Int) then 0 else n - 8 * (i : Int))) = ((left8 n i : Nat) : Int) := by
        unfold left8
        split <;> split <;> omega
      have hl8 := left8_le n i
      have hlen : ((nb k).mapIdx (maskI n i)).length = k.size := by simp
      have hj' : i + 4 < (nb k).length := by simp; omega
      have hget : ((nb k).mapIdx (maskI n i))[i + 4]? = some (nb k)[i + 4] := by
        rw [List.getElem?_mapIdx, List.getElem?_eq_getElem hj']
        simp [maskI]
      have hBx : Bys w2 (.slice (some ⟨g, 0, none⟩) ((nb k).mapIdx (maskI n i)).length cap) ((nb k).mapIdx (maskI n i)) := by rw [hlen]; exact hB2
      have hcell := hBx.cell hget
      have hx := nb_le k _ (List.getElem_mem hj')
      have hme := maskb_eq (nb k)[i + 4] (by omega) (left8 n i) (by omega)
      have hB3 : Bys w2.drew (.slice (some ⟨g, 0, none⟩) ((nb k).mapIdx (maskI n i)).length cap) ((nb k).mapIdx (maskI n i)) := hBx.keep (Kept.refl none' w2).drew (fun _ _ h => h)
      obtain ⟨w4, hst, hB4, hk4⟩ := hB3.store (j := i + 4) (y := maskb (nb k)[i + 4] (left8 n i)) (by rw [hlen]; omega)
      rw [maskI_step _ _ _ _ (List.getElem?_eq_getElem hj'), hlen] at hB4
      have hi4 : ((i + 4 : Nat) : Int) < k.size := by omega
      have hi4' : i + 4 < k.size := by omega
      have hcd : wcell w2.drew g (i + 4) = _ := hcell
      have hwd : Kept none' w w2.drew := hk2.trans (Kept.refl none' w2).drew
      simp
      refine W_yes (by simp; omega) ?_
      simp [e2, e3]
      rw [e5]
      generalize w2.drew = w3 at hB3 hst hk4 hcd hwd ⊢
      generalize left8 n i = l at hme hl8 hst hB4 ⊢
      have hshr : binV .shr (.int .u8 255) (.int .i64 (l : Int)) = some (.int .u8 ((255 : Int).fdiv (2 ^ min l 8))) := by
        show intBin .shr .u8 255 .i64 (l : Int) = _
        rw [intBin_shr _ _ _ _ (by omega)]
        rfl
      have hti : ((i : Int) + 4).toNat = i + 4 := by omega
      simp at hme
      have hi6 : 0 ≤ (i : Int) + 4 ∧ (i : Int) + 4 < k.size := by omega
      refine W_store (w' := w4) (by simp [e4, hi4, hi4', hi6]) (by simp [e4, hi4, hi4', hi6, hti, hcd, hshr, hme]) hst (stab_nil _ _ _) ?_
      simp
      refine ⟨⟨i + 1, e1, by omega, hwd.then hk4 (fun j hj h => by omega), hB4⟩, by simp [natAt, e1]; omega⟩
    · have hie : i = k.size - 4 := by omega
      subst hie
      simp
      refine W_no (by simp) ?_
      simp
      have := maskI_end (nb k) n (by simp; omega)
      rw [nb_len] at this
      rw [this] at hB2
      refine ⟨hk2, hB2, fun j hj => ?_⟩
      simp [Value.ownBlock] at hj
      omega
end Go.Proofs.Ytihaopoehhnbkaa
