/- RegionCells: the walk. -/
import Derived.Test.YthfchnaocbkofaaRegZ
import Derived.Test.YthfchnaocbkofaaBmKm
import Derived.Test.YthfchnaocbkofaaOcts
set_option linter.unusedSimpArgs false
set_option linter.unusedVariables false
set_option maxRecDepth 8000
namespace Go.Proofs.Ythfchnaocbkofaa
open Go.Eng

/-- A number's lowest byte ahead of the others. -/
theorem leN_shift (x : Nat → Int) : ∀ n, leN x (n + 1) = leN (fun j => x (j + 1)) n * 256 + x 0
  | 0 => by simp [leN]
  | n + 1 => by
    have h := leN_shift x n
    rw [leN, h]
    simp only [leN]
    rw [Int.pow_succ, Int.add_mul, Int.mul_assoc]
    omega

theorem ab_byte : ∀ j, j < 8 → byteN 12370169555311111083 j = 171 := by
  intro j hj
  have : j = 0 ∨ j = 1 ∨ j = 2 ∨ j = 3 ∨ j = 4 ∨ j = 5 ∨ j = 6 ∨ j = 7 := by omega
  rcases this with rfl | rfl | rfl | rfl | rfl | rfl | rfl | rfl <;> decide

theorem tmod100 (x : Int) : -99 ≤ x.tmod 100 ∧ x.tmod 100 ≤ 99 := by
  have h1 := Int.tmod_lt_of_pos x (show (0 : Int) < 100 by omega)
  have h2 := Int.lt_tmod_of_pos x (show (0 : Int) < 100 by omega)
  omega
theorem u64_i64 (x : Int) (h1 : -1000 ≤ x) (h2 : x ≤ 1000) : IntKind.i64.wrap (IntKind.u64.wrap x) = x := by
  rw [IntKind.wrap_u64, IntKind.wrap_i64]
  omega

/-- The two appends: a copy of some first bytes, and one behind them. -/
theorem head_append {xs : List Int} {v : Value} {w w1 : World} {p : Nat} (h : Octs w v xs) (hk : Kept none' w w1) (hp : w1.heap[p]? = some (.cells #[] 5 (0, 0))) (hpl : w.heap.size ≤ p) :
    ∃ sl v' w', slSlV 1 v (.int .i64 0) (.int .i64 (if (63 : Int) < xs.length then 63 else xs.length)) = some sl ∧ varV sl = some sl ∧
      (builtin .append #[22, 22] 22 #[] #[.slice (some ⟨p, 0, none⟩) 0 0, sl]).run Try.prog w1 = .ok (.value v') w' ∧ Bys w' v' ((xs.take 63).map Int.toNat) ∧ Kept (fun j => j = p) w1 w' ∧ (∀ g, v'.ownBlock = some g → g = p ∨ w1.heap.size ≤ g) := by
  obtain ⟨a, n, c, rfl, hn, hnc, hmax, hx, hrow⟩ := h
  have hB : Bys w1 (.slice (some ⟨p, 0, none⟩) 0 0) [] := .inr ⟨p, 0, #[], rfl, hp, Nat.le_refl _, by unfold maxLen; omega, rfl, fun i x h => by simp at h⟩
  by_cases h0 : n = 0
  · have hxs : xs = [] := List.eq_nil_of_length_eq_zero (by omega)
    subst hxs
    subst h0
    obtain ⟨sa, hsa⟩ : ∃ sa, slSlV 1 (.slice a 0 c) (.int .i64 0) (.int .i64 0) = some (.slice sa 0 c) := by
      cases a with
      | none => exact ⟨none, by simp⟩
      | some a => exact ⟨_, by simp [slSlV]; rfl⟩
    refine ⟨.slice sa 0 c, _, w1, hsa, rfl, append_zero (e := 5) Try.underlying22 (by kernel_rfl) _ 0 0 (by omega) sa c w1, by simpa using hB, Kept.refl _ _, fun g hg => ?_⟩
    simp [Value.ownBlock] at hg
    omega
  · obtain ⟨b, o, rfl, hc⟩ := hrow.resolve_left h0
    have hm : ∃ m : Nat, (if (63 : Int) < xs.length then (63 : Int) else xs.length) = m ∧ m = min 63 n := by
      by_cases h63 : (63 : Int) < xs.length
      · exact ⟨63, by rw [if_pos h63]; rfl, by omega⟩
      · exact ⟨n, by rw [if_neg h63]; omega, by omega⟩
    obtain ⟨m, hm1, hm2⟩ := hm
    rw [hm1]
    have hml : ((xs.take 63).map Int.toNat).length = m := by simp; omega
    have hc0 : ¬ c = 0 := by omega
    obtain ⟨v', w', h1, h2, h3, h4⟩ := bys_append (sb := b) (so := o) (c := c) (m := (xs.take 63).map Int.toNat) hB (by simp; omega) (fun j x hj => by
      have hjl : j < m := by rw [← hml]; exact (List.getElem?_eq_some_iff.1 hj).1
      rw [List.getElem?_map, List.getElem?_take, if_pos (by omega), List.getElem?_eq_getElem (show j < xs.length by omega)] at hj
      simp at hj
      have h5 := wcell_kept hk (fun h => h) (hc j (by omega))
      have h6 := hx j
      rw [List.getD_eq_getElem?_getD, List.getElem?_eq_getElem (show j < xs.length by omega)] at h5 h6
      simp at h5 h6
      rw [h5]
      congr 2
      omega)
    rw [hml] at h1
    refine ⟨.slice (some ⟨b, o, none⟩) m c, v', w', ?_, rfl, h1, by simpa using h2, h3.mono (fun i hi e => by simp [Value.ownBlock] at e; omega), fun g hg => ?_⟩
    · simp [hc0]
      omega
    · rcases h4 with h4 | h4 <;> rw [h4] at hg <;> simp [Value.ownBlock] at hg <;> omega

/-- A number that is read from the highest byte on. -/
theorem shift_in {n k : Nat} (c : Int) (x : Nat → Int) (hx : ∀ j, 0 ≤ x j ∧ x j ≤ 255) (hk : k < 8) (hc : 0 ≤ c ∧ c ≤ 255) :
    bitOr .u64 (IntKind.u64.wrap (leN x k * 2 ^ (min 8 IntKind.u64.bits))) (IntKind.u64.wrap c) = leN x k * 256 + c := by
  have h1 := leN_bound x hx k
  have h2 : (256 : Int) ^ k ≤ 256 ^ 7 := by exact_mod_cast Nat.pow_le_pow_right (n := 256) (by omega) (show k ≤ 7 by omega)
  have h3 : (256 : Int) ^ 7 = 72057594037927936 := by decide
  have e1 : (2 : Int) ^ (min 8 IntKind.u64.bits) = 256 := by decide
  rw [e1, u64w (by omega) (by omega), u64w (by omega) (by omega)]
  obtain ⟨a, ha⟩ := Int.eq_ofNat_of_zero_le h1.1
  obtain ⟨c, rfl⟩ := Int.eq_ofNat_of_zero_le hc.1
  rw [ha] at h1 ⊢
  unfold bitOr
  have e2 : (a : Int) * 256 = ((a * 256 : Nat) : Int) := by push_cast; rfl
  rw [e2]
  have b1 : (BitVec.ofInt IntKind.u64.bits ((a * 256 : Nat) : Int)).toNat = a * 256 := by
    rw [BitVec.ofInt_natCast, BitVec.toNat_ofNat]
    exact Nat.mod_eq_of_lt (show a * 256 < 2 ^ 64 by omega)
  have b2 : (BitVec.ofInt IntKind.u64.bits ((c : Nat) : Int)).toNat = c := by
    rw [BitVec.ofInt_natCast, BitVec.toNat_ofNat]
    exact Nat.mod_eq_of_lt (show c < 2 ^ 64 by omega)
  rw [BitVec.toNat_or, b1, b2]
  have hor : a * 256 ||| c = a * 256 + c := by
    have : (256 : Nat) = 2 ^ 8 := rfl
    rw [this, ← Nat.shiftLeft_eq, Nat.shiftLeft_add_eq_or_of_lt (show c < 2 ^ 8 by omega)]
  rw [hor, u64w (by omega) (by omega)]
  push_cast
  rfl

/-- Bytes from a place on are turned to 0xAB, from the last one down. -/
def abFrom (x : Nat → Int) (f i k : Nat) : Nat → Int := fun q => if f + i ≤ q ∧ q < f + k then 171 else x q
theorem abFrom_none (x : Nat → Int) (f k : Nat) : abFrom x f k k = x := by funext q; unfold abFrom; rw [if_neg (by omega)]
theorem abFrom_all (x : Nat → Int) (f k : Nat) (hk : k ≤ 8) : abFrom x f 0 k = putN x f (f + k) 12370169555311111083 := by
  funext q
  unfold abFrom putN
  by_cases h : f ≤ q ∧ q < f + k
  · rw [if_pos (by omega), if_pos h, ab_byte _ (by omega)]
  · rw [if_neg (by omega), if_neg h]

theorem z4_key {w : World} {p : Nat} {f : Nat × Nat} (h : w.heap[p]? = some (.cells (Array.replicate 4 (Value.int .u8 0)) 5 f)) : KeyAt w (.slice (some ⟨p, 0, none⟩) 4 4) (key4 (lit4 0)) :=
  keyAt4 (fun j => by unfold lit4; split <;> omega) fun j hj => by
    rw [wcell_of h, Nat.zero_add]
    have : lit4 0 j = 0 := by unfold lit4; split <;> rfl
    rw [this]
    simp [hj]

def upAt (env : Eng.Env) (i : Nat) : Nat :=
  match env[i]? with
  | some (.int _ n) => (n + 1).toNat
  | _ => 0
theorem upAt_eq (env : Eng.Env) (i : Nat) (k : IntKind) (n : Int) (h : env[i]? = some (.int k n)) : upAt env i = (n + 1).toNat := by simp [upAt, h]
def ctx7 (i : Nat) : Int := if i = 0 then 7 else 0
def bytesOf (l : List Nat) (j : Nat) : Int := (l.getD j 0 : Nat)
theorem bytesOf_le {l : List Nat} (h : ∀ x ∈ l, x ≤ 255) (j : Nat) : 0 ≤ bytesOf l j ∧ bytesOf l j ≤ 255 := by
  unfold bytesOf
  by_cases hj : j < l.length
  · have := h _ (List.getElem_mem hj)
    rw [List.getD_eq_getElem?_getD, List.getElem?_eq_getElem hj]
    simp
    omega
  · rw [List.getD_eq_getElem?_getD, List.getElem?_eq_none (by omega)]
    simp

set_option maxHeartbeats 8000000 in
theorem cells_ret (v0 : Value) (xs : List Int) (p0 p1 n : Int) (w : World) (h0 : Octs w v0 xs) : Ret Try.prog 3 [v0, .agg #[.int .i64 p0, .int .i64 p1], .int .i64 n] w fun v w' => v = .bool true ∧ Kept none' w w' := by
  refine ret_of_W Try.func3 rfl ok_tipstafflaw19_RegionCells ?_
  have hvar0 : varV v0 = some v0 := by obtain ⟨a, n, c, rfl, _⟩ := h0; rfl
  have hlen0 : lenV false v0 = some (.int .i64 xs.length) := by obtain ⟨a, n, c, rfl, rfl, _⟩ := h0; rfl
  have hxb := h0.choose_spec.choose_spec.choose_spec.2.2.2.2.1
  have hz : (Value.agg #[.int .i64 0, .int .u64 0, .int .i64 0, .pointer none]) = RVal.zero.val := rfl
  simp [c_tipstafflaw19_RegionCells, hvar0, hlen0, hz]
  have hat := hp_new w (.cells #[.int .i64 p0, .int .i64 p1] 23)
  have hk1 : Kept none' w (w.alloc (.cells #[.int .i64 p0, .int .i64 p1] 23)) := (Kept.refl _ _).alloc _
  have hs1 : (w.alloc (.cells #[.int .i64 p0, .int .i64 p1] 23)).heap.size = w.heap.size + 1 := by simp
  generalize hp4 : w.heap.size = p4 at *
  generalize w.alloc (.cells #[.int .i64 p0, .int .i64 p1] 23) = w1 at *
  have hrow := hp_new w1 (.cells #[] 5)
  have hat2 := hp_old hat (.cells #[] 5)
  have hk2 := hk1.alloc (.cells #[] 5)
  have hs2 : (w1.alloc (.cells #[] 5)).heap.size = w1.heap.size + 1 := by simp
  rw [hs1] at hrow hs2
  generalize w1.alloc (.cells #[] 5) = w2 at *
  obtain ⟨sl, v6, w3, hsl, hslv, happ, hB6, hk3, hown6⟩ := head_append h0 hk2 hrow (by omega)
  have hat3 := hk3.has hat2 (by omega)
  have hkA : Kept none' w w3 := hk2.then hk3 (fun i hi e => by omega)
  have hs3 := hk3.size
  refine W_bi (by simp [hvar0, hlen0, hsl, hslv]) happ (stab_nil _ _ _) ?_
  have hv6 := hB6.var
  simp [hv6]
  have hone := hp_new w3 (.cells #[.int .u8 1] 5)
  have hB6' := hB6.keep ((Kept.refl none' w3).alloc (.cells #[.int .u8 1] 5)) (fun _ _ h => h)
  have hat4 := hp_old hat3 (.cells #[.int .u8 1] 5)
  have hkB := hkA.alloc (.cells #[.int .u8 1] 5)
  have hs4 : (w3.alloc (.cells #[.int .u8 1] 5)).heap.size = w3.heap.size + 1 := by simp
  generalize w3.alloc (.cells #[.int .u8 1] 5) = w4 at *
  obtain ⟨v8, w5, happ8, hB8, hk5, hown8⟩ := bys_append (sb := w3.heap.size) (so := 0) (c := 1) (m := [1]) hB6' (by simp; omega) (fun j x hj => by
    rw [wcell_of hone]
    have hj0 : j = 0 := by have := (List.getElem?_eq_some_iff.1 hj).1; simp at this; omega
    subst hj0
    simp at hj
    subst hj
    rfl)
  generalize hl : (xs.take 63).map Int.toNat ++ [1] = l at hB8
  have hl1 : 1 ≤ l.length ∧ l.length ≤ 64 := by rw [← hl]; simp; omega
  have hlb : ∀ x ∈ l, x ≤ 255 := by
    intro x hx
    rw [← hl] at hx
    simp only [List.mem_append, List.mem_map, List.mem_singleton] at hx
    rcases hx with ⟨y, hy, rfl⟩ | rfl
    · obtain ⟨j, hj⟩ := List.getElem?_of_mem (List.mem_of_mem_take hy)
      have := hxb j
      rw [List.getD_eq_getElem?_getD, hj] at this
      simp at this
      omega
    · omega
  have hown6' : ∀ g, v6.ownBlock = some g → w.heap.size ≤ g ∧ g < w4.heap.size := fun g hg => by
    have h1 := hB6'.lt hg
    have := hown6 g hg
    omega
  have hat5 := hk5.has hat4 (fun e => by have := hown6' _ e; have := hown6 _ e; omega)
  have hkC : Kept none' w w5 := hkB.then hk5 (fun i hi e => by have := hown6' _ e; omega)
  refine W_bi (by simp [hv6]) happ8 (stab_nil _ _ _) ?_
  have hv8 := hB8.var
  have hlen8 := hB8.len
  obtain ⟨g, cap, rfl, hcap, hown8', hcells⟩ := hB8.form (by omega)
  have hg8 : w.heap.size ≤ g ∧ g < w5.heap.size := by
    refine ⟨?_, hB8.lt rfl⟩
    simp only [hown8', Option.some.injEq] at hown8
    rcases hown8 with h | h
    · exact (hown6' _ h.symm).1
    · omega
  simp
  refine W_call0 (by simp; rfl) (newarr_ret l.length 1 w5 ⟨by omega, by omega⟩ ⟨by omega, by omega⟩) ?_
  rintro v w6 ⟨b, M, rfl, hA⟩
  have hk6 := hA.mp.kept
  have hat6 := hk6.has hat5 (fun h => h)
  have hkD := hkC.trans hk6
  have hs6 := hk6.size
  have hgM : ¬ M.own b g := fun h => by have := hA.mp.low g h; omega
  simp
  refine W_call0 (by simp) (saves_ret w6) ?_
  rintro v w7 ⟨rfl, hk7⟩
  have hA7 := hA.calm hk7
  have hat7 := hk7.has hat6 (fun h => h)
  have hkE := hkD.trans hk7
  have hB7 := (hB8.keep hk6 (fun _ _ h => h)).keep hk7 (fun _ _ h => h)
  have hs7 := hk7.size
  simp
  refine W_yes (by simp) ?_
  simp
  have hk8 : Kept none' w7 (w7.alloc (.cells (Array.replicate 4 (Value.int .u8 0)) 5)) := (Kept.refl _ _).alloc _
  have hz8 := hp_new w7 (.cells (Array.replicate 4 (Value.int .u8 0)) 5)
  have hs8 : (w7.alloc (.cells (Array.replicate 4 (Value.int .u8 0)) 5)).heap.size = w7.heap.size + 1 := by simp
  generalize w7.alloc (.cells (Array.replicate 4 (Value.int .u8 0)) 5) = w8 at *
  have hA8 := hA7.calm hk8
  have hat8 := hk8.has hat7 (fun h => h)
  have hkF := hkE.trans hk8
  have hB8' := hB7.keep hk8 (fun _ _ h => h)
  refine W_yes (by simp) ?_
  have hMl : M.l.length = 1 := hA8.len
  have hu := update_ret b M _ (key4 (lit4 0)) g 0 cap (bytesOf l) 0 w8 hA8.mp.map (z4_key hz8) (by rw [hA8.ty]; decide) (by rw [hA8.ty]; decide) (by rw [hA8.ty]; decide) (by rw [hA8.ks]; rfl) (by rw [hA8.clock]; decide) hA8.fr (by rw [hA8.cap]; decide) (by rw [hA8.vs]; omega) (by omega) ⟨by omega, by omega⟩
    (fun j hj => by
      rw [hA8.vs] at hj
      have h1 := (hcells j l[j] (List.getElem?_eq_getElem hj))
      rw [Nat.zero_add]
      have h2 := wcell_kept (hk6.trans (hk7.trans hk8)) (fun h => h) h1
      rw [h2]
      unfold bytesOf
      rw [List.getD_eq_getElem?_getD, List.getElem?_eq_getElem hj]
      rfl) (bytesOf_le hlb) ⟨by omega, hgM⟩ ⟨w7.heap.size, 0, 4, rfl, by omega, fun h => by have := own_lt hA7.mp.map h; omega⟩
  rw [hA8.vs] at hu
  refine W_call0 (by simp) hu ?_
  clear hu
  obtain ⟨e0, hMe⟩ : ∃ e0, M.l = [e0] := List.length_eq_one_iff.1 hMl
  have hge0 : M.l[0]? = some e0 := by rw [hMe]; rfl
  have hke0 := (hA8.ent 0 e0 hge0).1
  rintro v w9 (⟨i, e, hi, hek, ⟨q, _⟩ | ⟨_, rfl, hk9, hm9⟩⟩ | ⟨hno, _⟩)
  · exact absurd q (by decide)
  rotate_left
  · exact absurd hke0 (hno e0 (by rw [hMe]; simp))
  obtain ⟨rfl, rfl⟩ : i = 0 ∧ e = e0 := by
    have hil := (List.getElem?_eq_some_iff.1 hi).1
    have h0 : i = 0 := by omega
    subst h0
    rw [hge0] at hi
    exact ⟨rfl, (Option.some.inj hi).symm⟩
  have hown9 : ∀ j, (writtenM M 0 e (bytesOf l)).own b j → M.own b j := fun j hj => own_set (x := M.clock + 1) (e' := { e with used := M.clock + 1, val := bytesOf l }) hge0 rfl rfl rfl hj
  have hb5 : ∀ {j}, M.own b j → w5.heap.size ≤ j := fun h => hA8.mp.low _ h
  have hMp9 : Mp w5 w9 b (writtenM M 0 e (bytesOf l)) := hA8.mp.written hge0 hk9 hm9
  have hat9 := hk9.has hat8 (fun h => by have := hb5 h; have := blk_lt hat5; omega)
  have hkG : Kept none' w w9 := hkF.then hk9 (fun i hi h => by have := hb5 h; have := hkC.size; omega)
  have hB9 := hB8'.keep hk9 (fun i hi h => by rw [hown8'] at hi; obtain rfl := Option.some.inj hi; exact hgM h)
  have hl9 : (writtenM M 0 e (bytesOf l)).l = [{ e with used := M.clock + 1, val := bytesOf l }] := by simp [writtenM, hMe]
  have hty9 : (writtenM M 0 e (bytesOf l)).ty = 0 := hA8.ty
  have hks9 : (writtenM M 0 e (bytesOf l)).ks = 4 := hA8.ks
  have hvs9 : (writtenM M 0 e (bytesOf l)).vs = l.length := hA8.vs
  have hck9 : (writtenM M 0 e (bytesOf l)).clock = 1 := by show M.clock + 1 = 1; rw [hA8.clock]; rfl
  have hfr9 : (writtenM M 0 e (bytesOf l)).frozen = false := hA8.fr
  have hg9 : ¬ (writtenM M 0 e (bytesOf l)).own b g := fun h => hgM (hown9 _ h)
  have hke9 : ({ e with used := M.clock + 1, val := bytesOf l } : BEnt).key = key4 (lit4 0) := hke0
  have hve9 : ({ e with used := M.clock + 1, val := bytesOf l } : BEnt).val = bytesOf l := rfl
  have hs9 := hk9.size
  clear hown9 hi hek
  generalize ({ e with used := M.clock + 1, val := bytesOf l } : BEnt) = e9 at *
  generalize writtenM M 0 e (bytesOf l) = M9 at *
  simp
  refine W_no (by simp) ?_
  simp
  have hkH := hkG.alloc (.cells (Array.replicate 4 (Value.int .u8 0)) 5)
  have hz10 := hp_new w9 (.cells (Array.replicate 4 (Value.int .u8 0)) 5)
  have hMp10 := hMp9.calm ((Kept.refl none' w9).alloc (.cells (Array.replicate 4 (Value.int .u8 0)) 5))
  have hat10 := hp_old hat9 (.cells (Array.replicate 4 (Value.int .u8 0)) 5)
  have hB10 := hB9.keep ((Kept.refl none' w9).alloc (.cells (Array.replicate 4 (Value.int .u8 0)) 5)) (fun _ _ h => h)
  have hs10 : (w9.alloc (.cells (Array.replicate 4 (Value.int .u8 0)) 5)).heap.size = w9.heap.size + 1 := by simp
  generalize w9.alloc (.cells (Array.replicate 4 (Value.int .u8 0)) 5) = w10 at *
  refine W_call0 (by simp) (cell_ret b M9 _ (key4 (lit4 0)) w10 hMp10.map (z4_key hz10) (by rw [hty9]; decide) (by rw [hty9]; decide) (by rw [hty9]; decide) (by rw [hks9]; rfl) (by rw [hck9]; decide)) ?_
  rintro v w11 (⟨i, e', hi, hek, rfl, hk11, hm11⟩ | ⟨hno, _⟩)
  rotate_left
  · exact absurd hke9 (hno e9 (by rw [hl9]; simp))
  obtain ⟨rfl, rfl⟩ : i = 0 ∧ e' = e9 := by
    rw [hl9] at hi
    have hil := (List.getElem?_eq_some_iff.1 hi).1
    have h0 : i = 0 := by simpa using hil
    subst h0
    exact ⟨rfl, by simpa using hi.symm⟩
  have hge9 : M9.l[0]? = some e' := by rw [hl9]; rfl
  have hown11 : ∀ j, (usedM M9 0 e').own b j → M9.own b j := fun j hj => own_set (x := M9.clock + 1) (e' := { e' with used := M9.clock + 1 }) hge9 rfl rfl rfl hj
  have hMp11 : Mp w5 w11 b (usedM M9 0 e') := hMp10.used hge9 hk11 hm11
  have hin11 : ∀ j, (j = b ∨ j = e'.eb) → M9.own b j := fun j hj => own_ent hge9 hj
  have hat11 := hk11.has hat10 (fun h => by have := hMp10.low _ (hin11 _ h); have := blk_lt hat5; omega)
  have hkI : Kept none' w w11 := hkH.then hk11 (fun i hi h => by have := hMp10.low _ (hin11 _ h); have := hkC.size; omega)
  have hB11 := hB10.keep hk11 (fun i hi h => by rw [hown8'] at hi; obtain rfl := Option.some.inj hi; exact hg9 (hin11 _ h))
  have hl11 : (usedM M9 0 e').l = [{ e' with used := M9.clock + 1 }] := by simp [usedM, hl9]
  have hty11 : (usedM M9 0 e').ty = 0 := hty9
  have hks11 : (usedM M9 0 e').ks = 4 := hks9
  have hvs11 : (usedM M9 0 e').vs = l.length := hvs9
  have hck11 : (usedM M9 0 e').clock = 2 := by show M9.clock + 1 = 2; rw [hck9]; rfl
  have hfr11 : (usedM M9 0 e').frozen = false := hfr9
  have hg11 : ¬ (usedM M9 0 e').own b g := fun h => hg9 (hown11 _ h)
  have hke11 : ({ e' with used := M9.clock + 1 } : BEnt).key = key4 (lit4 0) := hke9
  have hve11 : ({ e' with used := M9.clock + 1 } : BEnt).val = bytesOf l := hve9
  have hcb11 : ({ e' with used := M9.clock + 1 } : BEnt).cb = e'.cb := rfl
  have hs11 := hk11.size
  clear hown11 hi hek hin11
  generalize ({ e' with used := M9.clock + 1 } : BEnt) = e11 at *
  generalize usedM M9 0 e' = M11 at *
  rw [← hcb11]
  simp
  have hkJ := hkI.alloc (.cells #[.pointer (some ⟨b, 0, none⟩)] 24)
  have hq12 := hp_new w11 (.cells #[.pointer (some ⟨b, 0, none⟩)] 24)
  have hMp12 := hMp11.calm ((Kept.refl none' w11).alloc (.cells #[.pointer (some ⟨b, 0, none⟩)] 24))
  have hat12 := hp_old hat11 (.cells #[.pointer (some ⟨b, 0, none⟩)] 24)
  have hB12 := hB11.keep ((Kept.refl none' w11).alloc (.cells #[.pointer (some ⟨b, 0, none⟩)] 24)) (fun _ _ h => h)
  generalize w11.alloc (.cells #[.pointer (some ⟨b, 0, none⟩)] 24) = w12 at *
  refine W_call0 (by simp; rfl) (newmaps_ret _ ctx7 w11.heap.size 1 1 [b] w12 (by simp) ?_ rfl (by omega) ?_) ?_
  · intro i hi
    rw [Array.getElem?_setIfInBounds]
    by_cases h0 : i = 0
    · subst h0; simp [ctx7]
    · simp [ctx7, h0, hi]
      intro h; exact absurd h.symm h0
  · intro i b' hi
    have h0 : i = 0 := by have := (List.getElem?_eq_some_iff.1 hi).1; simpa using this
    subst h0
    simp at hi
    subst hi
    rw [wcell_of hq12]; rfl
  rintro v w13 ⟨rb, maps, rfl, hrb, hk13, hmem, hmaps, hmown⟩
  have hR : Rc w w13 b l.length rb g M11 e11 (RMem.fresh ctx7 maps) 2 :=
    ⟨(hMp12.calm hk13).base hkC, hty11, hks11, hvs11, hl11, hke11, by omega, hmem, hmaps, fun i hi => (hmown i hi).2, hg11, by have := blk_lt (hk13.has hat12 (fun h => h)); have := hk13.size; have := hB12.lt hown8'; omega⟩
  have hat13 := hk13.has hat12 (fun h => h)
  have hkK := hkJ.trans hk13
  have hB13 := hB12.keep hk13 (fun _ _ h => h)
  clear hmem hmaps hmown hl11 hty11 hks11 hvs11 hke11
  have hmm : (RMem.fresh ctx7 maps).maps = maps := rfl
  have hctx : ∀ i, 0 ≤ (RMem.fresh ctx7 maps).ctx i ∧ (RMem.fresh ctx7 maps).ctx i ≤ 255 := fun i => by
    show 0 ≤ ctx7 i ∧ ctx7 i ≤ 255
    unfold ctx7; split <;> omega
  have hbok : BytesOk (RMem.fresh ctx7 maps) := bytesOk_fresh _ _ hctx
  generalize RMem.fresh ctx7 maps = m at *
  simp
  refine W_yes (by simp) ?_
  refine W_call0 (by simp) (map_ret rb m [b] 0 w13 hR.mem hR.maps) ?_
  rintro v w14 ⟨rfl, rfl⟩
  have hpl := plainB_of hR.mp.map.blk
  simp [mapAt, peqV_plain hpl hpl]
  refine W_yes (by simp) ?_
  refine W_call0 (by simp) (map_ret rb m [b] 1 w14 hR.mem hR.maps) ?_
  rintro v w15 ⟨rfl, rfl⟩
  simp [mapAt]
  refine W_yes (by simp) ?_
  refine W_call0 (by simp) (map_ret rb m [b] (-1) w15 hR.mem hR.maps) ?_
  rintro v w16 ⟨rfl, rfl⟩
  simp [mapAt]
  refine W_no (by simp) ?_
  have hR17 := hR.calm ((Kept.refl none' w16).drew)
  have hat17 : w16.drew.heap[p4]? = _ := hat13
  have hkL := hkK.drew
  have hB17 := hB13.keep ((Kept.refl none' w16).drew) (fun _ _ h => h)
  simp [wcell_of hat13]
  clear hk13 hrb
  generalize w16.drew = w17 at *
  have g0 := tmod100 p0
  have g1 := tmod100 p1
  generalize p0.tmod 100 = place at *
  generalize p1.tmod 100 = off at *
  refine W_call0 (by simp) (size_ret n w17) ?_
  rintro v w18 ⟨⟨k, hk4, rfl⟩, hk18⟩
  have hR18 := hR17.calm hk18
  have hkM := hkL.trans hk18
  have hB18 := hB17.keep hk18 (fun _ _ h => h)
  have hz2 : (Value.agg #[.int .i64 0, .int .u64 0, .int .i64 0, .pointer none]) = .agg RVal.zero.arr := rfl
  simp [hz2]
  have hav : ({ tag := 5, n := IntKind.u64.wrap place, slot := RVal.zero.slot, cell := some { block := e11.cb, off := 0 } } : RVal) = ⟨5, IntKind.u64.wrap place, 0, some ⟨e11.cb, 0, none⟩⟩ := rfl
  rw [hav]
  have ha5 : (RVal.mk 5 (IntKind.u64.wrap place) 0 (some ⟨e11.cb, 0, none⟩)).tag = 5 := rfl
  have hac : (RVal.mk 5 (IntKind.u64.wrap place) 0 (some ⟨e11.cb, 0, none⟩)).cell = some ⟨e11.cb, 0, none⟩ := rfl
  have has : (RVal.mk 5 (IntKind.u64.wrap place) 0 (some ⟨e11.cb, 0, none⟩)).slot = 0 := rfl
  have han : IntKind.i64.wrap (RVal.mk 5 (IntKind.u64.wrap place) 0 (some ⟨e11.cb, 0, none⟩)).n = place := u64_i64 place (by omega) (by omega)
  generalize RVal.mk 5 (IntKind.u64.wrap place) 0 (some ⟨e11.cb, 0, none⟩) = a at *
  refine W_store (by simp) (by simp) (store_val (v := a) (hp_new w18 _)) (stab_nil _ _ _) ?_
  obtain ⟨h19, hk19, hs19⟩ := box_fact w18 RVal.zero a 43
  generalize put (w18.alloc (.cells RVal.zero.arr 43)) w18.heap.size (.cells a.arr 43 (0, 0)) = w19 at *
  generalize hp31 : w18.heap.size = p31 at *
  have hR19 := hR18.calm hk19
  have hkN := hkM.trans hk19
  have hB19 := hB18.keep hk19 (fun _ _ h => h)
  have hfw : IntKind.i64.wrap (place + off) = place + off := i64w (by omega) (by omega)
  have hkw : IntKind.i64.wrap (place + off + k) = place + off + k := i64w (by omega) (by omega)
  obtain ⟨kc, hCB⟩ := hR19.cb
  have hsz : sizeOk (k : Int) := by unfold sizeOk; omega
  have hslot : mapAt [b] a.slot = some b := by rw [has]; rfl
  simp [hfw, hkw]
  refine W_call0 (by simp [rval_row h19]) (load_cell rb e11.cb e11.vb l.length kc m (bytesOf l) a off k w19 hR19.mem ha5 hac hCB (by simpa [hve11] using hR19.vb) (bytesOf_le hlb) (by omega) (by omega) (by omega)) ?_
  rintro v w20 ⟨hk20, rfl⟩
  rw [han]
  have hR20 := hR19.calm hk20
  have h20 := hk20.has h19 (fun h => h)
  have hkO := hkN.trans hk20
  have hB20 := hB19.keep hk20 (fun _ _ h => h)
  simp [hz2]
  generalize hld : loadV (bytesOf l) l.length (place + off) k = ld
  refine W_store (by simp) (by simp) (store_val (v := ld.1) (hp_new w20 _)) (stab_nil _ _ _) ?_
  obtain ⟨h21, hk21, hs21⟩ := box_fact w20 RVal.zero ld.1 43
  generalize put (w20.alloc (.cells RVal.zero.arr 43)) w20.heap.size (.cells ld.1.arr 43 (0, 0)) = w21 at *
  generalize hp36 : w20.heap.size = p36 at *
  have hR21 := hR20.calm hk21
  have h31 := hk21.has h20 (fun h => h)
  have hkP := hkO.trans hk21
  have hB21 := hB20.keep hk21 (fun _ _ h => h)
  simp
  have hCB21 : CellBox w21 e11.cb e11.vb l.length kc := ⟨hCB.1, (hk20.trans hk21).has hCB.2 (fun h => h)⟩
  have hV21 : VBytes w21 e11.vb l.length (bytesOf l) := by simpa [hve11] using hR21.vb
  refine W_call0 (by simp [rval_row h31]; rfl) (save_cell rb e11.cb e11.vb l.length kc b m M11 [b] (bytesOf l) a 12370169555311111083 off k w21 hR21.mem hR21.maps ha5 hac hslot hR21.mp.map hfr11 hCB21 hV21 (by omega) (by omega) (by omega) (by omega)) ?_
  rintro v w22 ⟨hk22, rfl, hV22⟩
  rw [han] at hV22 ⊢
  generalize hsv : saveV (bytesOf l) l.length (place + off) k 12370169555311111083 = sv at *
  have hsvb : ∀ j, 0 ≤ sv.1 j ∧ sv.1 j ≤ 255 := fun j => by
    rw [← hsv]
    unfold saveV
    split
    · exact putN_byte (bytesOf_le hlb) _ _ _ j
    · exact bytesOf_le hlb j
  have hvbT : ∀ {j : Nat} {cs : Array Value} {T : TypeId} {f : Nat × Nat}, w21.heap[j]? = some (.cells cs T f) → T ≠ 5 → j ≠ e11.vb := fun hj hT he => by
    obtain ⟨cs, hc, _⟩ := hV21
    exact heap_ne hj hc hT he
  have hvb5 : w.heap.size ≤ e11.vb := hR21.mp.low _ (.inr (.inr ⟨e11, by rw [hR21.one]; simp, .inr (.inr rfl)⟩))
  have hR22 := hR21.turned hk22 hV22 hsvb
  have h31b := hk22.has h31 (hvbT h31 (by decide))
  have h36b := hk22.has h21 (hvbT h21 (by decide))
  have hkQ : Kept none' w w22 := hkP.then hk22 (fun i hi h => by omega)
  have hB22 := hB21.keep hk22 (fun i hi h => by rw [hown8'] at hi; obtain rfl := Option.some.inj hi; exact hR21.gout (.inr (.inr ⟨e11, by rw [hR21.one]; simp, .inr (.inr h)⟩)))
  have hfr22 : ({ M11 with l := [{ e11 with val := sv.1 }] } : BMap).frozen = false := hfr11
  have hcb22 : ({ e11 with val := sv.1 } : BEnt).cb = e11.cb := rfl
  have hvl22 : ({ e11 with val := sv.1 } : BEnt).val = sv.1 := rfl
  rw [← hcb22] at hac
  clear hcb22 hge9 hcb11 hl9 hMp12 hMp11
  generalize ({ e11 with val := sv.1 } : BEnt) = e22 at *
  generalize ({ M11 with l := [e22] } : BMap) = M22 at *
  simp [hz2]
  obtain ⟨kc, hCB22⟩ := hR22.cb
  refine W_call0 (by simp [rval_row h31b]; rfl) (save_cell_no rb e22.cb e22.vb l.length kc b m M22 [b] a ⟨4, 0, 0, none⟩ off 8 w22 hR22.mem hR22.maps ha5 hac hslot hR22.mp.map hCB22 (by omega) (by decide) (by decide) (.inr (by decide)) (by omega) (by omega)) ?_
  rintro v w23 ⟨rfl, hk23⟩
  have hR23 := hR22.calm hk23
  have h31c := hk23.has h31b (fun h => h)
  have h36c := hk23.has h36b (fun h => h)
  have hkR := hkQ.trans hk23
  have hB23 := hB22.keep hk23 (fun _ _ h => h)
  simp
  have hvl23 : e22.val = sv.1 := hvl22
  have hown : ∀ j, j < l.length → wcell w23 g j = some (.int .u8 (bytesOf l j)) := fun j hj => by
    obtain ⟨g', cap', hgv, _, _, hc⟩ := hB23.form (by omega)
    obtain ⟨rfl, rfl⟩ : g = g' ∧ cap = cap' := by simpa using hgv
    rw [hc j l[j] (List.getElem?_eq_getElem hj)]
    unfold bytesOf
    rw [List.getD_eq_getElem?_getD, List.getElem?_eq_getElem hj]
    rfl
  have hgblk : ∃ cs, w23.heap[g]? = some (.cells cs 5 (0, 0)) ∧ l.length ≤ cs.size := by
    rcases hB23 with ⟨hq, _⟩ | ⟨g', cap', cur, hq, h2, h3, h4, h5, h6⟩
    · cases hq
    · obtain ⟨rfl, rfl⟩ : g = g' ∧ cap = cap' := by simpa using hq
      exact ⟨cur, h2, by omega⟩
  have hin1 : (ld.2 = 0 ↔ 0 ≤ place + off ∧ place + off + (k : Int) ≤ l.length) ∧ (sv.2 = 0 ↔ 0 ≤ place + off ∧ place + off + (k : Int) ≤ l.length) := by
    rw [← hld, ← hsv]
    unfold loadV saveV
    by_cases hin : 0 ≤ place + off ∧ place + off + (k : Int) ≤ l.length
    · rw [if_pos ⟨hsz, hin⟩, if_pos ⟨hsz, hin⟩]; simp [hin]
    · rw [if_neg (fun h => hin h.2), if_neg (fun h => hin h.2)]; simp [hin]
  refine W_no ?_ ?_
  · by_cases hin : 0 ≤ place + off ∧ place + off + (k : Int) ≤ l.length
    · have e1 := hin1.1.2 hin
      have e2 := hin1.2.2 hin
      simp [e1, e2, hin.1, hin.2]
    · have e1 : ¬ ld.2 = 0 := fun h => hin (hin1.1.1 h)
      have e2 : ¬ sv.2 = 0 := fun h => hin (hin1.2.1 h)
      have e3 : (decide (0 ≤ place + off) && decide (place + off + (k : Int) ≤ l.length)) = false := by
        rw [Bool.eq_false_iff]; intro h; simp at h; exact hin h
      simp [e1, e2, e3]
  simp
  refine W_cut (fun env w' => ∃ u1 u2 u3 u4 u5 u6 u7 u8 u9 u11 u12 u13 u14 u15 u16 u17 u18 u19 u20 u22 u23 u24 u25 u26 u29 u32 u35 u36 u37 u38 u39 u40 u41 u42 u43, env = [.slice (some ⟨g, 0, none⟩) l.length cap, u1, u2, u3, u4, u5, u6, u7, u8, u9, .pointer (some ⟨b, 0, none⟩), u11, u12, u13, u14, u15, u16, u17, u18, u19, u20, .pointer (some ⟨rb, 0, none⟩), u22, u23, u24, u25, u26, .int .i64 place, .int .i64 off, u29, .int .i64 k, .pointer (some ⟨p31, 0, none⟩), u32, .int .i64 (place + off), .bool (decide (0 ≤ place + off) && decide (place + off + (k : Int) ≤ l.length)), u35, u36, u37, u38, u39, u40, u41, u42, u43, undef, undef, undef, undef, undef, undef, undef, undef, undef, undef, undef, undef, undef, undef, undef, undef, undef, undef, undef, undef, undef, undef, undef, undef, undef] ∧ Rc w w' b l.length rb g M22 e22 m 2 ∧ w'.heap[p31]? = some (.cells a.arr 43 (0, 0)) ∧ Kept none' w w' ∧ ∀ j, j < l.length → wcell w' g j = some (.int .u8 (sv.1 j))) ?_ ?_
  · by_cases hin : 0 ≤ place + off ∧ place + off + (k : Int) ≤ l.length
    · refine W_yes (by simp [hin.1, hin.2]) ?_
      obtain ⟨f, hf⟩ : ∃ f : Nat, (f : Int) = place + off := ⟨(place + off).toNat, by omega⟩
      have hfk : f + k ≤ l.length := by omega
      have hld1 : ld.1 = ⟨1, leN (fun j => bytesOf l (f + j)) k, 0, none⟩ := by
        rw [← hld]
        unfold loadV
        rw [if_pos ⟨hsz, hin⟩, ← hf]
        simp
      have hsv1 : sv.1 = putN (bytesOf l) f (f + k) 12370169555311111083 := by
        rw [← hsv]
        unfold saveV
        rw [if_pos ⟨hsz, hin⟩, ← hf]
        simp
      have hk1 : IntKind.i64.wrap ((k : Int) - 1) = (k : Int) - 1 := i64w (by omega) (by omega)
      simp [hk1]
      refine W_loop (fun env w' => ∃ i : Nat, env = [.slice (some ⟨g, 0, none⟩) l.length cap, undef, undef, undef, undef, undef, undef, undef, undef, undef, .pointer (some ⟨b, 0, none⟩), undef, undef, undef, undef, undef, undef, undef, undef, undef, undef, .pointer (some ⟨rb, 0, none⟩), undef, undef, undef, undef, undef, .int .i64 place, .int .i64 off, undef, .int .i64 k, .pointer (some ⟨p31, 0, none⟩), undef, .int .i64 (place + off), .bool true, undef, .pointer (some ⟨p36, 0, none⟩), undef, undef, undef, undef, undef, .int .u64 (leN (fun q => bytesOf l (f + (k - i) + q)) i), .int .i64 ((k : Int) - i - 1), undef, undef, undef, undef, undef, undef, undef, undef, undef, undef, undef, undef, undef, undef, undef, undef, undef, undef, undef, undef, undef, undef, undef, undef, undef] ∧ i ≤ k ∧ Kept (fun j => j = g) w23 w' ∧ (∃ cs, w'.heap[g]? = some (.cells cs 5 (0, 0)) ∧ l.length ≤ cs.size) ∧ ∀ j, j < l.length → wcell w' g j = some (.int .u8 (abFrom (bytesOf l) f (k - i) k j)))
        (fun env _ => upAt env 43) ?_ ?_
      · refine ⟨0, by simp [hin.1, hin.2, leN], by omega, Kept.refl _ _, hgblk, fun j hj => ?_⟩
        rw [Nat.sub_zero, abFrom_none]
        exact hown j hj
      rintro env w' ⟨i, rfl, hi, hkw', ⟨cs, hcs, hcsz⟩, hby⟩
      by_cases hik : i < k
      · simp
        refine W_yes (by simp; omega) ?_
        obtain ⟨q, hq⟩ : ∃ q, q = f + (k - i - 1) := ⟨_, rfl⟩
        have e1 : IntKind.i64.wrap (place + off + ((k : Int) - i - 1)) = (q : Int) := by rw [i64w (by omega) (by omega)]; omega
        have e2 : IntKind.i64.wrap ((k : Int) - i - 1 - 1) = (k : Int) - ((i + 1 : Nat) : Int) - 1 := by rw [i64w (by omega) (by omega)]; omega
        have e3 : q < l.length := by omega
        have e4 := hby q e3
        have e5 : abFrom (bytesOf l) f (k - i) k q = bytesOf l q := by unfold abFrom; rw [if_neg (by omega)]
        rw [e5] at e4
        have e6 := shift_in (n := 0) (k := i) (bytesOf l q) (fun q => bytesOf l (f + (k - i) + q)) (fun q => bytesOf_le hlb _) (by omega) (bytesOf_le hlb _)
        have e7 : leN (fun q => bytesOf l (f + (k - (i + 1)) + q)) (i + 1) = leN (fun q => bytesOf l (f + (k - i) + q)) i * 256 + bytesOf l q := by
          rw [leN_shift]
          have h1 : leN (fun j => bytesOf l (f + (k - (i + 1)) + (j + 1))) i = leN (fun q => bytesOf l (f + (k - i) + q)) i := leN_congr i fun q hq => by congr 1; omega
          have h2 : bytesOf l (f + (k - (i + 1)) + 0) = bytesOf l q := by congr 1; omega
          show leN (fun j => bytesOf l (f + (k - (i + 1)) + (j + 1))) i * 256 + bytesOf l (f + (k - (i + 1)) + 0) = _
          rw [h1, h2]
        rw [← e7] at e6
        have hst : stv w' 1 (.pointer (some ⟨g, q, none⟩)) (.int .u8 171) = some (put w' g (.cells (cs.setIfInBounds q (.int .u8 171)) 5 (0, 0))) := by
          rw [stv_of (n := 1) (v := .int .u8 171) hcs rfl (by omega) (.inl (by simp)) (by simp [Value.oneCell'])]
          rfl
        simp [e1, e3, e4]
        rw [e6]
        refine W_store (by simp [e1, e3]) (by simp) hst (stab_nil _ _ _) ?_
        simp [e2]
        refine ⟨⟨i + 1, ⟨rfl, by simp⟩, by omega, hkw'.put (fun _ => rfl) _, ⟨_, put_same (blk_lt hcs), by simpa using hcsz⟩, fun j hj => ?_⟩, ?_⟩
        · by_cases hjq : j = q
          · subst hjq
            rw [wcell_of (put_same (blk_lt hcs)), Array.getElem?_setIfInBounds_self_of_lt (by omega)]
            unfold abFrom
            rw [if_pos (by omega)]
          · have h1 : wcell (put w' g (.cells (cs.setIfInBounds q (.int .u8 171)) 5 (0, 0))) g j = wcell w' g j := by
              rw [wcell_of (put_same (blk_lt hcs)), wcell_of hcs, Array.getElem?_setIfInBounds_ne (fun h => hjq h.symm)]
            rw [h1, hby j hj]
            unfold abFrom
            by_cases h2 : f + (k - i) ≤ j ∧ j < f + k
            · rw [if_pos h2, if_pos (by omega)]
            · rw [if_neg h2, if_neg (by omega)]
        · rw [upAt_eq _ 43 .i64 ((k : Int) - ((i + 1 : Nat) : Int) - 1) (by simp), upAt_eq _ 43 .i64 ((k : Int) - i - 1) (by simp)]
          omega
      · have hik2 : i = k := by omega
        subst hik2
        simp
        refine W_no (by simp) ?_
        simp
        have h36d := hkw'.has h36c (fun e => by obtain ⟨cs', hc', _⟩ := hgblk; exact heap_ne h36c hc' (by decide) e)
        have h31d := hkw'.has h31c (fun e => by obtain ⟨cs', hc', _⟩ := hgblk; exact heap_ne h31c hc' (by decide) e)
        have hq : eqv w' (.cons 0 none .int (.cons 1 none .int (.cons 2 none .int (.cons 3 none .ptr .nil)))) (.agg ld.1.arr) (.agg { RVal.zero with tag := 1, n := leN (fun q => bytesOf l (f + q)) i }.arr) = some true := by
          rw [hld1, eqv_rval _ _ _ rfl rfl]
          simp [RVal.zero]
        simp [rval_row h36d, hq]
        refine W_no (by simp [rval_row h36d, hq]) ?_
        simp
        refine ⟨hin, hR23.beside hkw' hg8.1 ⟨_, hgblk.choose_spec.1⟩, h31d, hkR.then hkw' (fun i hi h => by omega), fun j hj => ?_⟩
        rw [hby j hj, hsv1, Nat.sub_self, abFrom_all _ _ _ (by omega)]
    · refine W_no (by simp; omega) ?_
      simp
      refine ⟨hR23, h31c, hkR, fun j hj => ?_⟩
      rw [hown j hj, ← hsv]
      unfold saveV
      rw [if_neg (fun h => hin h.2)]
  · clear hB23 hB22 hB21 hB20 hB19 hB18 hB17 hB13 hB12 hB11 hB10 hB9 hB8' hB7
    clear hR17 hR18 hR19 hR20 hR21 hR hown hin1 h31c h36c h31b h36b h31 h20 h19 h21 hV21 hCB21 hCB hkL hkM hkN hkO hkP
    rintro env w24 ⟨u1, u2, u3, u4, u5, u6, u7, u8, u9, u11, u12, u13, u14, u15, u16, u17, u18, u19, u20, u22, u23, u24, u25, u26, u29, u32, u35, u36, u37, u38, u39, u40, u41, u42, u43, rfl, hR24, h31, hk24, hby⟩
    simp
    have hz25 := hp_new w24 (.cells (Array.replicate 4 (Value.int .u8 0)) 5)
    have hk25 : Kept none' w24 (w24.alloc (.cells (Array.replicate 4 (Value.int .u8 0)) 5)) := (Kept.refl _ _).alloc _
    generalize w24.alloc (.cells (Array.replicate 4 (Value.int .u8 0)) 5) = w25 at *
    have hR25 := hR24.calm hk25
    have h31b := hk25.has h31 (fun h => h)
    have hkA25 := hk24.trans hk25
    have hby25 : ∀ j, j < l.length → wcell w25 g j = some (.int .u8 (sv.1 j)) := fun j hj => wcell_kept hk25 (fun h => h) (hby j hj)
    refine W_call0 (by simp) (lookup_ret b M22 _ (key4 (lit4 0)) w25 hR25.mp.map (z4_key hz25) (by rw [hR25.ty]; decide) (by rw [hR25.ty]; decide) (by rw [hR25.ty]; decide) (by rw [hR25.ks]; rfl) (by have := hR25.clock; omega) (by rw [hR25.vs]; omega)) ?_
    rintro v w26 (⟨i, e', nb, c, hi, hek, rfl, hc, hnb, hnby, hk26, hm26⟩ | ⟨hno, _⟩)
    rotate_left
    · exact absurd hR25.key (hno e22 (by rw [hR25.one]; simp))
    obtain ⟨rfl, rfl⟩ := hR25.only hi
    have hR26 := hR25.used hk26 hm26
    have hin26 : ∀ {j}, (j = b ∨ j = e'.eb) → M22.own b j := fun hj => own_ent hR25.get hj
    have h31c := hk26.has h31b (fun h => hR25.not h31b (by decide) (by decide) (by decide) (by decide) (by decide) (hin26 h))
    have hkA26 : Kept none' w w26 := hkA25.then hk26 (fun i hi h => by have := hR25.mp.low _ (hin26 h); omega)
    have hby26 : ∀ j, j < l.length → wcell w26 g j = some (.int .u8 (sv.1 j)) := fun j hj => wcell_kept hk26 (fun h => hR25.gout (hin26 h)) (hby25 j hj)
    rw [hR25.vs, hvl23] at hnby
    rw [hR25.vs]
    have hfr26 : (usedM M22 0 e').frozen = false := hfr22
    have hvl26 : ({ e' with used := M22.clock + 1 } : BEnt).val = sv.1 := hvl23
    have hcb26 : ({ e' with used := M22.clock + 1 } : BEnt).cb = e'.cb := rfl
    rw [← hcb26] at hac
    clear hR25 hR24 hi hcb26 hin26 hR23 hR22 hvl23 hvl22 hCB22
    generalize ({ e' with used := M22.clock + 1 } : BEnt) = e26 at *
    generalize usedM M22 0 e' = M26 at *
    have hstr : ∀ {q c : Nat}, (∀ j, j < l.length → wcell w26 q j = some (.int .u8 (sv.1 j))) → bstrv w26 (.slice (some ⟨q, 0, none⟩) l.length c) = some (.string (bs ((List.range l.length).map fun j => (sv.1 j).toNat))) := fun {q c} h => by
      have := bytes_bstr (w := w26) (b := q) (off := 0) (c := c) (m := (List.range l.length).map fun j => (sv.1 j).toNat) (by simp; omega) (fun j x hj => by
        rw [List.getElem?_map, Option.map_eq_some_iff] at hj
        obtain ⟨y, hy, rfl⟩ := hj
        have hyl := (List.getElem?_eq_some_iff.1 hy)
        obtain ⟨hlt, hyy⟩ := hyl
        simp at hlt hyy
        subst hyy
        rw [Nat.zero_add, h j hlt]
        have := hsvb j
        congr 2
        omega)
      simpa using this
    have hne : ∀ a : ByteArray, strBin .neq a a = some (.bool false) := fun a => by simp [strBin]
    simp [hstr hnby, hstr hby26, hne]
    refine W_yes (by simp) ?_
    refine W_call0 (by simp) (freeze_ret b M26 w26 hR26.mp.map hfr26) ?_
    rintro v w27 ⟨rfl, hk27, hm27⟩
    have hR27 := hR26.frozen hk27 hm27
    have hbo : M26.own b b := .inl rfl
    have h31d := hk27.has h31c (fun h => hR26.not h31c (by decide) (by decide) (by decide) (by decide) (by decide) (by rw [h]; exact hbo))
    have hkA27 : Kept none' w w27 := hkA26.then hk27 (fun i hi h => by have := hR26.mp.low _ hbo; omega)
    have hfr27 : ({ M26 with frozen := true } : BMap).frozen = true := rfl
    clear hR26
    generalize ({ M26 with frozen := true } : BMap) = M27 at *
    simp
    refine W_no (by simp) ?_
    simp
    obtain ⟨kc, hCB⟩ := hR27.cb
    have hV27 : VBytes w27 e26.vb l.length sv.1 := by simpa [hvl26] using hR27.vb
    refine W_call0 (by simp [rval_row h31d]) (load_cell rb e26.cb e26.vb l.length kc m sv.1 a off k w27 hR27.mem ha5 hac hCB hV27 hsvb (by omega) (by omega) (by omega)) ?_
    rintro v w28 ⟨hk28, rfl⟩
    rw [han]
    have hR28 := hR27.calm hk28
    have h31e := hk28.has h31d (fun h => h)
    have hkA28 := hkA27.trans hk28
    have hCB28 : CellBox w28 e26.cb e26.vb l.length kc := ⟨hCB.1, hk28.has hCB.2 (fun h => h)⟩
    generalize hld2 : loadV sv.1 l.length (place + off) k = ld2
    simp
    refine W_store (by simp) (by simp) (store_val (v := ld2.1) (hp_new w28 _)) (stab_nil _ _ _) ?_
    obtain ⟨h51, hk29, hs29⟩ := box_fact w28 RVal.zero ld2.1 43
    generalize put (w28.alloc (.cells RVal.zero.arr 43)) w28.heap.size (.cells ld2.1.arr 43 (0, 0)) = w29 at *
    generalize w28.heap.size = p51 at *
    have hR29 := hR28.calm hk29
    have h31f := hk29.has h31e (fun h => h)
    have hkA29 := hkA28.trans hk29
    have hCB29 : CellBox w29 e26.cb e26.vb l.length kc := ⟨hCB.1, hk29.has hCB28.2 (fun h => h)⟩
    have hg54 : (!decide (ld2.2 = 0) == (decide (0 ≤ place + off) && decide (place + off + (k : Int) ≤ l.length)) || (decide (0 ≤ place + off) && decide (place + off + (k : Int) ≤ l.length)) && !decide (ld2.1.tag = 1)) = false := by
      rw [← hld2]
      unfold loadV
      by_cases hin : 0 ≤ place + off ∧ place + off + (k : Int) ≤ l.length
      · have h1 := hin.1
        have h2 := hin.2
        rw [if_pos (And.intro hsz hin)]; simp [h1, h2]
      · have e3 : (decide (0 ≤ place + off) && decide (place + off + (k : Int) ≤ l.length)) = false := by
          rw [Bool.eq_false_iff]; intro h; simp at h; exact hin h
        rw [if_neg (fun h => hin h.2), e3]; simp
    simp [wcell_of h51, hg54, rval_row h31f]
    refine W_yes (by simp) ?_
    have hN1 : ({ tag := 1, n := RVal.zero.n, slot := RVal.zero.slot, cell := RVal.zero.cell } : RVal) = ⟨1, 0, 0, none⟩ := rfl
    refine W_call0 (by simp [rval_row h31f, hN1]) (save_cell_no rb e26.cb e26.vb l.length kc b m M27 [b] a ⟨1, 0, 0, none⟩ off k w29 hR29.mem hR29.maps ha5 hac hslot hR29.mp.map hCB29 (by omega) (by decide) (by decide) (.inl hfr27) (by omega) (by omega)) ?_
    rintro v w30 ⟨rfl, hk30⟩
    have hR30 := hR29.calm hk30
    have h31g := hk30.has h31f (fun h => h)
    have hkA30 := hkA29.trans hk30
    have hCB30 : CellBox w30 e26.cb e26.vb l.length kc := ⟨hCB.1, hk30.has hCB29.2 (fun h => h)⟩
    simp [rval_row h31g]
    refine W_yes (by simp) ?_
    simp
    refine W_yes (by simp) ?_
    simp [rval_row h31g]
    refine W_yes (by simp) ?_
    have hk31 : Kept none' w30 (w30.alloc (.cells #[.int .u8 1] 5)) := (Kept.refl _ _).alloc _
    simp
    generalize w30.alloc (.cells #[.int .u8 1] 5) = w31 at *
    have hR31 := hR30.calm hk31
    have hkA31 := hkA30.trans hk31
    refine W_yes (by simp) ?_
    refine W_call0 (by simp) (fill_cell_no rb e26.cb e26.vb l.length kc b 1 1 (some ⟨w30.heap.size, 0, none⟩) m M27 [b] a w31 hR31.mem hR31.maps ha5 hac hslot hR31.mp.map ⟨hCB.1, hk31.has hCB30.2 (fun h => h)⟩ (by omega) hfr27 (by omega)) ?_
    rintro v w32 ⟨rfl, hk32⟩
    have hR32 := hR31.calm hk32
    have hkA32 := hkA31.trans hk32
    simp
    refine W_no (by simp) ?_
    simp
    have hcv : ({ tag := 2, n := IntKind.u64.wrap place, slot := RVal.zero.slot, cell := RVal.zero.cell } : RVal) = ⟨2, IntKind.u64.wrap place, 0, none⟩ := rfl
    rw [hcv]
    have hc2 : (RVal.mk 2 (IntKind.u64.wrap place) 0 none).tag = 2 := rfl
    have hcn : IntKind.i64.wrap (RVal.mk 2 (IntKind.u64.wrap place) 0 none).n = place := u64_i64 place (by omega) (by omega)
    generalize RVal.mk 2 (IntKind.u64.wrap place) 0 none = cx at *
    refine W_store (by simp) (by simp) (store_val (v := cx) (hp_new w32 _)) (stab_nil _ _ _) ?_
    obtain ⟨h60, hk33, hs33⟩ := box_fact w32 RVal.zero cx 43
    generalize put (w32.alloc (.cells RVal.zero.arr 43)) w32.heap.size (.cells cx.arr 43 (0, 0)) = w33 at *
    generalize w32.heap.size = p60 at *
    have hR33 := hR32.calm hk33
    have hkA33 := hkA32.trans hk33
    simp
    refine W_call0 (by simp [rval_row h60]) (load_ctx rb m cx off 1 w33 hR33.mem hc2 (by omega) (by omega) hbok) ?_
    rintro v w34 ⟨hk34, rfl⟩
    rw [hcn]
    have hR34 := hR33.calm hk34
    have hkA34 := hkA33.trans hk34
    have h60b := hk34.has h60 (fun h => h)
    generalize hld3 : loadC m (place + off) 1 = ld3
    simp
    refine W_store (by simp) (by simp) (store_val (v := ld3.1) (hp_new w34 _)) (stab_nil _ _ _) ?_
    obtain ⟨h63, hk35, hs35⟩ := box_fact w34 RVal.zero ld3.1 43
    generalize put (w34.alloc (.cells RVal.zero.arr 43)) w34.heap.size (.cells ld3.1.arr 43 (0, 0)) = w35 at *
    generalize w34.heap.size = p63 at *
    have h60c := hk35.has h60b (fun h => h)
    have hkA35 := hkA34.trans hk35
    have hld3a : (decide (ld3.2 = 0) == (decide (0 ≤ place + off) && decide (place + off < 32))) = true ∧ (ld3.2 = 0 → ld3.1.tag = 1) := by
      rw [← hld3]
      unfold loadC
      by_cases hin : 0 ≤ place + off ∧ place + off + 1 ≤ 32
      · have h1 := hin.1
        have h2 : place + off < 32 := by omega
        rw [if_pos ⟨by unfold sizeOk; omega, hin⟩]; simp [h1, h2]
      · have e3 : (decide (0 ≤ place + off) && decide (place + off < 32)) = false := by
          rw [Bool.eq_false_iff]; intro h; simp at h; omega
        rw [if_neg (fun h => hin h.2), e3]; simp
    have hld3b : (!decide (ld3.2 = 0) || decide (ld3.1.tag = 1)) = true := by
      by_cases h : ld3.2 = 0
      · simp [h, hld3a.2 h]
      · simp [h]
    simp [wcell_of h63, hld3a.1, hld3b, rval_row h60c]
    refine W_yes (by simp) ?_
    refine W_call0 (by simp [rval_row h60c, hN1]) (save_ctx_no rb cx ⟨1, 0, 0, none⟩ off 1 w35 hc2 (by decide) (by decide) (by omega) (by omega)) ?_
    rintro v w36 ⟨rfl, hk36⟩
    have h60d := hk36.has h60c (fun h => h)
    have hkA36 := hkA35.trans hk36
    simp [rval_row h60d]
    refine W_yes (by simp) ?_
    refine W_call0 (by simp [rval_row h60d]) (fill_ctx_no rb 0 0 none cx w36 hc2 (by omega)) ?_
    rintro v w37 ⟨rfl, hk37⟩
    simp
    exact hkA36.trans hk37
end Go.Proofs.Ythfchnaocbkofaa
