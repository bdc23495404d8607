/- Layer 23: strings; what the library tells of them. -/
import Derived.Test.YtpannhipchnhaaaGreatDoorAs1
import Derived.Test.YtpannhipchnhaaaGreatDoorAsShelf
import Derived.Lib.SplitLaws
import Derived.Lib.ConvBytes
import Derived.Lib.ItoaLen
set_option linter.unusedSimpArgs false
set_option linter.unusedVariables false
set_option maxRecDepth 8000
namespace Go.Proofs.YtpannhipchnhaaaGreatDoor
open Go.Eng

abbrev Str := List UInt8
def us (l : Str) : ByteArray := ⟨l.toArray⟩
theorem mk_us (l : Str) : (ByteArray.mk (List.toArray l)) = us l := rfl
@[simp] theorem us_size (l : Str) : (us l).size = l.length := by show l.toArray.size = _; simp
@[simp] theorem us_data (l : Str) : (us l).data.toList = l := rfl
theorem us_inj {a b : Str} (h : us a = us b) : a = b := by
  have := congrArg (fun s : ByteArray => s.data.toList) h
  simpa using this
theorem us_eql (a b : Str) : strBin .eql (us a) (us b) = some (.bool (decide (a = b))) := by
  unfold strBin
  congr 2
  by_cases h : a = b
  · subst h; simp
  · have hne : ¬ (us a) = (us b) := fun e => h (us_inj e)
    have : ¬ (us a).data = (us b).data := fun e => hne (congrArg ByteArray.mk e)
    simp [h, this]
theorem us_neq (a b : Str) : strBin .neq (us a) (us b) = some (.bool (!decide (a = b))) := by
  unfold strBin
  congr 2
  by_cases h : a = b
  · subst h; simp
  · have hne : ¬ (us a) = (us b) := fun e => h (us_inj e)
    have : ¬ (us a).data = (us b).data := fun e => hne (congrArg ByteArray.mk e)
    simp [h, this]
theorem us_append (a b : Str) : us a ++ us b = us (a ++ b) := by
  refine ByteArray.ext ?_
  rw [ByteArray.data_append]
  simp [us]
theorem us_cat (a b : Str) (h : a.length + b.length ≤ 1000000000) : strBin .add (us a) (us b) = some (.string (us (a ++ b))) := by
  unfold strBin
  rw [if_neg (by show ¬ ((((us a).size + (us b).size : Nat) : Int) > 9223372036854775807); simp only [us_size]; omega), us_append]
theorem us_extract (l : Str) (i j : Nat) : (us l).extract i j = us ((l.take j).drop i) := by
  refine ByteArray.ext ?_
  rw [ByteArray.data_extract]
  simp [us, List.extract_toArray, List.drop_take]

/-! The words. -/
def aluW : List Str := [[97, 100, 100], [115, 117, 98], [109, 117, 108], [100, 105, 118], [111, 114], [97, 110, 100], [108, 115, 104], [114, 115, 104], [110, 101, 103], [109, 111, 100], [120, 111, 114], [109, 111, 118], [97, 114, 115, 104]]
def jumpW : List Str := [[], [106, 101, 113], [106, 103, 116], [106, 103, 101], [106, 115, 101, 116], [106, 110, 101], [106, 115, 103, 116], [106, 115, 103, 101], [], [], [106, 108, 116], [106, 108, 101], [106, 115, 108, 116], [106, 115, 108, 101]]
def atomW : List Str := [[97, 97, 100, 100], [97, 111, 114], [97, 97, 110, 100], [97, 120, 111, 114]]
def atomN : List Int := [0, 64, 80, 160]
def sizeW : List Str := [[52], [50], [49], [56]]
/-- What the program's own tables hold, and the library's. -/
structure GlobA (w : World) : Prop where
  alus : ∀ (i : Nat) s, aluW[i]? = some s → wcell w 0 i = some (.string (us s))
  jumps : ∀ (i : Nat) s, jumpW[i]? = some s → wcell w 1 i = some (.string (us s))
  atomics : ∀ (i : Nat) s, atomW[i]? = some s → wcell w 2 i = some (.string (us s))
  sizes : ∀ (i : Nat) s, sizeW[i]? = some s → wcell w 4 i = some (.string (us s))
  atoms : ∀ (i : Nat) n, atomN[i]? = some n → wcell w 3 i = some (.int .i32 n)
  pow : Lib.TabIs Tryz.prog w "internal/strconv.uint64pow10" .u64 Lib.pow10Tab
  max : ∃ m : Int, wcell w 5 0 = some (.int .i64 m)
  syn : ∃ e, wcell w 9 0 = some e ∧ (e = .nilIface ∨ ∃ te pe, e = .iface te pe)
  rng : ∃ e, wcell w 10 0 = some e ∧ (e = .nilIface ∨ ∃ te pe, e = .iface te pe)
theorem tab_calm {w w' : World} {n : String} {k : IntKind} {zs : List Int} (h : Lib.TabIs Tryz.prog w n k zs) (hk : Kept none' w w') : Lib.TabIs Tryz.prog w' n k zs := by
  unfold Lib.TabIs World.var? at h ⊢
  cases hg : Tryz.prog.globalNamed n with
  | none => rw [hg] at h; cases h
  | some g =>
    rw [hg] at h
    simp only [Option.bind_some] at h ⊢
    cases hb : w.heap[g]? with
    | none => rw [hb] at h; cases h
    | some o => rw [hk.has hb (fun h => h)]; rw [hb] at h; exact h
theorem GlobA.calm {w w' : World} (h : GlobA w) (hk : Kept none' w w') : GlobA w' :=
  ⟨fun i s hi => wcell_calm hk (h.alus i s hi), fun i s hi => wcell_calm hk (h.jumps i s hi), fun i s hi => wcell_calm hk (h.atomics i s hi), fun i s hi => wcell_calm hk (h.sizes i s hi), fun i s hi => wcell_calm hk (h.atoms i s hi), tab_calm h.pow hk,
    h.max.imp fun _ e => wcell_calm hk e, h.syn.imp fun _ e => ⟨wcell_calm hk e.1, e.2⟩, h.rng.imp fun _ e => ⟨wcell_calm hk e.1, e.2⟩⟩

/-! The library. -/
theorem calm_below {w w' : World} (h : RowKit.Below w.heap.size w w') : Kept none' w w' := ⟨h.os, h.tape, h.output, h.size, fun k hk _ => h.block k hk⟩
theorem drewN_kept (w : World) (n : Nat) : Kept none' w (w.drewN n) := ⟨rfl, rfl, rfl, Nat.le_refl _, fun _ _ _ => rfl⟩
theorem grow_kept (w : World) (n : Nat) (os : Array Obj) : Kept none' w (Sort.grow (w.drewN n) os) := by
  refine ⟨rfl, rfl, rfl, ?_, fun k hk _ => ?_⟩
  · show w.heap.size ≤ (w.heap ++ os).size
    simp
  · show (w.heap ++ os)[k]? = _
    rw [Array.getElem?_append_left hk]
theorem bytesWorld_kept (w : World) (T : TypeId) (t : ByteArray) : Kept none' w (Lib.bytesWorld w T t) := ⟨rfl, rfl, rfl, by rw [Lib.bytesWorld_size]; omega, fun j hj _ => Lib.bytesWorld_at_old w T _ j hj⟩

theorem itoa_T {w0 : World} (hg : GlobA w0) {n : Int} (h0 : -9223372036854775808 ≤ n) (h1 : n ≤ 9223372036854775807) : T Tryz.prog w0 41 [.int .i64 n] = some (.string (us (Lib.itoa n))) :=
  T_of_ret (by kernel_rfl) (by simp) (by simp) fun w hk => ret_of_calls ((Tryz.strconv_Itoa n h0 h1 w (tab_calm hg.pow hk)).mono fun e w' he => by
    obtain ⟨he, k, os, rfl⟩ := he
    exact ⟨_, he, rfl, grow_kept w k os⟩)
theorem cut_T {w0 : World} (hg : GlobA w0) (s sep : Str) (hs : s.length < 4294967281) : T Tryz.prog w0 19 [.string (us s), .string (us sep)] = some (.tuple #[.string (us (Lib.cut s sep).1), .string (us (Lib.cut s sep).2.1), .bool (Lib.cut s sep).2.2]) :=
  T_of_ret (by kernel_rfl) (by simp) (by simp) fun w hk => by
    obtain ⟨m, hm⟩ := hg.max
    exact ret_of_calls ((Tryz.strings_Cut (us s) (us sep) m w (by simpa using hs) (wcell_cell (wcell_calm hk hm))).mono fun e w' he => by
      obtain ⟨he, k, rfl⟩ := he
      exact ⟨_, he, rfl, drewN_kept w k⟩)
theorem cutPrefix_T (w0 : World) (s p : Str) : T Tryz.prog w0 99 [.string (us s), .string (us p)] = some (.tuple #[.string (us (Lib.trimPrefix s p)), .bool (Lib.hasPrefix s p)]) :=
  T_of_ret (by kernel_rfl) (by simp) (by simp) fun w hk => ret_of_calls ((Tryz.strings_CutPrefix (us s) (us p) w).mono fun e w' he => ⟨_, he.1, rfl, he.2 ▸ Kept.refl _ _⟩)
theorem cutSuffix_T (w0 : World) (s p : Str) (hs : s.length ≤ 9223372036854775807) : T Tryz.prog w0 54 [.string (us s), .string (us p)] = some (.tuple #[.string (us (Lib.trimSuffix s p)), .bool (Lib.hasSuffix s p)]) :=
  T_of_ret (by kernel_rfl) (by simp) (by simp) fun w hk => ret_of_calls ((Tryz.strings_CutSuffix (us s) (us p) w (by simpa using hs)).mono fun e w' he => ⟨_, he.1, rfl, he.2 ▸ Kept.refl _ _⟩)
theorem hasPrefix_T (w0 : World) (s p : Str) : T Tryz.prog w0 102 [.string (us s), .string (us p)] = some (.bool (Lib.hasPrefix s p)) :=
  T_of_ret (by kernel_rfl) (by simp) (by simp) fun w hk => ret_of_calls ((Tryz.strings_HasPrefix (us s) (us p) w).mono fun e w' he => ⟨_, he.1, rfl, he.2 ▸ Kept.refl _ _⟩)
end Go.Proofs.YtpannhipchnhaaaGreatDoor
namespace Go.Proofs.YtpannhipchnhaaaGreatDoor
open Go.Eng

/-! Numbers told. -/
theorem nDigits_le {u : Nat} (hu : u < 18446744073709551616) (h1 : 1 ≤ u) : Lib.nDigits u ≤ 20 := by
  have := Lib.numDigits_eq u h1 hu
  split at this <;> omega
theorem zeros24 : (Value.agg (Array.replicate 24 (.int .u8 0))).cells = Lib.zeros24 := rfl
set_option maxHeartbeats 1000000 in
theorem formatIn_ret (u : Nat) (w : World) (hg : GlobA w) (hu : u < 18446744073709551616) : Ret Tryz.prog 68 [.int .u64 u, .int .i64 10] w fun v w' => v = .string (us (Lib.decDigits u)) ∧ Kept none' w w' := by
  refine ret_of_W Tryz.func68 rfl ok_internal_strconv_FormatUint ?_
  simp only [c_internal_strconv_FormatUint, W_seq, W_set]
  refine ok_intro (.string ⟨#[]⟩) (by simp) ?_
  try simp only [W_seq]
  refine W_yes (by simp) ?_
  try simp only [W_seq]
  have e100 : IntKind.u64.wrap 100 = 100 := by decide +kernel
  by_cases h100 : u < 100
  · have h1 : (u : Int) < 100 := by omega
    refine W_yes (by simp [h1]) ?_
    have e1 : IntKind.i64.wrap (u : Int) = u := i64w (by omega) (by omega)
    try simp only [W_seq]
    refine W_calm (by simp [e1]) (ret_of_calls ((Tryz.strconv_small u h100 w).mono fun e w' he => ⟨_, he.1, rfl, he.2 ▸ Kept.refl _ _⟩)) ?_
    intro w1 hk
    simp
    exact ⟨rfl, hk⟩
  have h1 : ¬ (u : Int) < 100 := by omega
  refine W_no (by simp [h1]) ?_
  simp only [W_skip, W_seq]
  refine W_new' (cs := Lib.zeros24) (by simp; rfl) rfl ?_
  have hp := hp_new w (.cells Lib.zeros24 124)
  have hk0 : Kept none' w (w.alloc (.cells Lib.zeros24 124)) := (Kept.refl _ _).alloc _
  have hd := nDigits_le hu (by omega)
  try simp only [W_seq]
  refine W_calm (by simp) (ret_of_calls ((Tryz.strconv_numDigits u (by omega) hu _ (tab_calm hg.pow hk0)).mono fun e w' he => ⟨_, he.1, rfl, he.2 ▸ Kept.refl _ _⟩)) ?_
  intro w1 hk1
  simp only [W_set]
  refine ok_intro (.int .i64 (Lib.nDigits u)) (by simp) ?_
  have hp1 := hk1.has hp (fun h => h)
  have hk01 := hk0.trans hk1
  generalize hb : w.heap.size = b at hp1
  generalize hnd : Lib.nDigits u = nd at hd
  have hH : Sort.Holds (fun (b : UInt8) => Value.int .u8 (b.toNat : Int)) w1 b 0 (Array.replicate nd 0) := by
    intro j hj
    simp at hj
    refine ⟨?_, ?_⟩
    · have : w1.cell? ⟨b, 0 + j, none⟩ = Lib.zeros24[0 + j]? := Lib.cell_of_heap hp1 _
      rw [this, Nat.zero_add, Lib.zeros24_at j (by omega)]
      simp [hj]
    · exact Lib.frozen_of_heap hp1 _
  have hf := Tryz.strconv_formatBase10 b 0 24 u (Array.replicate nd 0) w1 hH (by rw [Array.size_replicate, ← hnd]; exact Lib.lt_pow_nDigits u) hu (by rw [Array.size_replicate]; omega)
  rw [Array.size_replicate] at hf
  try simp only [W_seq]
  have h24 : ¬ (24 : Nat) = 0 := by decide
  have hnd24 : (nd : Int) ≤ 24 := by omega
  refine W_call0 (vs := [.slice (some ⟨b, 0, none⟩) nd 24, .int .u64 u]) (F := fun v w' => ∃ n v' dk, w' = (Sort.putRow (fun (b : UInt8) => Value.int .u8 (b.toNat : Int)) w1 b 0 dk).drewN n ∧ Lib.FmtInv nd u 0 v' dk) ?_ (ret_of_calls (hf.mono fun e w' he => ⟨_, he.1, he.2⟩)) ?_
  · simp [hnd24]
  rintro v w2 ⟨k, v', dk, rfl, hF⟩
  have hcells : ∀ (j x : Nat), ((Lib.decDigits u).map UInt8.toNat)[j]? = some x → wcell ((Sort.putRow (fun (b : UInt8) => Value.int .u8 (b.toNat : Int)) w1 b 0 dk).drewN k) b (0 + j) = some (.int .u8 x) := by
    intro j x hj
    rw [List.getElem?_map] at hj
    cases hy : (Lib.decDigits u)[j]? with
    | none => rw [hy] at hj; cases hj
    | some y =>
      rw [hy] at hj
      obtain rfl : y.toNat = x := by simpa using hj
      obtain ⟨hjl, rfl⟩ := List.getElem?_eq_some_iff.1 hy
      rw [Lib.decDigits_length, hnd] at hjl
      have := Sort.cell?_putRow (fun (b : UInt8) => Value.int .u8 (b.toNat : Int)) w1 b 0 _ dk hH (by rw [hF.size, Array.size_replicate]) j (by rw [hF.size]; exact hjl)
      rw [← hnd] at hF
      rw [Lib.row_is_numeral hF j (by rw [Lib.decDigits_length, hnd]; exact hjl)]
      have h2 : (Sort.putRow (fun (b : UInt8) => Value.int .u8 (b.toNat : Int)) w1 b 0 dk).heap[b]? = some (.cells (Sort.putCells (fun (b : UInt8) => Value.int .u8 (b.toNat : Int)) 0 dk Lib.zeros24) 124 (0, 0)) := by
        show (w1.heap.modify b _)[b]? = _
        rw [Array.getElem?_modify, if_pos rfl, hp1]
        rfl
      exact cell_wcell (w := (Sort.putRow (fun (b : UInt8) => Value.int .u8 (b.toNat : Int)) w1 b 0 dk).drewN k) h2 this
  have hbs := bytes_bstr (c := 24) (by rw [List.length_map, Lib.decDigits_length, Lib.nDigits]; split <;> omega) hcells
  have hbu : bs ((Lib.decDigits u).map UInt8.toNat) = us (Lib.decDigits u) := by
    unfold bs us
    rw [List.map_map]
    congr 2
    conv => rhs; rw [← List.map_id (Lib.decDigits u)]
    exact List.map_congr_left fun x _ => by simp
  rw [hbu, List.length_map, Lib.decDigits_length, hnd] at hbs
  try simp only [W_seq]
  simp only [W_set]
  refine ok_intro (.string (us (Lib.decDigits u))) ?_ ?_
  · simp [hnd24]
    exact hbs
  simp
  refine hk01.then (S' := fun j => j = b) ⟨rfl, rfl, rfl, by show w1.heap.size ≤ (Sort.putRow _ w1 b 0 dk).heap.size; simp, fun j hj hn => ?_⟩ (fun i hi h => by omega)
  show (w1.heap.modify b _)[j]? = _
  rw [Array.getElem?_modify, if_neg (fun e => hn e.symm)]

theorem format_T {w0 : World} (hg : GlobA w0) {u : Nat} (hu : u < 18446744073709551616) : T Tryz.prog w0 47 [.int .u64 u, .int .i64 10] = some (.string (us (Lib.decDigits u))) :=
  T_of_ret (by kernel_rfl) (by simp) (by simp) fun w hk => by
    refine ret_of_W Tryz.func47 rfl ok_strconv_FormatUint ?_
    simp [c_strconv_FormatUint]
    refine W_calm (by simp) (formatIn_ret u w (hg.calm hk) hu) ?_
    intro w1 hk
    simp
    exact hk

/-! Numbers read. -/
def piVal (B : Nat) (s : Str) : Int := match Lib.parseIntB B s with
  | .ok v => v
  | .syntax => 0
  | .range => Lib.intSat B s
def piOk (B : Nat) (s : Str) : Bool := match Lib.parseIntB B s with
  | .ok _ => true
  | _ => false
/-- An error is none just where it is to be. -/
def ErrIs (ok : Bool) (e : Value) : Prop := (ok = true ∧ e = .nilIface) ∨ (ok = false ∧ ∃ t p, e = .iface t p)
theorem parse16_ret (s : Str) (w : World) (hg : GlobA w) (hs : s.length ≤ 1000000) : Ret Tryz.prog 78 [.string (us s), .int .i64 10, .int .i64 16] w fun v w' => Kept none' w w' ∧ ∃ e, v = .tuple #[.int .i64 (piVal 16 s), e] ∧ ErrIs (piOk 16 s) e := by
  obtain ⟨e1, h1, h1'⟩ := hg.syn
  obtain ⟨e2, h2, h2'⟩ := hg.rng
  unfold piVal piOk
  cases h : Lib.parseIntB 16 s with
  | ok v => exact ret_of_calls ((Tryz.strconv_ParseInt16_ok (us s) (by simp; omega) v h w).mono fun e w' he => ⟨_, he.1, by rcases he.2 with rfl | ⟨t, rfl⟩; exact Kept.refl _ _; exact bytesWorld_kept _ _ _, _, rfl, .inl ⟨rfl, rfl⟩⟩)
  | «syntax» => exact ret_of_calls ((Tryz.strconv_ParseInt16_syntax (us s) (by simp; omega) h e1 w (wcell_cell h1) h1').mono fun e w' he => by obtain ⟨N, he, _, _, hb⟩ := he; exact ⟨_, he, calm_below hb, _, rfl, .inr ⟨rfl, _, _, rfl⟩⟩)
  | range => exact ret_of_calls ((Tryz.strconv_ParseInt16_range (us s) (by simp; omega) h e2 w (wcell_cell h2) h2').mono fun e w' he => by obtain ⟨N, he, _, _, hb⟩ := he; exact ⟨_, he, calm_below hb, _, rfl, .inr ⟨rfl, _, _, rfl⟩⟩)
theorem parse32_ret (s : Str) (w : World) (hg : GlobA w) (hs : s.length ≤ 1000000) : Ret Tryz.prog 78 [.string (us s), .int .i64 10, .int .i64 32] w fun v w' => Kept none' w w' ∧ ∃ e, v = .tuple #[.int .i64 (piVal 32 s), e] ∧ ErrIs (piOk 32 s) e := by
  obtain ⟨e1, h1, h1'⟩ := hg.syn
  obtain ⟨e2, h2, h2'⟩ := hg.rng
  unfold piVal piOk
  cases h : Lib.parseIntB 32 s with
  | ok v => exact ret_of_calls ((Tryz.strconv_ParseInt32_ok (us s) (by simp; omega) v h w).mono fun e w' he => ⟨_, he.1, by rcases he.2 with rfl | ⟨t, rfl⟩; exact Kept.refl _ _; exact bytesWorld_kept _ _ _, _, rfl, .inl ⟨rfl, rfl⟩⟩)
  | «syntax» => exact ret_of_calls ((Tryz.strconv_ParseInt32_syntax (us s) (by simp; omega) h e1 w (wcell_cell h1) h1').mono fun e w' he => by obtain ⟨N, he, _, _, hb⟩ := he; exact ⟨_, he, calm_below hb, _, rfl, .inr ⟨rfl, _, _, rfl⟩⟩)
  | range => exact ret_of_calls ((Tryz.strconv_ParseInt32_range (us s) (by simp; omega) h e2 w (wcell_cell h2) h2').mono fun e w' he => by obtain ⟨N, he, _, _, hb⟩ := he; exact ⟨_, he, calm_below hb, _, rfl, .inr ⟨rfl, _, _, rfl⟩⟩)
def puVal (s : Str) : Nat := match Lib.parseUintB 64 s with
  | .ok v => v
  | .syntax => 0
  | .range => 18446744073709551615
def puOk (s : Str) : Bool := match Lib.parseUintB 64 s with
  | .ok _ => true
  | _ => false
theorem parseU_ret (s : Str) (w : World) (hg : GlobA w) (hs : s.length ≤ 1000000) : Ret Tryz.prog 80 [.string (us s), .int .i64 10, .int .i64 64] w fun v w' => Kept none' w w' ∧ ∃ e, v = .tuple #[.int .u64 (puVal s), e] ∧ ErrIs (puOk s) e := by
  obtain ⟨e1, h1, h1'⟩ := hg.syn
  obtain ⟨e2, h2, h2'⟩ := hg.rng
  unfold puVal puOk
  cases h : Lib.parseUintB 64 s with
  | ok v => exact ret_of_calls ((Tryz.strconv_ParseUint_ok (us s) (by simp; omega) v h w).mono fun e w' he => ⟨_, he.1, by rcases he.2 with rfl | rfl; exact Kept.refl _ _; exact bytesWorld_kept _ _ _, _, rfl, .inl ⟨rfl, rfl⟩⟩)
  | «syntax» => exact ret_of_calls ((Tryz.strconv_ParseUint_syntax (us s) (by simp; omega) h e1 w (wcell_cell h1) h1').mono fun e w' he => by obtain ⟨N, he, _, _, hb⟩ := he; exact ⟨_, he, calm_below hb, _, rfl, .inr ⟨rfl, _, _, rfl⟩⟩)
  | range => exact ret_of_calls ((Tryz.strconv_ParseUint_range (us s) (by simp; omega) h e2 w (wcell_cell h2) h2').mono fun e w' he => by obtain ⟨N, he, _, _, hb⟩ := he; exact ⟨_, he, calm_below hb, _, rfl, .inr ⟨rfl, _, _, rfl⟩⟩)

/-! Rows of strings. -/
def StrAt (w : World) (b o : Nat) (l : List Str) : Prop := ∀ (i : Nat) (m : Str), l[i]? = some m → wcell w b (o + i) = some (.string (us m))
theorem StrAt.calm {w w' : World} {b o : Nat} {l : List Str} (h : StrAt w b o l) (hk : Kept none' w w') : StrAt w' b o l := fun i m hm => wcell_calm hk (h i m hm)
theorem StrAt.kept {S : Nat → Prop} {w w' : World} {b o : Nat} {l : List Str} (h : StrAt w b o l) (hk : Kept S w w') (hS : ¬ S b) : StrAt w' b o l := fun i m hm => wcell_kept hk hS (h i m hm)
def joinS : List Str → Str
  | [] => []
  | x :: r => x ++ (r.map (32 :: ·)).flatten
theorem joinS_data (l : List Str) : Lib.join ((l.map us).map (·.data.toList)) [32] = joinS l := by
  cases l with
  | nil => rfl
  | cons x r =>
    simp only [List.map_cons, Lib.join_cons, joinS, us_data]
    congr 1
    simp only [Lib.joinTail, List.map_map]
    simp [Function.comp_def]
theorem join_ret {b o c : Nat} (l : List Str) (w : World) (h : StrAt w b o l) (hb : b < w.heap.size) (hc : l.length ≤ c) (hn : l.length ≤ 1000) (hl : (joinS l).length ≤ 1000000) :
    Ret Tryz.prog 24 [.slice (some ⟨b, o, none⟩) l.length c, .string (us [32])] w fun v w' => v = .string (us (joinS l)) ∧ Kept none' w w' := by
  have hd := joinS_data l
  have hj := Tryz.strings_Join b o c (l.map us) (us [32]) w (fun j x hj => by
      refine wcell_cell ?_
      rw [List.getElem?_map] at hj
      cases hq : l[j]? with
      | none => rw [hq] at hj; cases hj
      | some m => rw [hq] at hj; simp at hj; subst hj; exact h j m hq) hb (by simp; omega) (by simpa using hc) (by
        show (Lib.join ((l.map us).map (·.data.toList)) [32]).length ≤ _
        rw [hd]; omega)
  rw [List.length_map] at hj
  refine ret_of_calls (hj.mono fun e w' he => ⟨_, he.1, ?_, calm_below he.2⟩)
  show Value.string ⟨(Lib.join ((l.map us).map (·.data.toList)) [32]).toArray⟩ = _
  rw [hd]
  rfl
end Go.Proofs.YtpannhipchnhaaaGreatDoor
namespace Go.Eng
/-- A calm function that tells a row of its own. -/
theorem ret_of_row {P : Program} {w : World} {V : List Nat} {f : FuncId} {fn : Func} {ks : List (List Nat)} {cmd : Cmd} {rs : List Ex} {args : List Value} {n c : Nat} {cs : Array Value} {T : TypeId} (hf : P.funcs[f]? = some fn) (hn : Nat.ble args.length fn.ntmps = true)
    (hc : compile P fn V ks = some (cmd, rs)) (ha : ∀ v ∈ args, Ext w.heap.size v) (hx : ∀ x ∈ cs.toList, Ext w.heap.size x)
    (h : ∀ B, HeapLe w B → C P w B (fun env l => Ok (evs env (ownW B l) rs) fun vs => ∃ j, resV vs = .slice (some ⟨B.heap.size + j, 0, none⟩) n c ∧ l[j]? = some (cs, T)) [.c cmd] (env0 V args) []) :
    Ret P f args w fun v w' => Kept none' w w' ∧ ∃ b, v = .slice (some ⟨b, 0, none⟩) n c ∧ w.heap.size ≤ b ∧ w'.heap[b]? = some (.cells cs T (0, 0)) := by
  obtain ⟨n1, hn1⟩ := cmd.cl_ex
  obtain ⟨n2, hn2⟩ := exs_cl_ex rs
  obtain ⟨B, hB, hnB⟩ := base_ex w (max n1 n2)
  refine ret_of_cmd hf (Nat.le_of_ble_eq_true hn) hc ?_
  have hs : Sim w B [] w id := ⟨fun b _ => rfl, Kept.refl _ _, fun j x hx => by simp at hx, fun j hj => by simp at hj, fun i j hi => by simp at hi⟩
  have he : EnvR (B.heap.size + ([] : Own).length) id (env0 V args) (env0 V args) := by
    refine ⟨rfl, fun i u v hu hv => ?_⟩
    rw [hu] at hv
    obtain rfl := Option.some.inj hv
    simp only [env0, List.getElem?_map, Option.map_eq_some_iff] at hu
    obtain ⟨t, _, rfl⟩ := hu
    cases hat : args[t]? with
    | none => exact vr_undef
    | some z => exact (ha z (List.mem_of_getElem? hat)).vr (by have := hB.le; simp; omega) (fun _ _ => rfl)
  refine cwp_wp hB (Kept.refl _ _) cmd (hn1.mono (by omega)) (fun y env env' l w' σ hs he hq => ?_) hs he (h B hB.has)
  have fin : (Ok (evs env (ownW B l) rs) fun vs => ∃ j, resV vs = .slice (some ⟨B.heap.size + j, 0, none⟩) n c ∧ l[j]? = some (cs, T)) → Ok (evs env' w' rs) fun vs => Kept none' w w' ∧ ∃ b, resV vs = .slice (some ⟨b, 0, none⟩) n c ∧ w.heap.size ≤ b ∧ w'.heap[b]? = some (.cells cs T (0, 0)) := by
    intro hq
    obtain ⟨vs, hv, j, hr, hj⟩ := Ok_inv hq
    obtain ⟨vs', hv', hl, hp⟩ := hs.evs hB (Kept.refl _ _) he rs (fun e he => (hn2 e he).mono (by omega)) hv
    rw [hv', Ok_some]
    have hj' : j < l.length := (List.getElem?_eq_some_iff.1 hj).1
    obtain ⟨cs', h3, h4⟩ := hs.own j _ hj
    refine ⟨hs.kept, σ (B.heap.size + j), ?_, hs.new j hj', ?_⟩
    · have h1 := resV_vr hl hp
      rw [hr] at h1
      generalize resV vs' = u at h1
      cases h1
      rfl
    · rw [h3]
      have : cs' = cs := by
        refine (arr_ext h4.1 fun i a b ha hb => ?_).symm
        have hx' : Ext w.heap.size a := hx a (Array.mem_toList_iff.2 (Array.mem_of_getElem? ha))
        exact (VR.uniq (h4.2 i a b ha hb) (Ext.vr hx' (by have := hB.le; omega) (fun b hb => hs.fix b (Nat.lt_of_lt_of_le hb hB.le)))).symm
      rw [this]
  cases y with
  | normal => exact fin hq
  | ret => exact fin hq
  | _ => exact hq.elim
end Go.Eng
namespace Go.Proofs.YtpannhipchnhaaaGreatDoor
open Go.Eng

def regW (n : Nat) : Str := 114 :: Lib.decDigits n
def offW (n : Int) : Str := if n < 0 then Lib.itoa n else 43 :: Lib.itoa n
def secW (x : Ins) (p : Parts) : Str := if p.reg = true then regW x.src else Lib.itoa x.imm
def shortW (p : Parts) : Str := if p.long = true then [] else [51, 50]
def atomIx (n : Int) : Nat := if n = 0 then 0 else if n = 64 then 1 else if n = 80 then 2 else 3
def wideN (a b : Int) : Nat := (a % 4294967296).toNat + (b % 4294967296).toNat * 4294967296
def lineP (p : Parts) (x next : Ins) : List Str :=
  if p.kind = 1 then (if p.op = 8 then [aluW.getD p.op [] ++ shortW p, regW x.dst] else [aluW.getD p.op [] ++ shortW p, regW x.dst, secW x p])
  else if p.kind = 2 then [jumpW.getD p.op [] ++ shortW p, regW x.dst, secW x p, offW x.off]
  else if p.kind = 3 then [[106, 97], offW x.off]
  else if p.kind = 4 then [[99, 97, 108, 108], Lib.itoa x.imm]
  else if p.kind = 5 then [[101, 120, 105, 116]]
  else if p.kind = 6 then [[108, 100] ++ Lib.itoa p.size, regW x.dst, regW x.src, offW x.off]
  else if p.kind = 7 then [[115, 116] ++ Lib.itoa p.size, regW x.dst, offW x.off, secW x p]
  else if p.kind = 8 then [atomW.getD (atomIx x.imm) [] ++ Lib.itoa p.size, regW x.dst, offW x.off, regW x.src]
  else if x.src = 1 then [[109, 97, 112], regW x.dst, Lib.itoa x.imm]
  else [[119, 105, 100, 101], regW x.dst, Lib.decDigits (wideN x.imm next.imm)]
def lineW (x next : Ins) : List Str := lineP (partsOf x.op) x next

theorem dec_len {n : Nat} (h : n < 18446744073709551616) : (Lib.decDigits n).length ≤ 20 := by
  rw [Lib.decDigits_length]
  by_cases h0 : n = 0
  · subst h0; rw [Lib.nDigits]; simp
  · exact nDigits_le h (by omega)
theorem itoa_len {n : Int} (h0 : -9223372036854775808 ≤ n) (h1 : n ≤ 9223372036854775807) : (Lib.itoa n).length ≤ 21 := Lib.itoa_length_le n h0 h1
theorem itoa_nat (n : Nat) : Lib.itoa (n : Int) = Lib.decDigits n := Lib.itoa_nonneg n
theorem areg_T {w0 : World} (hg : GlobA w0) {n : Nat} (hn : n < 256) : T Tryz.prog w0 43 [.int .u8 n] = some (.string (us (regW n))) :=
  T_of (by kernel_rfl) Tryz.func43 rfl ok_asm_reg (by simp) (by simp) fun B hB => by
    have e0 : IntKind.i64.wrap (n : Int) = n := i64w (by omega) (by omega)
    have t := itoa_T hg (n := (n : Int)) (by omega) (by omega)
    rw [itoa_nat] at t
    have hl := dec_len (n := n) (by omega)
    have hc := us_cat [114] (Lib.decDigits n) (by simp; omega)
    simp [c_asm_reg, e0, t, mk_us, hc, regW]
theorem aoff_T {w0 : World} (hg : GlobA w0) {n : Int} (hn : -32768 ≤ n ∧ n ≤ 32767) : T Tryz.prog w0 45 [.int .i16 n] = some (.string (us (offW n))) :=
  T_of (by kernel_rfl) Tryz.func45 rfl ok_asm_offset (by simp) (by simp) fun B hB => by
    have e0 : IntKind.i64.wrap n = n := i64w (by omega) (by omega)
    have t := itoa_T hg (n := n) (by omega) (by omega)
    have hl := itoa_len (n := n) (by omega) (by omega)
    have hc := us_cat [43] (Lib.itoa n) (by simp; omega)
    unfold offW
    by_cases h : n < 0 <;> simp [c_asm_offset, C_cond_eq, e0, t, mk_us, hc, h]
theorem asec_T {w0 : World} (hg : GlobA w0) {x : Ins} (hx : x.wf) (p : Parts) : T Tryz.prog w0 44 [x.val, p.val] = some (.string (us (secW x p))) :=
  T_of (by kernel_rfl) Tryz.func44 rfl ok_asm_second (by simp) (by simp) fun B hB => by
    have hi := hx.imm
    have e0 : IntKind.i64.wrap x.imm = x.imm := i64w (by omega) (by omega)
    have t := itoa_T hg (n := x.imm) (by omega) (by omega)
    have t2 := areg_T hg hx.src
    unfold secW
    cases h : p.reg <;> simp [c_asm_second, C_cond_eq, e0, t, t2, mk_us, h]
theorem ashort_T {w0 : World} (hg : GlobA w0) (p : Parts) : T Tryz.prog w0 42 [p.val] = some (.string (us (shortW p))) :=
  T_of (by kernel_rfl) Tryz.func42 rfl ok_asm_short (by simp) (by simp) fun B hB => by
    have t := itoa_T hg (n := 32) (by omega) (by omega)
    have e : Lib.itoa 32 = [51, 50] := by rw [show (32 : Int) = ((32 : Nat) : Int) from rfl, itoa_nat, Lib.decDigits_two (by omega) (by omega)]; rfl
    rw [e] at t
    unfold shortW
    cases h : p.long <;> simp [c_asm_short, C_cond_eq, t, mk_us, h]

/-- Where a number is among others. -/
def FirstIs (f : Nat → Int) (n : Nat) (x : Int) (r : Int) : Prop := (∃ i : Nat, i < n ∧ r = i ∧ f i = x ∧ ∀ j : Nat, j < i → f j ≠ x) ∨ (r = -1 ∧ ∀ j : Nat, j < n → f j ≠ x)
theorem index_ret (b o n c : Nat) (f : Nat → Int) (x : Int) (w : World) (hn : n ≤ 1000000) (hf : ∀ i, i < n → wcell w b (o + i) = some (.int .i32 (f i))) :
    Ret Tryz.prog 46 [.slice (some ⟨b, o, none⟩) n c, .int .i32 x] w fun v w' => w' = w ∧ ∃ r, v = .int .i64 r ∧ FirstIs f n x r := by
  refine ret_of_W Tryz.func46 rfl ok_slices_Index ?_
  simp [c_slices_Index]
  refine W_loop (fun env w' => w' = w ∧ ∃ i : Nat, env = [.slice (some ⟨b, o, none⟩) n c, .int .i32 x, undef, .int .i64 i, .int .i64 n, undef] ∧ i ≤ n ∧ ∀ j : Nat, j < i → f j ≠ x) (fun env _ => n - natAt env 3) ?_ ?_
  · exact ⟨rfl, 0, by simp, by omega, fun j hj => by omega⟩
  rintro env w1 ⟨rfl, i, rfl, hi, hall⟩
  by_cases hgo : i < n
  · simp
    refine W_yes (by simp; omega) ?_
    have e2 : IntKind.i64.wrap ((i : Int) + 1) = ((i + 1 : Nat) : Int) := i64w (by omega) (by omega)
    have hc := hf i hgo
    simp
    refine W_cond (t := decide (x = f i)) (by simp [hgo, hc]) ?_ ?_
    · intro h
      simp at h
      simp
      exact .inl ⟨i, hgo, rfl, h.symm, hall⟩
    · intro h
      simp at h
      simp
      refine ⟨⟨i + 1, e2, by omega, fun j hj => ?_⟩, by simp [natAt, e2]; omega⟩
      by_cases hji : j = i
      · subst hji; exact fun e => h e.symm
      · exact hall j (by omega)
  · simp
    refine W_no (by simp; omega) ?_
    simp
    exact .inr ⟨rfl, fun j hj => hall j (by omega)⟩
theorem atomIx_at {n : Int} (h : n = 0 ∨ n = 64 ∨ n = 80 ∨ n = 160) : atomN[atomIx n]? = some n ∧ atomIx n < 4 := by
  rcases h with rfl | rfl | rfl | rfl <;> decide
theorem atom_T {w0 : World} (hg : GlobA w0) {x : Int} (hx : x = 0 ∨ x = 64 ∨ x = 80 ∨ x = 160) : T Tryz.prog w0 46 [.slice (some ⟨3, 0, none⟩) 4 4, .int .i32 x] = some (.int .i64 (atomIx x)) :=
  T_of_ret (by kernel_rfl) (by
    have := hg.atoms 0 0 rfl
    have hb : 3 < w0.heap.size := by
      unfold wcell at this
      cases hc : w0.heap[3]? with
      | none => rw [hc] at this; cases this
      | some o => exact blk_lt hc
    simp [hb]) (by simp) fun w hk => (index_ret 3 0 4 4 (fun i => atomN.getD i 0) x w (by omega) (fun i hi => by
      rw [Nat.zero_add]
      refine wcell_calm hk (hg.atoms i _ ?_)
      have : i = 0 ∨ i = 1 ∨ i = 2 ∨ i = 3 := by omega
      rcases this with rfl | rfl | rfl | rfl <;> rfl)).mono fun v w' h => by
    obtain ⟨rfl, r, rfl, hr⟩ := h
    refine ⟨?_, Kept.refl _ _⟩
    have hnd : ∀ i : Nat, i < 4 → ∀ j : Nat, j < 4 → atomN.getD i 0 = atomN.getD j 0 → i = j := by decide
    rcases hr with ⟨i, hi, rfl, hi2, _⟩ | ⟨_, h⟩
    · have h1 := atomIx_at hx
      have h2 : atomN.getD (atomIx x) 0 = x := by rw [List.getD_eq_getElem?_getD, h1.1]; rfl
      rw [hnd i hi (atomIx x) h1.2 (hi2.trans h2.symm)]
    · have h1 := atomIx_at hx
      exact absurd (show atomN.getD (atomIx x) 0 = x by rw [List.getD_eq_getElem?_getD, h1.1]; rfl) (h _ h1.2)
end Go.Proofs.YtpannhipchnhaaaGreatDoor
