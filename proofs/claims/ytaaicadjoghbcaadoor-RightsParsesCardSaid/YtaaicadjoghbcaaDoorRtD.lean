/- Layer 11, part D: strings in a row; numbers and rights in the reference's words. -/
import Derived.Test.YtaaicadjoghbcaaDoorRtT
import Derived.Test.YtaaicadjoghbcaaDoorCmdsRt2
set_option linter.unusedSimpArgs false
set_option linter.unusedVariables false
set_option maxRecDepth 8000
namespace Go.Proofs.YtaaicadjoghbcaaDoor
open Go.Eng

/-- A row's cells are strings. -/
def StrsAt (w : World) (b o : Nat) (l : List (List Nat)) : Prop := ∀ (i : Nat) (m : List Nat), l[i]? = some m → wcell w b (o + i) = some (.string (bs m))
theorem StrsAt.calm {w w' : World} {b o : Nat} {l : List (List Nat)} (h : StrsAt w b o l) (hk : Kept none' w w') : StrsAt w' b o l := fun i m hm => wcell_calm hk (h i m hm)
def Oct (m : List Nat) : Prop := ∀ x ∈ m, x ≤ 255
theorem bs_eql {m l : List Nat} (hm : Oct m) (hl : Oct l) : strBin .eql (bs m) (bs l) = some (.bool (decide (m = l))) := by
  unfold strBin
  congr 2
  by_cases h : m = l
  · subst h; simp
  · have hne : ¬ (bs m).data.toList = (bs l).data.toList := fun e => h (bs_inj hm hl (by
      have : (bs m).data = (bs l).data := by rw [← Array.toArray_toList (xs := (bs m).data), ← Array.toArray_toList (xs := (bs l).data), e]
      exact congrArg ByteArray.mk this))
    have hne' : ¬ (bs m).data = (bs l).data := fun e => hne (by rw [e])
    simp [hne', h]

theorem indexS_ret (b o c : Nat) (l : List (List Nat)) (x : List Nat) (w : World) (hn : l.length ≤ 1000000) (hl : ∀ m ∈ l, Oct m) (hx : Oct x) (hf : StrsAt w b o l) :
    Ret Tryd.prog 29 [.slice (some ⟨b, o, none⟩) l.length c, .string (bs x)] w fun v w' => w' = w ∧ ∃ r : Int, v = .int .i64 r ∧ (0 ≤ r ↔ x ∈ l) := by
  refine ret_of_W Tryd.func29 rfl ok_slices_IndexS ?_
  simp [c_slices_IndexS]
  refine W_loop (fun env w' => w' = w ∧ ∃ i : Nat, env = [.slice (some ⟨b, o, none⟩) l.length c, .string (bs x), undef, .int .i64 i, .int .i64 l.length, undef] ∧ i ≤ l.length ∧ ∀ j : Nat, j < i → l[j]? ≠ some x) (fun env _ => l.length - natAt env 3) ?_ ?_
  · exact ⟨rfl, 0, by simp, by omega, fun j hj => by omega⟩
  rintro env w1 ⟨rfl, i, rfl, hi, hall⟩
  by_cases hgo : i < l.length
  · simp
    refine W_yes (by simp; omega) ?_
    have e2 : IntKind.i64.wrap ((i : Int) + 1) = ((i + 1 : Nat) : Int) := i64w (by omega) (by omega)
    have hc := hf i l[i] (List.getElem?_eq_getElem hgo)
    have he := bs_eql hx (hl _ (List.getElem_mem hgo))
    simp
    refine W_cond (t := decide (x = l[i])) (by simp [hgo, hc, he]) ?_ ?_
    · intro h
      simp at h
      simp
      rw [h]; exact List.getElem_mem hgo
    · intro h
      simp at h
      simp
      refine ⟨⟨i + 1, e2, by omega, fun j hj => ?_⟩, by simp [natAt, e2]; omega⟩
      by_cases hji : j = i
      · subst hji; rw [List.getElem?_eq_getElem hgo]; simpa using fun e => h e.symm
      · exact hall j (by omega)
  · simp
    refine W_no (by simp; omega) ?_
    simp
    intro hx
    obtain ⟨j, hj, e⟩ := List.mem_iff_getElem.1 hx
    exact hall j (by omega) (by rw [List.getElem?_eq_getElem hj, e])

theorem indexNil_ret (x : Value) (w : World) :
    Ret Tryd.prog 29 [.slice none 0 0, x] w fun v w' => w' = w ∧ ∃ r : Int, v = .int .i64 r ∧ r < 0 := by
  refine ret_of_W Tryd.func29 rfl ok_slices_IndexS ?_
  simp [c_slices_IndexS]
  refine W_loop (fun env w' => w' = w ∧ env = [.slice none 0 0, x, undef, .int .i64 0, .int .i64 0, undef]) (fun env _ => 0) ?_ ?_
  · exact ⟨rfl, by simp⟩
  rintro env w1 ⟨rfl, rfl⟩
  simp
  refine W_no (by simp) ?_
  simp

theorem contains_ret (b o c : Nat) (l : List (List Nat)) (x : List Nat) (w : World) (hn : l.length ≤ 1000000) (hl : ∀ m ∈ l, Oct m) (hx : Oct x) (hf : StrsAt w b o l) :
    Ret Tryd.prog 17 [.slice (some ⟨b, o, none⟩) l.length c, .string (bs x)] w fun v w' => v = .bool (decide (x ∈ l)) ∧ Kept none' w w' := by
  refine ret_of_W Tryd.func17 rfl ok_slices_Contains ?_
  simp [c_slices_Contains]
  refine W_call0 (by simp) (indexS_ret b o c l x w hn hl hx hf) ?_
  rintro v w1 ⟨rfl, r, rfl, hr⟩
  simp
  exact ⟨hr, Kept.refl _ _⟩

/-! The reference's numbers. -/
def strAt (env : List Value) (i : Nat) : Nat := match env[i]? with
  | some (.string s) => s.size
  | _ => 0
theorem signs_at : ∀ k : Nat, k < 16 → slStrV (.string ⟨#[48, 49, 50, 51, 52, 53, 54, 55, 56, 57, 97, 98, 99, 100, 101, 102]⟩) (.int .u16 (k : Nat)) (.int .u16 ((k + 1 : Nat) : Int)) = some (.string (bs [dig k])) := by
  intro k hk
  have h : k = 0 ∨ k = 1 ∨ k = 2 ∨ k = 3 ∨ k = 4 ∨ k = 5 ∨ k = 6 ∨ k = 7 ∨ k = 8 ∨ k = 9 ∨ k = 10 ∨ k = 11 ∨ k = 12 ∨ k = 13 ∨ k = 14 ∨ k = 15 := by omega
  rcases h with rfl | rfl | rfl | rfl | rfl | rfl | rfl | rfl | rfl | rfl | rfl | rfl | rfl | rfl | rfl | rfl <;> rfl
theorem cat_bs (m l : List Nat) (h : m.length + l.length ≤ 1000000) : strBin .add (bs m) (bs l) = some (.string (bs (m ++ l))) := by
  unfold strBin
  rw [if_neg (by show ¬ ((((bs m).size + (bs l).size : Nat) : Int) > 9223372036854775807); simp only [bs_size]; omega), bs_append]

theorem u16w' {i : Int} (h0 : 0 ≤ i) (h1 : i < 65536) : IntKind.u16.wrap i = i := by rw [IntKind.wrap_u16]; omega
theorem hexF_mem {f n : Nat} : Oct (hexF f n) := hexF_le f n
theorem refHex_ret (u : Nat) (w : World) (hu : u < 65536) : Ret Tryd.prog 21 [.int .u16 u] w fun v w' => v = .string (bs (hexL u)) ∧ w' = w := by
  refine ret_of_W Tryd.func21 rfl ok_tipstaffref11_Hex ?_
  simp [c_tipstaffref11_Hex]
  refine W_loop (fun env w' => w' = w ∧ ∃ (f n : Nat) (s : List Nat), env = [.int .u16 n, undef, .string ⟨#[48, 49, 50, 51, 52, 53, 54, 55, 56, 57, 97, 98, 99, 100, 101, 102]⟩, .string (bs s)] ∧ f + s.length = 16 ∧ n < 16 ^ f ∧ n < 65536 ∧ Oct s ∧
    hexL u = (if n = 0 ∧ s ≠ [] then [] else hexF f n) ++ s) (fun env _ => 16 - strAt env 3) ?_ ?_
  · exact ⟨rfl, 16, u, [], by simp; rfl, by simp, Nat.lt_of_lt_of_le hu (by decide), hu, fun x h => by simp at h, by simp [hexL]⟩
  rintro env w1 ⟨rfl, f, n, s, rfl, hf, hn, hn6, hs, hh⟩
  have he := bs_eql hs (l := []) (fun x h => by simp at h)
  have hbn : bs [] = ⟨#[]⟩ := rfl
  rw [hbn] at he
  by_cases hgo : n = 0 ∧ s ≠ []
  · rw [if_pos hgo] at hh
    have h0 : ¬ (0 < n) := by omega
    simp
    refine ok_intro [.bool false, .bool false] ?_ ?_
    · simp [he, hgo.2, h0]
    refine W_no (by simp [he, hgo.2, h0]) ?_
    simp [hh]
  · rw [if_neg hgo] at hh
    obtain ⟨f', rfl⟩ : ∃ f', f = f' + 1 := by
      cases f with
      | zero => simp at hn; subst hn; exfalso; apply hgo; refine ⟨rfl, fun h => ?_⟩; subst h; simp at hf
      | succ f' => exact ⟨f', rfl⟩
    have hsg := signs_at (n % 16) (Nat.mod_lt _ (by omega))
    have hct := cat_bs [dig (n % 16)] s (by simp; omega)
    have hp : decide (0 < n) = true ∨ (decide (0 < n) = false ∧ s = []) := by
      by_cases h : 0 < n
      · simp [h]
      · right; refine ⟨by simp [h], ?_⟩
        by_cases hsn : s = []
        · exact hsn
        · exact absurd ⟨by omega, hsn⟩ hgo
    have ht : (n : Int).tmod 16 = ((n % 16 : Nat) : Int) := (Int.ofNat_tmod n 16).symm
    have hr : (IntKind.u16.wrap (((n % 16 : Nat) : Int) + 1)) = ((n % 16 + 1 : Nat) : Int) := by rw [u16w' (by omega) (by omega)]; omega
    have hq : IntKind.u16.wrap ((n : Int) / 16) = ((n / 16 : Nat) : Int) := by rw [u16w' (by omega) (by omega)]; omega
    have hx : hexF (f' + 1) n = (if n / 16 = 0 then [] else hexF f' (n / 16)) ++ [dig (n % 16)] := by
      rw [hexF]
      by_cases h : n < 16
      · rw [if_pos h, if_pos (by omega), Nat.mod_eq_of_lt h]; rfl
      · rw [if_neg h, if_neg (by omega)]
    simp
    refine ok_intro [.bool true, .bool (if 0 < n then false else true)] ?_ ?_
    · rcases hp with h | ⟨h, h'⟩
      · simp at h
        simp [he, h]
      · simp at h
        subst h'
        simp [he, h]
    refine W_yes (by rcases hp with h | ⟨h, h'⟩ <;> simp at h <;> (try subst h') <;> simp [he, h]) ?_
    simp only [W_skip, W_seq, W_block, W_set]
    refine ok_intro (.string (bs (dig (n % 16) :: s))) ?_ ?_
    · simp only [evs, Ex.ev, U1.ap, U2.ap, U3.ap, Option.bind_some, List.set_cons_succ, List.set_cons_zero, env0] at *
      simp [-slStrV_string, -Int.natCast_add, -Int.natCast_emod, ht, hr, hsg, hct]
    refine ok_intro (.int .u16 ((n / 16 : Nat) : Int)) ?_ ?_
    · simp [hq]
    simp [strAt]
    refine ⟨⟨f', n / 16, dig (n % 16) :: s, ⟨by omega, rfl⟩, by simp; omega, ?_, by omega, ?_, ?_⟩, by omega⟩
    · rw [Nat.pow_succ] at hn
      exact Nat.div_lt_of_lt_mul (by rw [Nat.mul_comm]; exact hn)
    · intro x hx
      rcases List.mem_cons.1 hx with rfl | h
      · exact dig_le (Nat.mod_lt _ (by omega))
      · exact hs x h
    · rw [hh, hx]; simp

theorem hexL_len (n : Nat) : (hexL n).length ≤ 16 := hexF_len 16 n
theorem refHex_T (w0 : World) {u : Nat} (hu : u < 65536) : T Tryd.prog w0 21 [.int .u16 u] = some (.string (bs (hexL u))) :=
  T_of_ret (by kernel_rfl) (by simp) (by simp) fun w hk => (refHex_ret u w hu).mono fun v w' h => ⟨h.1, by rw [h.2]; exact Kept.refl _ _⟩
theorem textL_eq (r : Rt) : textL r = ((((((([99] ++ hexL r.c) ++ [32, 112]) ++ hexL r.p) ++ [32, 109]) ++ hexL r.m) ++ [32, 104]) ++ hexL r.h) ++ (if r.v then [32, 112, 114, 105, 118, 105, 108, 101, 103, 101, 100] else []) ++ (if r.s then [32, 115, 105, 103, 110, 101, 100] else []) := by
  unfold textL wordsL
  cases r.v <;> cases r.s <;> simp [joinL, word]
theorem refText_T (w0 : World) (r : Rt) (hr : r.wf) : T Tryd.prog w0 9 [r.val] = some (.string (bs (textL r))) :=
  T_of (by kernel_rfl) Tryd.func9 rfl ok_tipstaffref11_Text (by simp) (by simp) fun B hB => by
    have c0 := hexL_len r.c; have c1 := hexL_len r.p; have c2 := hexL_len r.m; have c3 := hexL_len r.h
    have e0 := refHex_T w0 hr.c; have e1 := refHex_T w0 hr.p; have e2 := refHex_T w0 hr.m; have e3 := refHex_T w0 hr.h
    have q0 : (⟨#[99]⟩ : ByteArray) = bs [99] := rfl
    have q1 : (⟨#[32, 112]⟩ : ByteArray) = bs [32, 112] := rfl
    have q2 : (⟨#[32, 109]⟩ : ByteArray) = bs [32, 109] := rfl
    have q3 : (⟨#[32, 104]⟩ : ByteArray) = bs [32, 104] := rfl
    have q4 : (⟨#[32, 112, 114, 105, 118, 105, 108, 101, 103, 101, 100]⟩ : ByteArray) = bs [32, 112, 114, 105, 118, 105, 108, 101, 103, 101, 100] := rfl
    have q5 : (⟨#[32, 115, 105, 103, 110, 101, 100]⟩ : ByteArray) = bs [32, 115, 105, 103, 110, 101, 100] := rfl
    have j : ∀ a b : List Nat, a.length + b.length ≤ 1000000 → strBin .add (bs a) (bs b) = some (.string (bs (a ++ b))) := fun a b h => cat_bs a b h
    rw [textL_eq]
    have j1 := j [99] (hexL r.c) (by simp; omega)
    have j2 := j ([99] ++ hexL r.c) [32, 112] (by simp; omega)
    have j3 := j (([99] ++ hexL r.c) ++ [32, 112]) (hexL r.p) (by simp; omega)
    have j4 := j ((([99] ++ hexL r.c) ++ [32, 112]) ++ hexL r.p) [32, 109] (by simp; omega)
    have j5 := j (((([99] ++ hexL r.c) ++ [32, 112]) ++ hexL r.p) ++ [32, 109]) (hexL r.m) (by simp; omega)
    have j6 := j ((((([99] ++ hexL r.c) ++ [32, 112]) ++ hexL r.p) ++ [32, 109]) ++ hexL r.m) [32, 104] (by simp; omega)
    have j7 := j (((((([99] ++ hexL r.c) ++ [32, 112]) ++ hexL r.p) ++ [32, 109]) ++ hexL r.m) ++ [32, 104]) (hexL r.h) (by simp; omega)
    have h7 : (([99] ++ hexL r.c) ++ [32, 112] ++ hexL r.p ++ [32, 109] ++ hexL r.m ++ [32, 104] ++ hexL r.h).length ≤ 1000 := by simp; omega
    generalize [99] ++ hexL r.c = t1 at h7 j1 j2 j3 j4 j5 j6 j7 ⊢
    generalize t1 ++ [32, 112] = t2 at h7 j2 j3 j4 j5 j6 j7 ⊢
    generalize t2 ++ hexL r.p = t3 at h7 j3 j4 j5 j6 j7 ⊢
    generalize t3 ++ [32, 109] = t4 at h7 j4 j5 j6 j7 ⊢
    generalize t4 ++ hexL r.m = t5 at h7 j5 j6 j7 ⊢
    generalize t5 ++ [32, 104] = t6 at h7 j6 j7 ⊢
    generalize t6 ++ hexL r.h = t7 at j7 h7 ⊢
    have j8 := j t7 [32, 112, 114, 105, 118, 105, 108, 101, 103, 101, 100] (by simp; omega)
    have j9 := j (t7 ++ [32, 112, 114, 105, 118, 105, 108, 101, 103, 101, 100]) [32, 115, 105, 103, 110, 101, 100] (by simp; omega)
    have j10 := j t7 [32, 115, 105, 103, 110, 101, 100] (by simp; omega)
    simp [c_tipstaffref11_Text, e0, e1, e2, e3, q0, q1, q2, q3, q4, q5, j1, j2, j3, j4, j5, j6, j7]
    cases hv : r.v <;> cases hs : r.s <;> simp [C_cond_eq, hv, hs, j8, j9, j10]
theorem refText_ret (r : Rt) (w : World) (hr : r.wf) : Ret Tryd.prog 9 [r.val] w fun v w' => v = .string (bs (textL r)) ∧ Kept none' w w' := ret_of_T (refText_T w r hr)
end Go.Proofs.YtaaicadjoghbcaaDoor
