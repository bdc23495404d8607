/- BmapArrays: the walk. -/
import Derived.Test.YtihaopoehhnbkaaBmO
import Derived.Test.YtihaopoehhnbkaaCmdsArr
set_option linter.unusedSimpArgs false
set_option linter.unusedVariables false
set_option maxRecDepth 8000
namespace Go.Proofs.Ytihaopoehhnbkaa
open Go.Eng

theorem delete_array (b : Nat) (M : BMap) (kv : Value) (k : ByteArray) (w : World) (h : MapAt w b M) (hk : KeyAt w kv k) (h0 : M.ty = 0) (hs : (k.size : Int) = M.ks) (hfz : M.frozen = false) :
    Ret Try.prog 32 [.pointer (some ⟨b, 0, none⟩), kv] w fun v w' => v = .int .i64 22 ∧ w' = w := by
  refine ret_of_W Try.func32 rfl ok_bmap_Map_Delete ?_
  have hkvv : varV kv = some kv := by obtain ⟨kb, ko, kc, rfl, _⟩ := hk; rfl
  have hb := h.blk
  simp [c_bmap_Map_Delete]
  refine W_call0 (by simp) (changes_ret b M w h) ?_
  rintro v w1 ⟨rfl, rfl⟩
  simp [hfz]
  refine W_no (by simp) ?_
  simp
  refine W_call0 (by simp [hkvv]) (right_ret b M kv k w1 h hk (by omega)) ?_
  rintro v w2 ⟨rfl, rfl⟩
  simp
  refine W_yes (by simp [h0, hs, wcell_of hb, BMap.cells]) ?_
  simp

structure ArSt (w0 w : World) (b n : Nat) (f : Nat → Int) (M : BMap) (c : Int) : Prop where
  mp : Mp w0 w b M
  ty : M.ty = 0
  ks : M.ks = 4
  vs : M.vs = 1
  cap : M.cap = n
  fr : M.frozen = false
  len : M.l.length = n
  ent : ∀ (j : Nat) (e : BEnt), M.l[j]? = some e → e.key = key4 (lit4 j) ∧ e.val 0 = f j
  clock : M.clock ≤ c

theorem lit4_le {n : Nat} (h : n ≤ 255) (j : Nat) : lit4 n j ≤ 255 := by unfold lit4; split <;> omega

section
variable {w0 w w' : World} {b n : Nat} {f : Nat → Int} {M : BMap} {c : Int}
theorem ArSt.calm (h : ArSt w0 w b n f M c) (hk : Kept none' w w') : ArSt w0 w' b n f M c := ⟨h.mp.calm hk, h.ty, h.ks, h.vs, h.cap, h.fr, h.len, h.ent, h.clock⟩
theorem ArSt.at (h : ArSt w0 w b n f M c) (hn : n ≤ 64) {i : Nat} {e : BEnt} {x : Nat → Nat} (hx : ∀ j, x j ≤ 255) (hi : M.l[i]? = some e) (hk : e.key = key4 x) : i = x 0 ∧ x 1 = 0 := by
  have hil : i < n := by rw [← h.len]; exact (List.getElem?_eq_some_iff.1 hi).1
  have h1 := (h.ent i e hi).1
  obtain ⟨q0, q1, _, _⟩ := key4_inj (lit4_le (by omega)) hx (h1.symm.trans hk)
  exact ⟨by simpa [lit4] using q0, by simpa [lit4] using q1.symm⟩
theorem ArSt.has (h : ArSt w0 w b n f M c) {k : Nat} (hk : k < n) : ∃ e ∈ M.l, e.key = key4 (lit4 k) := by
  have hl : k < M.l.length := by rw [h.len]; exact hk
  exact ⟨M.l[k], List.getElem_mem hl, (h.ent k _ (List.getElem?_eq_getElem hl)).1⟩
theorem ArSt.used (h : ArSt w0 w b n f M c) {i : Nat} {e : BEnt} (hi : M.l[i]? = some e) (hk : Kept (fun j => j = b ∨ j = e.eb) w w') (hm : MapAt w' b (usedM M i e)) : ArSt w0 w' b n f (usedM M i e) (c + 1) := by
  refine ⟨h.mp.used hi hk hm, h.ty, h.ks, h.vs, h.cap, h.fr, by simp [usedM, h.len], ?_, by have := h.clock; show M.clock + 1 ≤ c + 1; omega⟩
  intro j a hj
  simp only [usedM, List.getElem?_set] at hj
  split at hj
  · rename_i hij
    subst hij
    have hil : i < M.l.length := (List.getElem?_eq_some_iff.1 hi).1
    simp [hil] at hj
    subst hj
    exact h.ent i e hi
  · exact h.ent j a hj
theorem ArSt.written (h : ArSt w0 w b n f M c) {i : Nat} {e : BEnt} {x : Nat → Int} (hi : M.l[i]? = some e) (hk : Kept (M.own b) w w') (hm : MapAt w' b (writtenM M i e x)) : ArSt w0 w' b n (fun j => if j = i then x 0 else f j) (writtenM M i e x) (c + 1) := by
  refine ⟨h.mp.written hi hk hm, h.ty, h.ks, h.vs, h.cap, h.fr, by simp [writtenM, h.len], ?_, by have := h.clock; show M.clock + 1 ≤ c + 1; omega⟩
  intro j a hj
  simp only [writtenM, List.getElem?_set] at hj
  split at hj
  · rename_i hij
    subst hij
    have hil : i < M.l.length := (List.getElem?_eq_some_iff.1 hi).1
    simp [hil] at hj
    subst hj
    exact ⟨(h.ent i e hi).1, by simp⟩
  · rename_i hij
    obtain ⟨q1, q2⟩ := h.ent j a hj
    refine ⟨q1, ?_⟩
    show a.val 0 = if j = i then x 0 else f j
    rw [if_neg (fun q => hij q.symm)]
    exact q2
end

/-- A row of four bytes that is a key. -/
def row4 (a c : Int) : Array Value := #[.int .u8 a, .int .u8 c, .int .u8 0, .int .u8 0]
def x4 (a c j : Nat) : Nat := if j = 0 then a else if j = 1 then c else 0
theorem x4_lit (a : Nat) : x4 a 0 = lit4 a := by funext j; simp [x4, lit4]
theorem x4_le {a c : Nat} (ha : a ≤ 255) (hc : c ≤ 255) (j : Nat) : x4 a c j ≤ 255 := by
  unfold x4
  split
  · omega
  · split <;> omega
theorem row4_key {w : World} {p a c : Nat} {f : Nat × Nat} (ha : a ≤ 255) (hc : c ≤ 255) (h : w.heap[p]? = some (.cells (row4 a c) 5 f)) : KeyAt w (.slice (some ⟨p, 0, none⟩) 4 4) (key4 (x4 a c)) := by
  refine keyAt4 (x4_le ha hc) fun j hj => ?_
  rw [wcell_of h, Nat.zero_add]
  have : j = 0 ∨ j = 1 ∨ j = 2 ∨ j = 3 := by omega
  rcases this with rfl | rfl | rfl | rfl <;> rfl
theorem row4_eq (a c : Int) : ((((Array.replicate 4 (Value.int .u8 0)).setIfInBounds 0 (.int .u8 a)).setIfInBounds 1 (.int .u8 c)).setIfInBounds 2 (.int .u8 0)).setIfInBounds 3 (.int .u8 0) = row4 a c := rfl

theorem ar_upd {w0 w : World} {b n a : Nat} {v fl c : Int} {f : Nat → Int} {M : BMap} (h : ArSt w0 w b n f M c) (ha : a ≤ 255) (hv : 0 ≤ v ∧ v ≤ 255) (hfl : 0 ≤ fl ∧ fl ≤ 2) (hc : c ≤ 1000) (hn : 1 ≤ n ∧ n ≤ 64) :
    Ret Try.prog 30 [.pointer (some ⟨b, 0, none⟩), .slice (some ⟨w.heap.size, 0, none⟩) 4 4, .slice (some ⟨w.heap.size + 1, 0, none⟩) 1 1, .int .u64 fl] ((w.alloc (.cells (row4 a 0) 5)).alloc (.cells #[.int .u8 v] 5)) fun r w' =>
      (fl = 1 ∧ r = .int .i64 17 ∧ a < n ∧ ArSt w0 w' b n f M c) ∨ (fl ≠ 1 ∧ r = .int .i64 0 ∧ a < n ∧ ∃ M', ArSt w0 w' b n (fun j => if j = a then v else f j) M' (c + 1)) ∨ (r = .int .i64 7 ∧ n ≤ a ∧ ArSt w0 w' b n f M c) := by
  have hown := fun j (hj : M.own b j) => h.mp.lt hj
  have p1 := hp_new w (.cells (row4 a 0) 5)
  have k1 : Kept none' w (w.alloc (.cells (row4 a 0) 5)) := (Kept.refl _ _).alloc _
  have s1 : (w.alloc (.cells (row4 a 0) 5)).heap.size = w.heap.size + 1 := by simp
  generalize w.alloc (.cells (row4 a 0) 5) = w1 at p1 k1 s1 ⊢
  have p2 := hp_new w1 (.cells #[.int .u8 v] 5)
  have k2 : Kept none' w1 (w1.alloc (.cells #[.int .u8 v] 5)) := (Kept.refl _ _).alloc _
  have s2 : (w1.alloc (.cells #[.int .u8 v] 5)).heap.size = w1.heap.size + 1 := by simp
  generalize w1.alloc (.cells #[.int .u8 v] 5) = w2 at p2 k2 s2 ⊢
  have p1' : w2.heap[w.heap.size]? = some (.cells (row4 a 0) 5 (0, 0)) := by rw [k2.block _ (by omega) (fun h => h)]; exact p1
  rw [s1] at p2
  have h2 := (h.calm k1).calm k2
  have hkey := row4_key (c := 0) ha (by omega) p1'
  rw [x4_lit] at hkey
  have hu := update_ret b M _ (key4 (lit4 a)) (w.heap.size + 1) 0 1 (fun _ => v) fl w2 h2.mp.map hkey (by rw [h.ty]; decide) (by rw [h.ty]; decide) (by rw [h.ty]; decide) (by rw [h.ks]; rfl) (by have := h.clock; omega) h.fr (by rw [h.cap]; omega) (by rw [h.vs]; decide) (by rw [h.len]; omega) hfl
    (fun j hj => by
      have : j = 0 := by rw [h.vs] at hj; omega
      subst this; rw [wcell_of p2]; rfl) (fun _ => hv) ⟨by omega, fun ho => by have := hown _ ho; omega⟩ ⟨w.heap.size, 0, 4, rfl, by omega, fun ho => by have := hown _ ho; omega⟩
  rw [h.vs] at hu
  refine hu.mono ?_
  rintro r w3 (⟨i, e, hi, hek, ⟨q, rfl, hk⟩ | ⟨q, rfl, hk, hm⟩⟩ | ⟨hno, ⟨_, rfl, hk⟩ | ⟨q, _⟩ | ⟨q, _⟩ | ⟨q, _⟩⟩)
  · obtain ⟨rfl, _⟩ := h2.at hn.2 (lit4_le ha) hi hek
    refine .inl ⟨q, rfl, ?_, h2.calm hk⟩
    have := (List.getElem?_eq_some_iff.1 hi).1
    rw [h.len] at this
    simpa [lit4] using this
  · obtain ⟨rfl, _⟩ := h2.at hn.2 (lit4_le ha) hi hek
    refine .inr (.inl ⟨q, rfl, ?_, _, h2.written hi hk hm⟩)
    have := (List.getElem?_eq_some_iff.1 hi).1
    rw [h.len] at this
    simpa [lit4] using this
  · refine .inr (.inr ⟨rfl, ?_, h2.calm hk⟩)
    by_cases hlt : a < n
    · obtain ⟨e, he, hek⟩ := h.has hlt
      exact absurd hek (hno e he)
    · omega
  all_goals exact absurd h.ty q

theorem ar_look {w0 w : World} {b n a y : Nat} {c : Int} {f : Nat → Int} {M : BMap} (h : ArSt w0 w b n f M c) (ha : a ≤ 255) (hy : y ≤ 255) (hc : c ≤ 1000) (hn : 1 ≤ n ∧ n ≤ 64) :
    Ret Try.prog 29 [.pointer (some ⟨b, 0, none⟩), .slice (some ⟨w.heap.size, 0, none⟩) 4 4] (w.alloc (.cells (row4 a y) 5)) fun r w' =>
      (∃ nb cap, a < n ∧ y = 0 ∧ r = .tuple #[.slice (some ⟨nb, 0, none⟩) 1 cap, .int .i64 0] ∧ 1 ≤ cap ∧ wcell w' nb 0 = some (.int .u8 (f a)) ∧ ∃ M', ArSt w0 w' b n f M' (c + 1)) ∨ (¬ (a < n ∧ y = 0) ∧ r = .tuple #[.slice none 0 0, .int .i64 2] ∧ ArSt w0 w' b n f M c) := by
  have p1 := hp_new w (.cells (row4 a y) 5)
  have k1 : Kept none' w (w.alloc (.cells (row4 a y) 5)) := (Kept.refl _ _).alloc _
  generalize w.alloc (.cells (row4 a y) 5) = w1 at p1 k1 ⊢
  have h2 := h.calm k1
  have hkey := row4_key ha hy p1
  refine (lookup_ret b M _ (key4 (x4 a y)) w1 h2.mp.map hkey (by rw [h.ty]; decide) (by rw [h.ty]; decide) (by rw [h.ty]; decide) (by rw [h.ks]; rfl) (by have := h.clock; omega) (by rw [h.vs]; decide)).mono ?_
  rintro r w3 (⟨i, e, nb, cap, hi, hek, rfl, hcap, hnb, hby, hk, hm⟩ | ⟨hno, rfl, hk⟩)
  · obtain ⟨q0, q1⟩ := h2.at hn.2 (x4_le ha hy) hi hek
    have q0' : i = a := by simpa [x4] using q0
    have q1' : y = 0 := by simpa [x4] using q1
    subst q0' q1'
    have hil := (List.getElem?_eq_some_iff.1 hi).1
    rw [h.len] at hil
    rw [h.vs] at hcap hby ⊢
    refine .inl ⟨nb, cap, hil, rfl, rfl, hcap, ?_, _, h2.used hi hk hm⟩
    rw [← (h2.ent i e hi).2]
    exact hby 0 (by omega)
  · refine .inr ⟨?_, rfl, h2.calm hk⟩
    rintro ⟨hlt, rfl⟩
    obtain ⟨e, he, hek⟩ := h.has hlt
    exact hno e he (by rw [hek, x4_lit])

set_option maxHeartbeats 8000000 in
theorem arrays_ret (x0 x1 x2 : Int) (w : World) (h2 : 0 ≤ x2 ∧ x2 ≤ 255) : Ret Try.prog 9 [.int .i64 x0, .int .i64 x1, .int .u8 x2] w fun v w' => v = .bool true ∧ Kept none' w w' := by
  refine ret_of_W Try.func9 rfl ok_tipstafflaw09_BmapArrays ?_
  obtain ⟨n0, hn0, hq, hqw⟩ := mod_small x0 64 (by omega) (by omega)
  have e0 : IntKind.i64.wrap (1 + (n0 : Int)) = ((n0 + 1 : Nat) : Int) := by rw [i64w (by omega) (by omega)]; omega
  simp [c_tipstafflaw09_BmapArrays]
  rw [hqw, e0]
  generalize hnn : n0 + 1 = n
  have hn64 : n ≤ 64 := by omega
  have hun : IntKind.u64.wrap (n : Int) = n := u64w (by omega) (by omega)
  have hn0' : ¬ ((n : Int) = 0) := by omega
  obtain ⟨k, hkn, hkq, hkw⟩ := mod_small x1 n (by omega) (by omega)
  have hkn' : k < n := by omega
  have hk8 : IntKind.u8.wrap (k : Int) = k := u8w (by omega) (by omega)
  have hn8 : IntKind.u8.wrap (n : Int) = n := u8w (by omega) (by omega)
  have hrem : ((intBin .rem .u64 (IntKind.u64.wrap x1) .u64 n).bind (convV .i64)) = some (.int .i64 k) := by
    rw [intBin_rem _ _ _ hn0']
    simp [convV, hkw]
  simp [hun, hrem]
  refine W_call0 (by simp; rfl) (newarr_ret 1 n w ⟨by omega, by omega⟩ ⟨by omega, by omega⟩) ?_
  rintro v w1 ⟨b, M, rfl, hA⟩
  have hS : ArSt w w1 b n (fun _ => 0) M 0 := ⟨hA.mp, hA.ty, hA.ks, hA.vs, hA.cap, hA.fr, hA.len, fun j e hj => ⟨(hA.ent j e hj).1, by rw [(hA.ent j e hj).2]⟩, by rw [hA.clock]; omega⟩
  clear hA
  simp
  refine W_call0 (by simp) (maps_ret w1) ?_
  rintro v w2 ⟨rfl, hk2⟩
  have hS2 := hS.calm hk2
  simp
  refine W_yes (by simp) ?_
  refine W_call0 (by simp) (len_ret b M w2 hS2.mp.map) ?_
  rintro v w3 ⟨rfl, rfl⟩
  rw [hS2.len]
  simp
  refine W_yes (by simp) ?_
  simp [hk8]
  refine W_yes (by simp) ?_
  simp
  rw [row4_eq]
  refine W_yes (by simp) ?_
  refine W_call0 (by simp) (ar_upd hS2 (a := k) (v := x2) (fl := 2) (by omega) h2 (by omega) (by omega) ⟨by omega, hn64⟩) ?_
  rintro v w4 (⟨q, _⟩ | ⟨_, rfl, _, M4, hS4⟩ | ⟨_, q, _⟩)
  · omega
  rotate_left
  · omega
  simp only [Int.zero_add] at hS4
  simp
  refine W_yes (by simp) ?_
  simp [hk8]
  refine W_yes (by simp) ?_
  simp
  rw [row4_eq]
  refine W_yes (by simp) ?_
  refine W_call0 (by simp) (ar_upd hS4 (a := k) (v := x2) (fl := 1) (by omega) h2 (by omega) (by omega) ⟨by omega, hn64⟩) ?_
  rintro v w5 (⟨_, rfl, _, hS5⟩ | ⟨q, _⟩ | ⟨_, q, _⟩)
  rotate_left
  · exact absurd rfl q
  · omega
  simp
  refine W_yes (by simp) ?_
  simp [hn8]
  refine W_yes (by simp) ?_
  simp
  rw [row4_eq]
  refine W_yes (by simp) ?_
  refine W_call0 (by simp) (ar_upd hS5 (a := n) (v := x2) (fl := 0) (by omega) h2 (by omega) (by omega) ⟨by omega, hn64⟩) ?_
  rintro v w6 (⟨q, _⟩ | ⟨_, _, q, _⟩ | ⟨rfl, _, hS6⟩)
  · omega
  · omega
  simp
  refine W_yes (by simp) ?_
  simp [hk8]
  rw [row4_eq]
  have p7 := hp_new w6 (.cells (row4 k 0) 5)
  have k7 : Kept none' w6 (w6.alloc (.cells (row4 k 0) 5)) := (Kept.refl _ _).alloc _
  generalize w6.alloc (.cells (row4 k 0) 5) = w7 at p7 k7 ⊢
  have hS7 := hS6.calm k7
  refine W_yes (by simp) ?_
  refine W_call0 (by simp) (delete_array b M4 _ (key4 (x4 k 0)) w7 hS7.mp.map (row4_key (by omega) (by omega) p7) hS7.ty (by rw [hS7.ks]; rfl) hS7.fr) ?_
  rintro v w8 ⟨rfl, rfl⟩
  clear hS hS2 hS4 hS5 hS6 hk2 p7 k7
  simp
  refine W_no (by simp) ?_
  simp
  refine W_loop (fun env w' => ∃ (i : Nat) (M : BMap), env = [undef, undef, .int .u8 x2, undef, .int .i64 n, .int .i64 k, undef, .pointer (some ⟨b, 0, none⟩), undef, undef, undef, undef, undef, undef, undef, undef, undef, undef, undef, undef, undef, undef, .int .i64 i, undef, undef, undef, undef, undef, undef, undef, undef, undef, undef, undef, undef, undef, undef] ∧ i ≤ n ∧ ArSt w w' b n (fun j => if j = k then x2 else 0) M (i + 1)) (fun env _ => n - natAt env 22) ?_ ?_
  · exact ⟨0, M4, by simp, by omega, by simpa using hS7⟩
  clear hS7
  rintro env w3 ⟨i, M, rfl, hi, hS⟩
  by_cases hgo : i < n
  · have hi8 : IntKind.u8.wrap (i : Int) = i := u8w (by omega) (by omega)
    have e1 : IntKind.i64.wrap ((i : Int) + 1) = ((i + 1 : Nat) : Int) := i64w (by omega) (by omega)
    simp
    refine W_yes (by simp; omega) ?_
    simp [hi8]
    rw [row4_eq]
    refine W_call0 (by simp) (ar_look hS (a := i) (y := 0) (by omega) (by omega) (by omega) ⟨by omega, hn64⟩) ?_
    rintro v w4 (⟨nb, cap, _, _, rfl, hcap, hcell, M4, hS4⟩ | ⟨q, _⟩)
    rotate_left
    · exact absurd ⟨hgo, rfl⟩ q
    have hcd := hcell
    have hSd := hS4
    simp
    by_cases hik : i = k
    · subst hik
      rw [if_pos rfl] at hcd
      refine W_yes (by simp) ?_
      simp
      refine W_no (by simp [hcd]) ?_
      simp
      exact ⟨⟨i + 1, e1, by omega, M4, by simpa using hSd⟩, by simp [natAt, e1]; omega⟩
    · rw [if_neg hik] at hcd
      refine W_no (by simp; omega) ?_
      simp
      refine W_no (by simp [hcd]) ?_
      simp
      exact ⟨⟨i + 1, e1, by omega, M4, by simpa using hSd⟩, by simp [natAt, e1]; omega⟩
  · simp
    refine W_no (by simp; omega) ?_
    simp [hn8]
    rw [row4_eq]
    refine W_call0 (by simp) (ar_look hS (a := n) (y := 0) (by omega) (by omega) (by omega) ⟨by omega, hn64⟩) ?_
    rintro v w4 (⟨_, _, q, _⟩ | ⟨_, rfl, hS4⟩)
    · omega
    simp [hk8]
    rw [row4_eq]
    refine W_call0 (by simp) (ar_look hS4 (a := k) (y := 1) (by omega) (by omega) (by omega) ⟨by omega, hn64⟩) ?_
    rintro v w5 (⟨_, _, _, q, _⟩ | ⟨_, rfl, hS5⟩)
    · omega
    simp
    refine W_yes (by simp) ?_
    refine W_call0 (by simp) (len_ret b M w5 hS5.mp.map) ?_
    rintro v w6 ⟨rfl, rfl⟩
    rw [hS5.len]
    simp
    exact hS5.mp.kept
end Go.Proofs.Ytihaopoehhnbkaa
