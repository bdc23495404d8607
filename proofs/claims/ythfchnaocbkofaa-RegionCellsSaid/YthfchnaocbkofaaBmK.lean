/- Layer 9, part K: Freeze; maps. -/
import Derived.Test.YthfchnaocbkofaaBmJ
set_option linter.unusedSimpArgs false
set_option linter.unusedVariables false
set_option maxRecDepth 8000
namespace Go.Proofs.Ythfchnaocbkofaa
open Go.Eng

theorem freeze_ret (b : Nat) (M : BMap) (w : World) (h : MapAt w b M) (hf : M.frozen = false) : Ret Try.prog 14 [.pointer (some ⟨b, 0, none⟩)] w
    fun v w' => v = .int .i64 0 ∧ Kept (fun j => j = b) w w' ∧ MapAt w' b { M with frozen := true } := by
  refine ret_of_W Try.func14 rfl ok_bmap_Map_Freeze ?_
  have hb := h.blk
  simp [c_bmap_Map_Freeze]
  refine W_no (by simp) ?_
  simp [wcell_of hb, BMap.cells, hf]
  refine W_no (by simp) ?_
  simp
  have hst : stv w 1 (.pointer (some ⟨b, 5, none⟩)) (.bool true) = some (put w b (.cells { M with frozen := true }.cells 56 (0, 0))) := by
    rw [stv_of (n := 1) (v := .bool true) hb rfl (by simp [BMap.cells]) (.inl (by simp)) (by simp [Value.oneCell'])]
    rfl
  refine W_store (by simp) (by simp) hst (stab_nil _ _ _) ?_
  simp
  have hk : Kept (fun j => j = b) w (put w b (.cells { M with frozen := true }.cells 56 (0, 0))) := (Kept.refl (fun j => j = b) w).put (b := b) (fun _ => rfl) _
  refine ⟨hk, put_same (blk_lt hb), h.row.keep hk ?_, ?_, h.apart, h.small, h.clock⟩
  · rintro j hj rfl
    rcases h.row with ⟨hL, _⟩ | ⟨g, cap, cur, hL, hg, _⟩
    · rw [hL] at hj; simp [Value.ownBlock] at hj
    · rw [hL] at hj
      simp [Value.ownBlock] at hj
      subst hj
      exact heap_ne hg hb (by decide) rfl
  · intro e he
    have hE := h.ents e he
    obtain ⟨c1, hc1, hcell1⟩ := hE.cell
    obtain ⟨cs1, hval1, _⟩ := hE.val
    exact hE.keep hk (fun q => heap_ne hE.ent hb (by decide) q) (fun q => heap_ne hcell1 hb (by decide) q) (fun q => heap_ne hval1 hb (by decide) q)

theorem update_frozen (b : Nat) (M : BMap) (kv xv : Value) (fl : Int) (w : World) (h : MapAt w b M) (hf : M.frozen = true) : Ret Try.prog 6 [.pointer (some ⟨b, 0, none⟩), kv, xv, .int .u64 fl] w fun v w' => v = .int .i64 1 ∧ w' = w := by
  refine ret_of_W Try.func6 rfl ok_bmap_Map_Update ?_
  simp [c_bmap_Map_Update]
  refine W_call0 (by simp) (changes_ret b M w h) ?_
  rintro v w1 ⟨rfl, rfl⟩
  simp [hf]
  refine W_yes (by simp) ?_
  simp

theorem wrow_one {w : World} {b o : Nat} {v : Value} (h : wcell w b o = some v) : wrow w b o 1 = some #[v] := by
  unfold wcell at h
  unfold wrow
  cases hb : w.heap[b]? with
  | none => rw [hb] at h; cases h
  | some ob =>
    rw [hb] at h
    cases ob with
    | cells c T fz =>
      simp only at h ⊢
      have hlt : o < c.size := (Array.getElem?_eq_some_iff.1 h).1
      rw [if_pos (by omega)]
      congr 1
      apply Array.ext_getElem?
      intro j
      rw [Array.getElem?_extract]
      by_cases hj : j = 0
      · subst hj; rw [if_pos (by omega)]; simpa using h
      · rw [if_neg (by omega)]
        simp
        omega
    | _ => cases h

/-- A key of one byte. -/
def key1 (x : Nat) : ByteArray := ⟨#[UInt8.ofNat x]⟩
theorem key1_inj {x y : Nat} (hx : x ≤ 255) (hy : y ≤ 255) (h : key1 x = key1 y) : x = y := by
  have h1 : UInt8.ofNat x = UInt8.ofNat y := by simpa [key1] using h
  have h2 := congrArg UInt8.toNat h1
  simp at h2
  omega
theorem keyAt1 {w : World} {b o c x : Nat} (hx : x ≤ 255) (h : wcell w b o = some (.int .u8 x)) : KeyAt w (.slice (some ⟨b, o, none⟩) 1 c) (key1 x) := by
  refine ⟨b, o, c, rfl, ?_, ?_⟩
  · simp only [bstrv, wrow_one h]
    rfl
  · intro j hj
    have : j = 0 := by have : (key1 x).size = 1 := rfl; omega
    subst this
    exact ⟨x, hx, rfl, h⟩
theorem bstr1 {w : World} {b o c x : Nat} (h : wcell w b o = some (.int .u8 x)) : bstrv w (.slice (some ⟨b, o, none⟩) 1 c) = some (.string (key1 x)) := by
  simp only [bstrv, wrow_one h]
  rfl

theorem run_cvb {w : World} {b o n c : Nat} {cs : Array Value} {T : TypeId} (hb : w.heap[b]? = some (.cells cs T (0, 0))) :
    ((Tag.cv 22 22).sem [.slice (some ⟨b, o, none⟩) n c]).run Try.prog w = .ok (.slice (some ⟨b, o, none⟩) n c) (put w b (.cells cs T (cs.size, cs.size + 1))) := by
  have hsh : w.shape? b = some (T, cs.size) := by unfold World.shape?; rw [hb]
  have hfr : w.freeze ⟨b, cs.size, none⟩ 1 = put w b (.cells cs T (cs.size, cs.size + 1)) := by
    unfold World.freeze put
    rw [if_neg (by decide)]
    congr 1
    apply Array.ext_getElem?
    intro j
    rw [Array.getElem?_modify, Array.getElem?_setIfInBounds]
    have hlt : b < w.heap.size := blk_lt hb
    split
    · rename_i h; subst h; simp only [hb, Option.map_some, hlt, if_true]; rfl
    · rfl
  simp only [Tag.sem]
  simp [convert, run_underlying Try.underlying22, run_underlying Try.underlying5, markStringish, hsh, hfr]

/-- A row of one byte, made a key or a value. -/
theorem byte_lit (w : World) (x : Nat) : ((Tag.cv 22 22).sem [.slice (some ⟨w.heap.size, 0, none⟩) 1 1]).run Try.prog (w.alloc (.cells #[.int .u8 x] 5)) =
      .ok (.slice (some ⟨w.heap.size, 0, none⟩) 1 1) (put (w.alloc (.cells #[.int .u8 x] 5)) w.heap.size (.cells #[.int .u8 x] 5 (1, 2))) ∧
    Kept none' w (put (w.alloc (.cells #[.int .u8 x] 5)) w.heap.size (.cells #[.int .u8 x] 5 (1, 2))) ∧
    (put (w.alloc (.cells #[.int .u8 x] 5)) w.heap.size (.cells #[.int .u8 x] 5 (1, 2))).heap[w.heap.size]? = some (.cells #[.int .u8 x] 5 (1, 2)) ∧
    (put (w.alloc (.cells #[.int .u8 x] 5)) w.heap.size (.cells #[.int .u8 x] 5 (1, 2))).heap.size = w.heap.size + 1 :=
  ⟨run_cvb (hp_new w _), ((Kept.refl _ _).alloc _).put (fun h => absurd h (by omega)) _, put_same (by simp), by simp⟩

/-- A map that came to be behind a point; what was there is as it was. -/
structure Mp (w0 w : World) (b : Nat) (M : BMap) : Prop where
  kept : Kept none' w0 w
  map : MapAt w b M
  low : ∀ i, M.own b i → w0.heap.size ≤ i

section
variable {w0 w w' : World} {b : Nat} {M M' : BMap}
theorem Mp.lt (h : Mp w0 w b M) {i : Nat} (hi : M.own b i) : i < w.heap.size := own_lt h.map hi
theorem Mp.calm (h : Mp w0 w b M) (hk : Kept none' w w') : Mp w0 w' b M := ⟨h.kept.trans hk, h.map.calm hk, h.low⟩
theorem Mp.step (h : Mp w0 w b M) (hk : Kept (M.own b) w w') (hm : MapAt w' b M') (ho : ∀ i, M'.own b i → M.own b i ∨ w.heap.size ≤ i) : Mp w0 w' b M' :=
  ⟨h.kept.then hk fun i hi hj => by have := h.low i hj; omega, hm, fun i hi => by
    rcases ho i hi with hj | hj
    · exact h.low i hj
    · exact Nat.le_trans h.kept.size hj⟩
theorem own_ent {i : Nat} {e : BEnt} (hi : M.l[i]? = some e) {j : Nat} (hj : j = b ∨ j = e.eb) : M.own b j := by
  rcases hj with hj | hj
  · exact .inl hj
  · exact .inr (.inr ⟨e, List.mem_of_getElem? hi, .inl hj⟩)
theorem Mp.used (h : Mp w0 w b M) {i : Nat} {e : BEnt} (hi : M.l[i]? = some e) (hk : Kept (fun j => j = b ∨ j = e.eb) w w') (hm : MapAt w' b (usedM M i e)) : Mp w0 w' b (usedM M i e) :=
  h.step (hk.mono fun j _ hj => own_ent hi hj) hm fun j hj => .inl (own_set (x := M.clock + 1) (e' := { e with used := M.clock + 1 }) hi rfl rfl rfl hj)
theorem Mp.written (h : Mp w0 w b M) {i : Nat} {e : BEnt} {x : Nat → Int} (hi : M.l[i]? = some e) (hk : Kept (M.own b) w w') (hm : MapAt w' b (writtenM M i e x)) : Mp w0 w' b (writtenM M i e x) :=
  h.step hk hm fun j hj => .inl (own_set (x := M.clock + 1) (e' := { e with used := M.clock + 1, val := x }) hi rfl rfl rfl hj)
theorem Mp.pushed (h : Mp w0 w b M) {lo : List BEnt} {L' : Value} {a : BEnt} {x : Int} (hk : Kept (M.own b) w w') (hlo : ∀ c ∈ lo, c ∈ M.l) (h1 : w.heap.size ≤ a.eb) (h2 : w.heap.size ≤ a.cb) (h3 : w.heap.size ≤ a.vb)
    (hL : L'.ownBlock = M.L.ownBlock ∨ ∃ g, L'.ownBlock = some g ∧ w.heap.size ≤ g) (hm : MapAt w' b { M with clock := x, L := L', l := lo ++ [a] }) : Mp w0 w' b { M with clock := x, L := L', l := lo ++ [a] } := by
  refine h.step hk hm ?_
  rintro j (hj | hj | ⟨c, hc, hj⟩)
  · exact .inl (.inl hj)
  · rcases hL with hL | ⟨g, hg, hgs⟩
    · exact .inl (.inr (.inl (by rw [← hL]; exact hj)))
    · right
      simp only at hj
      rw [hg] at hj
      simp at hj
      omega
  · rcases List.mem_append.1 hc with hc | hc
    · exact .inl (.inr (.inr ⟨c, hlo c hc, hj⟩))
    · simp at hc
      subst hc
      right
      omega
end
end Go.Proofs.Ythfchnaocbkofaa
