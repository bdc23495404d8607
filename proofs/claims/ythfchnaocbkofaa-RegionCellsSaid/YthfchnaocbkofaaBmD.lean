/- Layer 9, part D: find, Lookup, Cell. -/
import Derived.Test.YthfchnaocbkofaaBmC
set_option linter.unusedSimpArgs false
set_option linter.unusedVariables false
set_option maxRecDepth 8000
namespace Go.Proofs.Ythfchnaocbkofaa
open Go.Eng

/-- bytes.Clone of some bytes. -/
theorem clone_ret (b off n c : Nat) (x : Nat → Value) (w : World) (hx : ∀ j, j < n → wcell w b (off + j) = some (x j)) (hn : n ≤ 1000000) (hb : b < w.heap.size) :
    Ret Try.prog 34 [.slice (some ⟨b, off, none⟩) n c] w fun v w' => Kept none' w w' ∧ ∃ nb c', v = .slice (some ⟨nb, 0, none⟩) n c' ∧ n ≤ c' ∧ w.heap.size ≤ nb ∧ ∀ j, j < n → wcell w' nb j = some (x j) := by
  refine ret_of_W Try.func34 rfl ok_bytes_Clone ?_
  simp [c_bytes_Clone]
  refine W_no (by simp) ?_
  simp
  have hk0 : Kept none' w (w.alloc (.cells #[] 5)) := (Kept.refl _ _).alloc _
  have hx' : ∀ j, j < n → wcell (w.alloc (.cells #[] 5)) b (off + j) = some (x j) := fun j hj => wcell_kept hk0 (fun h => h) (hx j hj)
  obtain ⟨nb, c', w5, hrun, hk5, hc', hnb, hcells⟩ := append_copy (P := Try.prog) (t := 22) (ty := 22) (e := 5) (nb := w.heap.size) (c := c) Try.underlying22 (by kernel_rfl) hx' hn
  refine W_bi (by simp) hrun (stab_nil _ _ _) ?_
  simp
  simp at hnb
  exact ⟨hk0.trans hk5, nb, c', ⟨rfl, rfl⟩, hc', by omega, hcells⟩

/-- What a search tells: the entry, used, and the map behind it; or why there is none. -/
def FindIs (w w' : World) (b : Nat) (M : BMap) (k : ByteArray) (v : Value) : Prop :=
  (∃ (i : Nat) (e : BEnt), M.l[i]? = some e ∧ e.key = k ∧ v = .tuple #[.pointer (some ⟨e.eb, 0, none⟩), .int .i64 0] ∧ Kept (fun j => j = b ∨ j = e.eb) w w' ∧ MapAt w' b (usedM M i e)) ∨
  ((∀ e ∈ M.l, e.key ≠ k) ∧ v = .tuple #[.pointer none, .int .i64 2] ∧ Kept none' w w')

theorem find_ret (b : Nat) (M : BMap) (kv : Value) (k : ByteArray) (w : World) (h : MapAt w b M) (hk : KeyAt w kv k) (hp : M.ty ≠ 5) (h3 : M.ty ≠ 3) (h4 : M.ty ≠ 4) (hs : (k.size : Int) = M.ks) (hc : M.clock + 1 ≤ 1000000) :
    Ret Try.prog 25 [.pointer (some ⟨b, 0, none⟩), kv] w fun v w' => FindIs w w' b M k v := by
  refine ret_of_W Try.func25 rfl ok_bmap_Map_find ?_
  have hkvv : varV kv = some kv := by obtain ⟨kb, ko, kc, rfl, _⟩ := hk; rfl
  simp [c_bmap_Map_find]
  refine W_call0 (by simp [hkvv]) (right_ret b M kv k w h hk hp) ?_
  rintro v w1 ⟨rfl, rfl⟩
  refine W_no (by simp [h3, h4, hs]) ?_
  simp
  refine W_call0 (by simp [hkvv]) (exact_ret' b M kv k w1 h hk hp) ?_
  rintro v w2 ⟨hk2, hv⟩
  have hm2 := h.calm hk2
  have hb2 := hm2.blk
  rcases hv with ⟨i, e, hi, hke, rfl⟩ | ⟨hno, rfl⟩
  · simp
    refine W_no (by simp [wcell_of hb2, BMap.cells, hp]) ?_
    simp
    refine W_no (by simp) ?_
    simp
    refine W_call0 (by simp) (use_ret b M i e w2 hm2 hi hc) ?_
    rintro v w3 ⟨rfl, hk3, hm3⟩
    simp
    exact .inl ⟨i, e, hi, hke, rfl, (hk2.mono fun _ _ h => h.elim).trans (hk3.mono fun _ _ h => h), hm3⟩
  · simp
    refine W_no (by simp [wcell_of hb2, BMap.cells, hp]) ?_
    simp
    refine W_yes (by simp) ?_
    simp
    exact .inr ⟨hno, rfl, hk2⟩

/-- What Lookup tells. -/
def LookIs (w w' : World) (b : Nat) (M : BMap) (k : ByteArray) (v : Value) : Prop :=
  (∃ (i : Nat) (e : BEnt) (nb c : Nat), M.l[i]? = some e ∧ e.key = k ∧ v = .tuple #[.slice (some ⟨nb, 0, none⟩) M.vs c, .int .i64 0] ∧ M.vs ≤ c ∧ w.heap.size ≤ nb ∧ (∀ j, j < M.vs → wcell w' nb j = some (.int .u8 (e.val j))) ∧ Kept (fun j => j = b ∨ j = e.eb) w w' ∧ MapAt w' b (usedM M i e)) ∨
  ((∀ e ∈ M.l, e.key ≠ k) ∧ v = .tuple #[.slice none 0 0, .int .i64 2] ∧ Kept none' w w')

theorem lookup_ret (b : Nat) (M : BMap) (kv : Value) (k : ByteArray) (w : World) (h : MapAt w b M) (hk : KeyAt w kv k) (hp : M.ty ≠ 5) (h3 : M.ty ≠ 3) (h4 : M.ty ≠ 4) (hs : (k.size : Int) = M.ks) (hc : M.clock + 1 ≤ 1000000) (hV : M.vs ≤ 1000) :
    Ret Try.prog 13 [.pointer (some ⟨b, 0, none⟩), kv] w fun v w' => LookIs w w' b M k v := by
  refine ret_of_W Try.func13 rfl ok_bmap_Map_Lookup ?_
  have hkvv : varV kv = some kv := by obtain ⟨kb, ko, kc, rfl, _⟩ := hk; rfl
  simp [c_bmap_Map_Lookup]
  refine W_call0 (by simp [hkvv]) (find_ret b M kv k w h hk hp h3 h4 hs hc) ?_
  rintro v w1 (⟨i, e, hi, hke, rfl, hk1, hm1⟩ | ⟨hno, rfl, hk1⟩)
  · simp
    refine W_no (by simp) ?_
    simp
    have hil : i < M.l.length := (List.getElem?_eq_some_iff.1 hi).1
    have hE : EntAt w1 M.vs { e with used := M.clock + 1 } := hm1.ents _ (List.mem_set hil _)
    have hent := hE.ent
    obtain ⟨c0, hc0, hcell⟩ := hE.cell
    obtain ⟨cs, hval, hv1, hv2⟩ := hE.val
    refine W_call0 (by simp [wcell_of hent, wcell_of hcell, BEnt.cells]) (clone_ret e.vb 0 M.vs c0 (fun j => .int .u8 (e.val j)) w1 (fun j hj => by rw [wcell_of hval, Nat.zero_add]; exact hv2 j hj) (by omega) (blk_lt hval)) ?_
    rintro v w2 ⟨hk2, nb, c', rfl, hc', hnb, hby⟩
    simp
    exact .inl ⟨i, e, nb, c', hi, hke, rfl, hc', Nat.le_trans hk1.size hnb, hby, hk1.trans (hk2.mono fun _ _ h => h.elim), hm1.calm hk2⟩
  · simp
    refine W_yes (by simp) ?_
    simp
    exact .inr ⟨hno, rfl, hk1⟩

def CellIs (w w' : World) (b : Nat) (M : BMap) (k : ByteArray) (v : Value) : Prop :=
  (∃ (i : Nat) (e : BEnt), M.l[i]? = some e ∧ e.key = k ∧ v = .tuple #[.pointer (some ⟨e.cb, 0, none⟩), .int .i64 0] ∧ Kept (fun j => j = b ∨ j = e.eb) w w' ∧ MapAt w' b (usedM M i e)) ∨
  ((∀ e ∈ M.l, e.key ≠ k) ∧ v = .tuple #[.pointer none, .int .i64 2] ∧ Kept none' w w')

theorem cell_ret (b : Nat) (M : BMap) (kv : Value) (k : ByteArray) (w : World) (h : MapAt w b M) (hk : KeyAt w kv k) (hp : M.ty ≠ 5) (h3 : M.ty ≠ 3) (h4 : M.ty ≠ 4) (hs : (k.size : Int) = M.ks) (hc : M.clock + 1 ≤ 1000000) :
    Ret Try.prog 7 [.pointer (some ⟨b, 0, none⟩), kv] w fun v w' => CellIs w w' b M k v := by
  refine ret_of_W Try.func7 rfl ok_bmap_Map_Cell ?_
  have hkvv : varV kv = some kv := by obtain ⟨kb, ko, kc, rfl, _⟩ := hk; rfl
  simp [c_bmap_Map_Cell]
  refine W_call0 (by simp [hkvv]) (find_ret b M kv k w h hk hp h3 h4 hs hc) ?_
  rintro v w1 (⟨i, e, hi, hke, rfl, hk1, hm1⟩ | ⟨hno, rfl, hk1⟩)
  · simp
    refine W_no (by simp) ?_
    simp
    have hil : i < M.l.length := (List.getElem?_eq_some_iff.1 hi).1
    have hE : EntAt w1 M.vs { e with used := M.clock + 1 } := hm1.ents _ (List.mem_set hil _)
    have hent := hE.ent
    simp [wcell_of hent, BEnt.cells]
    exact .inl ⟨i, e, hi, hke, rfl, hk1, hm1⟩
  · simp
    refine W_yes (by simp) ?_
    simp
    exact .inr ⟨hno, rfl, hk1⟩
end Go.Proofs.Ythfchnaocbkofaa
