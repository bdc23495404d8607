/- Layer 9, part A: a map as it lies in the memory. -/
import Derived.Test.YthfchnaocbkofaaRegN
import Derived.Test.YthfchnaocbkofaaCmdsBm
set_option linter.unusedSimpArgs false
set_option linter.unusedVariables false
set_option maxRecDepth 8000
namespace Go.Proofs.Ythfchnaocbkofaa
open Go.Eng

/-- An entry: its block, its cell's, its value's; key, when it was used, value. -/
structure BEnt where
  eb : Nat
  cb : Nat
  vb : Nat
  key : ByteArray
  used : Int
  val : Nat → Int

structure BMap where
  ty : Int
  ks : Int
  vs : Nat
  cap : Int
  L : Value
  l : List BEnt
  frozen : Bool
  clock : Int

def BMap.cells (M : BMap) : Array Value := #[.int .i64 M.ty, .int .i64 M.ks, .int .i64 M.vs, .int .i64 M.cap, M.L, .bool M.frozen, .int .i64 M.clock]
def BEnt.cells (e : BEnt) : Array Value := #[.string e.key, .pointer (some ⟨e.cb, 0, none⟩), .int .i64 e.used]

structure EntAt (w : World) (V : Nat) (e : BEnt) : Prop where
  ent : w.heap[e.eb]? = some (.cells e.cells 62 (0, 0))
  cell : ∃ c, V ≤ c ∧ w.heap[e.cb]? = some (.cells #[.slice (some ⟨e.vb, 0, none⟩) V c] 60 (0, 0))
  val : ∃ cs, w.heap[e.vb]? = some (.cells cs 5 (0, 0)) ∧ V ≤ cs.size ∧ ∀ j, j < V → cs[j]? = some (.int .u8 (e.val j))
  byte : ∀ j, 0 ≤ e.val j ∧ e.val j ≤ 255

def RowAt (w : World) (L : Value) (l : List BEnt) : Prop := (L = .slice none 0 0 ∧ l = []) ∨
  ∃ g cap cur, L = .slice (some ⟨g, 0, none⟩) l.length cap ∧ w.heap[g]? = some (.cells cur 57 (0, 0)) ∧ l.length ≤ cap ∧ cap ≤ maxLen ∧ cur.size = cap ∧
    ∀ (i : Nat) (e : BEnt), l[i]? = some e → cur[i]? = some (Value.pointer (some ⟨e.eb, 0, none⟩))

def apart (a b : BEnt) : Prop := a.eb ≠ b.eb ∧ a.cb ≠ b.cb ∧ a.vb ≠ b.vb

structure MapAt (w : World) (b : Nat) (M : BMap) : Prop where
  blk : w.heap[b]? = some (.cells M.cells 56 (0, 0))
  row : RowAt w M.L M.l
  ents : ∀ e ∈ M.l, EntAt w M.vs e
  apart : M.l.Pairwise apart
  small : M.l.length ≤ 1000
  clock : 0 ≤ M.clock ∧ M.clock ≤ 1000000

/-- The blocks that are a map's. -/
def BMap.own (M : BMap) (b i : Nat) : Prop := i = b ∨ M.L.ownBlock = some i ∨ ∃ e ∈ M.l, i = e.eb ∨ i = e.cb ∨ i = e.vb

theorem heap_ne {w : World} {a b : Nat} {c c' : Array Value} {T T' : TypeId} {f f' : Nat × Nat} (h : w.heap[a]? = some (.cells c T f)) (h' : w.heap[b]? = some (.cells c' T' f')) (hT : T ≠ T') : a ≠ b := by
  rintro rfl
  rw [h] at h'
  simp at h'
  exact hT h'.2.1

theorem EntAt.keep {w w' : World} {V : Nat} {e : BEnt} {S : Nat → Prop} (h : EntAt w V e) (hk : Kept S w w') (h1 : ¬ S e.eb) (h2 : ¬ S e.cb) (h3 : ¬ S e.vb) : EntAt w' V e := by
  obtain ⟨a, ⟨c, hc, b⟩, ⟨cs, d, e1, e2⟩, f⟩ := h
  exact ⟨hk.has a h1, ⟨c, hc, hk.has b h2⟩, ⟨cs, hk.has d h3, e1, e2⟩, f⟩
theorem RowAt.keep {w w' : World} {L : Value} {l : List BEnt} {S : Nat → Prop} (h : RowAt w L l) (hk : Kept S w w') (h1 : ∀ i, L.ownBlock = some i → ¬ S i) : RowAt w' L l := by
  rcases h with h | ⟨g, cap, cur, rfl, h2, h3⟩
  · exact .inl h
  · exact .inr ⟨g, cap, cur, rfl, hk.has h2 (h1 g rfl), h3⟩
theorem MapAt.keep {w w' : World} {b : Nat} {M : BMap} {S : Nat → Prop} (h : MapAt w b M) (hk : Kept S w w') (hS : ∀ i, M.own b i → ¬ S i) : MapAt w' b M :=
  ⟨hk.has h.blk (hS b (.inl rfl)), h.row.keep hk (fun i hi => hS i (.inr (.inl hi))), fun e he => (h.ents e he).keep hk (hS _ (.inr (.inr ⟨e, he, .inl rfl⟩))) (hS _ (.inr (.inr ⟨e, he, .inr (.inl rfl)⟩))) (hS _ (.inr (.inr ⟨e, he, .inr (.inr rfl)⟩))), h.apart, h.small, h.clock⟩
theorem MapAt.calm {w w' : World} {b : Nat} {M : BMap} (h : MapAt w b M) (hk : Kept none' w w') : MapAt w' b M := h.keep hk (fun _ _ h => h)

theorem RowAt.len {w : World} {L : Value} {l : List BEnt} (h : RowAt w L l) : lenV false L = some (.int .i64 l.length) := by
  rcases h with ⟨rfl, rfl⟩ | ⟨g, cap, cur, rfl, _⟩ <;> rfl
theorem RowAt.var {w : World} {L : Value} {l : List BEnt} (h : RowAt w L l) : varV L = some L := by
  rcases h with ⟨rfl, rfl⟩ | ⟨g, cap, cur, rfl, _⟩ <;> rfl
theorem RowAt.one {w : World} {L : Value} {l : List BEnt} (h : RowAt w L l) : L.oneCell' = true := by
  rcases h with ⟨rfl, rfl⟩ | ⟨g, cap, cur, rfl, _⟩ <;> rfl
theorem RowAt.get {w : World} {L : Value} {l : List BEnt} (h : RowAt w L l) {i : Nat} {e : BEnt} (hi : l[i]? = some e) : ∃ g cap, L = .slice (some ⟨g, 0, none⟩) l.length cap ∧ wcell w g i = some (.pointer (some ⟨e.eb, 0, none⟩)) := by
  rcases h with ⟨rfl, rfl⟩ | ⟨g, cap, cur, rfl, h1, h2, h3, h4, h5⟩
  · cases hi
  · exact ⟨g, cap, rfl, by rw [wcell_of h1]; exact h5 i e hi⟩

theorem own_lt {w : World} {b : Nat} {M : BMap} (h : MapAt w b M) {i : Nat} (hi : M.own b i) : i < w.heap.size := by
  rcases hi with rfl | hi | ⟨e, he, rfl | rfl | rfl⟩
  · exact blk_lt h.blk
  · rcases h.row with ⟨h1, _⟩ | ⟨g, cap, cur, h1, h2, _⟩
    · rw [h1] at hi; simp [Value.ownBlock] at hi
    · rw [h1] at hi; simp [Value.ownBlock] at hi; subst hi; exact blk_lt h2
  · exact blk_lt (h.ents e he).ent
  · obtain ⟨c, _, h1⟩ := (h.ents e he).cell; exact blk_lt h1
  · obtain ⟨c, h1, _⟩ := (h.ents e he).val; exact blk_lt h1

theorem lined_ret (b : Nat) (M : BMap) (w : World) (h : MapAt w b M) : Ret Try.prog 36 [.pointer (some ⟨b, 0, none⟩)] w fun v w' => v = .bool (decide (M.ty = 3) || decide (M.ty = 4)) ∧ w' = w := by
  refine ret_of_W Try.func36 rfl ok_bmap_Map_lined ?_
  have hb := h.blk
  simp [c_bmap_Map_lined, wcell_of hb, BMap.cells]

theorem changes_ret (b : Nat) (M : BMap) (w : World) (h : MapAt w b M) : Ret Try.prog 18 [.pointer (some ⟨b, 0, none⟩)] w fun v w' => v = .int .i64 (if M.frozen then 1 else 0) ∧ w' = w := by
  refine ret_of_W Try.func18 rfl ok_bmap_Map_changes ?_
  have hb := h.blk
  simp [c_bmap_Map_changes, wcell_of hb, BMap.cells]
  refine W_no (by simp) ?_
  simp [wcell_of hb, BMap.cells]
  refine W_cond (t := M.frozen) (by simp) ?_ ?_
  · intro hf; simp [hf]
  · intro hf; simp [hf]

theorem frozen_ret (b : Nat) (M : BMap) (w : World) (h : MapAt w b M) : Ret Try.prog 49 [.pointer (some ⟨b, 0, none⟩)] w fun v w' => v = .bool M.frozen ∧ w' = w := by
  refine ret_of_W Try.func49 rfl ok_bmap_Map_Frozen ?_
  have hb := h.blk
  simp [c_bmap_Map_Frozen, wcell_of hb, BMap.cells]

theorem within_ret (x lo hi : Int) (w : World) : Ret Try.prog 35 [.int .i64 x, .int .i64 lo, .int .i64 hi] w fun v w' => v = .bool (decide (lo ≤ x) && decide (x ≤ hi)) ∧ w' = w := by
  refine ret_of_W Try.func35 rfl ok_bmap_within ?_
  simp [c_bmap_within]

/-- A slice of bytes that is a key. -/
def KeyAt (w : World) (v : Value) (k : ByteArray) : Prop := ∃ b off c, v = .slice (some ⟨b, off, none⟩) k.size c ∧ bstrv w v = some (.string k) ∧ ∀ j, j < k.size → ∃ x : Nat, x ≤ 255 ∧ k.data[j]? = some (UInt8.ofNat x) ∧ wcell w b (off + j) = some (.int .u8 x)

theorem right_ret (b : Nat) (M : BMap) (kv : Value) (k : ByteArray) (w : World) (h : MapAt w b M) (hk : KeyAt w kv k) (hp : M.ty ≠ 5) :
    Ret Try.prog 19 [.pointer (some ⟨b, 0, none⟩), kv] w fun v w' => v = .bool (!decide (M.ty = 3) && !decide (M.ty = 4) && decide ((k.size : Int) = M.ks)) ∧ w' = w := by
  refine ret_of_W Try.func19 rfl ok_bmap_Map_right ?_
  have hb := h.blk
  obtain ⟨kb, ko, kc, rfl, _, _⟩ := hk
  simp [c_bmap_Map_right]
  refine W_yes (by simp) ?_
  refine W_call0 (by simp) (lined_ret b M w h) ?_
  rintro v w1 ⟨rfl, rfl⟩
  simp
  refine W_cond (t := decide (M.ty = 3) || decide (M.ty = 4) || !decide ((k.size : Int) = M.ks)) (by simp [wcell_of hb, BMap.cells]) ?_ ?_
  · intro ht
    simp
    simp at ht
    rcases ht with (ht | ht) | ht <;> simp [ht]
  · intro ht
    simp at ht
    simp [wcell_of hb, BMap.cells, hp]
    refine W_no (by simp) ?_
    simp [ht]

theorem plain_ret (b : Nat) (M : BMap) (kv : Value) (k : ByteArray) (w : World) (h : MapAt w b M) (hk : KeyAt w kv k) (hp : M.ty ≠ 5) :
    Ret Try.prog 23 [.pointer (some ⟨b, 0, none⟩), kv] w fun v w' => v = .string k ∧ w' = w := by
  refine ret_of_W Try.func23 rfl ok_bmap_Map_plain ?_
  have hb := h.blk
  obtain ⟨kb, ko, kc, rfl, hs, _⟩ := hk
  simp [c_bmap_Map_plain]
  refine W_no (by simp [wcell_of hb, BMap.cells, hp]) ?_
  simp [hs]
end Go.Proofs.Ythfchnaocbkofaa
