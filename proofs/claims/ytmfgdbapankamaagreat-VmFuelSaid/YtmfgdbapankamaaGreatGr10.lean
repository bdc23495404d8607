/- Layer 9, part A: a map as it lies in the memory. -/
import Derived.Test.YtmfgdbapankamaaGreatGr8
import Derived.Test.YtmfgdbapankamaaGreatGr9
set_option linter.unusedSimpArgs false
set_option linter.unusedVariables false
set_option maxRecDepth 8000
namespace Go.Proofs.YtmfgdbapankamaaGreat
open Go.Eng
structure BEnt where
  eb : Nat
  cb : Nat
  vb : Nat
  key : ByteArray
  used : Int
  val : Nat → Int
structure BMap where
  ty : Int
  ks : Int
  vs : Nat
  cap : Int
  L : Value
  l : List BEnt
  frozen : Bool
  clock : Int
def BMap.cells (M : BMap) : Array Value := #[.int .i64 M.ty, .int .i64 M.ks, .int .i64 M.vs, .int .i64 M.cap, M.L, .bool M.frozen, .int .i64 M.clock]
def BEnt.cells (e : BEnt) : Array Value := #[.string e.key, .pointer (some ⟨e.cb, 0, none⟩), .int .i64 e.used]
structure EntAt (w : World) (V : Nat) (e : BEnt) : Prop where
  ent : w.heap[e.eb]? = some (.cells e.cells 84 (0, 0))
  cell : ∃ c, V ≤ c ∧ w.heap[e.cb]? = some (.cells #[.slice (some ⟨e.vb, 0, none⟩) V c] 82 (0, 0))
  val : ∃ cs, w.heap[e.vb]? = some (.cells cs 5 (0, 0)) ∧ V ≤ cs.size ∧ ∀ j, j < V → cs[j]? = some (.int .u8 (e.val j))
  byte : ∀ j, 0 ≤ e.val j ∧ e.val j ≤ 255
def RowAt (w : World) (L : Value) (l : List BEnt) : Prop := (L = .slice none 0 0 ∧ l = []) ∨
  ∃ g cap cur, L = .slice (some ⟨g, 0, none⟩) l.length cap ∧ w.heap[g]? = some (.cells cur 79 (0, 0)) ∧ l.length ≤ cap ∧ cap ≤ maxLen ∧ cur.size = cap ∧
    ∀ (i : Nat) (e : BEnt), l[i]? = some e → cur[i]? = some (Value.pointer (some ⟨e.eb, 0, none⟩))
def apart (a b : BEnt) : Prop := a.eb ≠ b.eb ∧ a.cb ≠ b.cb ∧ a.vb ≠ b.vb
structure MapAt (w : World) (b : Nat) (M : BMap) : Prop where
  blk : w.heap[b]? = some (.cells M.cells 78 (0, 0))
  row : RowAt w M.L M.l
  ents : ∀ e ∈ M.l, EntAt w M.vs e
  apart : M.l.Pairwise apart
  small : M.l.length ≤ 1000
  clock : 0 ≤ M.clock ∧ M.clock ≤ 1000000
def BMap.own (M : BMap) (b i : Nat) : Prop := i = b ∨ M.L.ownBlock = some i ∨ ∃ e ∈ M.l, i = e.eb ∨ i = e.cb ∨ i = e.vb
theorem heap_ne {w : World} {a b : Nat} {c c' : Array Value} {T T' : TypeId} {f f' : Nat × Nat} (h : w.heap[a]? = some (.cells c T f)) (h' : w.heap[b]? = some (.cells c' T' f')) (hT : T ≠ T') : a ≠ b := by
  rintro rfl
  rw [h] at h'
  simp at h'
  exact hT h'.2.1
theorem EntAt.keep {w w' : World} {V : Nat} {e : BEnt} {S : Nat → Prop} (h : EntAt w V e) (hk : Kept S w w') (h1 : ¬ S e.eb) (h2 : ¬ S e.cb) (h3 : ¬ S e.vb) : EntAt w' V e := by
  obtain ⟨a, ⟨c, hc, b⟩, ⟨cs, d, e1, e2⟩, f⟩ := h
  exact ⟨hk.has a h1, ⟨c, hc, hk.has b h2⟩, ⟨cs, hk.has d h3, e1, e2⟩, f⟩
theorem RowAt.keep {w w' : World} {L : Value} {l : List BEnt} {S : Nat → Prop} (h : RowAt w L l) (hk : Kept S w w') (h1 : ∀ i, L.ownBlock = some i → ¬ S i) : RowAt w' L l := by
  rcases h with h | ⟨g, cap, cur, rfl, h2, h3⟩
  · exact .inl h
  · exact .inr ⟨g, cap, cur, rfl, hk.has h2 (h1 g rfl), h3⟩
theorem MapAt.keep {w w' : World} {b : Nat} {M : BMap} {S : Nat → Prop} (h : MapAt w b M) (hk : Kept S w w') (hS : ∀ i, M.own b i → ¬ S i) : MapAt w' b M :=
  ⟨hk.has h.blk (hS b (.inl rfl)), h.row.keep hk (fun i hi => hS i (.inr (.inl hi))), fun e he => (h.ents e he).keep hk (hS _ (.inr (.inr ⟨e, he, .inl rfl⟩))) (hS _ (.inr (.inr ⟨e, he, .inr (.inl rfl)⟩))) (hS _ (.inr (.inr ⟨e, he, .inr (.inr rfl)⟩))), h.apart, h.small, h.clock⟩
theorem MapAt.calm {w w' : World} {b : Nat} {M : BMap} (h : MapAt w b M) (hk : Kept none' w w') : MapAt w' b M := h.keep hk (fun _ _ h => h)
theorem RowAt.len {w : World} {L : Value} {l : List BEnt} (h : RowAt w L l) : lenV false L = some (.int .i64 l.length) := by
  rcases h with ⟨rfl, rfl⟩ | ⟨g, cap, cur, rfl, _⟩ <;> rfl
theorem RowAt.var {w : World} {L : Value} {l : List BEnt} (h : RowAt w L l) : varV L = some L := by
  rcases h with ⟨rfl, rfl⟩ | ⟨g, cap, cur, rfl, _⟩ <;> rfl
theorem RowAt.one {w : World} {L : Value} {l : List BEnt} (h : RowAt w L l) : L.oneCell' = true := by
  rcases h with ⟨rfl, rfl⟩ | ⟨g, cap, cur, rfl, _⟩ <;> rfl
theorem RowAt.get {w : World} {L : Value} {l : List BEnt} (h : RowAt w L l) {i : Nat} {e : BEnt} (hi : l[i]? = some e) : ∃ g cap, L = .slice (some ⟨g, 0, none⟩) l.length cap ∧ wcell w g i = some (.pointer (some ⟨e.eb, 0, none⟩)) := by
  rcases h with ⟨rfl, rfl⟩ | ⟨g, cap, cur, rfl, h1, h2, h3, h4, h5⟩
  · cases hi
  · exact ⟨g, cap, rfl, by rw [wcell_of h1]; exact h5 i e hi⟩
theorem own_lt {w : World} {b : Nat} {M : BMap} (h : MapAt w b M) {i : Nat} (hi : M.own b i) : i < w.heap.size := by
  rcases hi with rfl | hi | ⟨e, he, rfl | rfl | rfl⟩
  · exact blk_lt h.blk
  · rcases h.row with ⟨h1, _⟩ | ⟨g, cap, cur, h1, h2, _⟩
    · rw [h1] at hi; simp [Value.ownBlock] at hi
    · rw [h1] at hi; simp [Value.ownBlock] at hi; subst hi; exact blk_lt h2
  · exact blk_lt (h.ents e he).ent
  · obtain ⟨c, _, h1⟩ := (h.ents e he).cell; exact blk_lt h1
  · obtain ⟨c, h1, _⟩ := (h.ents e he).val; exact blk_lt h1
theorem lined_ret (b : Nat) (M : BMap) (w : World) (h : MapAt w b M) : Ret Tryz.prog 31 [.pointer (some ⟨b, 0, none⟩)] w fun v w' => v = .bool (decide (M.ty = 3) || decide (M.ty = 4)) ∧ w' = w := by
  refine ret_of_W Tryz.func31 rfl ok_bmap_Map_lined ?_
  have hb := h.blk
  simp [c_bmap_Map_lined, wcell_of hb, BMap.cells]
theorem changes_ret (b : Nat) (M : BMap) (w : World) (h : MapAt w b M) : Ret Tryz.prog 20 [.pointer (some ⟨b, 0, none⟩)] w fun v w' => v = .int .i64 (if M.frozen then 1 else 0) ∧ w' = w := by
  refine ret_of_W Tryz.func20 rfl ok_bmap_Map_changes ?_
  have hb := h.blk
  simp [c_bmap_Map_changes, wcell_of hb, BMap.cells]
  refine W_no (by simp) ?_
  simp [wcell_of hb, BMap.cells]
  refine W_cond (t := M.frozen) (by simp) ?_ ?_
  · intro hf; simp [hf]
  · intro hf; simp [hf]
theorem frozen_ret (b : Nat) (M : BMap) (w : World) (h : MapAt w b M) : Ret Tryz.prog 91 [.pointer (some ⟨b, 0, none⟩)] w fun v w' => v = .bool M.frozen ∧ w' = w := by
  refine ret_of_W Tryz.func91 rfl ok_bmap_Map_Frozen ?_
  have hb := h.blk
  simp [c_bmap_Map_Frozen, wcell_of hb, BMap.cells]
theorem within_ret (x lo hi : Int) (w : World) : Ret Tryz.prog 43 [.int .i64 x, .int .i64 lo, .int .i64 hi] w fun v w' => v = .bool (decide (lo ≤ x) && decide (x ≤ hi)) ∧ w' = w := by
  refine ret_of_W Tryz.func43 rfl ok_bmap_within ?_
  simp [c_bmap_within]
def KeyAt (w : World) (v : Value) (k : ByteArray) : Prop := ∃ b off c, v = .slice (some ⟨b, off, none⟩) k.size c ∧ bstrv w v = some (.string k) ∧ ∀ j, j < k.size → ∃ x : Nat, x ≤ 255 ∧ k.data[j]? = some (UInt8.ofNat x) ∧ wcell w b (off + j) = some (.int .u8 x)
theorem right_ret (b : Nat) (M : BMap) (kv : Value) (k : ByteArray) (w : World) (h : MapAt w b M) (hk : KeyAt w kv k) (hp : M.ty ≠ 5) :
    Ret Tryz.prog 21 [.pointer (some ⟨b, 0, none⟩), kv] w fun v w' => v = .bool (!decide (M.ty = 3) && !decide (M.ty = 4) && decide ((k.size : Int) = M.ks)) ∧ w' = w := by
  refine ret_of_W Tryz.func21 rfl ok_bmap_Map_right ?_
  have hb := h.blk
  obtain ⟨kb, ko, kc, rfl, _, _⟩ := hk
  simp [c_bmap_Map_right]
  refine W_yes (by simp) ?_
  refine W_call0 (by simp) (lined_ret b M w h) ?_
  rintro v w1 ⟨rfl, rfl⟩
  simp
  refine W_cond (t := decide (M.ty = 3) || decide (M.ty = 4) || !decide ((k.size : Int) = M.ks)) (by simp [wcell_of hb, BMap.cells]) ?_ ?_
  · intro ht
    simp
    simp at ht
    rcases ht with (ht | ht) | ht <;> simp [ht]
  · intro ht
    simp at ht
    simp [wcell_of hb, BMap.cells, hp]
    refine W_no (by simp) ?_
    simp [ht]
theorem plain_ret (b : Nat) (M : BMap) (kv : Value) (k : ByteArray) (w : World) (h : MapAt w b M) (hk : KeyAt w kv k) (hp : M.ty ≠ 5) :
    Ret Tryz.prog 25 [.pointer (some ⟨b, 0, none⟩), kv] w fun v w' => v = .string k ∧ w' = w := by
  refine ret_of_W Tryz.func25 rfl ok_bmap_Map_plain ?_
  have hb := h.blk
  obtain ⟨kb, ko, kc, rfl, hs, _⟩ := hk
  simp [c_bmap_Map_plain]
  refine W_no (by simp [wcell_of hb, BMap.cells, hp]) ?_
  simp [hs]
end Go.Proofs.YtmfgdbapankamaaGreat
namespace Go.Proofs.YtmfgdbapankamaaGreat
open Go.Eng
theorem index_ret {f : FuncId} {cp : Array Value} {L : Value} {l : List BEnt} (p : BEnt → Bool) (w : World) (hr : RowAt w L l) (hl : l.length ≤ 1000) (hf : funOk Tryz.prog f = true)
    (hcl : ∀ w', Kept none' w w' → ∀ e ∈ l, Ret Tryz.prog f ([.pointer (some ⟨e.eb, 0, none⟩)] ++ cp.toList) w' fun v w'' => v = .bool (p e) ∧ Kept none' w' w'') :
    Ret Tryz.prog 45 [L, .func (.func f) #[] cp] w fun v w' => Kept none' w w' ∧
      ((∃ (i : Nat) (e : BEnt), l[i]? = some e ∧ p e = true ∧ (∀ (j : Nat) (e' : BEnt), j < i → l[j]? = some e' → p e' = false) ∧ v = .int .i64 i) ∨ ((∀ e ∈ l, p e = false) ∧ v = .int .i64 (-1))) := by
  refine ret_of_W Tryz.func45 rfl ok_slices_IndexFunc ?_
  have hlen := hr.len
  have hvar := hr.var
  simp [c_slices_IndexFunc, hlen, hvar]
  refine W_loop (fun env w' => Kept none' w w' ∧ ∃ i : Nat, env = [L, .func (.func f) #[] cp, undef, .int .i64 i, .int .i64 l.length, undef, undef] ∧ i ≤ l.length ∧ ∀ (j : Nat) (e' : BEnt), j < i → l[j]? = some e' → p e' = false)
    (fun env _ => l.length - natAt env 3) ?_ ?_
  · exact ⟨Kept.refl _ _, 0, by simp, by omega, fun j e' hj => by omega⟩
  · rintro env w1 ⟨hk, i, rfl, hi, hall⟩
    by_cases hi2 : i < l.length
    · simp
      refine W_yes (by simp; omega) ?_
      have he : l[i]? = some l[i] := List.getElem?_eq_getElem hi2
      obtain ⟨g, cap, rfl, hcell⟩ := (hr.keep hk (fun _ _ h => h)).get he
      have e2 : IntKind.i64.wrap ((i : Int) + 1) = ((i + 1 : Nat) : Int) := i64w (by omega) (by omega)
      simp
      refine W_dyn (g := f) (first := #[]) (cap := cp) (vs := [.pointer (some ⟨l[i].eb, 0, none⟩)]) (by simp) (by simp [hi2, hcell]) hf (hcl w1 hk l[i] (List.getElem_mem hi2)) ?_
      rintro v w2 ⟨rfl, hk2⟩
      refine ⟨stab_nil _ _ _, ?_⟩
      simp
      refine W_cond (t := p l[i]) (by simp) ?_ ?_
      · intro hp
        simp
        exact ⟨hk.trans hk2, i, l[i], he, hp, hall, rfl⟩
      · intro hp
        simp
        refine ⟨⟨hk.trans hk2, i + 1, by simp [e2], by omega, ?_⟩, by simp [natAt, e2]; omega⟩
        intro j e' hj hje
        by_cases h : j = i
        · subst h; rw [he] at hje; simp at hje; subst hje; exact hp
        · exact hall j e' (by omega) hje
    · simp
      refine W_no (by simp; omega) ?_
      simp
      refine ⟨hk, ?_⟩
      intro e he
      obtain ⟨j, hj, rfl⟩ := List.mem_iff_getElem.1 he
      exact hall j _ (by omega) (List.getElem?_eq_getElem hj)
theorem str_eq' (a b : ByteArray) : (a.data == b.data) = decide (a = b) := by
  by_cases h : a = b
  · subst h; simp
  · rw [decide_eq_false h, beq_eq_false_iff_ne]
    intro hc
    exact h (ByteArray.ext hc)
theorem exact1_ret (e : BEnt) (p : Nat) (k : ByteArray) (V : Nat) (w : World) (he : EntAt w V e) (hp : wcell w p 0 = some (.string k)) :
    Ret Tryz.prog 46 [.pointer (some ⟨e.eb, 0, none⟩), .pointer (some ⟨p, 0, none⟩)] w fun v w' => v = .bool (decide (e.key = k)) ∧ Kept none' w w' := by
  refine ret_of_W Tryz.func46 rfl ok_bmap_Map_exact_1 ?_
  have h := he.ent
  simp [c_bmap_Map_exact_1, wcell_of h, BEnt.cells, hp, strBin, str_eq']
  exact (Kept.refl _ _).drew
theorem store_box {w : World} {T : TypeId} (z v : Value) (h : v.cells = #[v]) (h1 : v.oneCell' = true) :
    stv (w.alloc (.cells #[z] T)) 1 (.pointer (some ⟨w.heap.size, 0, none⟩)) v = some (put (w.alloc (.cells #[z] T)) w.heap.size (.cells #[v] T (0, 0))) := by
  rw [stv_of (n := 1) (v := v) (hp_new w _) (by rw [h]; rfl) (by simp) (.inl (by simp)) (by rw [h]; simp [h1])]
  rw [h]
  rfl
theorem box_any (w : World) (cs r : Array Value) (T : TypeId) : (put (w.alloc (.cells cs T)) w.heap.size (.cells r T (0, 0))).heap[w.heap.size]? = some (.cells r T (0, 0)) ∧
    Kept none' w (put (w.alloc (.cells cs T)) w.heap.size (.cells r T (0, 0))) ∧ (put (w.alloc (.cells cs T)) w.heap.size (.cells r T (0, 0))).heap.size = w.heap.size + 1 :=
  ⟨put_same (by simp), ((Kept.refl _ _).alloc _).put (fun h => absurd h (by omega)) _, by simp⟩
def ExactIs (M : BMap) (k : ByteArray) (v : Value) : Prop := (∃ (i : Nat) (e : BEnt), M.l[i]? = some e ∧ e.key = k ∧ v = .pointer (some ⟨e.eb, 0, none⟩)) ∨ ((∀ e ∈ M.l, e.key ≠ k) ∧ v = .pointer none)
theorem exact_ret' (b : Nat) (M : BMap) (kv : Value) (k : ByteArray) (w : World) (h : MapAt w b M) (hk : KeyAt w kv k) (hp : M.ty ≠ 5) :
    Ret Tryz.prog 22 [.pointer (some ⟨b, 0, none⟩), kv] w fun v w' => Kept none' w w' ∧ ExactIs M k v := by
  refine ret_of_W Tryz.func22 rfl ok_bmap_Map_exact ?_
  have hkvv : varV kv = some kv := by obtain ⟨kb, ko, kc, rfl, _⟩ := hk; rfl
  simp [c_bmap_Map_exact]
  refine W_call0 (by simp [hkvv]) (plain_ret b M kv k w h hk hp) ?_
  rintro v w1 ⟨rfl, rfl⟩
  simp
  refine W_store (by simp) (by simp) (store_box (.string ⟨#[]⟩) (.string k) rfl rfl) (stab_nil _ _ _) ?_
  simp
  obtain ⟨hb4, hk2, _⟩ := box_any w1 #[.string ⟨#[]⟩] #[.string k] 9
  generalize put (w1.alloc (.cells #[.string ⟨#[]⟩] 9)) w1.heap.size (.cells #[.string k] 9 (0, 0)) = w2 at hb4 hk2 ⊢
  have hm2 := h.calm hk2
  have hb := hm2.blk
  have hvar := hm2.row.var
  have hix := index_ret (f := 46) (cp := #[.pointer (some ⟨w1.heap.size, 0, none⟩)]) (fun e => decide (e.key = k)) w2 hm2.row hm2.small (by kernel_rfl) (by
    intro w' hk' e he
    exact exact1_ret e w1.heap.size k M.vs w' ((hm2.calm hk').ents e he) (by rw [wcell_of (hk'.has hb4 (fun h => h))]; rfl))
  refine W_call0 (by simp [wcell_of hb, BMap.cells, hvar]) hix ?_
  rintro v w3 ⟨hk3, hv⟩
  have hm3 := hm2.calm hk3
  have hb3 := hm3.blk
  have hvar3 := hm3.row.var
  simp
  rcases hv with ⟨i, e, hi, hpe, _, rfl⟩ | ⟨hno, rfl⟩
  · refine W_no (by simp) ?_
    have hil : i < M.l.length := (List.getElem?_eq_some_iff.1 hi).1
    obtain ⟨g, cap, hL, hcell⟩ := hm3.row.get hi
    simp [wcell_of hb3, BMap.cells, hL, hil, hcell]
    exact ⟨hk2.trans hk3, .inl ⟨i, e, hi, by simpa using hpe, rfl⟩⟩
  · refine W_yes (by simp) ?_
    simp
    exact ⟨hk2.trans hk3, .inr ⟨fun e he => by simpa using hno e he, rfl⟩⟩
end Go.Proofs.YtmfgdbapankamaaGreat
namespace Go.Proofs.YtmfgdbapankamaaGreat
open Go.Eng
theorem apart_symm {a c : BEnt} (h : apart a c) : apart c a := ⟨fun e => h.1 e.symm, fun e => h.2.1 e.symm, fun e => h.2.2 e.symm⟩
theorem apart_of {l : List BEnt} (h : l.Pairwise apart) {i j : Nat} {a c : BEnt} (hi : l[i]? = some a) (hj : l[j]? = some c) (hij : i ≠ j) : apart a c := by
  obtain ⟨h1, rfl⟩ := List.getElem?_eq_some_iff.1 hi
  obtain ⟨h2, rfl⟩ := List.getElem?_eq_some_iff.1 hj
  rw [List.pairwise_iff_getElem] at h
  rcases Nat.lt_or_gt_of_ne hij with hlt | hlt
  · exact h i j h1 h2 hlt
  · exact apart_symm (h j i h2 h1 hlt)
theorem apart_set {l : List BEnt} (h : l.Pairwise apart) {i : Nat} {e e' : BEnt} (hi : l[i]? = some e) (h1 : e'.eb = e.eb) (h2 : e'.cb = e.cb) (h3 : e'.vb = e.vb) : (l.set i e').Pairwise apart := by
  obtain ⟨hl, rfl⟩ := List.getElem?_eq_some_iff.1 hi
  rw [List.pairwise_iff_getElem] at h ⊢
  intro a c ha hc hac
  simp only [List.length_set] at ha hc
  have hx := h a c ha hc hac
  rw [List.getElem_set, List.getElem_set]
  unfold apart at hx ⊢
  by_cases e1 : i = a
  · subst e1
    rw [if_pos rfl, if_neg (by omega), h1, h2, h3]; exact hx
  · rw [if_neg e1]
    by_cases e2 : i = c
    · subst e2
      rw [if_pos rfl, h1, h2, h3]; exact hx
    · rw [if_neg e2]; exact hx
theorem MapAt.mem {w : World} {b : Nat} {M : BMap} (h : MapAt w b M) {i : Nat} {e : BEnt} (hi : M.l[i]? = some e) : EntAt w M.vs e := h.ents e (List.mem_of_getElem? hi)
theorem MapAt.set {w w' : World} {b : Nat} {M : BMap} (h : MapAt w b M) {i : Nat} {e e' : BEnt} {x : Int} (hi : M.l[i]? = some e) (he : EntAt w' M.vs e') (h1 : e'.eb = e.eb) (h2 : e'.cb = e.cb) (h3 : e'.vb = e.vb)
    (hb : w'.heap[b]? = some (.cells { M with clock := x }.cells 78 (0, 0))) (hx : 0 ≤ x ∧ x ≤ 1000000) (hk : Kept (fun j => j = b ∨ j = e.eb ∨ j = e.cb ∨ j = e.vb) w w') :
    MapAt w' b { M with clock := x, l := M.l.set i e' } := by
  have hE := h.mem hi
  obtain ⟨c0, hc0, hcell⟩ := hE.cell
  obtain ⟨cs0, hval, _⟩ := hE.val
  have hil : i < M.l.length := (List.getElem?_eq_some_iff.1 hi).1
  refine ⟨hb, ?_, ?_, apart_set h.apart hi h1 h2 h3, by simpa using h.small, hx⟩
  · rcases h.row with ⟨_, h0⟩ | ⟨g, cap, cur, hL, hg, h4, h5, h6, h7⟩
    · rw [h0] at hil; simp at hil
    · refine .inr ⟨g, cap, cur, by simpa using hL, hk.has hg ?_, by simpa using h4, h5, h6, ?_⟩
      · rintro (rfl | rfl | rfl | rfl)
        · exact heap_ne hg h.blk (by decide) rfl
        · exact heap_ne hg hE.ent (by decide) rfl
        · exact heap_ne hg hcell (by decide) rfl
        · exact heap_ne hg hval (by decide) rfl
      · intro j a hj
        simp only [List.getElem?_set] at hj
        split at hj
        · rename_i hij
          simp at hj
          subst hj
          rw [h1, ← hij]
          exact h7 i e hi
        · exact h7 j a hj
  · intro a ha
    obtain ⟨j, hj⟩ := List.mem_iff_getElem?.1 ha
    simp only [List.getElem?_set] at hj
    split at hj
    · simp at hj
      subst hj
      exact he
    · rename_i hij
      have hA := h.mem hj
      obtain ⟨c1, hc1, hcell1⟩ := hA.cell
      obtain ⟨cs1, hval1, _⟩ := hA.val
      obtain ⟨n1, n2, n3⟩ := apart_of h.apart hj hi (fun e => hij e.symm)
      refine hA.keep hk ?_ ?_ ?_
      · rintro (e1 | e1 | e1 | e1)
        · exact heap_ne hA.ent h.blk (by decide) e1
        · exact n1 e1
        · exact heap_ne hA.ent hcell (by decide) e1
        · exact heap_ne hA.ent hval (by decide) e1
      · rintro (e1 | e1 | e1 | e1)
        · exact heap_ne hcell1 h.blk (by decide) e1
        · exact heap_ne hcell1 hE.ent (by decide) e1
        · exact n2 e1
        · exact heap_ne hcell1 hval (by decide) e1
      · rintro (e1 | e1 | e1 | e1)
        · exact heap_ne hval1 h.blk (by decide) e1
        · exact heap_ne hval1 hE.ent (by decide) e1
        · exact heap_ne hval1 hcell (by decide) e1
        · exact n3 e1
theorem own_set {M : BMap} {b i j : Nat} {e e' : BEnt} {x : Int} (hi : M.l[i]? = some e) (h1 : e'.eb = e.eb) (h2 : e'.cb = e.cb) (h3 : e'.vb = e.vb) (ho : { M with clock := x, l := M.l.set i e' }.own b j) : M.own b j := by
  rcases ho with ho | ho | ⟨a, ha, ho⟩
  · exact .inl ho
  · exact .inr (.inl ho)
  · right; right
    rcases List.mem_or_eq_of_mem_set ha with ha | rfl
    · exact ⟨a, ha, ho⟩
    · rw [h1, h2, h3] at ho
      exact ⟨e, List.mem_of_getElem? hi, ho⟩
def usedM (M : BMap) (i : Nat) (e : BEnt) : BMap := { M with clock := M.clock + 1, l := M.l.set i { e with used := M.clock + 1 } }
theorem use_ret (b : Nat) (M : BMap) (i : Nat) (e : BEnt) (w : World) (h : MapAt w b M) (hi : M.l[i]? = some e) (hc : M.clock + 1 ≤ 1000000) :
    Ret Tryz.prog 26 [.pointer (some ⟨b, 0, none⟩), .pointer (some ⟨e.eb, 0, none⟩)] w fun v w' => v = .tuple #[] ∧ Kept (fun j => j = b ∨ j = e.eb) w w' ∧ MapAt w' b (usedM M i e) := by
  refine ret_of_W Tryz.func26 rfl ok_bmap_Map_use ?_
  have hb := h.blk
  have hE := h.mem hi
  have hck := h.clock
  have e2 : IntKind.i64.wrap (M.clock + 1) = M.clock + 1 := i64w (by omega) (by omega)
  have hne : e.eb ≠ b := heap_ne hE.ent hb (by decide)
  obtain ⟨c0, hc0, hcell⟩ := hE.cell
  obtain ⟨cs0, hval, hv1, hv2⟩ := hE.val
  simp [c_bmap_Map_use]
  have hrow1 := h.row.one
  have hst : stv w 1 (.pointer (some ⟨b, 6, none⟩)) (.int .i64 (M.clock + 1)) = some (put w b (.cells { M with clock := M.clock + 1 }.cells 78 (0, 0))) := by
    rw [stv_of (n := 1) (v := .int .i64 (M.clock + 1)) hb rfl (by simp [BMap.cells]) (.inl (by simp)) (by simp [Value.oneCell'])]
    rfl
  refine W_store (by simp) (by simp [wcell_of hb, BMap.cells, e2]) hst (stab_nil _ _ _) ?_
  have hb2 : (put w b (.cells { M with clock := M.clock + 1 }.cells 78 (0, 0))).heap[b]? = some (.cells { M with clock := M.clock + 1 }.cells 78 (0, 0)) := put_same (blk_lt hb)
  have hk1 : Kept (fun j => j = b ∨ j = e.eb) w (put w b (.cells { M with clock := M.clock + 1 }.cells 78 (0, 0))) := (Kept.refl _ _).put (fun _ => .inl rfl) _
  have hent := (show (put w b (.cells { M with clock := M.clock + 1 }.cells 78 (0, 0))).heap[e.eb]? = _ from (put_other hne).trans hE.ent)
  generalize put w b (.cells { M with clock := M.clock + 1 }.cells 78 (0, 0)) = w1 at hb2 hk1 hent ⊢
  have hst2 : stv w1 1 (.pointer (some ⟨e.eb, 2, none⟩)) (.int .i64 (M.clock + 1)) = some (put w1 e.eb (.cells { e with used := M.clock + 1 }.cells 84 (0, 0))) := by
    rw [stv_of (n := 1) (v := .int .i64 (M.clock + 1)) hent rfl (by simp [BEnt.cells]) (.inl (by simp)) (by simp [Value.oneCell'])]
    rfl
  refine W_store (by simp) (by simp [wcell_of hb2, BMap.cells]) hst2 (stab_nil _ _ _) ?_
  have hk2 := hk1.put (b := e.eb) (fun _ => .inr rfl) (.cells { e with used := M.clock + 1 }.cells 84 (0, 0))
  have hb3 := (show (put w1 e.eb (.cells { e with used := M.clock + 1 }.cells 84 (0, 0))).heap[b]? = _ from (put_other (fun e => hne e.symm)).trans hb2)
  have hent3 : (put w1 e.eb (.cells { e with used := M.clock + 1 }.cells 84 (0, 0))).heap[e.eb]? = some (.cells { e with used := M.clock + 1 }.cells 84 (0, 0)) := put_same (blk_lt hent)
  generalize put w1 e.eb (.cells { e with used := M.clock + 1 }.cells 84 (0, 0)) = w3 at hk2 hb3 hent3 ⊢
  simp
  refine ⟨hk2, h.set hi ⟨hent3, ⟨c0, hc0, hk2.has hcell ?_⟩, ⟨cs0, hk2.has hval ?_, hv1, hv2⟩, hE.byte⟩ rfl rfl rfl hb3 ⟨by omega, hc⟩ (hk2.mono fun j _ hj => ?_)⟩
  · rintro (e1 | e1)
    · exact heap_ne hcell hb (by decide) e1
    · exact heap_ne hcell hE.ent (by decide) e1
  · rintro (e1 | e1)
    · exact heap_ne hval hb (by decide) e1
    · exact heap_ne hval hE.ent (by decide) e1
  · rcases hj with hj | hj
    · exact .inl hj
    · exact .inr (.inl hj)
end Go.Proofs.YtmfgdbapankamaaGreat
namespace Go.Proofs.YtmfgdbapankamaaGreat
open Go.Eng
theorem clone_ret (b off n c : Nat) (x : Nat → Value) (w : World) (hx : ∀ j, j < n → wcell w b (off + j) = some (x j)) (hn : n ≤ 1000000) (hb : b < w.heap.size) :
    Ret Tryz.prog 32 [.slice (some ⟨b, off, none⟩) n c] w fun v w' => Kept none' w w' ∧ ∃ nb c', v = .slice (some ⟨nb, 0, none⟩) n c' ∧ n ≤ c' ∧ w.heap.size ≤ nb ∧ ∀ j, j < n → wcell w' nb j = some (x j) := by
  refine ret_of_W Tryz.func32 rfl ok_bytes_Clone ?_
  simp [c_bytes_Clone]
  refine W_no (by simp) ?_
  simp
  have hk0 : Kept none' w (w.alloc (.cells #[] 5)) := (Kept.refl _ _).alloc _
  have hx' : ∀ j, j < n → wcell (w.alloc (.cells #[] 5)) b (off + j) = some (x j) := fun j hj => wcell_kept hk0 (fun h => h) (hx j hj)
  obtain ⟨nb, c', w5, hrun, hk5, hc', hnb, hcells⟩ := append_copy (P := Tryz.prog) (t := 51) (ty := 51) (e := 5) (nb := w.heap.size) (c := c) Tryz.underlying51 (by kernel_rfl) hx' hn
  refine W_bi (by simp) hrun (stab_nil _ _ _) ?_
  simp
  simp at hnb
  exact ⟨hk0.trans hk5, nb, c', ⟨rfl, rfl⟩, hc', by omega, hcells⟩
def FindIs (w w' : World) (b : Nat) (M : BMap) (k : ByteArray) (v : Value) : Prop :=
  (∃ (i : Nat) (e : BEnt), M.l[i]? = some e ∧ e.key = k ∧ v = .tuple #[.pointer (some ⟨e.eb, 0, none⟩), .int .i64 0] ∧ Kept (fun j => j = b ∨ j = e.eb) w w' ∧ MapAt w' b (usedM M i e)) ∨
  ((∀ e ∈ M.l, e.key ≠ k) ∧ v = .tuple #[.pointer none, .int .i64 2] ∧ Kept none' w w')
theorem find_ret (b : Nat) (M : BMap) (kv : Value) (k : ByteArray) (w : World) (h : MapAt w b M) (hk : KeyAt w kv k) (hp : M.ty ≠ 5) (h3 : M.ty ≠ 3) (h4 : M.ty ≠ 4) (hs : (k.size : Int) = M.ks) (hc : M.clock + 1 ≤ 1000000) :
    Ret Tryz.prog 100 [.pointer (some ⟨b, 0, none⟩), kv] w fun v w' => FindIs w w' b M k v := by
  refine ret_of_W Tryz.func100 rfl ok_bmap_Map_find ?_
  have hkvv : varV kv = some kv := by obtain ⟨kb, ko, kc, rfl, _⟩ := hk; rfl
  simp [c_bmap_Map_find]
  refine W_call0 (by simp [hkvv]) (right_ret b M kv k w h hk hp) ?_
  rintro v w1 ⟨rfl, rfl⟩
  refine W_no (by simp [h3, h4, hs]) ?_
  simp
  refine W_call0 (by simp [hkvv]) (exact_ret' b M kv k w1 h hk hp) ?_
  rintro v w2 ⟨hk2, hv⟩
  have hm2 := h.calm hk2
  have hb2 := hm2.blk
  rcases hv with ⟨i, e, hi, hke, rfl⟩ | ⟨hno, rfl⟩
  · simp
    refine W_no (by simp [wcell_of hb2, BMap.cells, hp]) ?_
    simp
    refine W_no (by simp) ?_
    simp
    refine W_call0 (by simp) (use_ret b M i e w2 hm2 hi hc) ?_
    rintro v w3 ⟨rfl, hk3, hm3⟩
    simp
    exact .inl ⟨i, e, hi, hke, rfl, (hk2.mono fun _ _ h => h.elim).trans (hk3.mono fun _ _ h => h), hm3⟩
  · simp
    refine W_no (by simp [wcell_of hb2, BMap.cells, hp]) ?_
    simp
    refine W_yes (by simp) ?_
    simp
    exact .inr ⟨hno, rfl, hk2⟩
end Go.Proofs.YtmfgdbapankamaaGreat
namespace Go.Proofs.YtmfgdbapankamaaGreat
open Go.Eng
theorem isnan_ret (a : Int) (w : World) : Ret Tryz.prog 66 [.int .i64 a] w fun v w' => v = .bool false ∧ w' = w := by
  refine ret_of_W Tryz.func66 rfl ok_cmp_isNaN ?_
  simp [c_cmp_isNaN]
theorem compare_ret (a c : Int) (w : World) : Ret Tryz.prog 49 [.int .i64 a, .int .i64 c] w fun v w' => v = .int .i64 (if a < c then -1 else if c < a then 1 else 0) ∧ w' = w := by
  refine ret_of_W Tryz.func49 rfl ok_cmp_Compare ?_
  simp [c_cmp_Compare]
  refine W_call0 (by simp) (isnan_ret a w) ?_
  rintro v w1 ⟨rfl, rfl⟩
  simp
  refine W_call0 (by simp) (isnan_ret c w1) ?_
  rintro v w1 ⟨rfl, rfl⟩
  simp
  refine W_no (by simp) ?_
  simp
  refine W_no (by simp) ?_
  simp
  refine W_cond (t := decide (a < c)) (by simp) ?_ ?_
  · intro h
    have h' : a < c := by simpa using h
    simp [h']
  · intro h
    have h' : ¬ a < c := by simpa using h
    simp
    refine W_cond (t := decide (c < a)) (by simp) ?_ ?_
    · intro g
      have g' : c < a := by simpa using g
      simp [h', g']
    · intro g
      have g' : ¬ c < a := by simpa using g
      simp [h', g']
theorem room1_ret (e e' : BEnt) (V : Nat) (w : World) (he : EntAt w V e) (he' : EntAt w V e') : Ret Tryz.prog 48 [.pointer (some ⟨e.eb, 0, none⟩), .pointer (some ⟨e'.eb, 0, none⟩)] w
    fun v w' => v = .int .i64 (if e.used < e'.used then -1 else if e'.used < e.used then 1 else 0) ∧ Kept none' w w' := by
  refine ret_of_W Tryz.func48 rfl ok_bmap_Map_room_1 ?_
  have h1 : w.drew.heap[e.eb]? = _ := he.ent
  have h2 : w.drew.heap[e'.eb]? = _ := he'.ent
  have hk : Kept none' w w.drew := (Kept.refl _ _).drew
  simp [c_bmap_Map_room_1]
  generalize w.drew = w1 at *
  refine W_call0 (by simp [wcell_of h1, wcell_of h2, BEnt.cells]) (compare_ret e.used e'.used w1) ?_
  rintro v w2 ⟨rfl, rfl⟩
  simp
  exact hk
theorem min_ret (b : Nat) (M : BMap) (w : World) (h : MapAt w b M) (h0 : 0 < M.l.length) :
    Ret Tryz.prog 47 [M.L, .func (.func 48) #[] #[]] w fun v w' => Kept none' w w' ∧
      ∃ (i : Nat) (e : BEnt), M.l[i]? = some e ∧ (∀ e' ∈ M.l, e.used ≤ e'.used) ∧ v = .pointer (some ⟨e.eb, 0, none⟩) := by
  refine ret_of_W Tryz.func47 rfl ok_slices_MinFunc ?_
  have hlen := h.row.len
  have hvar := h.row.var
  have hsm := h.small
  have he0 : M.l[0]? = some M.l[0] := List.getElem?_eq_getElem h0
  obtain ⟨g, cap, hL, hcell⟩ := h.row.get he0
  rw [hL]
  simp [c_slices_MinFunc]
  refine W_no (by simp; omega) ?_
  have h0' : (0 : Int) < M.l.length := by omega
  simp [h0, hcell]
  refine W_loop (fun env w' => Kept none' w w' ∧ ∃ (i m : Nat) (e : BEnt), env = [.slice (some ⟨g, 0, none⟩) M.l.length cap, .func (.func 48) #[] #[], undef, .pointer (some ⟨e.eb, 0, none⟩), .int .i64 i, undef] ∧ 1 ≤ i ∧ i ≤ M.l.length ∧
    M.l[m]? = some e ∧ ∀ (j : Nat) (e' : BEnt), j < i → M.l[j]? = some e' → e.used ≤ e'.used)
    (fun env _ => M.l.length - natAt env 4) ?_ ?_
  · refine ⟨Kept.refl _ _, 1, 0, M.l[0], by simp, by omega, by omega, he0, fun j e' hj hje => ?_⟩
    have : j = 0 := by omega
    subst this
    rw [he0] at hje
    simp at hje
    subst hje
    exact Int.le_refl _
  · rintro env w1 ⟨hk, i, m, e, rfl, hi1, hi, hm, hall⟩
    by_cases hi2 : i < M.l.length
    · simp
      refine W_yes (by simp; omega) ?_
      have hm1 := h.calm hk
      have he : M.l[i]? = some M.l[i] := List.getElem?_eq_getElem hi2
      obtain ⟨g', cap', hL', hcell'⟩ := hm1.row.get he
      rw [hL] at hL'
      simp at hL'
      obtain ⟨rfl, rfl⟩ := hL'
      have e2 : IntKind.i64.wrap ((i : Int) + 1) = ((i + 1 : Nat) : Int) := i64w (by omega) (by omega)
      simp
      refine W_dyn (g := 48) (first := #[]) (cap := #[]) (vs := [.pointer (some ⟨M.l[i].eb, 0, none⟩), .pointer (some ⟨e.eb, 0, none⟩)]) (by simp) (by simp [hi2, hcell']) (by kernel_rfl)
        (room1_ret M.l[i] e M.vs w1 (hm1.mem he) (hm1.mem hm)) ?_
      rintro v w2 ⟨rfl, hk2⟩
      refine ⟨stab_nil _ _ _, ?_⟩
      have hm2 := hm1.calm hk2
      obtain ⟨g', cap', hL', hcell2⟩ := hm2.row.get he
      rw [hL] at hL'
      simp at hL'
      obtain ⟨rfl, rfl⟩ := hL'
      simp
      refine W_cond (t := decide (M.l[i].used < e.used)) ?_ ?_ ?_
      · by_cases hlt : M.l[i].used < e.used
        · simp [hlt]
        · by_cases hgt : e.used < M.l[i].used <;> simp [hlt, hgt]
      · intro hlt
        have hlt' : M.l[i].used < e.used := by simpa using hlt
        simp [hi2, hcell2]
        refine ⟨⟨hk.trans hk2, i + 1, i, M.l[i], ⟨rfl, e2⟩, by omega, by omega, he, ?_⟩, by simp [natAt, e2]; omega⟩
        intro j e' hj hje
        by_cases hji : j = i
        · subst hji; rw [he] at hje; simp at hje; subst hje; exact Int.le_refl _
        · have := hall j e' (by omega) hje; omega
      · intro hlt
        have hlt' : ¬ M.l[i].used < e.used := by simpa using hlt
        simp
        refine ⟨⟨hk.trans hk2, i + 1, m, e, ⟨rfl, e2⟩, by omega, by omega, hm, ?_⟩, by simp [natAt, e2]; omega⟩
        intro j e' hj hje
        by_cases hji : j = i
        · subst hji; rw [he] at hje; simp at hje; subst hje; omega
        · exact hall j e' (by omega) hje
    · simp
      refine W_no (by simp; omega) ?_
      simp
      refine ⟨hk, ⟨m, e, hm, ?_, rfl⟩⟩
      intro e' he'
      obtain ⟨j, hj, rfl⟩ := List.mem_iff_getElem.1 he'
      exact hall j _ (by omega) (List.getElem?_eq_getElem hj)
end Go.Proofs.YtmfgdbapankamaaGreat
namespace Go.Proofs.YtmfgdbapankamaaGreat
open Go.Eng
theorem run_clear1 {w : World} {g o c : Nat} {cur : Array Value} (hb : w.heap[g]? = some (.cells cur 79 (0, 0))) (ho : o + 1 ≤ cur.size) :
    (builtin .clear #[76] 0 #[] #[.slice (some ⟨g, o, none⟩) 1 c]).run Tryz.prog w = .ok (.value (.tuple #[])) (put w g (.cells (cur.setIfInBounds o (.pointer none)) 79 (0, 0))) := by
  have hst := run_storeCells (P := Tryz.prog) (T := 79) (fz := (0, 0)) (b := g) o [.pointer none] 0 cur w hb (by simpa using ho) (.inl (by simp)) (by simp [Value.oneCell'])
  have hz : (Builtin.zeroCells #[Value.pointer none] 1).toList = [.pointer none] := by simp [Builtin.zeroCells]
  simp only [builtin, Builtin.clear_]
  simp [run_underlying Tryz.underlying76]
  rw [hz, hst]
  rfl
theorem peqV_plain {w : World} {x y : Nat} (hx : plainB w x = true) (hy : plainB w y = true) : peqV w (some ⟨x, 0, none⟩) (some ⟨y, 0, none⟩) = some (decide (x = y)) := by
  unfold peqV
  simp only [hx, hy, Bool.and_self, if_true]
  by_cases h : x = y
  · subst h; simp
  · simp [h]
theorem plainB_of {w : World} {x : Nat} {c : Array Value} {T : TypeId} (h : w.heap[x]? = some (.cells c T (0, 0))) : plainB w x = true := by unfold plainB; rw [h]; rfl
theorem same_room_ret (w : World) (x : Nat) (p y : Nat) (hp : wcell w p 0 = some (.pointer (some ⟨y, 0, none⟩))) (hx : plainB w x = true) (hy : plainB w y = true) :
    Ret Tryz.prog 51 [.pointer (some ⟨x, 0, none⟩), .pointer (some ⟨p, 0, none⟩)] w fun v w' => v = .bool (decide (x = y)) ∧ w' = w := by
  refine ret_of_W Tryz.func51 rfl ok_bmap_Map_room_2 ?_
  simp [c_bmap_Map_room_2, hp, peqV_plain hx hy]
theorem same_delete_ret (w : World) (x : Nat) (p y : Nat) (hp : wcell w p 0 = some (.pointer (some ⟨y, 0, none⟩))) (hx : plainB w x = true) (hy : plainB w y = true) :
    Ret Tryz.prog 101 [.pointer (some ⟨x, 0, none⟩), .pointer (some ⟨p, 0, none⟩)] w fun v w' => v = .bool (decide (x = y)) ∧ w' = w := by
  refine ret_of_W Tryz.func101 rfl ok_bmap_Map_Delete_1 ?_
  simp [c_bmap_Map_Delete_1, hp, peqV_plain hx hy]
theorem get_erase {l : List BEnt} {k i : Nat} : (l.eraseIdx k)[i]? = if i < k then l[i]? else l[i + 1]? := List.getElem?_eraseIdx
set_option maxHeartbeats 1000000 in
theorem delete_ret {f : FuncId} {cp : Array Value} (b : Nat) (M : BMap) (k : Nat) (e : BEnt) (w : World) (h : MapAt w b M) (hk : M.l[k]? = some e) (hf : funOk Tryz.prog f = true)
    (hcl : ∀ w', Kept (fun j => M.L.ownBlock = some j) w w' → ∀ a ∈ M.l, Ret Tryz.prog f ([.pointer (some ⟨a.eb, 0, none⟩)] ++ cp.toList) w' fun v w'' => v = .bool (decide (a.eb = e.eb)) ∧ Kept none' w' w'') :
    Ret Tryz.prog 50 [M.L, .func (.func f) #[] cp] w fun v w' => Kept (fun j => M.L.ownBlock = some j) w w' ∧ RowAt w' v (M.l.eraseIdx k) ∧ v.ownBlock = M.L.ownBlock := by
  refine ret_of_W Tryz.func50 rfl ok_slices_DeleteFunc ?_
  have hsm := h.small
  have hkl : k < M.l.length := (List.getElem?_eq_some_iff.1 hk).1
  obtain ⟨g, cap, cur, hL, hg, h1, h2, h3, h4⟩ : ∃ g cap cur, M.L = .slice (some ⟨g, 0, none⟩) M.l.length cap ∧ w.heap[g]? = some (.cells cur 79 (0, 0)) ∧ M.l.length ≤ cap ∧ cap ≤ maxLen ∧ cur.size = cap ∧
      ∀ (i : Nat) (e : BEnt), M.l[i]? = some e → cur[i]? = some (Value.pointer (some ⟨e.eb, 0, none⟩)) := by
    rcases h.row with ⟨_, h0⟩ | h0
    · rw [h0] at hkl; simp at hkl
    · exact h0
  have hown : M.L.ownBlock = some g := by rw [hL]; rfl
  rw [hown] at hcl ⊢
  simp only [Option.some.injEq] at hcl ⊢
  have hrow := h.row
  rw [hL] at hrow ⊢
  simp [c_slices_DeleteFunc]
  refine W_call0 (by simp) (index_ret (cp := cp) (fun a => decide (a.eb = e.eb)) w hrow hsm hf (fun w' hk' a ha => hcl w' (hk'.mono fun _ _ h => h.elim) a ha)) ?_
  rintro v w1 ⟨hk1, hv⟩
  have hg1 := hk1.has hg (fun h => h)
  have hiv : v = .int .i64 k := by
    rcases hv with ⟨i, a, hi, hpa, hall, rfl⟩ | ⟨hno, rfl⟩
    · by_cases hik : i = k
      · rw [hik]
      · exact absurd (by simpa using hpa) (apart_of h.apart hi hk hik).1
    · have := hno e (List.mem_of_getElem? hk)
      simp at this
  subst hiv
  clear hv
  simp
  refine W_no (by simp) ?_
  have e1 : IntKind.i64.wrap ((k : Int) + 1) = ((k + 1 : Nat) : Int) := i64w (by omega) (by omega)
  simp
  refine W_loop (fun env w' => Kept (fun j => g = j) w w' ∧ ∃ (j : Nat) (cu : Array Value), env = [.slice (some ⟨g, 0, none⟩) M.l.length cap, .func (.func f) #[] cp, undef, undef, .int .i64 ((j : Int) - 1), .int .i64 j, undef, undef] ∧ k + 1 ≤ j ∧ j ≤ M.l.length ∧
      w'.heap[g]? = some (.cells cu 79 (0, 0)) ∧ cu.size = cap ∧ (∀ (i : Nat) (a : BEnt), i < k → M.l[i]? = some a → cu[i]? = some (Value.pointer (some ⟨a.eb, 0, none⟩))) ∧
      (∀ (i : Nat) (a : BEnt), k ≤ i → i + 1 < j → M.l[i + 1]? = some a → cu[i]? = some (Value.pointer (some ⟨a.eb, 0, none⟩))) ∧
      (∀ (i : Nat) (a : BEnt), j ≤ i → M.l[i]? = some a → cu[i]? = some (Value.pointer (some ⟨a.eb, 0, none⟩)))) (fun env _ => M.l.length - natAt env 5) ?_ ?_
  · refine ⟨hk1.mono fun _ _ h => h.elim, k + 1, cur, by simp [e1], by omega, by omega, hg1, h3, fun i a _ hi => h4 i a hi, fun i a hi hi2 => by omega, fun i a _ hi => h4 i a hi⟩
  · rintro env w2 ⟨hk2, j, cu, rfl, hj1, hj2, hg2, hcu, hA, hB, hC⟩
    by_cases hj3 : j < M.l.length
    · simp
      refine W_yes (by simp; omega) ?_
      have hje : M.l[j]? = some M.l[j] := List.getElem?_eq_getElem hj3
      have hcell : wcell w2 g j = some (.pointer (some ⟨M.l[j].eb, 0, none⟩)) := by rw [wcell_of hg2]; exact hC j _ (Nat.le_refl _) hje
      simp [hj3, hcell]
      refine W_dyn (g := f) (first := #[]) (cap := cp) (vs := [.pointer (some ⟨M.l[j].eb, 0, none⟩)]) (by simp) (by simp) hf (hcl w2 hk2 M.l[j] (List.getElem_mem hj3)) ?_
      rintro v w3 ⟨rfl, hk3⟩
      refine ⟨stab_nil _ _ _, ?_⟩
      have hne : M.l[j].eb ≠ e.eb := (apart_of h.apart hje hk (by omega)).1
      have hg3 := hk3.has hg2 (fun h => h)
      have e2 : IntKind.i64.wrap (j : Int) = ((j + 1 : Nat) : Int) - 1 := by rw [i64w (by omega) (by omega)]; omega
      have e3 : IntKind.i64.wrap ((j : Int) + 1) = ((j + 1 : Nat) : Int) := i64w (by omega) (by omega)
      have b1 : 0 ≤ (j : Int) - 1 := by omega
      have b2 : (j : Int) - 1 < M.l.length := by omega
      have b3 : ((j : Int) - 1).toNat = j - 1 := by omega
      have b4 : (1 : Int) ≤ j := by omega
      simp
      refine W_yes (by simp [hne]) ?_
      have hst : stv w3 1 (.pointer (some ⟨g, j - 1, none⟩)) (.pointer (some ⟨M.l[j].eb, 0, none⟩)) = some (put w3 g (.cells (cu.setIfInBounds (j - 1) (.pointer (some ⟨M.l[j].eb, 0, none⟩))) 79 (0, 0))) := by
        rw [stv_of (n := 1) (v := .pointer (some ⟨M.l[j].eb, 0, none⟩)) hg3 rfl (by omega) (.inl (by simp)) (by simp [Value.oneCell'])]
        simp
      simp
      refine W_store (by simp [b4, b2, b3]) (by simp) hst (stab_nil _ _ _) ?_
      simp
      refine ⟨⟨(hk2.trans (hk3.mono fun _ _ h => h.elim)).put (fun _ => rfl) _, j + 1, ⟨e2, e3⟩, by omega, by omega, _, put_same (blk_lt hg3), by simpa using hcu, ?_, ?_, ?_⟩, by simp [natAt, e3]; omega⟩
      · intro i a hi ha
        rw [Array.getElem?_setIfInBounds_ne (by omega)]; exact hA i a hi ha
      · intro i a hi hi2 ha
        by_cases hij : i = j - 1
        · subst hij
          rw [Array.getElem?_setIfInBounds_self_of_lt (by omega)]
          rw [show j - 1 + 1 = j by omega, hje] at ha
          simp at ha
          subst ha
          rfl
        · rw [Array.getElem?_setIfInBounds_ne (by omega)]; exact hB i a hi (by omega) ha
      · intro i a hi ha
        rw [Array.getElem?_setIfInBounds_ne (by omega)]; exact hC i a (by omega) ha
    · have : j = M.l.length := by omega
      subst this
      simp
      refine W_no (by simp) ?_
      have b1 : 0 ≤ (M.l.length : Int) - 1 := by omega
      have b2 : (M.l.length : Int) - 1 ≤ M.l.length := by omega
      have b3 : ((M.l.length : Int) - 1).toNat = M.l.length - 1 := by omega
      have b4 : (M.l.length : Int) ≤ cap := by omega
      have b5 : ¬ (cap = M.l.length - 1) := by omega
      have b6 : M.l.length - (M.l.length - 1) = 1 := by omega
      have b7 : (M.l.length : Int) - 1 ≤ cap := by omega
      have b8 : ¬ (cap = 0) := by omega
      have b9 : (1 : Int) ≤ M.l.length := by omega
      simp
      refine W_bi (by simp [b9, b2, b3, b4, b5, b6]) (run_clear1 (o := M.l.length - 1) (c := cap - (M.l.length - 1)) hg2 (by omega)) (stab_nil _ _ _) ?_
      simp [b9, b3, b7, b8]
      refine ⟨hk2.put (fun _ => rfl) _, ?_, rfl⟩
      refine .inr ⟨g, cap, _, ?_, put_same (blk_lt hg2), ?_, h2, by simpa using hcu, ?_⟩
      · simp [List.length_eraseIdx, hkl]
      · simp [List.length_eraseIdx, hkl]; omega
      · intro i a hi
        rw [get_erase] at hi
        have hlt : i < M.l.length - 1 := by
          split at hi
          · omega
          · have := (List.getElem?_eq_some_iff.1 hi).1; omega
        rw [Array.getElem?_setIfInBounds_ne (by omega)]
        split at hi
        · exact hA i a (by omega) hi
        · exact hB i a (by omega) (by omega) hi
end Go.Proofs.YtmfgdbapankamaaGreat
