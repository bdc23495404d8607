/- Layer 9, part B: entries are looked for. -/
import Derived.Test.YthfchnaocbkofaaBmA
set_option linter.unusedSimpArgs false
set_option linter.unusedVariables false
set_option maxRecDepth 8000
namespace Go.Proofs.Ythfchnaocbkofaa
open Go.Eng

theorem index_ret {f : FuncId} {cp : Array Value} {L : Value} {l : List BEnt} (p : BEnt → Bool) (w : World) (hr : RowAt w L l) (hl : l.length ≤ 1000) (hf : funOk Try.prog f = true)
    (hcl : ∀ w', Kept none' w w' → ∀ e ∈ l, Ret Try.prog f ([.pointer (some ⟨e.eb, 0, none⟩)] ++ cp.toList) w' fun v w'' => v = .bool (p e) ∧ Kept none' w' w'') :
    Ret Try.prog 38 [L, .func (.func f) #[] cp] w fun v w' => Kept none' w w' ∧
      ((∃ (i : Nat) (e : BEnt), l[i]? = some e ∧ p e = true ∧ (∀ (j : Nat) (e' : BEnt), j < i → l[j]? = some e' → p e' = false) ∧ v = .int .i64 i) ∨ ((∀ e ∈ l, p e = false) ∧ v = .int .i64 (-1))) := by
  refine ret_of_W Try.func38 rfl ok_slices_IndexFunc ?_
  have hlen := hr.len
  have hvar := hr.var
  simp [c_slices_IndexFunc, hlen, hvar]
  refine W_loop (fun env w' => Kept none' w w' ∧ ∃ i : Nat, env = [L, .func (.func f) #[] cp, undef, .int .i64 i, .int .i64 l.length, undef, undef] ∧ i ≤ l.length ∧ ∀ (j : Nat) (e' : BEnt), j < i → l[j]? = some e' → p e' = false)
    (fun env _ => l.length - natAt env 3) ?_ ?_
  · exact ⟨Kept.refl _ _, 0, by simp, by omega, fun j e' hj => by omega⟩
  · rintro env w1 ⟨hk, i, rfl, hi, hall⟩
    by_cases hi2 : i < l.length
    · simp
      refine W_yes (by simp; omega) ?_
      have he : l[i]? = some l[i] := List.getElem?_eq_getElem hi2
      obtain ⟨g, cap, rfl, hcell⟩ := (hr.keep hk (fun _ _ h => h)).get he
      have e2 : IntKind.i64.wrap ((i : Int) + 1) = ((i + 1 : Nat) : Int) := i64w (by omega) (by omega)
      simp
      refine W_dyn (g := f) (first := #[]) (cap := cp) (vs := [.pointer (some ⟨l[i].eb, 0, none⟩)]) (by simp) (by simp [hi2, hcell]) hf (hcl w1 hk l[i] (List.getElem_mem hi2)) ?_
      rintro v w2 ⟨rfl, hk2⟩
      refine ⟨stab_nil _ _ _, ?_⟩
      simp
      refine W_cond (t := p l[i]) (by simp) ?_ ?_
      · intro hp
        simp
        exact ⟨hk.trans hk2, i, l[i], he, hp, hall, rfl⟩
      · intro hp
        simp
        refine ⟨⟨hk.trans hk2, i + 1, by simp [e2], by omega, ?_⟩, by simp [natAt, e2]; omega⟩
        intro j e' hj hje
        by_cases h : j = i
        · subst h; rw [he] at hje; simp at hje; subst hje; exact hp
        · exact hall j e' (by omega) hje
    · simp
      refine W_no (by simp; omega) ?_
      simp
      refine ⟨hk, ?_⟩
      intro e he
      obtain ⟨j, hj, rfl⟩ := List.mem_iff_getElem.1 he
      exact hall j _ (by omega) (List.getElem?_eq_getElem hj)

theorem str_eq (a b : ByteArray) : (a.data.toList == b.data.toList) = decide (a = b) := by
  by_cases h : a = b
  · subst h; simp
  · rw [decide_eq_false h, beq_eq_false_iff_ne]
    intro hc
    exact h (ByteArray.ext (Array.toList_inj.1 hc))

theorem str_eq' (a b : ByteArray) : (a.data == b.data) = decide (a = b) := by
  by_cases h : a = b
  · subst h; simp
  · rw [decide_eq_false h, beq_eq_false_iff_ne]
    intro hc
    exact h (ByteArray.ext hc)

theorem exact1_ret (e : BEnt) (p : Nat) (k : ByteArray) (V : Nat) (w : World) (he : EntAt w V e) (hp : wcell w p 0 = some (.string k)) :
    Ret Try.prog 39 [.pointer (some ⟨e.eb, 0, none⟩), .pointer (some ⟨p, 0, none⟩)] w fun v w' => v = .bool (decide (e.key = k)) ∧ Kept none' w w' := by
  refine ret_of_W Try.func39 rfl ok_bmap_Map_exact_1 ?_
  have h := he.ent
  simp [c_bmap_Map_exact_1, wcell_of h, BEnt.cells, hp, strBin, str_eq']
  exact (Kept.refl _ _).drew

theorem store_box {w : World} {T : TypeId} (z v : Value) (h : v.cells = #[v]) (h1 : v.oneCell' = true) :
    stv (w.alloc (.cells #[z] T)) 1 (.pointer (some ⟨w.heap.size, 0, none⟩)) v = some (put (w.alloc (.cells #[z] T)) w.heap.size (.cells #[v] T (0, 0))) := by
  rw [stv_of (n := 1) (v := v) (hp_new w _) (by rw [h]; rfl) (by simp) (.inl (by simp)) (by rw [h]; simp [h1])]
  rw [h]
  rfl
theorem box_any (w : World) (cs r : Array Value) (T : TypeId) : (put (w.alloc (.cells cs T)) w.heap.size (.cells r T (0, 0))).heap[w.heap.size]? = some (.cells r T (0, 0)) ∧
    Kept none' w (put (w.alloc (.cells cs T)) w.heap.size (.cells r T (0, 0))) ∧ (put (w.alloc (.cells cs T)) w.heap.size (.cells r T (0, 0))).heap.size = w.heap.size + 1 :=
  ⟨put_same (by simp), ((Kept.refl _ _).alloc _).put (fun h => absurd h (by omega)) _, by simp⟩

/-- What is told of a key: its entry's place, or that there is none. -/
def ExactIs (M : BMap) (k : ByteArray) (v : Value) : Prop := (∃ (i : Nat) (e : BEnt), M.l[i]? = some e ∧ e.key = k ∧ v = .pointer (some ⟨e.eb, 0, none⟩)) ∨ ((∀ e ∈ M.l, e.key ≠ k) ∧ v = .pointer none)

theorem exact_ret' (b : Nat) (M : BMap) (kv : Value) (k : ByteArray) (w : World) (h : MapAt w b M) (hk : KeyAt w kv k) (hp : M.ty ≠ 5) :
    Ret Try.prog 20 [.pointer (some ⟨b, 0, none⟩), kv] w fun v w' => Kept none' w w' ∧ ExactIs M k v := by
  refine ret_of_W Try.func20 rfl ok_bmap_Map_exact ?_
  have hkvv : varV kv = some kv := by obtain ⟨kb, ko, kc, rfl, _⟩ := hk; rfl
  simp [c_bmap_Map_exact]
  refine W_call0 (by simp [hkvv]) (plain_ret b M kv k w h hk hp) ?_
  rintro v w1 ⟨rfl, rfl⟩
  simp
  refine W_store (by simp) (by simp) (store_box (.string ⟨#[]⟩) (.string k) rfl rfl) (stab_nil _ _ _) ?_
  simp
  obtain ⟨hb4, hk2, _⟩ := box_any w1 #[.string ⟨#[]⟩] #[.string k] 9
  generalize put (w1.alloc (.cells #[.string ⟨#[]⟩] 9)) w1.heap.size (.cells #[.string k] 9 (0, 0)) = w2 at hb4 hk2 ⊢
  have hm2 := h.calm hk2
  have hb := hm2.blk
  have hvar := hm2.row.var
  have hix := index_ret (f := 39) (cp := #[.pointer (some ⟨w1.heap.size, 0, none⟩)]) (fun e => decide (e.key = k)) w2 hm2.row hm2.small (by kernel_rfl) (by
    intro w' hk' e he
    exact exact1_ret e w1.heap.size k M.vs w' ((hm2.calm hk').ents e he) (by rw [wcell_of (hk'.has hb4 (fun h => h))]; rfl))
  refine W_call0 (by simp [wcell_of hb, BMap.cells, hvar]) hix ?_
  rintro v w3 ⟨hk3, hv⟩
  have hm3 := hm2.calm hk3
  have hb3 := hm3.blk
  have hvar3 := hm3.row.var
  simp
  rcases hv with ⟨i, e, hi, hpe, _, rfl⟩ | ⟨hno, rfl⟩
  · refine W_no (by simp) ?_
    have hil : i < M.l.length := (List.getElem?_eq_some_iff.1 hi).1
    obtain ⟨g, cap, hL, hcell⟩ := hm3.row.get hi
    simp [wcell_of hb3, BMap.cells, hL, hil, hcell]
    exact ⟨hk2.trans hk3, .inl ⟨i, e, hi, by simpa using hpe, rfl⟩⟩
  · refine W_yes (by simp) ?_
    simp
    exact ⟨hk2.trans hk3, .inr ⟨fun e he => by simpa using hno e he, rfl⟩⟩
end Go.Proofs.Ythfchnaocbkofaa
