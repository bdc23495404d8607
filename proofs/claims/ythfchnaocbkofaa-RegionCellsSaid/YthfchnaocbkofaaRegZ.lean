/- Layer 19: a memory with maps; sizes; a map of one entry beside a memory. -/
import Derived.Test.YthfchnaocbkofaaRegY
import Derived.Test.YthfchnaocbkofaaBmO
import Derived.Test.YthfchnaocbkofaaCmdsCells
import Derived.Test.YthfchnaocbkofaaBase
set_option linter.unusedSimpArgs false
set_option linter.unusedVariables false
set_option maxRecDepth 8000
namespace Go.Proofs.Ythfchnaocbkofaa
open Go.Eng

/- tipstaff/tipstafflaw19.size -/
def c_tipstafflaw19_size : Cmd :=
  (.seq
   (.set 1 (.const (.int .i64 0)))
  (.seq
   (.seq
    (.row (some 2) 3 6 (.upd 5 1 (.upd 4 1 (.upd 3 1 (.upd 2 1 (.upd 1 1 (.upd 0 1 (.const (.agg (Array.replicate 6 (.int .i64 0)))) (.const (.int .i64 1))) (.const (.int .i64 2))) (.const (.int .i64 4))) (.const (.int .i64 8))) (.const (.int .i64 8))) (.const (.int .i64 8))) [])
   (.set 1 (.ld none (.ixSl 1 (.var 2) (.conv .i64 (.bin .rem (.conv .u64 (.var 0)) (.const (.int .u64 6))))))))
  .ret))
abbrev v_tipstafflaw19_size : List Nat := [0, 2, 3]
abbrev k_tipstafflaw19_size : List (List Nat) := []
abbrev r_tipstafflaw19_size : List Ex := [(.var 1)]
theorem ok_tipstafflaw19_size : compile Try.prog Try.f10 v_tipstafflaw19_size k_tipstafflaw19_size = some (c_tipstafflaw19_size, r_tipstafflaw19_size) := by kernel_rfl
theorem size_ret (x : Int) (w : World) : Ret Try.prog 10 [.int .i64 x] w fun v w' => (∃ k : Nat, (k = 1 ∨ k = 2 ∨ k = 4 ∨ k = 8) ∧ v = .int .i64 k) ∧ Kept none' w w' := by
  refine ret_of_W Try.func10 rfl ok_tipstafflaw19_size ?_
  obtain ⟨k, hk4, hk, hkw⟩ := mod_small x 6 (by omega) (by omega)
  simp [c_tipstafflaw19_size]
  rw [hkw]
  have hk0 : (k : Int) < 6 := hk4
  have : k = 0 ∨ k = 1 ∨ k = 2 ∨ k = 3 ∨ k = 4 ∨ k = 5 := by omega
  rcases this with rfl | rfl | rfl | rfl | rfl | rfl <;> simp <;> exact (Kept.refl _ _).alloc _

theorem append_zero {P : Program} {t ty e : TypeId} (ht : P.underlying t = some (.slice e)) (hi' : (P.info? e).isSome = true) (a : Addr) (n c : Nat) (hn : n ≤ c) (sa : Option Addr) (sc : Nat) (w : World) :
    (builtin .append #[t, t] ty #[] #[.slice (some a) n c, .slice sa 0 sc]).run P w = .ok (.value (.slice (some a) n c)) w := by
  obtain ⟨i, hi⟩ := Option.isSome_iff_exists.1 hi'
  cases sa <;> (simp [builtin, Builtin.append_, run_underlying ht, sizeOf, typeInfo, hi, Builtin.lenOf, hn, Builtin.firstCells, loadCells, loadCellsFrom]; rfl)

theorem mapsAt_row {w : World} {v : Value} {bs : List Nat} (hl : bs.length ≤ 1000) (h : Eng.Row 24 1 w v bs.length (bs.map fun b => Value.pointer (some ⟨b, 0, none⟩))) : MapsAt w v bs := by
  rcases h.2 with ⟨rfl, h0⟩ | ⟨g, cap, cur, rfl, hb, h2, h3, h4, h5, h6⟩
  · have : bs = [] := List.eq_nil_of_length_eq_zero h0
    subst this
    exact ⟨none, 0, rfl, by simp, .inl rfl⟩
  · refine ⟨some ⟨g, 0, none⟩, cap, rfl, hl, .inr ⟨g, rfl, fun i b hi => ?_⟩⟩
    rw [wcell_of h2]
    have hil : i < bs.length := (List.getElem?_eq_some_iff.1 hi).1
    have : (cur.toList.take (bs.length * 1))[i]? = (bs.map fun b => Value.pointer (some ⟨b, 0, none⟩))[i]? := by rw [h6]
    rw [List.getElem?_take, if_pos (by omega), List.getElem?_map, hi] at this
    simpa using this

theorem newmaps_ret (cs : Array Value) (c : Nat → Int) (q n cap : Nat) (bs : List Nat) (w : World) (hs : cs.size = 32) (hc : ∀ i, i < 32 → cs[i]? = some (.int .u8 (c i))) (hn : bs.length = n) (hn2 : n ≤ 1000) (hq : ∀ (i b : Nat), bs[i]? = some b → wcell w q i = some (.pointer (some ⟨b, 0, none⟩))) :
    Ret Try.prog 8 [.agg cs, .slice (some ⟨q, 0, none⟩) n cap] w
    fun v w' => ∃ b maps, v = .pointer (some ⟨b, 0, none⟩) ∧ w.heap.size ≤ b ∧ Kept none' w w' ∧ IsMem w' b (RMem.fresh c maps) ∧ MapsAt w' maps bs ∧ ∀ i, maps.ownBlock = some i → w.heap.size ≤ i ∧ ∃ cs, w'.heap[i]? = some (.cells cs 24 (0, 0)) := by
  subst hn
  refine ret_of_W Try.func8 rfl ok_region_New ?_
  simp [c_region_New, hs]
  have hk : Kept none' w ((w.alloc (.cells cs 38)).drew.alloc (.cells #[] 24)) := ((Kept.refl _ _).alloc _).drew.alloc _
  have hbox : ((w.alloc (.cells cs 38)).drew.alloc (.cells #[] 24)).heap[w.heap.size]? = some (.cells cs 38 (0, 0)) := hp_old (w := (w.alloc (.cells cs 38)).drew) (hp_new w _) _
  have hrow := hp_new (w.alloc (.cells cs 38)).drew (.cells #[] 24)
  have hN : ((w.alloc (.cells cs 38)).drew.alloc (.cells #[] 24)).heap.size = w.heap.size + 1 + 1 := by simp
  have hN0 : (w.alloc (.cells cs 38)).drew.heap.size = w.heap.size + 1 := by simp
  rw [hN0] at hrow
  generalize (w.alloc (.cells cs 38)).drew.alloc (.cells #[] 24) = w2 at hk hN hbox hrow ⊢
  have hR : Eng.Row 24 1 w2 (.slice (some ⟨w.heap.size + 1, 0, none⟩) 0 0) 0 [] := ⟨by simp, .inr ⟨_, 0, #[], rfl, by omega, hrow, by omega, by unfold maxLen; omega, by simp, by simp⟩⟩
  obtain ⟨v', w', h1, h2, h3, h4⟩ := Go.Eng.row_append (P := Try.prog) (t := 39) (T := 24) (k := 1) (sb := q) (so := 0) (c := cap) (m := bs.length) (ys := bs.map fun b => Value.pointer (some ⟨b, 0, none⟩)) Try.underlying39 (by kernel_rfl) (by omega) hR (by omega) (by simp)
    (fun j y hj => by
      rw [List.getElem?_map, Option.map_eq_some_iff] at hj
      obtain ⟨b, hb, rfl⟩ := hj
      rw [Nat.zero_add]
      exact wcell_kept hk (fun h => h) (hq j b hb)) (fun y hy => by
      rw [List.mem_map] at hy
      obtain ⟨b, _, rfl⟩ := hy
      rfl)
  simp only [Nat.zero_add, List.nil_append] at h2
  have hbox' := h3.has hbox (fun e => by simp [Value.ownBlock] at e)
  have hrow32 : ∀ w', w'.heap[w.heap.size]? = some (.cells cs 38 (0, 0)) → wrow w' w.heap.size 0 32 = some cs := fun w' h => wrow_box h hs
  refine W_bi (by simp) h1 ?_ ?_
  · intro e he v hv
    simp at he
    subst he
    simp [hrow32 _ hbox] at hv
    simp [hrow32 _ hbox']
    exact hv
  have hsz : freshMem.size = 193 := mem_size _
  have hsz2 : (setRow freshMem 0 cs.toList).size = 193 := by rw [Go.Eng.setRow_size]; exact hsz
  have hv1 := Eng.rowVar h2
  have hv2 := Eng.rowCells h2
  have hs3 := h3.size
  have hk3 : Kept none' w w' := hk.then h3 (fun i hi e => by simp [Value.ownBlock] at e; omega)
  simp [hs, hsz, hsz2, hv1, hv2, fresh_cells cs c _ hs hc]
  refine ⟨by omega, hk3.alloc _, v', hp_new _ _, (mapsAt_row hn2 h2).keep ((Kept.refl none' _).alloc _) (fun _ _ h => h), fun i hi => ?_⟩
  rcases h2.2 with ⟨rfl, _⟩ | ⟨g, cap, cur, rfl, _, h5, _⟩
  · simp [Value.ownBlock] at hi
  · simp [Value.ownBlock] at hi
    subst hi
    refine ⟨?_, cur, hp_old h5 _⟩
    rcases h4 with h4 | h4 <;> simp [Value.ownBlock] at h4 <;> omega

/-- A value's bytes are turned from outside. -/
theorem MapAt.turned {w w' : World} {b : Nat} {M : BMap} {e : BEnt} {y : Nat → Int} (h : MapAt w b M) (hl : M.l = [e]) (hk : Kept (· = e.vb) w w') (hv : VBytes w' e.vb M.vs y) (hy : ∀ j, 0 ≤ y j ∧ y j ≤ 255) :
    MapAt w' b { M with l := [{ e with val := y }] } := by
  have hi : M.l[0]? = some e := by rw [hl]; rfl
  have hE := h.mem hi
  obtain ⟨c0, hc0, hcell⟩ := hE.cell
  obtain ⟨cs, hval, hv1, hv2⟩ := hE.val
  have hE1 : EntAt w' M.vs { e with val := y } :=
    ⟨hk.has hE.ent (fun q => heap_ne hE.ent hval (by decide) q), ⟨c0, hc0, hk.has hcell (fun q => heap_ne hcell hval (by decide) q)⟩, hv, hy⟩
  have := h.set (x := M.clock) hi hE1 rfl rfl rfl (hk.has h.blk (fun q => heap_ne h.blk hval (by decide) q)) h.clock (hk.mono fun j _ hj => .inr (.inr (.inr hj)))
  rw [hl] at this
  exact this

/-- A map of one entry, and a memory that has it. -/
structure Rc (w0 w : World) (b V rb g : Nat) (M : BMap) (e : BEnt) (m : RMem) (c : Int) : Prop where
  mp : Mp w0 w b M
  ty : M.ty = 0
  ks : M.ks = 4
  vs : M.vs = V
  one : M.l = [e]
  key : e.key = key4 (lit4 0)
  clock : M.clock ≤ c
  mem : IsMem w rb m
  maps : MapsAt w m.maps [b]
  mown : ∀ i, m.maps.ownBlock = some i → ∃ cs, w.heap[i]? = some (.cells cs 24 (0, 0))
  gout : ¬ M.own b g
  glt : g < w.heap.size

section
variable {w0 w w' : World} {b V rb g : Nat} {M : BMap} {e : BEnt} {m : RMem} {c : Int}
theorem Rc.calm (h : Rc w0 w b V rb g M e m c) (hk : Kept none' w w') : Rc w0 w' b V rb g M e m c :=
  ⟨h.mp.calm hk, h.ty, h.ks, h.vs, h.one, h.key, h.clock, isMem_kept hk h.mem, h.maps.keep hk (fun _ _ h => h), fun i hi => by
    obtain ⟨cs, hc⟩ := h.mown i hi; exact ⟨cs, hk.has hc (fun h => h)⟩, h.gout, Nat.lt_of_lt_of_le h.glt hk.size⟩
theorem Mp.base {w1 : World} (h : Mp w1 w b M) (hk : Kept none' w0 w1) : Mp w0 w b M := ⟨hk.trans h.kept, h.map, fun i hi => Nat.le_trans hk.size (h.low i hi)⟩
/-- Bytes beside the map and the memory are turned. -/
theorem Rc.beside (h : Rc w0 w b V rb g M e m c) (hk : Kept (fun j => j = g) w w') (hg0 : w0.heap.size ≤ g) (hgT : ∃ cs, w.heap[g]? = some (.cells cs 5 (0, 0))) : Rc w0 w' b V rb g M e m c := by
  obtain ⟨cs, hcs⟩ := hgT
  refine ⟨⟨h.mp.kept.then hk fun i hi hj => by omega, h.mp.map.keep hk fun i hi hj => by subst hj; exact h.gout hi, h.mp.low⟩, h.ty, h.ks, h.vs, h.one, h.key, h.clock, hk.has h.mem (fun e => heap_ne h.mem hcs (by decide) e), h.maps.keep hk (fun i hi e => ?_), fun i hi => ?_, h.gout, Nat.lt_of_lt_of_le h.glt hk.size⟩
  · obtain ⟨cs', hc'⟩ := h.mown i hi; exact heap_ne hc' hcs (by decide) e
  · obtain ⟨cs', hc'⟩ := h.mown i hi; exact ⟨cs', hk.has hc' (fun e => heap_ne hc' hcs (by decide) e)⟩
theorem Rc.get (h : Rc w0 w b V rb g M e m c) : M.l[0]? = some e := by rw [h.one]; rfl
theorem Rc.ent (h : Rc w0 w b V rb g M e m c) : EntAt w V e := by have := h.mp.map.mem h.get; rw [h.vs] at this; exact this
theorem Rc.only (h : Rc w0 w b V rb g M e m c) {i : Nat} {e' : BEnt} (hi : M.l[i]? = some e') : i = 0 ∧ e' = e := by
  rw [h.one] at hi
  have := (List.getElem?_eq_some_iff.1 hi).1
  have h0 : i = 0 := by simp at this; exact this
  subst h0
  simp at hi
  exact ⟨rfl, hi.symm⟩
theorem Rc.not (h : Rc w0 w b V rb g M e m c) {j : Nat} {cs : Array Value} {T : TypeId} {f : Nat × Nat} (hj : w.heap[j]? = some (.cells cs T f)) (h1 : T ≠ 56) (h2 : T ≠ 57) (h3 : T ≠ 62) (h4 : T ≠ 60) (h5 : T ≠ 5) : ¬ M.own b j :=
  own_not h.mp.map hj h1 h2 h3 h4 h5
theorem Rc.step {M' : BMap} {e' : BEnt} {c' : Int} (h : Rc w0 w b V rb g M e m c) (hk : Kept (M.own b) w w') (hm : MapAt w' b M') (ho : ∀ j, M'.own b j → M.own b j) (h1 : M'.ty = M.ty) (h2 : M'.ks = M.ks) (h3 : M'.vs = M.vs)
    (hl : M'.l = [e']) (he : e'.key = e.key) (hc : M'.clock ≤ c') : Rc w0 w' b V rb g M' e' m c' :=
  ⟨h.mp.step hk hm fun j hj => .inl (ho j hj), h1.trans h.ty, h2.trans h.ks, h3.trans h.vs, hl, he.trans h.key, hc, hk.has h.mem (h.not h.mem (by decide) (by decide) (by decide) (by decide) (by decide)),
    h.maps.keep hk (fun i hi => by obtain ⟨cs, hc⟩ := h.mown i hi; exact h.not hc (by decide) (by decide) (by decide) (by decide) (by decide)),
    fun i hi => by obtain ⟨cs, hc⟩ := h.mown i hi; exact ⟨cs, hk.has hc (h.not hc (by decide) (by decide) (by decide) (by decide) (by decide))⟩, fun hg => h.gout (ho g hg), Nat.lt_of_lt_of_le h.glt hk.size⟩
theorem Rc.used (h : Rc w0 w b V rb g M e m c) (hk : Kept (fun j => j = b ∨ j = e.eb) w w') (hm : MapAt w' b (usedM M 0 e)) : Rc w0 w' b V rb g (usedM M 0 e) { e with used := M.clock + 1 } m (c + 1) :=
  h.step (hk.mono fun j _ hj => own_ent h.get hj) hm (fun j hj => own_set (x := M.clock + 1) (e' := { e with used := M.clock + 1 }) h.get rfl rfl rfl hj) rfl rfl rfl (by simp [usedM, h.one]) rfl (by have := h.clock; show M.clock + 1 ≤ c + 1; omega)
theorem Rc.turned {y : Nat → Int} (h : Rc w0 w b V rb g M e m c) (hk : Kept (· = e.vb) w w') (hv : VBytes w' e.vb V y) (hy : ∀ j, 0 ≤ y j ∧ y j ≤ 255) : Rc w0 w' b V rb g { M with l := [{ e with val := y }] } { e with val := y } m c := by
  have hm := h.mp.map.turned h.one hk (by rw [h.vs]; exact hv) hy
  refine h.step (hk.mono fun j _ hj => .inr (.inr ⟨e, by rw [h.one]; simp, .inr (.inr hj)⟩)) hm ?_ rfl rfl rfl rfl rfl h.clock
  rintro j (hj | hj | ⟨a, ha, hj⟩)
  · exact .inl hj
  · exact .inr (.inl hj)
  · simp at ha
    subst ha
    exact .inr (.inr ⟨e, by rw [h.one]; simp, hj⟩)
theorem Rc.frozen (h : Rc w0 w b V rb g M e m c) (hk : Kept (fun j => j = b) w w') (hm : MapAt w' b { M with frozen := true }) : Rc w0 w' b V rb g { M with frozen := true } e m c :=
  h.step (hk.mono fun j _ hj => .inl hj) hm (fun j hj => hj) rfl rfl rfl h.one rfl h.clock
theorem Rc.vb (h : Rc w0 w b V rb g M e m c) : VBytes w e.vb V e.val := h.ent.val
theorem Rc.cb (h : Rc w0 w b V rb g M e m c) : ∃ k, CellBox w e.cb e.vb V k := h.ent.cell
end
end Go.Proofs.Ythfchnaocbkofaa
