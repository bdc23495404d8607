/- Base: laws of no program, for walks. -/
import Derived.Test.YtmfgdbapankamaaGreatGr5
import Derived.ArgAppend
import Derived.Maps.AppendAt
set_option linter.unusedSimpArgs false
set_option linter.unusedVariables false
namespace Go.Eng
theorem i64w {n : Int} (h1 : -9223372036854775808 ≤ n) (h2 : n ≤ 9223372036854775807) : IntKind.i64.wrap n = n := IntWalk.i64_in n ⟨h1, h2⟩
theorem u64w {n : Int} (h1 : 0 ≤ n) (h2 : n ≤ 18446744073709551615) : IntKind.u64.wrap n = n := IntWalk.u64_in n ⟨h1, h2⟩
theorem ok_intro {α : Type} {o : Option α} {F : α → Prop} (v : α) (h : o = some v) (hF : F v) : Ok o F := by rw [h]; exact hF
def fset {α : Type} (f : Nat → α) (i : Nat) (x : α) : Nat → α := fun j => if j = i then x else f j
theorem fset_same {α : Type} (f : Nat → α) (i : Nat) (x : α) : fset f i x i = x := by simp [fset]
theorem fset_other {α : Type} (f : Nat → α) {i j : Nat} (x : α) (h : j ≠ i) : fset f i x j = f j := by simp [fset, h]
theorem hp_at {w : World} {x : Obj} {n : Nat} (h : n = w.heap.size) : (w.alloc x).heap[n]? = some x := by subst h; exact hp_new w x
@[simp] theorem wcell_at (w : World) (c : Array Value) (T : TypeId) (fz : Nat × Nat) (i off : Nat) (hi : i = w.heap.size) : wcell (w.alloc (.cells c T fz)) i off = c[off]? := by subst hi; exact wcell_new w c T fz off
@[simp] theorem wrow_at (w : World) (c : Array Value) (T : TypeId) (fz : Nat × Nat) (i n : Nat) (hi : i = w.heap.size) (h : n = c.size) : wrow (w.alloc (.cells c T fz)) i 0 n = some c := by subst hi; exact wrow_all w c T fz n h
theorem Kept.le {w w' : World} (hk : Kept none' w w') : HeapLe w w' := fun _ _ hb => hk.has hb fun h => h
theorem Kept.any {S : Nat → Prop} {w w' : World} (hk : Kept none' w w') : Kept S w w' := hk.mono fun _ _ h => h.elim
theorem wcell_kept {S : Nat → Prop} {w w' : World} {b off : Nat} {v : Value} (hk : Kept S w w') (hs : ¬ S b) (h : wcell w b off = some v) : wcell w' b off = some v := by
  unfold wcell at h ⊢
  cases hb : w.heap[b]? with
  | none => rw [hb] at h; cases h
  | some o => rw [hk.has hb hs]; rw [hb] at h; exact h
theorem wrow_calm {w w' : World} {b off n : Nat} {v : Array Value} (hk : Kept none' w w') (h : wrow w b off n = some v) : wrow w' b off n = some v := wrow_mono hk.le h
theorem wcell_cell {w : World} {b off : Nat} {v : Value} (h : wcell w b off = some v) : w.cell? ⟨b, off, none⟩ = some v := by
  unfold wcell at h
  unfold World.cell?
  cases hb : w.heap[b]? with
  | none => rw [hb] at h; cases h
  | some o => rw [hb] at h; cases o <;> first | exact h | cases h
theorem cell_wcell {w : World} {b off : Nat} {v : Value} {c : Array Value} {T : TypeId} {fz : Nat × Nat} (hb : w.heap[b]? = some (.cells c T fz)) (h : w.cell? ⟨b, off, none⟩ = some v) : wcell w b off = some v := by
  unfold World.cell? at h
  unfold wcell
  rw [hb] at h ⊢
  exact h
section
variable {P : Program} {R : Env → World → Prop} {k : List It} {env : Env} {w : World}
theorem stab_calm {st : List Ex} {w' : World} (hk : Kept none' w w') : Stab st env w w' := fun e _ _ h => ev_mono hk.le e h
theorem W_chkIn {es : List Ex} (vs : List Value) (h : evs env w es = some vs) (hk : W P R k env w) : W P R (.c (.chk es) :: k) env w := by
  rw [W_chk, h]
  exact hk
theorem W_row' {dst : Option Nat} {T : TypeId} {n : Nat} {e : Ex} {st : List Ex} {v : Value} {cs : Array Value} (he : e.ev env w = some v) (hc : v.cells = cs)
    (h : W P R k (setO dst env (.slice (some ⟨w.heap.size, 0, none⟩) n n)) (w.alloc (.cells cs T))) : W P R (.c (.row dst T n e st) :: k) env w := by
  rw [W_row, he, Ok_some, hc]
  exact h
theorem W_new' {dst : Option Nat} {T : TypeId} {e : Ex} {st : List Ex} {v : Value} {cs : Array Value} (he : e.ev env w = some v) (hc : v.cells = cs)
    (h : W P R k (setO dst env (.pointer (some ⟨w.heap.size, 0, none⟩))) (w.alloc (.cells cs T))) : W P R (.c (.new dst T e st) :: k) env w := by
  rw [W_new, he, Ok_some, hc]
  exact h
theorem W_calm {dst : Option Nat} {f : FuncId} {args : List Ex} {st : List Ex} {vs : List Value} {x : Value} (ha : evs env w args = some vs) (hc : Ret P f vs w fun v w' => v = x ∧ Kept none' w w')
    (h : ∀ w', Kept none' w w' → W P R k (setO dst env x) w') : W P R (.c (.call dst f args st) :: k) env w :=
  W_call ha hc fun v w' hF => ⟨stab_calm hF.2, by rw [hF.1]; exact h w' hF.2⟩
theorem W_calmP {dst : Option Nat} {f : FuncId} {args : List Ex} {st : List Ex} {vs : List Value} {F : Value → World → Prop} (ha : evs env w args = some vs) (hc : Ret P f vs w fun v w' => Kept none' w w' ∧ F v w')
    (h : ∀ v w', Kept none' w w' → F v w' → W P R k (setO dst env v) w') : W P R (.c (.call dst f args st) :: k) env w :=
  W_call ha hc fun v w' hF => ⟨stab_calm hF.1, h v w' hF.1 hF.2⟩
end
theorem setRow_eq (cs : Array Value) (off : Nat) (l : List Value) (j : Nat) : (setRow cs off l)[j]? = if off ≤ j ∧ j < off + l.length ∧ j < cs.size then l[j - off]? else cs[j]? := by
  induction l generalizing cs off with
  | nil => rw [setRow_nil, if_neg (by simp; omega)]
  | cons v r ih =>
    rw [setRow_cons, ih, Array.getElem?_setIfInBounds]
    simp only [Array.size_setIfInBounds, List.length_cons]
    by_cases h1 : off + 1 ≤ j ∧ j < off + 1 + r.length ∧ j < cs.size
    · rw [if_pos h1, if_pos (by omega), show j - off = (j - (off + 1)) + 1 from by omega, List.getElem?_cons_succ]
    · rw [if_neg h1]
      by_cases h2 : off = j
      · subst h2
        by_cases h3 : off < cs.size
        · rw [if_pos rfl, if_pos h3, if_pos (by omega), Nat.sub_self]; rfl
        · rw [if_pos rfl, if_neg h3, if_neg (by omega)]
          simp; omega
      · rw [if_neg h2, if_neg (by omega)]
theorem setRow_all {cs : Array Value} {l : List Value} (h : cs.size = l.length) : setRow cs 0 l = l.toArray := by
  apply Array.ext_getElem?
  intro j
  rw [setRow_eq]
  by_cases hj : j < cs.size
  · rw [if_pos (by omega)]; simp
  · rw [if_neg (by omega)]
    have e1 : cs[j]? = none := by simp; omega
    have e2 : l.toArray[j]? = none := by simp; omega
    rw [e1, e2]
theorem box_store {w : World} {b n : Nat} {cs : Array Value} {T : TypeId} {v : Value} (h : w.heap[b]? = some (.cells cs T (0, 0))) (hn : cs.size = n) (hv : v.cells.size = n) (h1 : v.cells.all (·.oneCell') = true) :
    stv w n (.pointer (some ⟨b, 0, none⟩)) v = some (put w b (.cells v.cells T (0, 0))) := by
  rw [stv_of (n := n) (v := v) h hv (by omega) (.inl (by simp)) h1, setRow_all (by simp; omega)]
theorem wrow_box {w : World} {b n : Nat} {cs : Array Value} {T : TypeId} {fz : Nat × Nat} (h : w.heap[b]? = some (.cells cs T fz)) (hn : cs.size = n) : wrow w b 0 n = some cs := by
  subst hn; rw [wrow_of h (by omega)]; simp
theorem Kept.putNew {w0 w : World} {b : Nat} (hk : Kept none' w0 w) (hb : w0.heap.size ≤ b) (o : Obj) : Kept none' w0 (Go.Eng.put w b o) := Kept.put hk (fun h => by omega) o
abbrev Row (T : TypeId) (k : Nat) (w : World) (v : Value) (n : Nat) (xs : List Value) : Prop := w.ownsRow 0 T k v n xs
theorem row_nil (T : TypeId) (k : Nat) (w : World) : Row T k w (.slice none 0 0) 0 [] := ⟨by simp, .inl ⟨rfl, rfl⟩⟩
section
variable {T : TypeId} {k : Nat} {w w' : World} {v : Value} {n : Nat} {xs : List Value}
theorem rowLen (h : Row T k w v n xs) : lenV false v = some (.int .i64 n) := by rcases h.2 with ⟨rfl, rfl⟩ | ⟨g, cap, cur, rfl, _⟩ <;> rfl
theorem rowVar (h : Row T k w v n xs) : varV v = some v := by rcases h.2 with ⟨rfl, rfl⟩ | ⟨g, cap, cur, rfl, _⟩ <;> rfl
theorem rowOne (h : Row T k w v n xs) : v.oneCell' = true := by rcases h.2 with ⟨rfl, rfl⟩ | ⟨g, cap, cur, rfl, _⟩ <;> rfl
theorem rowCells (h : Row T k w v n xs) : v.cells = #[v] := by rcases h.2 with ⟨rfl, rfl⟩ | ⟨g, cap, cur, rfl, _⟩ <;> rfl
theorem rowLt (h : Row T k w v n xs) {g : Nat} (hg : v.ownBlock = some g) : g < w.heap.size := by
  rcases h.2 with ⟨rfl, _⟩ | ⟨g', cap, cur, rfl, _, h2, _⟩
  · simp [Value.ownBlock] at hg
  · simp [Value.ownBlock] at hg; subst hg; exact blk_lt h2
theorem rowKeep {S : Nat → Prop} (h : Row T k w v n xs) (hk : Kept S w w') (hS : ∀ i, v.ownBlock = some i → ¬ S i) : Row T k w' v n xs := by
  refine ⟨h.1, ?_⟩
  rcases h.2 with h2 | ⟨g, cap, cur, rfl, hb, h2, h3⟩
  · exact .inl h2
  · exact .inr ⟨g, cap, cur, rfl, hb, hk.has h2 (hS g rfl), h3⟩
theorem rowCalm (h : Row T k w v n xs) (hk : Kept none' w w') : Row T k w' v n xs := rowKeep h hk fun _ _ h => h
theorem rowForm (h : Row T k w v n xs) (hn : 0 < n) : ∃ g cap, v = .slice (some ⟨g, 0, none⟩) n cap ∧ n ≤ cap ∧ v.ownBlock = some g ∧ ∀ (j : Nat) (x : Value), xs[j]? = some x → wcell w g j = some x := by
  rcases h.2 with ⟨_, h0⟩ | ⟨g, cap, cur, rfl, hb, h2, h3, h4, h5, h6⟩
  · omega
  · refine ⟨g, cap, rfl, h3, rfl, fun j x hj => ?_⟩
    rw [wcell_of h2]
    rw [← h6, List.getElem?_take] at hj
    split at hj
    · simpa using hj
    · cases hj
theorem row_append {P : Program} {t : TypeId} (ht : P.underlying t = some (.slice T)) (hi0 : (P.info? T).any (fun i => i.size == k && decide (i.bytes ≤ 4096) && i.zero.any (fun z => z.cells.size == k)) = true) (hk0 : 0 < k)
    {sb so c m : Nat} {ys : List Value} (h : Row T k w v n xs) (hs : n + m ≤ 1000000) (hl : ys.length = m * k) (hy : ∀ (j : Nat) (y : Value), ys[j]? = some y → wcell w sb (so + j) = some y) (h1 : ∀ y ∈ ys, y.oneCell' = true) :
    ∃ v' w', (builtin .append #[t, t] t #[] #[v, .slice (some ⟨sb, so, none⟩) m c]).run P w = .ok (.value v') w' ∧ Row T k w' v' (n + m) (xs ++ ys) ∧ Kept (fun j => v.ownBlock = some j) w w' ∧
      (v'.ownBlock = v.ownBlock ∨ v'.ownBlock = some w.heap.size) := by
  obtain ⟨i, hi, hi1⟩ : ∃ i, P.info? T = some i ∧ (i.size == k && decide (i.bytes ≤ 4096) && i.zero.any (fun z => z.cells.size == k)) = true := by
    cases h : P.info? T with
    | none => rw [h] at hi0; cases hi0
    | some i => rw [h] at hi0; exact ⟨i, rfl, hi0⟩
  simp only [Bool.and_eq_true, beq_iff_eq, decide_eq_true_eq] at hi1
  obtain ⟨⟨hsz, hb⟩, hz0⟩ := hi1
  obtain ⟨z, hz, hz4⟩ : ∃ z, i.zero = some z ∧ z.cells.size = k := by
    cases h : i.zero with
    | none => rw [h] at hz0; cases hz0
    | some z => rw [h] at hz0; exact ⟨z, rfl, by simpa using hz0⟩
  have hbytes : (n + m) * i.bytes ≤ 1000000 * 4096 := Nat.mul_le_mul hs hb
  have hnews : ∀ (j : Nat) (u : Value), ys[j]? = some u → w.cell? ((⟨sb, so, none⟩ : Addr).add j) = some u := by
    intro j u hu
    rw [Addr.add_lit]
    exact wcell_cell (hy j u hu)
  obtain ⟨v', w', hr, hown', hgr, _, hat⟩ := run_append_own_at (P := P) w 0 t t T i z k i.bytes ht hi hz hsz rfl hz4 hk0
    v n xs h ⟨sb, so, none⟩ m c ys hl hnews h1 (by unfold maxLen; omega) (by omega) (by omega)
  refine ⟨v', w', ?_, hown', ⟨hgr.os, hgr.tape, hgr.output, hgr.size, fun i hi hS => hgr.block i hi (fun e => hS e.symm)⟩, hat⟩
  simp only [builtin, map_eq_pure_bind, Sem.run_bind, hr]
  rfl
end
theorem str_eq' (a b : ByteArray) : (a.data == b.data) = decide (a = b) := by
  by_cases h : a = b
  · subst h; simp
  · rw [decide_eq_false h, beq_eq_false_iff_ne]
    intro hc
    exact h (ByteArray.ext hc)
theorem wrow_list {w : World} {b off : Nat} {r : List Value} (hr : 0 < r.length) (h : ∀ j, j < r.length → wcell w b (off + j) = r[j]?) : wrow w b off r.length = some r.toArray := by
  unfold wrow
  have h0 := h (r.length - 1) (by omega)
  unfold wcell at h h0
  cases hb : w.heap[b]? with
  | none =>
    rw [hb] at h0
    have : r[r.length - 1]? = none := by rw [← h0]
    rw [List.getElem?_eq_none_iff] at this
    omega
  | some o =>
    cases o with
    | cells c T fz =>
      rw [hb] at h0
      simp only at h0 ⊢
      have hlt : off + (r.length - 1) < c.size := by
        have : (c[off + (r.length - 1)]?).isSome = true := by
          rw [h0, List.getElem?_eq_getElem (by omega)]; rfl
        simpa using this
      rw [if_pos (by omega)]
      congr 1
      apply Array.ext_getElem?
      intro j
      rw [Array.getElem?_extract]
      by_cases hj : j < r.length
      · rw [if_pos (by omega)]
        have := h j hj
        rw [hb] at this
        simp only at this
        rw [this]
        simp
      · rw [if_neg (by omega)]
        simp
        omega
    | _ =>
      rw [hb] at h0
      have : r[r.length - 1]? = none := by rw [← h0]
      rw [List.getElem?_eq_none_iff] at this
      omega
def bs (m : List Nat) : ByteArray := ⟨(m.map UInt8.ofNat).toArray⟩
def nb (k : ByteArray) : List Nat := k.data.toList.map UInt8.toNat
@[simp] theorem nb_len (k : ByteArray) : (nb k).length = k.size := by
  show (k.data.toList.map UInt8.toNat).length = k.data.size
  rw [List.length_map, Array.length_toList]
@[simp] theorem bs_size (m : List Nat) : (bs m).size = m.length := by
  show (m.map UInt8.ofNat).toArray.size = _
  rw [List.size_toArray, List.length_map]
theorem nb_le (k : ByteArray) : ∀ x ∈ nb k, x ≤ 255 := by
  intro x hx
  simp only [nb, List.mem_map] at hx
  obtain ⟨y, _, rfl⟩ := hx
  have := y.toNat_lt
  omega
theorem bs_nb (k : ByteArray) : bs (nb k) = k := by
  refine ByteArray.ext ?_
  simp [bs, nb, Function.comp_def]
theorem nb_bs {m : List Nat} (h : ∀ x ∈ m, x ≤ 255) : nb (bs m) = m := by
  simp only [bs, nb, List.map_map]
  conv => rhs; rw [← List.map_id m]
  refine List.map_congr_left fun x hx => ?_
  have := h x hx
  simp
  omega
theorem bs_inj {m l : List Nat} (hm : ∀ x ∈ m, x ≤ 255) (hl : ∀ x ∈ l, x ≤ 255) (h : bs m = bs l) : m = l := by
  rw [← nb_bs hm, ← nb_bs hl, h]
theorem bytesIn_map (m : List Nat) : bytesIn (m.map fun (x : Nat) => Value.int .u8 (x : Int)) = some (m.map UInt8.ofNat) := by
  induction m with
  | nil => rfl
  | cons a r ih => simp [bytesIn, ih]
theorem bytes_bstr {w : World} {b off c : Nat} {m : List Nat} (h0 : 0 < m.length) (h : ∀ (j x : Nat), m[j]? = some x → wcell w b (off + j) = some (.int .u8 x)) :
    bstrv w (.slice (some ⟨b, off, none⟩) m.length c) = some (.string (bs m)) := by
  have hw := wrow_list (w := w) (b := b) (off := off) (r := m.map fun (x : Nat) => Value.int .u8 (x : Int)) (by simpa using h0) (by
    intro j hj
    have hj' : j < m.length := by simpa using hj
    rw [h j m[j] (List.getElem?_eq_getElem hj')]
    simp [hj'])
  rw [List.length_map] at hw
  simp only [bstrv, hw, Option.bind_some, bytesIn_map, Option.map_some]
  rfl
end Go.Eng
