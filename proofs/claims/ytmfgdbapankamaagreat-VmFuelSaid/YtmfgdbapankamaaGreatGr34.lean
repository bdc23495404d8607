/- Layer 20: specs, keys and values as the law makes them; the reference's new maps. -/
import Derived.Test.YtmfgdbapankamaaGreatGr33
import Derived.Test.YtmfgdbapankamaaGreatGr31
set_option linter.unusedSimpArgs false
set_option linter.unusedVariables false
set_option maxRecDepth 8000
namespace Go.Proofs.YtmfgdbapankamaaGreat
open Go.Eng
instance (ty ks vs n : Int) : Decidable (specOk ty ks vs n) := by unfold specOk; infer_instance
def specV (ty ks vs n : Int) : Array Value := #[.int .i64 ty, .int .i64 ks, .int .i64 vs, .int .i64 n]
set_option maxHeartbeats 2000000 in
theorem fright_ret (ty ks vs n : Int) (w : World) : Ret Tryz.prog 7 [.agg (specV ty ks vs n)] w fun v w' => v = .bool (decide (specOk ty ks vs n)) ∧ Kept none' w w' := by
  refine ret_of_W Tryz.func7 rfl ok_tipstaffref09_Right ?_
  simp only [c_tipstaffref09_Right, W_seq]
  refine W_new' (v := .agg (specV ty ks vs n)) (cs := specV ty ks vs n) (by simp) rfl ?_
  have hb := hp_new w (.cells (specV ty ks vs n) 43)
  have hk : Kept none' w (w.alloc (.cells (specV ty ks vs n) 43)) := (Kept.refl _ _).alloc _
  generalize w.alloc (.cells (specV ty ks vs n) 43) = w1 at *
  generalize w.heap.size = sp at *
  have c0 : wcell w1 sp 0 = some (.int .i64 ty) := by rw [wcell_of hb]; rfl
  have c1 : wcell w1 sp 1 = some (.int .i64 ks) := by rw [wcell_of hb]; rfl
  have c2 : wcell w1 sp 2 = some (.int .i64 vs) := by rw [wcell_of hb]; rfl
  have c3 : wcell w1 sp 3 = some (.int .i64 n) := by rw [wcell_of hb]; rfl
  simp only [W_set]
  refine ok_intro (.bool false) (by simp) ?_
  try simp only [W_seq]
  by_cases hbad : ty < 0 ∨ 5 < ty ∨ vs < 1 ∨ 64 < vs ∨ n < 1 ∨ 64 < n
  · have hno : ¬ specOk ty ks vs n := by unfold specOk; omega
    refine W_yes ?_ ?_
    · by_cases a0 : ty < 0 <;> by_cases a1 : 5 < ty <;> by_cases a2 : vs < 1 <;> by_cases a3 : 64 < vs <;> by_cases a4 : n < 1 <;> by_cases a5 : 64 < n <;> first | (exfalso; omega) | simp [c0, c2, c3, a0, a1, a2, a3, a4, a5]
    · simp [hno]
      exact hk
  · have a0 : ¬ ty < 0 := by omega
    have a1 : ¬ 5 < ty := by omega
    have a2 : ¬ vs < 1 := by omega
    have a3 : ¬ 64 < vs := by omega
    have a4 : ¬ n < 1 := by omega
    have a5 : ¬ 64 < n := by omega
    refine W_no (by simp [c0, c2, c3, a0, a1, a2, a3, a4, a5]) ?_
    simp only [W_skip, W_seq, W_set]
    refine ok_intro (.int .i64 ty) (by simp [c0]) ?_
    simp only [W_block, W_seq, W_set]
    refine ok_intro (.bool (decide (ty = 0))) (by simp) ?_
    by_cases t0 : ty = 0
    · have : specOk ty ks vs n ↔ ks = 4 := by unfold specOk; omega
      refine W_yes (by simp [t0]) ?_
      simp [c1, this]
      exact hk
    refine W_no (by simp [t0]) ?_
    simp only [W_seq, W_set]
    refine ok_intro (.bool (decide (ty = 1))) (by simp) ?_
    by_cases t1 : ty = 1
    · have hs : specOk ty ks vs n ↔ 1 ≤ ks ∧ ks ≤ 16 := by unfold specOk; omega
      refine W_yes (by simp [t1]) ?_
      simp only [W_skip, W_seq]
      refine W_yes (by simp [t1]) ?_
      by_cases q1 : 1 ≤ ks <;> simp [c1, q1, hs] <;> exact hk
    refine W_no (by simp [t1]) ?_
    simp only [W_seq, W_set]
    refine ok_intro (.bool (decide (ty = 2))) (by simp) ?_
    by_cases t2 : ty = 2
    · have hs : specOk ty ks vs n ↔ 1 ≤ ks ∧ ks ≤ 16 := by unfold specOk; omega
      try simp only [W_seq]
      refine W_yes (by simp [t2]) ?_
      by_cases q1 : 1 ≤ ks <;> simp [c1, q1, hs] <;> exact hk
    try simp only [W_seq]
    refine W_no (by simp [t2]) ?_
    simp only [W_seq, W_set]
    refine ok_intro (.bool (decide (ty = 5))) (by simp) ?_
    by_cases t5 : ty = 5
    · have hs : specOk ty ks vs n ↔ 5 ≤ ks ∧ ks ≤ 16 := by unfold specOk; omega
      try simp only [W_seq]
      refine W_yes (by simp [t5]) ?_
      by_cases q1 : 5 ≤ ks <;> simp [c1, q1, hs] <;> exact hk
    try simp only [W_seq]
    refine W_no (by simp [t5]) ?_
    have hs : specOk ty ks vs n ↔ ks = 0 := by unfold specOk; omega
    simp [c1, hs]
    exact hk
def fitL (l : List Nat) (n : Nat) : List Nat := l.take n ++ List.replicate (n - l.length) 0
theorem fitL_len (l : List Nat) (n : Nat) : (fitL l n).length = n := by simp [fitL]; omega
theorem fitL_le {l : List Nat} (h : ∀ x ∈ l, x ≤ 255) (n : Nat) : ∀ x ∈ fitL l n, x ≤ 255 := by
  intro x hx
  rcases List.mem_append.1 hx with hx | hx
  · exact h x (List.mem_of_mem_take hx)
  · have := (List.mem_replicate.1 hx).2; omega
def BIn (w : World) (v : Value) (l : List Nat) : Prop := (v = .slice none 0 0 ∧ l = []) ∨ (∃ a c, v = .slice (some a) 0 c ∧ l = []) ∨ ∃ g off c, v = .slice (some ⟨g, off, none⟩) l.length c ∧ l.length ≤ c ∧ ∀ (j x : Nat), l[j]? = some x → wcell w g (off + j) = some (.int .u8 x)
theorem BIn.calm {w w' : World} {v : Value} {l : List Nat} (h : BIn w v l) (hk : Kept none' w w') : BIn w' v l := by
  rcases h with h | h | ⟨g, off, c, h1, h2, h3⟩
  · exact .inl h
  · exact .inr (.inl h)
  · exact .inr (.inr ⟨g, off, c, h1, h2, fun j x hj => wcell_kept hk (fun h => h) (h3 j x hj)⟩)
theorem append_empty {P : Program} {t ty e : TypeId} (ht : P.underlying t = some (.slice e)) (hi' : (P.info? e).isSome = true) (a b : Addr) (n c d : Nat) (hn : n ≤ c) (w : World) :
    (builtin .append #[t, t] ty #[] #[.slice (some a) n c, .slice (some b) 0 d]).run P w = .ok (.value (.slice (some a) n c)) w := by
  obtain ⟨i, hi⟩ := Option.isSome_iff_exists.1 hi'
  simp [builtin, Builtin.append_, run_underlying ht, sizeOf, typeInfo, hi, Builtin.lenOf, hn, Builtin.firstCells, loadCells, loadCellsFrom]
  rfl
theorem bys_new (w : World) : Bys (w.alloc (.cells #[] 5)) (.slice (some ⟨w.heap.size, 0, none⟩) 0 0) [] := .inr ⟨_, 0, #[], rfl, hp_new w _, Nat.le_refl _, by simp, rfl, fun i x h => by simp at h⟩
def FitK (v : Value) (l : List Nat) (n : Nat) (w : World) (env : Eng.Env) (w' : World) : Prop :=
  ∃ y3 y4 v1, env = [v, .int .i64 n, .slice none 0 0, y3, y4, v1, undef, undef] ∧ Bys w' v1 (l.take n) ∧ Kept none' w w' ∧ ∃ j, v1.ownBlock = some j ∧ w.heap.size ≤ j
def lenAt (env : Eng.Env) (i : Nat) : Nat := match env[i]? with
  | some (.slice _ n _) => n
  | _ => 0
theorem bys_lenAt {w : World} {v : Value} {l : List Nat} (h : Bys w v l) (a b c d e f g : Value) : lenAt [a, b, c, d, e, v, f, g] 5 = l.length := by
  rcases h with ⟨rfl, rfl⟩ | ⟨g, cap, cur, rfl, _⟩ <;> rfl
set_option maxHeartbeats 2000000 in
theorem fit_ret (v : Value) (l : List Nat) (n : Nat) (w : World) (h : BIn w v l) (hn : n ≤ 100) : Ret Tryz.prog 10 [v, .int .i64 n] w fun r w' => Kept none' w w' ∧ Bys w' r (fitL l n) ∧ ∃ j, r.ownBlock = some j ∧ w.heap.size ≤ j := by
  refine ret_of_W Tryz.func10 rfl ok_tipstafflaw20_fit ?_
  simp only [c_tipstafflaw20_fit]
  rw [W_seq, W_set]
  refine ok_intro (.slice none 0 0) (by simp) ?_
  rw [W_seq]
  refine W_cut (FitK v l n w) ?_ ?_
  · simp only [W_seq]
    refine W_row' (v := .agg #[]) (cs := #[]) (by simp) rfl ?_
    have hk0 : Kept none' w (w.alloc (.cells #[] 5)) := (Kept.refl _ _).alloc _
    have hB0 := bys_new w
    have hs0 : (w.alloc (.cells #[] 5)).heap.size = w.heap.size + 1 := by simp
    have h1 := h.calm hk0
    generalize w.alloc (.cells #[] 5) = w1 at *
    rcases h1 with ⟨rfl, rfl⟩ | ⟨a, c, rfl, rfl⟩ | ⟨g, off, c, rfl, hc, hx⟩
    rotate_left
    · rw [W_seq]
      obtain ⟨a', ha'⟩ : ∃ a', slSlV 1 (.slice (some a) 0 c) (.int .i64 0) (.int .i64 0) = some (.slice (some a') 0 c) := ⟨_, by simp [slSlV]; rfl⟩
      refine W_bi (vs := [.slice (some ⟨w.heap.size, 0, none⟩) 0 0, .slice (some a') 0 c]) ?_ (append_empty (e := 5) (by kernel_rfl) (by kernel_rfl) _ _ 0 0 _ (Nat.le_refl _) _) (stab_nil _ _ _) ?_
      · have hh : ¬ (n : Int) < 0 := by omega
        have hz : IntKind.i64.wrap 0 = 0 := by decide
        by_cases h0 : n = 0
        · subst h0; simp [ha', hz]
        · have : (0 : Int) < n := by omega
          simp [ha', hh, hz]
      simp
      exact ⟨_, _, _, rfl, by simpa using hB0, hk0, w.heap.size, rfl, Nat.le_refl _⟩
    rotate_left
    · rw [W_seq]
      refine W_bi (by simp; rfl) (append_none (e := 5) (by kernel_rfl) (by kernel_rfl) _ 0 0 (Nat.le_refl _) _) (stab_nil _ _ _) ?_
      simp
      exact ⟨_, _, _, rfl, by simpa using hB0, hk0, w.heap.size, rfl, Nat.le_refl _⟩
    · obtain ⟨v', w2, hr, hB, hk2, ho⟩ := bys_append (sb := g) (so := off) (c := c) (m := l.take n) hB0 (by simp; omega) (fun j x hj => by
        rw [List.getElem?_take] at hj
        split at hj
        · exact hx j x hj
        · cases hj)
      have hlen : (l.take n).length = min n l.length := List.length_take
      rw [hlen] at hr
      have q0 : ((if (n : Int) < l.length then (n : Int) else (l.length : Int))) = ((min n l.length : Nat) : Int) := by split <;> omega
      have q1 : ((min n l.length : Nat) : Int) ≤ c := by omega
      rw [W_seq]
      refine W_bi (vs := [.slice (some ⟨w.heap.size, 0, none⟩) 0 0, .slice (some ⟨g, off, none⟩) (min n l.length) c]) ?_ hr (stab_nil _ _ _) ?_
      · by_cases hh : n < l.length
        · have m1 : min n l.length = n := by omega
          have m2 : (n : Int) ≤ c := by omega
          simp [hh, m1, m2]
        · have m1 : min n l.length = l.length := by omega
          have m2 : (l.length : Int) ≤ c := by omega
          simp [hh, m1, m2]
      · have hv := hB.var
        simp [hv]
        exact ⟨_, _, _, rfl, by simpa using hB, hk0.then hk2 fun j hj h => by simp [Value.ownBlock] at h; omega, by
          rcases ho with q | q
          · exact ⟨w.heap.size, by rw [q]; rfl, Nat.le_refl _⟩
          · exact ⟨w1.heap.size, q, by omega⟩⟩
  · rintro env w2 ⟨y3, y4, v1, rfl, hB, hk, ho⟩
    simp
    have hlen : (l.take n).length = min n l.length := List.length_take
    refine W_loop (fun env w' => ∃ v1 i, env = [undef, .int .i64 n, undef, undef, undef, v1, undef, undef] ∧ i ≤ n - l.length ∧ Bys w' v1 (l.take n ++ List.replicate i 0) ∧ Kept none' w w' ∧ ∃ j, v1.ownBlock = some j ∧ w.heap.size ≤ j) (fun env _ => n - lenAt env 5) ?_ ?_
    · exact ⟨v1, 0, by simp, by omega, by simpa using hB, hk, ho⟩
    · rintro env w3 ⟨v3, i, rfl, hi, hB3, hk3, ho3⟩
      have hl3 := hB3.len
      have hv3 := hB3.var
      have hla := bys_lenAt hB3
      simp only [List.length_append, List.length_replicate, hlen] at hl3 hla
      try simp only [W_seq]
      by_cases hgo : min n l.length + i < n
      · refine W_yes (by simp [hl3, hv3]; omega) ?_
        simp only [W_skip, W_seq, W_block]
        refine W_chkIn [v3] (by simp [hv3]) ?_
        try simp only [W_seq]
        refine W_row' (v := .agg #[.int .u8 0]) (cs := #[.int .u8 0]) (by simp) rfl ?_
        have hrp := hp_new w3 (.cells #[.int .u8 0] 5)
        have hk4 : Kept none' w3 (w3.alloc (.cells #[.int .u8 0] 5)) := (Kept.refl _ _).alloc _
        generalize hz : w3.heap.size = rp at *
        generalize w3.alloc (.cells #[.int .u8 0] 5) = w4 at *
        have hB4 := hB3.keep hk4 fun _ _ h => h
        have hs3 := hk3.size
        have hs4 := hk4.size
        obtain ⟨v', w5, hr, hB5, hk5, ho5⟩ := bys_append (sb := rp) (so := 0) (c := 1) (m := [0]) hB4 (by simp; omega) (fun j x hj => by
          have : j = 0 := by have := (List.getElem?_eq_some_iff.1 hj).1; simp at this; exact this
          subst this
          simp at hj
          subst hj
          rw [wcell_of hrp]; rfl)
        try simp only [W_seq]
        refine W_bi (vs := [v3, .slice (some ⟨rp, 0, none⟩) 1 1]) (by simp [hv3]) hr (stab_nil _ _ _) ?_
        have hv5 := hB5.var
        have hrep : l.take n ++ List.replicate i 0 ++ [0] = l.take n ++ List.replicate (i + 1) 0 := by rw [List.append_assoc, List.replicate_succ']
        rw [hrep] at hB5
        have hla5 := bys_lenAt hB5
        simp only [List.length_append, List.length_replicate, hlen] at hla5
        simp [hv5, hla, hla5]
        exact ⟨⟨i + 1, by omega, hB5, (hk3.trans hk4).then hk5 fun j hj h => by obtain ⟨j3, o1, o2⟩ := ho3; rw [o1] at h; cases h; omega, by
          rcases ho5 with q | q
          · rw [q]; exact ho3
          · exact ⟨w4.heap.size, q, by omega⟩⟩, by omega⟩
      · refine W_no (by simp [hl3, hv3]; omega) ?_
        have : i = n - l.length := by omega
        subst this
        simp [hv3]
        exact ⟨hk3, hB3, ho3⟩
end Go.Proofs.YtmfgdbapankamaaGreat
namespace Go.Proofs.YtmfgdbapankamaaGreat
open Go.Eng
theorem u8_str {w : World} {g n c : Nat} {cs : Array Value} {fz : Nat × Nat} (h1 : w.heap[g]? = some (.cells cs 5 fz)) (h2 : n ≤ cs.size) (h3 : ∀ j, j < n → ∃ x : Int, cs[j]? = some (.int .u8 x)) : ∃ s, bstrv w (.slice (some ⟨g, 0, none⟩) n c) = some (.string s) := by
  obtain ⟨l, hl⟩ := bytesIn_any (cs.toList.take n) fun v hv => by
    obtain ⟨j, hj⟩ := List.mem_iff_getElem?.1 hv
    rw [List.getElem?_take] at hj
    split at hj
    · rename_i hjn
      obtain ⟨x, hx⟩ := h3 j hjn
      rw [Array.getElem?_toList, hx] at hj
      cases hj
      exact ⟨x, rfl⟩
    · cases hj
  refine ⟨⟨l.toArray⟩, ?_⟩
  have hr : wrow w g 0 n = some (cs.extract 0 n) := by rw [wrow_of h1 (by omega)]; simp
  have hx : (cs.extract 0 n).toList = cs.toList.take n := by simp
  simp only [bstrv, hr, Option.bind_some, hx, hl, Option.map_some]
section
variable {w0 w w' : World} {b : Nat} {ty ks : Int} {vs cap n : Nat} {L : Value} {xs : List Value}
theorem RefAt.nown (h : RefAt w0 w b ty ks vs cap L n xs) {q : Nat} {cs : Array Value} {T : TypeId} {fz : Nat × Nat} (hq : w.heap[q]? = some (.cells cs T fz)) (hT : T ≠ 86) : L.ownBlock ≠ some q := by
  intro e
  rcases h.row.2 with ⟨rfl, _⟩ | ⟨g, c, cur, rfl, _, h3, _⟩
  · simp [Value.ownBlock] at e
  · simp [Value.ownBlock] at e
    subst e
    exact heap_ne hq h3 hT rfl
theorem rnew_end {R : Eng.Env → World → Prop} {ks' : List It} {env : Eng.Env} {s1 s2 : ByteArray} (h : RefAt w0 w b ty ks vs cap L n xs) (hw : Kept none' w0 w) (e4 : env[4]? = some (.pointer (some ⟨b, 0, none⟩))) (e9 : env[9]? = some (.string s1)) (e11 : env[11]? = some L) (e14 : env[14]? = some (.string s2)) (h14 : env.length = 15) (hn : n + 1 ≤ 64)
    (hk : ∀ w' L' xs' y10 y12, RefAt w0 w' b ty ks vs cap L' (n + 1) xs' → Kept none' w0 w' → (∀ q, q < w.heap.size → q ≠ b → L.ownBlock ≠ some q → w'.heap[q]? = w.heap[q]?) → W Tryz.prog R ks' ((env.set 10 y10).set 12 y12) w') :
    W Tryz.prog R (.c (.chk [(.upd 1 1 (.upd 0 1 (.const (.agg #[(.string ⟨#[]⟩), (.string ⟨#[]⟩)])) (.var 9)) (.var 14))]) :: .c (.seq (.row (some 10) 86 1 (.upd 0 2 (.const (.agg #[(.string ⟨#[]⟩), (.string ⟨#[]⟩)])) (.upd 1 1 (.upd 0 1 (.const (.agg #[(.string ⟨#[]⟩), (.string ⟨#[]⟩)])) (.var 9)) (.var 14))) [(.ld none (.offp 4 (.nn (.var 4))))]) (.seq (.bi (some 12) .append [60, 60] 60 [(.var 11), (.var 10)] []) (.store 1 (.offp 4 (.nn (.var 4))) (.var 12) []))) :: ks') env w := by
  have hv := rowVar h.row
  have hsz := hw.size
  refine W_chkIn [.agg #[.string s1, .string s2]] (by simp [e9, e14]) ?_
  simp only [W_seq]
  refine W_row' (v := .agg #[.string s1, .string s2]) (cs := #[.string s1, .string s2]) (by simp [e9, e14]) rfl ?_
  have hrp := hp_new w (.cells #[.string s1, .string s2] 86)
  have hk7 : Kept none' w (w.alloc (.cells #[.string s1, .string s2] 86)) := (Kept.refl _ _).alloc _
  generalize hz : w.heap.size = rp at *
  generalize w.alloc (.cells #[.string s1, .string s2] 86) = w7 at *
  have h7 := h.calm hk7
  have hs7 := hk7.size
  have hk07 := hw.trans hk7
  try simp only [W_seq]
  refine app_W (va := L) (g := rp) (so := 0) (k := 1) (c := 1) (by have g11 := (List.getElem?_eq_some_iff.1 e11).2; simp [setO, g11, hv, List.getElem?_set, h14]) h7.row h7.strs (fun j hj => ?_) (by omega) (fun _ _ => stab_nil _ _ _) fun w8 v15 y15 r8 s8 k8 o8 => ?_
  · rw [Nat.zero_add, wcell_of hrp]
    have : j = 0 ∨ j = 1 := by omega
    rcases this with rfl | rfl
    · exact ⟨s1, rfl⟩
    · exact ⟨s2, rfl⟩
  · have h8b : w8.heap[b]? = _ := k8.has h7.blk fun e => h7.gne e rfl
    obtain ⟨w9, hs9, h9, k9⟩ := setL' (w0 := w0) h8b r8 s8 hn h7.low.1 h7.keys fun j hj => by
      rcases o8 with o | o
      · exact h7.low.2 j (o ▸ hj)
      · rw [o] at hj; cases hj; omega
    have hv15 := rowVar r8
    have c4 : (((env.set 10 (.slice (some ⟨rp, 0, none⟩) 1 1)).set 12 v15))[4]? = some (.pointer (some ⟨b, 0, none⟩)) := by rw [List.getElem?_set_ne (by omega), List.getElem?_set_ne (by omega)]; exact e4
    have c12 : (((env.set 10 (.slice (some ⟨rp, 0, none⟩) 1 1)).set 12 v15))[12]? = some v15 := List.getElem?_set_self (by rw [List.length_set]; omega)
    simp only [setO]
    refine W_store (by simp [c4]) (by simp [c12, hv15]) hs9 (stab_nil _ _ _) ?_
    refine hk w9 v15 _ _ _ h9 ((hk07.then k8 fun j hj e => by have := h7.low.2 j e; omega).then k9 fun j hj e => by have := h7.low.1; omega) fun q hq hqb hqL => ?_
    rw [k9.block q (by have := k8.size; omega) hqb, k8.block q (by omega) hqL, hk7.block q (by omega) fun h => h]
set_option maxHeartbeats 4000000 in
theorem fnew_ret (h : specOk ty ks vs cap) (w : World) : Ret Tryz.prog 9 [.agg (specV ty ks vs cap)] w fun v w' => Kept none' w w' ∧ ∃ b L n xs, v = .pointer (some ⟨b, 0, none⟩) ∧ RefAt w w' b ty ks vs cap L n xs := by
  refine ret_of_W Tryz.func9 rfl ok_tipstaffref09_New ?_
  have hs1 : 1 ≤ vs ∧ vs ≤ 64 := by unfold specOk at h; omega
  have hs2 : 1 ≤ cap ∧ cap ≤ 64 := by unfold specOk at h; omega
  have hs3 : ty = 5 → 5 ≤ ks ∧ ks ≤ 16 := by unfold specOk at h; omega
  simp only [c_tipstaffref09_New, W_seq]
  refine W_new' (v := .agg (specV ty ks vs cap)) (cs := specV ty ks vs cap) (by simp) rfl ?_
  have hb := hp_new w (.cells (specV ty ks vs cap) 43)
  have hk : Kept none' w (w.alloc (.cells (specV ty ks vs cap) 43)) := (Kept.refl _ _).alloc _
  have hz : (w.alloc (.cells (specV ty ks vs cap) 43)).heap.size = w.heap.size + 1 := by simp
  generalize w.alloc (.cells (specV ty ks vs cap) 43) = w1 at *
  generalize hsp : w.heap.size = sp at *
  have r4 : ∀ w', w'.heap[sp]? = some (.cells (specV ty ks vs cap) 43 (0, 0)) → wrow w' sp 0 4 = some (specV ty ks vs cap) := fun w' h' => wrow_box h' rfl
  simp only [W_set]
  refine ok_intro (.pointer none) (by simp) ?_
  try simp only [W_seq]
  refine W_chkIn [.agg #[.int .i64 ty, .int .i64 ks, .int .i64 vs, .int .i64 cap, .slice none 0 0, .bool false]] (by simp [r4 _ hb, specV]) ?_
  try simp only [W_seq]
  refine W_new' (v := .agg #[.int .i64 ty, .int .i64 ks, .int .i64 vs, .int .i64 cap, .slice none 0 0, .bool false]) (cs := #[.int .i64 ty, .int .i64 ks, .int .i64 vs, .int .i64 cap, .slice none 0 0, .bool false]) (by simp [r4 _ hb, specV]) rfl ?_
  have hm := hp_new w1 (.cells #[.int .i64 ty, .int .i64 ks, .int .i64 vs, .int .i64 cap, .slice none 0 0, .bool false] 62)
  have hb2 := hp_old hb (.cells #[.int .i64 ty, .int .i64 ks, .int .i64 vs, .int .i64 cap, .slice none 0 0, .bool false] 62)
  have hk2 := hk.alloc (.cells #[.int .i64 ty, .int .i64 ks, .int .i64 vs, .int .i64 cap, .slice none 0 0, .bool false] 62)
  generalize w1.alloc (.cells #[.int .i64 ty, .int .i64 ks, .int .i64 vs, .int .i64 cap, .slice none 0 0, .bool false] 62) = w2 at *
  generalize w1.heap.size = b at *
  have hR : RefAt w w2 b ty ks vs cap (.slice none 0 0) 0 [] := ⟨hm, row_nil _ _ _, by omega, by simp, ⟨by omega, fun g hg => by simp [Value.ownBlock] at hg⟩, hs3⟩
  simp
  refine W_loop (fun env w' => ∃ (i : Nat) (L : Value) (xs : List Value), env = [undef, undef, .pointer (some ⟨sp, 0, none⟩), undef, .pointer (some ⟨b, 0, none⟩), .int .i64 i, undef, undef, undef, undef, undef, undef, undef, undef, undef] ∧ i ≤ cap ∧ RefAt w w' b ty ks vs cap L i xs ∧ Kept none' w w' ∧ w'.heap[sp]? = some (.cells (specV ty ks vs cap) 43 (0, 0))) (fun env _ => cap - natAt env 5) ?_ ?_
  · exact ⟨0, _, _, by simp, by omega, hR, hk2, hb2⟩
  · rintro env w3 ⟨i, L, xs, rfl, hi, hR3, hk3, hb3⟩
    have c0 : wcell w3 sp 0 = some (.int .i64 ty) := by rw [wcell_of hb3]; rfl
    have c3 : wcell w3 sp 3 = some (.int .i64 cap) := by rw [wcell_of hb3]; rfl
    try simp only [W_seq]
    by_cases hgo : ty = 0 ∧ i < cap
    · have hlt : (i : Int) < cap := by omega
      refine W_yes (by simp [c0, c3, hgo.1, hlt]) ?_
      simp only [W_skip, W_seq, W_block, W_draw]
      have hR4 := hR3.calm (Kept.refl none' w3).drew
      have hk4 := hk3.drew
      have hb4 : w3.drew.heap[sp]? = _ := hb3
      generalize w3.drew = w4 at *
      have c4 := hR4.c4
      have hv4 := rowVar hR4.row
      have c2 : wcell w4 sp 2 = some (.int .i64 vs) := by rw [wcell_of hb4]; rfl
      simp only [W_set]
      refine ok_intro L (by simp [c4, hv4]) ?_
      try simp only [W_seq, W_set]
      refine ok_intro (.int .u8 (IntKind.u8.wrap i)) (by simp) ?_
      try simp only [W_seq, W_set]
      refine ok_intro (.int .i64 vs) (by simp [c2]) ?_
      try simp only [W_seq]
      rw [W_alt]
      have e2 : IntKind.i64.wrap ((i : Int) + 1) = ((i + 1 : Nat) : Int) := i64w (by omega) (by omega)
      have hbb : sp ≠ b := by omega
      refine ⟨?_, ?_⟩
      · rw [W_seq]
        refine W_row' (v := .agg #[.int .u8 (IntKind.u8.wrap i), .int .u8 0, .int .u8 0, .int .u8 0]) (cs := #[.int .u8 (IntKind.u8.wrap i), .int .u8 0, .int .u8 0, .int .u8 0]) (by simp; rfl) rfl ?_
        have hp5 := hp_new w4 (.cells #[.int .u8 (IntKind.u8.wrap i), .int .u8 0, .int .u8 0, .int .u8 0] 5)
        have hk5 : Kept none' w4 (w4.alloc (.cells #[.int .u8 (IntKind.u8.wrap i), .int .u8 0, .int .u8 0, .int .u8 0] 5)) := (Kept.refl _ _).alloc _
        generalize w4.alloc (.cells #[.int .u8 (IntKind.u8.wrap i), .int .u8 0, .int .u8 0, .int .u8 0] 5) = w5 at *
        obtain ⟨s1, hs1⟩ := u8_str (n := 4) (c := 4) hp5 (by simp) (fun j hj => by
          have : j = 0 ∨ j = 1 ∨ j = 2 ∨ j = 3 := by omega
          rcases this with rfl | rfl | rfl | rfl <;> exact ⟨_, rfl⟩)
        rw [W_seq]
        simp only [W_set]
        refine ok_intro (.string s1) (by simp [hs1]) ?_
        rw [W_seq]
        refine W_sem (vs := [.int .i64 vs, .int .i64 vs]) (by simp) (run_mkb vs (by omega) w5) (stab_alloc _ _ _ _) ?_
        have hp6 := hp_new w5 (.cells (madeCells #[.int .u8 0] vs) 5)
        have hk6 : Kept none' w5 (w5.alloc (.cells (madeCells #[.int .u8 0] vs) 5)) := (Kept.refl _ _).alloc _
        generalize w5.alloc (.cells (madeCells #[.int .u8 0] vs) 5) = w6 at *
        obtain ⟨s2, hs2⟩ := u8_str (n := vs) (c := vs) hp6 (by rw [size_madeCells]; exact Nat.le_refl _) (fun j hj => ⟨0, made_get vs j hj⟩)
        rw [W_seq]
        simp only [W_set]
        refine ok_intro (.string s2) (by simp [hs2]) ?_
        rw [W_seq]
        have hk46 := hk5.trans hk6
        have hb6 := hk46.has hb4 fun h => h
        refine rnew_end (hR4.calm hk46) (hk4.trans hk46) rfl rfl rfl rfl (by simp) (by omega) fun w' L' xs' y10 y12 hR' hk' hq => ?_
        simp [e2]
        exact ⟨⟨i + 1, by simp, by omega, ⟨L', xs', hR'⟩, hk', (hq sp (blk_lt hb6) hbb ((hR4.calm hk46).nown hb6 (by decide))).trans hb6⟩, by simp [natAt]; omega⟩
      · rw [W_seq]
        refine W_sem (vs := [.int .i64 vs, .int .i64 vs]) (by simp) (run_mkb vs (by omega) w4) (stab_alloc _ _ _ _) ?_
        have hp6 := hp_new w4 (.cells (madeCells #[.int .u8 0] vs) 5)
        have hk6 : Kept none' w4 (w4.alloc (.cells (madeCells #[.int .u8 0] vs) 5)) := (Kept.refl _ _).alloc _
        generalize w4.alloc (.cells (madeCells #[.int .u8 0] vs) 5) = w5 at *
        obtain ⟨s2, hs2⟩ := u8_str (n := vs) (c := vs) hp6 (by rw [size_madeCells]; exact Nat.le_refl _) (fun j hj => ⟨0, made_get vs j hj⟩)
        rw [W_seq]
        simp only [W_set]
        refine ok_intro (.string s2) (by simp [hs2]) ?_
        rw [W_seq]
        refine W_row' (v := .agg #[.int .u8 (IntKind.u8.wrap i), .int .u8 0, .int .u8 0, .int .u8 0]) (cs := #[.int .u8 (IntKind.u8.wrap i), .int .u8 0, .int .u8 0, .int .u8 0]) (by simp; rfl) rfl ?_
        have hp5 := hp_new w5 (.cells #[.int .u8 (IntKind.u8.wrap i), .int .u8 0, .int .u8 0, .int .u8 0] 5)
        have hk5 : Kept none' w5 (w5.alloc (.cells #[.int .u8 (IntKind.u8.wrap i), .int .u8 0, .int .u8 0, .int .u8 0] 5)) := (Kept.refl _ _).alloc _
        generalize w5.alloc (.cells #[.int .u8 (IntKind.u8.wrap i), .int .u8 0, .int .u8 0, .int .u8 0] 5) = w6 at *
        obtain ⟨s1, hs1⟩ := u8_str (n := 4) (c := 4) hp5 (by simp) (fun j hj => by
          have : j = 0 ∨ j = 1 ∨ j = 2 ∨ j = 3 := by omega
          rcases this with rfl | rfl | rfl | rfl <;> exact ⟨_, rfl⟩)
        rw [W_seq]
        simp only [W_set]
        refine ok_intro (.string s1) (by simp [hs1]) ?_
        rw [W_seq]
        have hk46 := hk6.trans hk5
        have hb6 := hk46.has hb4 fun h => h
        refine rnew_end (hR4.calm hk46) (hk4.trans hk46) rfl rfl rfl rfl (by simp) (by omega) fun w' L' xs' y10 y12 hR' hk' hq => ?_
        simp [e2]
        exact ⟨⟨i + 1, by simp, by omega, ⟨L', xs', hR'⟩, hk', (hq sp (blk_lt hb6) hbb ((hR4.calm hk46).nown hb6 (by decide))).trans hb6⟩, by simp [natAt]; omega⟩
    · refine W_no ?_ ?_
      · by_cases t0 : ty = 0
        · have : ¬ (i : Int) < cap := by omega
          simp [c0, c3, t0, this]
        · simp [c0, t0]
      simp
      exact ⟨hk3, L, i, xs, hR3⟩
end
end Go.Proofs.YtmfgdbapankamaaGreat
namespace Go.Proofs.YtmfgdbapankamaaGreat
open Go.Eng
structure Spec4 where
  ty : Int
  ks : Int
  vs : Int
  cap : Int
def Spec4.val (s : Spec4) : Value := .agg (specV s.ty s.ks s.vs s.cap)
def Spec4.ok (s : Spec4) : Prop := specOk s.ty s.ks s.vs s.cap
instance (s : Spec4) : Decidable s.ok := by unfold Spec4.ok; infer_instance
def newX (s : Spec4) (n : Nat) : XMap := if s.ty = 0 then ⟨0, 4, s.vs.toNat, s.cap, (List.range s.cap.toNat).map fun j => ⟨key4 (lit4 j), n + j, 0⟩, false, 0⟩ else ⟨s.ty, s.ks, s.vs.toNat, s.cap, [], false, 0⟩
def newC (s : Spec4) (i : Nat) : List XCell := if s.ty = 0 then List.replicate s.cap.toNat ⟨i, fun _ => 0⟩ else []
theorem newX_ok {s : Spec4} (h : s.ok) (n : Nat) : AOk (newX s n) := by
  have hs := h
  unfold Spec4.ok at hs
  have hv : ((s.vs.toNat : Nat) : Int) = s.vs := by unfold specOk at hs; omega
  have hc : ((s.cap.toNat : Nat) : Int) = s.cap := by unfold specOk at hs; omega
  have hc64 : s.cap ≤ 64 := by unfold specOk at hs; omega
  unfold newX
  by_cases h0 : s.ty = 0
  · rw [if_pos h0]
    refine ⟨?_, by simp; omega, fun _ => ?_, fun h => by simp at h, ?_, fun h => by simp at h, by simp⟩
    · show specOk 0 4 ((s.vs.toNat : Nat) : Int) s.cap
      rw [hv]
      unfold specOk at hs ⊢
      omega
    · rw [List.pairwise_map]
      refine (List.pairwise_lt_range (n := s.cap.toNat)).imp_of_mem fun {a b} ha hb hab => ?_
      intro e
      have ha' := List.mem_range.1 ha
      have hb' := List.mem_range.1 hb
      have hl : ∀ m, m < 64 → ∀ j, lit4 m j ≤ 255 := fun m hm j => by unfold lit4; split <;> omega
      have := (key4_inj (hl a (by omega)) (hl b (by omega)) e).1
      simp [lit4] at this
      omega
    · intro e he
      simp only [List.mem_map] at he
      obtain ⟨j, _, rfl⟩ := he
      exact Int.le_refl _
  · rw [if_neg h0]
    refine ⟨?_, by simp; unfold specOk at hs; omega, fun _ => List.Pairwise.nil, fun _ => List.Pairwise.nil, fun e he => by simp at he, fun _ e he => by simp at he, by simp⟩
    show specOk s.ty s.ks ((s.vs.toNat : Nat) : Int) s.cap
    rw [hv]
    exact hs
theorem newX_clock (s : Spec4) (n : Nat) : (newX s n).clock = 0 := by unfold newX; split <;> rfl
theorem newC_slot (s : Spec4) (i : Nat) : ∀ c ∈ newC s i, c.slot = i := by
  intro c hc
  unfold newC at hc
  split at hc
  · rw [(List.mem_replicate.1 hc).2]
  · simp at hc
def NewQ (w : World) (N : Names) (ms : List XMap) (cs : List XCell) (s : Spec4) (v : Value) (w' : World) : Prop :=
  Kept none' w w' ∧ ∃ b N', v = .tuple #[.pointer (some ⟨b, 0, none⟩), .int .i64 0] ∧ Placed w' N' (ms ++ [newX s cs.length]) (cs ++ newC s ms.length) ∧ N'.mm.map (·.1) = N.mm.map (·.1) ++ [b] ∧ ∀ j, N'.own (cs ++ newC s ms.length).length j → N.own cs.length j ∨ w.heap.size ≤ j
theorem newP_ret {w : World} {N : Names} {ms : List XMap} {cs : List XCell} (h : Placed w N ms cs) {s : Spec4} (hs : s.ok) : Ret Tryz.prog 8 [s.val] w (NewQ w N ms cs s) := by
  have hs' := hs
  unfold Spec4.ok at hs'
  have hv : ((s.vs.toNat : Nat) : Int) = s.vs := by unfold specOk at hs'; omega
  have hc : ((s.cap.toNat : Nat) : Int) = s.cap := by unfold specOk at hs'; omega
  by_cases h0 : s.ty = 0
  · have hk4 : s.ks = 4 := by unfold specOk at hs'; omega
    have hr := newarr_ret s.vs.toNat s.cap.toNat w (by unfold specOk at hs'; omega) (by unfold specOk at hs'; omega)
    rw [hv, hc] at hr
    have hval : s.val = .agg #[.int .i64 0, .int .i64 4, .int .i64 s.vs, .int .i64 s.cap] := by unfold Spec4.val specV; rw [h0, hk4]
    rw [hval]
    refine hr.mono fun v w' hv' => ?_
    obtain ⟨b, M, rfl, hA⟩ := hv'
    obtain ⟨g1, g2⟩ := h.add hA.mp.kept hA.mp.map hA.mp.low
    have e1 : absM M cs.length = newX s cs.length := by
      unfold absM newX
      rw [if_pos h0, hA.ty, hA.ks, hA.vs, hA.cap, hA.fr, hA.clock, hc]
      congr 1
      apply List.ext_getElem?
      intro j
      rw [List.getElem?_mapIdx, List.getElem?_map]
      by_cases hj : j < s.cap.toNat
      · have hjl : j < M.l.length := by rw [hA.len]; exact hj
        rw [List.getElem?_range hj, List.getElem?_eq_getElem hjl]
        obtain ⟨k1, k2⟩ := hA.ent j _ (List.getElem?_eq_getElem hjl)
        have k3 := hA.zero _ (List.getElem_mem hjl)
        simp [k1, k3]
      · rw [List.getElem?_eq_none (by rw [hA.len]; omega), List.getElem?_eq_none (by simp; omega)]
        rfl
    have e2 : absC M ms.length = newC s ms.length := by
      unfold absC newC
      rw [if_pos h0]
      apply List.ext_getElem?
      intro j
      rw [List.getElem?_map, List.getElem?_replicate]
      by_cases hj : j < s.cap.toNat
      · have hjl : j < M.l.length := by rw [hA.len]; exact hj
        rw [if_pos hj, List.getElem?_eq_getElem hjl]
        obtain ⟨k1, k2⟩ := hA.ent j _ (List.getElem?_eq_getElem hjl)
        simp [k2]
      · rw [if_neg hj, List.getElem?_eq_none (by rw [hA.len]; omega)]
        rfl
    rw [e1, e2] at g1
    rw [e2] at g2
    exact ⟨hA.mp.kept, b, _, rfl, g1, by simp [Names.add], g2⟩
  · have hr := newmap_ret s.ty s.ks s.vs.toNat s.cap w (by rw [hv]; exact hs') h0
    rw [hv] at hr
    refine hr.mono fun v w' hv' => ?_
    obtain ⟨b, rfl, hb, hk, hm⟩ := hv'
    obtain ⟨g1, g2⟩ := h.add hk hm (fun j hj => by
      rcases hj with rfl | hj | ⟨e, he, _⟩
      · exact hb
      · simp [newM, Value.ownBlock] at hj
      · simp [newM] at he)
    have e1 : absM (newM s.ty s.ks s.vs.toNat s.cap) cs.length = newX s cs.length := by
      unfold absM newX newM
      rw [if_neg h0]
      rfl
    have e2 : absC (newM s.ty s.ks s.vs.toNat s.cap) ms.length = newC s ms.length := by
      unfold absC newC newM
      rw [if_neg h0]
      rfl
    rw [e1, e2] at g1
    rw [e2] at g2
    exact ⟨hk, b, _, rfl, g1, by simp [Names.add], g2⟩
def frzX (A : XMap) : XMap := { A with frozen := true }
theorem frzX_ok {A : XMap} (h : AOk A) : AOk (frzX A) := ⟨h.spec, h.len, h.keys, h.used, h.le, h.size, h.pos⟩
theorem pfreeze_ret {w : World} {N : Names} {ms : List XMap} {cs : List XCell} {i b : Nat} {A : XMap} {M : BMap} (h : Placed w N ms cs) (hA : ms[i]? = some A) (hq : N.mm[i]? = some (b, M)) (hf : A.frozen = false) :
    Ret Tryz.prog 15 [.pointer (some ⟨b, 0, none⟩)] w fun _ w' => OutP w N cs (ms.set i (frzX A)) cs w' := by
  obtain ⟨hm, hl⟩ := h.low hA hq
  refine (freeze_ret b M w hm (by rw [hl.frozen]; exact hf)).mono fun v w' hv => ?_
  obtain ⟨_, hk, hm'⟩ := hv
  have hown : ∀ j, j = b → N.own cs.length j := fun j hj => h.own_map hq (.inl hj)
  have hs := h.step (A' := frzX A) (M' := { M with frozen := true }) (cb' := N.cb) (vb' := N.vb) (cs' := cs) hA hq hk (fun j hj e => .inl e) hm'
    ⟨hl.ty, hl.ks, hl.vs, hl.cap, rfl, hl.clock, hl.len, hl.ent⟩ rfl (fun _ _ => rfl) (fun _ _ => rfl) (fun c x hx => ⟨x, hx, rfl, fun _ => rfl⟩)
    (fun c x hx => ⟨(h.cell c x hx).1, (h.cell c x hx).2.keep hk (fun e => heap_ne (h.cell c x hx).2.cblk.choose_spec hm.blk (by decide) e) (fun e => heap_ne (h.cell c x hx).2.vblk.choose_spec hm.blk (by decide) e)⟩) h.icb h.ivb (.inl rfl) (fun e he => .inl ⟨e, he, rfl⟩)
  refine ⟨_, hs, ⟨fun _ _ => rfl, fun _ _ => rfl, ?_, fun j hj => .inl ?_, Nat.le_refl _⟩, hk.mono fun j _ hj => hown j hj⟩
  · show (N.mm.set i (b, _)).map (·.1) = _
    rw [List.map_set]
    exact set_self (by rw [List.getElem?_map, hq]; rfl)
  · rcases hj with ⟨q, hq', hj⟩ | hj
    · rcases mem_set_or hq' with rfl | hq'
      · exact .inl ⟨_, List.mem_of_getElem? hq, hj⟩
      · exact .inl ⟨q, hq', hj⟩
    · exact .inr hj
end Go.Proofs.YtmfgdbapankamaaGreat
namespace Go.Proofs.YtmfgdbapankamaaGreat
open Go.Eng
structure PutI where
  map : Int
  key : List Nat
  value : List Nat
def fixS (s : Spec4) : Spec4 := if s.ok then s else ⟨1, 1, 8, 2⟩
theorem fixS_ok (s : Spec4) : (fixS s).ok := by
  unfold fixS
  split
  · assumption
  · show specOk 1 1 8 2
    unfold specOk
    omega
noncomputable def putOne (s : Spec4) (i : Nat) (q : XMap × List XCell) (p : PutI) : XMap × List XCell :=
  if p.map = (i : Nat) then (pushX (updX q.1 q.2 i (bs (fitL p.key s.ks.toNat)) (byteF (fitL p.value s.vs.toNat)) 0).2.1 (updX q.1 q.2 i (bs (fitL p.key s.ks.toNat)) (byteF (fitL p.value s.vs.toNat)) 0).2.2 i (byteF (fitL p.value s.vs.toNat)) 0).2
  else q
noncomputable def putsX (s : Spec4) (i : Nat) (puts : List PutI) (q : XMap × List XCell) : XMap × List XCell := puts.foldl (putOne s i) q
def frzBit (frz : Int) (i : Nat) : Bool := decide (bitAnd .i64 (frz.fdiv (2 ^ (min i 64))) 1 = 1)
noncomputable def mapOne (s : Spec4) (puts : List PutI) (frz : Int) (q : List XMap × List XCell) : List XMap × List XCell :=
  (q.1 ++ [if frzBit frz q.1.length = true then frzX (putsX (fixS s) q.1.length (puts.take 12) (newX (fixS s) q.2.length, q.2 ++ newC (fixS s) q.1.length)).1 else (putsX (fixS s) q.1.length (puts.take 12) (newX (fixS s) q.2.length, q.2 ++ newC (fixS s) q.1.length)).1],
    (putsX (fixS s) q.1.length (puts.take 12) (newX (fixS s) q.2.length, q.2 ++ newC (fixS s) q.1.length)).2)
noncomputable def caseX (specs : List Spec4) (puts : List PutI) (frz : Int) : List XMap × List XCell := (specs.take 4).foldl (fun q s => mapOne s puts frz q) ([], [])
theorem upd_vs (A : XMap) (cs : List XCell) (slot : Nat) (k : ByteArray) (x : Nat → Int) (fl : Int) : (updX A cs slot k x fl).2.1.vs = A.vs ∧ (updX A cs slot k x fl).2.1.frozen = A.frozen ∧ (updX A cs slot k x fl).2.1.ty = A.ty := by
  unfold updX
  repeat' split
  all_goals exact ⟨rfl, rfl, rfl⟩
theorem push_vs (A : XMap) (cs : List XCell) (slot : Nat) (x : Nat → Int) (fl : Int) : (pushX A cs slot x fl).2.1.vs = A.vs ∧ (pushX A cs slot x fl).2.1.frozen = A.frozen ∧ (pushX A cs slot x fl).2.1.ty = A.ty := by
  unfold pushX
  repeat' split
  all_goals exact ⟨rfl, rfl, rfl⟩
structure Filled (s : Spec4) (i n : Nat) (q : XMap × List XCell) : Prop where
  ok : AOk q.1
  vs : q.1.vs = s.vs.toNat
  fr : q.1.frozen = false
  clock : q.1.clock ≤ (n : Int)
  slots : ∀ c ∈ q.2, c.slot < i + 1
theorem Filled.upd {s : Spec4} {i n : Nat} {q : XMap × List XCell} (h : Filled s i n q) (k : ByteArray) (x : Nat → Int) : Filled s i (n + 1) ((updX q.1 q.2 i k x 0).2) := by
  obtain ⟨h1, h2, h3⟩ := upd_vs q.1 q.2 i k x 0
  have := clk_upd q.1 q.2 i k x 0
  have := h.clock
  exact ⟨h.ok.upd _ _ _ _ _, h1.trans h.vs, h2.trans h.fr, by omega, slot_upd h.slots _ (by omega) _ _ _⟩
theorem Filled.push {s : Spec4} {i n : Nat} {q : XMap × List XCell} (h : Filled s i n q) (x : Nat → Int) : Filled s i (n + 1) ((pushX q.1 q.2 i x 0).2) := by
  obtain ⟨h1, h2, h3⟩ := push_vs q.1 q.2 i x 0
  have := clk_push q.1 q.2 i x 0
  have := h.clock
  exact ⟨h.ok.push _ _ _ _, h1.trans h.vs, h2.trans h.fr, by omega, slot_push h.slots _ (by omega) _ _⟩
theorem Filled.more {s : Spec4} {i n : Nat} {q : XMap × List XCell} (h : Filled s i n q) : Filled s i (n + 2) q := ⟨h.ok, h.vs, h.fr, by have := h.clock; omega, h.slots⟩
theorem Filled.put {s : Spec4} {i n : Nat} {q : XMap × List XCell} (h : Filled s i n q) (p : PutI) : Filled s i (n + 2) (putOne s i q p) := by
  unfold putOne
  split
  · exact (h.upd _ _).push _
  · exact h.more
theorem Filled.new {s : Spec4} (h : s.ok) {i : Nat} {cs : List XCell} (hcs : ∀ c ∈ cs, c.slot < i) : Filled s i 0 (newX s cs.length, cs ++ newC s i) := by
  refine ⟨newX_ok h _, ?_, ?_, by rw [newX_clock]; exact Int.le_refl _, fun c hc => ?_⟩
  · show (newX s cs.length).vs = _
    unfold newX; split <;> rfl
  · show (newX s cs.length).frozen = _
    unfold newX; split <;> rfl
  · rcases List.mem_append.1 hc with hc | hc
    · have := hcs c hc; omega
    · have := newC_slot s i c hc; omega
theorem Filled.puts {s : Spec4} {i : Nat} : ∀ (l : List PutI) {n : Nat} {q : XMap × List XCell}, Filled s i n q → Filled s i (n + 2 * l.length) (putsX s i l q)
  | [], _, _, h => h
  | p :: l, n, q, h => by
    have := Filled.puts l (h.put p)
    rw [show n + 2 * (p :: l).length = n + 2 + 2 * l.length by simp; omega]
    exact this
theorem puts_take {s : Spec4} {i j : Nat} {l : List PutI} {p : PutI} (h : l[j]? = some p) (q : XMap × List XCell) : putsX s i (l.take (j + 1)) q = putOne s i (putsX s i (l.take j) q) p := by
  unfold putsX
  rw [List.take_add_one, h, List.foldl_append]
  rfl
structure Maps (q : List XMap × List XCell) : Prop where
  ok : ∀ A ∈ q.1, AOk A
  clock : ∀ A ∈ q.1, A.clock ≤ 100
  slots : ∀ c ∈ q.2, c.slot < q.1.length
theorem Maps.nil : Maps ([], []) := ⟨fun A h => by simp at h, fun A h => by simp at h, fun c h => by simp at h⟩
theorem Maps.filled {q : List XMap × List XCell} (h : Maps q) (s : Spec4) (puts : List PutI) (hp : puts.length ≤ 12) : Filled (fixS s) q.1.length (2 * puts.length) (putsX (fixS s) q.1.length puts (newX (fixS s) q.2.length, q.2 ++ newC (fixS s) q.1.length)) := by
  have := Filled.puts puts (Filled.new (fixS_ok s) h.slots)
  rwa [Nat.zero_add] at this
theorem Maps.one {q : List XMap × List XCell} (h : Maps q) (s : Spec4) (puts : List PutI) (frz : Int) : Maps (mapOne s puts frz q) := by
  have hl : (puts.take 12).length ≤ 12 := by rw [List.length_take]; omega
  have hf := h.filled s (puts.take 12) hl
  unfold mapOne
  generalize putsX (fixS s) q.1.length (puts.take 12) (newX (fixS s) q.2.length, q.2 ++ newC (fixS s) q.1.length) = u at *
  have hc := hf.clock
  refine ⟨fun A hA => ?_, fun A hA => ?_, fun c hc => ?_⟩
  · rcases List.mem_append.1 hA with hA | hA
    · exact h.ok A hA
    · cases List.mem_singleton.1 hA
      split
      · exact frzX_ok hf.ok
      · exact hf.ok
  · rcases List.mem_append.1 hA with hA | hA
    · exact h.clock A hA
    · cases List.mem_singleton.1 hA
      split
      · show u.1.clock ≤ 100
        omega
      · omega
  · have := hf.slots c hc
    simpa using this
theorem one_len (s : Spec4) (puts : List PutI) (frz : Int) (q : List XMap × List XCell) : (mapOne s puts frz q).1.length = q.1.length + 1 := by simp [mapOne]
theorem case_take {specs : List Spec4} {puts : List PutI} {frz : Int} {i : Nat} {s : Spec4} (h : specs[i]? = some s) : ((specs.take (i + 1)).foldl (fun q s => mapOne s puts frz q) ([], [])) = mapOne s puts frz ((specs.take i).foldl (fun q s => mapOne s puts frz q) ([], [])) := by
  rw [List.take_add_one, h, List.foldl_append]
  rfl
theorem case_maps (specs : List Spec4) (puts : List PutI) (frz : Int) : ∀ i, i ≤ specs.length → Maps ((specs.take i).foldl (fun q s => mapOne s puts frz q) ([], [])) ∧ ((specs.take i).foldl (fun q s => mapOne s puts frz q) ([], [])).1.length = i
  | 0, _ => ⟨Maps.nil, rfl⟩
  | i + 1, hi => by
    obtain ⟨h1, h2⟩ := case_maps specs puts frz i (by omega)
    rw [case_take (List.getElem?_eq_getElem (show i < specs.length by omega))]
    exact ⟨h1.one _ _ _, by rw [one_len, h2]⟩
def Tame (w : World) (j : Nat) : Prop := ∃ cs T, w.heap[j]? = some (.cells cs T (0, 0)) ∧ (T = 78 ∨ T = 79 ∨ T = 84 ∨ T = 82 ∨ T = 5 ∨ T = 62 ∨ T = 86)
theorem Placed.tame {w : World} {N : Names} {ms : List XMap} {cs : List XCell} (h : Placed w N ms cs) {j : Nat} (hj : N.own cs.length j) : Tame w j := by
  obtain ⟨c, T, h1, h2⟩ := h.own_ty hj
  exact ⟨c, T, h1, by rcases h2 with h | h | h | h | h <;> simp [h]⟩
theorem RefAt.tame {w0 w : World} {b : Nat} {ty ks : Int} {vs cap n : Nat} {L : Value} {xs : List Value} (h : RefAt w0 w b ty ks vs cap L n xs) {j : Nat} (hj : j = b ∨ L.ownBlock = some j) : Tame w j := by
  rcases hj with rfl | hj
  · exact ⟨_, _, h.blk, by simp⟩
  · rcases h.row.2 with ⟨rfl, _⟩ | ⟨g, c, cur, rfl, _, h3, _⟩
    · simp [Value.ownBlock] at hj
    · simp [Value.ownBlock] at hj
      subst hj
      exact ⟨_, _, h3, by simp⟩
theorem Tame.ne {w : World} {j : Nat} (h : Tame w j) {q : Nat} {cs : Array Value} {T : TypeId} {fz : Nat × Nat} (hq : w.heap[q]? = some (.cells cs T fz)) (hT : T ≠ 78 ∧ T ≠ 79 ∧ T ≠ 84 ∧ T ≠ 82 ∧ T ≠ 5 ∧ T ≠ 62 ∧ T ≠ 86) : q ≠ j := by
  obtain ⟨c, T', h1, h2⟩ := h
  refine heap_ne hq h1 ?_
  obtain ⟨t1, t2, t3, t4, t5, t6, t7⟩ := hT
  rcases h2 with rfl | rfl | rfl | rfl | rfl | rfl | rfl <;> assumption
theorem rowBlk {T : TypeId} {k : Nat} {w : World} {v : Value} {n : Nat} {xs : List Value} (h : Eng.Row T k w v n xs) {g : Nat} (hg : v.ownBlock = some g) : ∃ cs, w.heap[g]? = some (.cells cs T (0, 0)) := by
  rcases h.2 with ⟨rfl, _⟩ | ⟨g', c, cur, rfl, _, h3, _⟩
  · simp [Value.ownBlock] at hg
  · simp [Value.ownBlock] at hg
    subst hg
    exact ⟨_, h3⟩
structure Rest (w w' : World) (bx : Nat) (cs : Array Value) (v4 v5 : Value) (i : Nat) (bl : List Nat) : Prop where
  kept : Kept none' w w'
  box : w'.heap[bx]? = some (.cells cs 29 (0, 0))
  r4 : Eng.Row 45 1 w' v4 i (bl.map fun b => .pointer (some ⟨b, 0, none⟩))
  r5 : ∃ ys, Eng.Row 49 1 w' v5 i ys
  o4 : ∀ j, v4.ownBlock = some j → w.heap.size ≤ j
  o5 : ∀ j, v5.ownBlock = some j → w.heap.size ≤ j
theorem Rest.step {w w1 w2 : World} {bx : Nat} {cs : Array Value} {v4 v5 : Value} {i : Nat} {bl : List Nat} (h : Rest w w1 bx cs v4 v5 i bl) {S : Nat → Prop} (hk : Kept S w1 w2) (hS : ∀ j, S j → w.heap.size ≤ j ∧ Tame w1 j) : Rest w w2 bx cs v4 v5 i bl := by
  obtain ⟨ys, h5⟩ := h.r5
  refine ⟨h.kept.then hk fun j hj e => by have := (hS j e).1; omega, hk.has h.box fun e => (hS _ e).2.ne h.box (by decide) rfl, rowKeep h.r4 hk fun j hj e => ?_, ⟨ys, rowKeep h5 hk fun j hj e => ?_⟩, h.o4, h.o5⟩
  · obtain ⟨c, hc⟩ := rowBlk h.r4 hj
    exact (hS _ e).2.ne hc (by decide) rfl
  · obtain ⟨c, hc⟩ := rowBlk h5 hj
    exact (hS _ e).2.ne hc (by decide) rfl
theorem Rest.calm {w w1 w2 : World} {bx : Nat} {cs : Array Value} {v4 v5 : Value} {i : Nat} {bl : List Nat} (h : Rest w w1 bx cs v4 v5 i bl) (hk : Kept none' w1 w2) : Rest w w2 bx cs v4 v5 i bl := h.step hk fun _ h => h.elim
end Go.Proofs.YtmfgdbapankamaaGreat
