/- RegionStacks: the walk. -/
import Derived.Test.YtihaopoehhnbkaaRegV4
set_option linter.unusedSimpArgs false
set_option linter.unusedVariables false
set_option maxRecDepth 8000
namespace Go.Proofs.Ytihaopoehhnbkaa
open Go.Eng

/-- A row of calls, as it may be given. -/
def Acts (w : World) (v : Value) : Prop := ∃ (a : Option Addr) (n c : Nat), v = .slice a n c ∧ (n = 0 ∨ ∃ rb ro, a = some ⟨rb, ro, none⟩ ∧ ∀ i, i < n → ∃ (t N o z X : Int) (B : Value),
  wrow w rb (ro + i * 6) 6 = some #[.int .i64 t, .int .i64 N, .int .i64 o, .int .i64 z, .int .u64 X, B] ∧ (-9223372036854775808 ≤ N ∧ N ≤ 9223372036854775807) ∧ 0 ≤ X ∧ Bts w B)

theorem stk_zero : (Value.agg #[.int .i64 0, .int .u8 0, .int .i64 0, .int .u8 0, .int .i64 0, .int .u8 0, .int .i64 0, .int .u8 0, .int .i64 0, .int .u8 0, .int .i64 0, .int .u8 0, .int .i64 0, .int .u8 0, .int .i64 0, .int .u8 0, .int .i64 0, .int .u8 0, .int .i64 0, .int .u8 0, .int .i64 0, .int .u8 0, .int .i64 0, .int .u8 0, .int .i64 0, .int .u8 0, .int .i64 0, .int .u8 0, .int .i64 0, .int .u8 0, .int .i64 0, .int .u8 0, .int .i64 0, .int .u8 0, .int .i64 0, .int .u8 0, .int .i64 0, .int .u8 0, .int .i64 0, .int .u8 0, .int .i64 0, .int .u8 0, .int .i64 0, .int .u8 0, .int .i64 0, .int .u8 0, .int .i64 0, .int .u8 0, .int .i64 0, .int .u8 0, .int .i64 0, .int .u8 0, .int .i64 0, .int .u8 0, .int .i64 0, .int .u8 0, .int .i64 0, .int .u8 0, .int .i64 0, .int .u8 0, .int .i64 0, .int .u8 0, .int .i64 0, .int .u8 0, .int .i64 0, .int .u8 0, .int .i64 0, .int .u8 0, .int .i64 0, .int .u8 0, .int .i64 0, .int .u8 0, .int .i64 0, .int .u8 0, .int .i64 0, .int .u8 0, .int .i64 0, .int .u8 0, .int .i64 0, .int .u8 0, .int .i64 0, .int .u8 0, .int .i64 0, .int .u8 0, .int .i64 0, .int .u8 0, .int .i64 0, .int .u8 0, .int .i64 0, .int .u8 0, .int .i64 0, .int .u8 0, .int .i64 0, .int .u8 0, .int .i64 0, .int .u8 0, .int .i64 0, .int .u8 0, .int .i64 0, .int .u8 0, .int .i64 0, .int .u8 0, .int .i64 0, .int .u8 0, .int .i64 0, .int .u8 0, .int .i64 0, .int .u8 0, .int .i64 0, .int .u8 0, .int .i64 0, .int .u8 0, .int .i64 0, .int .u8 0, .int .i64 0, .int .u8 0, .int .i64 0, .int .u8 0, .int .i64 0, .int .u8 0, .int .i64 0, .int .u8 0, .int .i64 0, .int .u8 0, .int .i64 0, .int .u8 0, .int .i64 0, .int .u8 0, .int .i64 0, .int .i64 0, .int .i64 0, .int .i64 0, .int .i64 0, .int .i64 0, .int .i64 0, .int .i64 0]) = .agg SMem.fresh.cells := by kernel_rfl

theorem wrow_kept {S : Nat → Prop} {w w' : World} {b off n : Nat} {r : Array Value} (hk : Kept S w w') (hs : ¬ S b) (h : wrow w b off n = some r) : wrow w' b off n = some r := by
  unfold wrow at h ⊢
  cases hb : w.heap[b]? with
  | none => rw [hb] at h; cases h
  | some o => rw [hk.has hb hs]; rw [hb] at h; exact h
theorem setRow_full (cs r : Array Value) (h : cs.size = r.size) : setRow cs 0 r.toList = r := by
  apply Array.ext_getElem?
  intro j
  rw [setRow_get _ _ _ _ (by simp; omega)]
  by_cases hj : j < r.size
  · rw [if_pos (by simp; omega)]; simp
  · rw [if_neg (by simp; omega)]
    have e1 : cs[j]? = none := by simp; omega
    have e2 : r[j]? = none := by simp; omega
    rw [e1, e2]
theorem store_new {w : World} {T : TypeId} (cs r : Array Value) (h : cs.size = r.size) (h1 : r.all (·.oneCell') = true) :
    stv (w.alloc (.cells cs T)) r.size (.pointer (some ⟨w.heap.size, 0, none⟩)) (.agg r) = some (put (w.alloc (.cells cs T)) w.heap.size (.cells r T (0, 0))) := by
  rw [stv_of (n := r.size) (v := .agg r) (hp_new w _) rfl (by omega) (.inl (by simp)) h1]
  simp only [cells_agg]
  rw [setRow_full cs r h]
theorem new_fact (w : World) (cs r : Array Value) (T : TypeId) : (put (w.alloc (.cells cs T)) w.heap.size (.cells r T (0, 0))).heap[w.heap.size]? = some (.cells r T (0, 0)) ∧
    Kept none' w (put (w.alloc (.cells cs T)) w.heap.size (.cells r T (0, 0))) ∧ (put (w.alloc (.cells cs T)) w.heap.size (.cells r T (0, 0))).heap.size = w.heap.size + 1 :=
  ⟨put_same (by simp), ((Kept.refl _ _).alloc _).put (fun h => absurd h (by omega)) _, by simp⟩
theorem tmod_bound (x d : Int) (hd : 0 < d) : -d < x.tmod d ∧ x.tmod d < d := by
  by_cases h : 0 ≤ x
  · rw [Int.tmod_eq_emod_of_nonneg h]
    have h1 := Int.emod_nonneg x (Int.ne_of_gt hd)
    have h2 := Int.emod_lt_of_pos x hd
    omega
  · have e : x.tmod d = -((-x).tmod d) := by rw [Int.neg_tmod]; omega
    rw [e, Int.tmod_eq_emod_of_nonneg (by omega)]
    have h1 := Int.emod_nonneg (-x) (Int.ne_of_gt hd)
    have h2 := Int.emod_lt_of_pos (-x) hd
    omega
theorem maskFrom_none (ks : List Nat) : ∀ (t : Env) (i : Nat), (∀ k ∈ ks, k < i) → maskFrom ks i t = List.replicate t.length undef
  | [], i, h => rfl
  | v :: r, i, h => by
    rw [maskFrom_cons, maskFrom_none ks r (i + 1) (fun k hk => Nat.lt_succ_of_lt (h k hk))]
    have : ks.contains i = false := by
      rw [List.contains_eq_any_beq, List.any_eq_false]
      intro k hk
      have := h k hk
      simp
      omega
    rw [this]
    rfl
theorem Bts.one {w : World} {v : Value} (h : Bts w v) : v.oneCell' = true := by
  obtain ⟨a, n, c, x, rfl, _⟩ := h; rfl
theorem Bts.keep {w w' : World} {v : Value} (h : Bts w v) (hk : Kept none' w w') : Bts w' v := by
  obtain ⟨a, n, c, x, rfl, h1, h2, h3⟩ := h
  refine ⟨a, n, c, x, rfl, h1, h2, ?_⟩
  rcases h3 with h3 | ⟨b, off, e, hc⟩
  · exact .inl h3
  · exact .inr ⟨b, off, e, fun j hj => wcell_kept hk (fun h => h) (hc j hj)⟩

theorem Ok_intro {α : Type} {o : Option α} {F : α → Prop} (v : α) (h : o = some v) (hF : F v) : Ok o F := by rw [h]; exact hF
set_option maxHeartbeats 4000000 in
theorem stacks_ret (v0 : Value) (w : World) (h0 : Acts w v0) : Ret Try.prog 5 [v0] w fun v w' => v = .bool true ∧ Kept none' w w' := by
  refine ret_of_W Try.func5 rfl ok_tipstafflaw19_RegionStacks ?_
  have hz : (Value.agg #[.int .i64 0, .int .u64 0, .int .i64 0, .pointer none]) = .agg RVal.zero.arr := rfl
  simp only [c_tipstafflaw19_RegionStacks, hz, stk_zero]
  generalize hcs : Array.replicate 32 (Value.int .u8 0) = cs
  have hss : cs.size = 32 := by subst hcs; rfl
  simp
  refine W_call0 (by simp) (none_ret w) ?_
  rintro v w1 ⟨rfl, rfl⟩
  simp
  refine W_call0 (by simp) (load_nil w1) ?_
  rintro v w2 ⟨hk2, rfl⟩
  simp
  refine W_store (by simp) (by simp) (store_val (v := RVal.zero) (hp_new w2 _)) (stab_nil _ _ _) ?_
  obtain ⟨h4, hk3, hs3⟩ := box_fact w2 RVal.zero RVal.zero 29
  generalize put (w2.alloc (.cells RVal.zero.arr 29)) w2.heap.size (.cells RVal.zero.arr 29 (0, 0)) = w3 at h4 hk3 hs3 ⊢
  have hkA := hk2.trans hk3
  simp
  refine W_call0 (by simp) (none_ret w3) ?_
  rintro v w4 ⟨rfl, rfl⟩
  simp
  refine W_call0 (by simp) (bytes_nil w4) ?_
  rintro v w5 ⟨hk5, rfl⟩
  have hkB := hkA.trans hk5
  simp
  refine W_call0 (by simp) (saves_ret w5) ?_
  rintro v w6 ⟨rfl, hk6⟩
  have hkC := hkB.trans hk6
  simp
  refine W_yes (by simp) ?_
  refine W_call0 (by simp) (none_ret w6) ?_
  rintro v w7 ⟨rfl, rfl⟩
  simp
  refine W_yes (by simp) ?_
  refine W_call0 (by simp) (save_nil w7) ?_
  rintro v w8 ⟨hk8, rfl⟩
  have hkD := hkC.trans hk8
  simp
  refine W_yes (by simp) ?_
  refine W_call0 (by simp) (none_ret w8) ?_
  rintro v w9 ⟨rfl, rfl⟩
  simp
  refine W_yes (by simp) ?_
  refine W_call0 (by simp) (fill_nil w9) ?_
  rintro v w10 ⟨hk10, rfl⟩
  have hkE := hkD.trans hk10
  simp
  refine W_yes (by simp) ?_
  refine W_call0 (by simp) (none_ret w10) ?_
  rintro v w11 ⟨rfl, rfl⟩
  simp
  refine W_yes (by simp) ?_
  refine W_call0 (by simp) (map_nil w11) ?_
  rintro v w12 ⟨rfl, rfl⟩
  simp
  refine W_no (by simp) ?_
  simp
  refine W_call0 (by simp) (new_ret cs (fun _ => 0) _ hss ?_) ?_
  · intro i hi
    subst hcs
    simp [hi]
  rintro v w13 ⟨b, maps, rfl, hb, hk13, hm13⟩
  have hkF := hkE.trans hk13
  have hb13 := blk_lt hm13
  have hsz13 := hkE.size
  simp
  have hst := hp_new w13 (.cells SMem.fresh.cells 53)
  have hm14 : IsMem _ b _ := hp_old hm13 (.cells SMem.fresh.cells 53)
  have hkG := hkF.alloc (.cells SMem.fresh.cells 53)
  have hsz := alloc_size w13 (.cells SMem.fresh.cells 53)
  have hsz2 := hkF.size
  generalize w13.alloc (.cells SMem.fresh.cells 53) = w14 at *
  generalize w13.heap.size = st at *
  obtain ⟨a, n, c, rfl, hrow⟩ := h0
  have hS14 : St w1 w14 b st (st + 1) (.slice none 0 0) 0 (RMem.fresh (fun _ => 0) maps) SMem.fresh :=
    ⟨hkG, hm14, hst, .inl ⟨rfl, rfl⟩, rel_fresh _ _ (fun _ => by omega), sok_fresh, ⟨by omega, by omega⟩, ⟨by omega, by omega⟩, by omega, by omega, by omega⟩
  refine W_loop (fun env w' => ∃ (i nv : Nat) (v : Value) (m : RMem) (s : SMem), env = [.slice a n c, undef, undef, undef, undef, undef, undef, undef, undef, undef, undef, undef, undef, undef, undef, undef, undef, undef, undef, .pointer (some ⟨b, 0, none⟩), .pointer (some ⟨st, 0, none⟩), v, .int .i64 i, undef, undef, undef, undef, undef, undef, undef, undef, undef, undef, undef, undef, undef, undef, undef, undef, undef, undef, undef, undef, undef, undef, undef, undef, undef, undef, undef, undef, undef, undef, undef, undef, undef, undef, undef, undef, undef, undef, undef, undef, undef, undef, undef, undef, undef, undef, undef] ∧ i ≤ 60 ∧ nv ≤ i ∧ St w1 w' b st (st + 1) v nv m s) (fun env _ => 60 - natAt env 22) ?_ ?_
  · exact ⟨0, 0, _, _, _, by simp, by omega, by omega, hS14⟩
  rintro env w15 ⟨i, nv, v, m, s, rfl, hi, hnv, hS⟩
  by_cases hgo : i < n ∧ i < 60
  · simp
    refine W_yes (by simp; omega) ?_
    obtain ⟨rb, ro, rfl, hacts⟩ := hrow.resolve_left (by omega)
    obtain ⟨t, N, o, z, X, B, hrw, ⟨hN1, hN2⟩, hX, hB⟩ := hacts i hgo.1
    have hrw' := wrow_kept hS.kept (fun h => h) hrw
    simp [hgo.1, hrw']
    have hst6 := store_new (w := w15) (T := 56) #[.int .i64 0, .int .i64 0, .int .i64 0, .int .i64 0, .int .u64 0, .slice none 0 0] #[.int .i64 t, .int .i64 N, .int .i64 o, .int .i64 z, .int .u64 X, B] rfl (by
      have hB1 := hB.one
      simp only [List.all_toArray, List.all_cons, List.all_nil, hB1]
      rfl)
    refine W_store (by simp) (by simp) hst6 (stab_nil _ _ _) ?_
    obtain ⟨hA, hkp, hsA⟩ := new_fact w15 #[.int .i64 0, .int .i64 0, .int .i64 0, .int .i64 0, .int .u64 0, .slice none 0 0] #[.int .i64 t, .int .i64 N, .int .i64 o, .int .i64 z, .int .u64 X, B] 56
    have hS16 := hS.calm hkp
    generalize put (w15.alloc (.cells #[.int .i64 0, .int .i64 0, .int .i64 0, .int .i64 0, .int .u64 0, .slice none 0 0] 56)) w15.heap.size (.cells #[.int .i64 t, .int .i64 N, .int .i64 o, .int .i64 z, .int .u64 X, B] 56 (0, 0)) = w16 at hA hkp hsA hS16 ⊢
    simp [wcell_of hA]
    refine W_cut (fun env w' => w' = w16 ∧ env = [.slice (some ⟨rb, ro, none⟩) n c, undef, undef, undef, undef, undef, undef, undef, undef, undef, undef, undef, undef, undef, undef, undef, undef, undef, undef, .pointer (some ⟨b, 0, none⟩), .pointer (some ⟨st, 0, none⟩), v, .int .i64 i, .pointer (some ⟨w15.heap.size, 0, none⟩), .agg #[.int .i64 t, .int .i64 N, .int .i64 o, .int .i64 z, .int .u64 X, B], (.int .i64 (if N.tmod 50 = 49 then N else N.tmod 70)), undef, undef, undef, undef, undef, undef, undef, undef, undef, undef, undef, undef, undef, undef, undef, undef, undef, undef, undef, undef, undef, undef, undef, undef, undef, undef, undef, undef, undef, undef, undef, undef, undef, undef, undef, undef, undef, undef, undef, undef, undef, undef, undef, undef]) ?_ ?_
    · refine W_cond (t := decide (N.tmod 50 = 49)) (by simp [wcell_of hA]) ?_ ?_
      · intro h
        have h' : N.tmod 50 = 49 := by simpa using h
        simp [wcell_of hA, h']
      · intro h
        have h' : ¬ N.tmod 50 = 49 := by simpa using h
        simp [h']
    rintro env w17 ⟨rfl, rfl⟩
    have hN70 := tmod_bound N 70 (by omega)
    have hM : -9223372036854775808 ≤ (if N.tmod 50 = 49 then N else N.tmod 70) ∧ (if N.tmod 50 = 49 then N else N.tmod 70) ≤ 9223372036854775807 := by split <;> omega
    obtain ⟨hM1, hM2⟩ := hM
    generalize (if N.tmod 50 = 49 then N else N.tmod 70) = M at *
    have ho80 := tmod_bound o 80 (by omega)
    generalize hof : o.tmod 80 = off at *
    rw [W_seq, W_set]
    refine Ok_intro (.int .i64 off) (by simp [wcell_of hA, hof]) ?_
    rw [W_seq, W_seq, W_set]
    refine Ok_intro (RVal.mk 3 (IntKind.u64.wrap M) 0 none).val (by simp; rfl) ?_
    simp
    refine W_store (by simp) (by simp) (store_val (v := RVal.mk 3 (IntKind.u64.wrap M) 0 none) (hp_new w17 _)) (stab_nil _ _ _) ?_
    obtain ⟨hV, hk18, hs18⟩ := box_fact w17 RVal.zero (RVal.mk 3 (IntKind.u64.wrap M) 0 none) 29
    generalize put (w17.alloc (.cells RVal.zero.arr 29)) w17.heap.size (.cells (RVal.mk 3 (IntKind.u64.wrap M) 0 none).arr 29 (0, 0)) = w18 at hV hk18 hs18 ⊢
    have hS18 := hS16.calm hk18
    have hA18 := hk18.has hA (fun h => h)
    generalize hpA : w15.heap.size = pA at *
    rw [hsA] at hV hs18 ⊢
    simp
    refine W_call0 (by simp [wcell_of hA18]) (size_ret z w18) ?_
    rintro r w19 ⟨⟨sz, hsz, rfl⟩, hk19⟩
    have hS19 := hS18.calm hk19
    have hA19 := hk19.has hA18 (fun h => h)
    have hV19 := hk19.has hV (fun h => h)
    simp
    refine W_call0 (by simp) (place_ret M off sz w19 hM1 hM2 (by omega) (by omega) (by omega)) ?_
    rintro r w20 ⟨rfl, rfl⟩
    obtain ⟨q, hq5, hq, hqw⟩ := mod_small t 5 (by omega) (by omega)
    simp [wcell_of hA19]
    rw [hqw]
    have hlt : ∀ g, v.ownBlock = some g → g < pA := fun g hg => by rw [← hpA]; exact (hS.vals.lt hg).2
    have hbase := hS.hbase
    have e3 : IntKind.i64.wrap ((i : Int) + 1) = ((i + 1 : Nat) : Int) := i64w (by omega) (by omega)
    have hB19 := hB
    have q5 : q = 0 ∨ q = 1 ∨ q = 2 ∨ q = 3 ∨ q = 4 := by omega
    rcases q5 with rfl | rfl | rfl | rfl | rfl
    · refine W_yes (by simp) ?_
      refine case0_W hS19 hA19 hV19 (by omega) (by omega) hsz hM1 hM2 (by omega) (by omega) hX ?_
      intro t' w' m' s' ht hS'
      have hmt := maskFrom_none [0, 19, 20, 21, 22] t' 23 (by decide)
      rw [ht] at hmt
      simp [hmt]
      refine ⟨⟨i + 1, nv, _, ⟨rfl, e3⟩, by omega, by omega, _, _, hS'⟩, by simp [natAt, e3]; omega⟩
    · refine W_no (by simp) ?_
      simp
      refine W_yes (by simp) ?_
      refine case1_W hS19 (by omega) hV19 (fun g hg => by have := hlt g hg; omega) (by omega) hsz hM1 hM2 (by omega) (by omega) ?_
      intro t' w' v' m' s' ht hS'
      have hmt := maskFrom_none [0, 19, 20, 21, 22] t' 23 (by decide)
      rw [ht] at hmt
      simp [hmt]
      refine ⟨⟨i + 1, nv + 1, _, ⟨rfl, e3⟩, by omega, by omega, _, _, hS'⟩, by simp [natAt, e3]; omega⟩
    · refine W_no (by simp) ?_
      simp
      refine W_no (by simp) ?_
      simp
      refine W_yes (by simp) ?_
      refine case2_W hS19 hV19 hsz hM1 hM2 (by omega) (by omega) ?_
      intro t' w' m' s' ht hS'
      have hmt := maskFrom_none [0, 19, 20, 21, 22] t' 23 (by decide)
      rw [ht] at hmt
      simp [hmt]
      refine ⟨⟨i + 1, nv, _, ⟨rfl, e3⟩, by omega, by omega, _, _, hS'⟩, by simp [natAt, e3]; omega⟩
    · refine W_no (by simp) ?_
      simp
      refine W_no (by simp) ?_
      simp
      refine W_no (by simp) ?_
      simp
      refine W_yes (by simp) ?_
      refine case3_W hS19 hA19 hV19 hM1 hM2 ?_
      intro t' w' m' s' ht hS'
      have hmt := maskFrom_none [0, 19, 20, 21, 22] t' 23 (by decide)
      rw [ht] at hmt
      simp [hmt]
      refine ⟨⟨i + 1, nv, _, ⟨rfl, e3⟩, by omega, by omega, _, _, hS'⟩, by simp [natAt, e3]; omega⟩
    · refine W_no (by simp) ?_
      simp
      refine W_no (by simp) ?_
      simp
      refine W_no (by simp) ?_
      simp
      refine W_no (by simp) ?_
      simp
      refine W_yes (by simp) ?_
      refine case4_W hS19 hA19 hV19 hB19 hM1 hM2 ?_
      intro t' w' m' s' ht hS'
      have hmt := maskFrom_none [0, 19, 20, 21, 22] t' 23 (by decide)
      rw [ht] at hmt
      simp [hmt]
      refine ⟨⟨i + 1, nv, _, ⟨rfl, e3⟩, by omega, by omega, _, _, hS'⟩, by simp [natAt, e3]; omega⟩
  · simp
    refine W_no (by simp; omega) ?_
    simp
    exact hS.kept
end Go.Proofs.Ytihaopoehhnbkaa
