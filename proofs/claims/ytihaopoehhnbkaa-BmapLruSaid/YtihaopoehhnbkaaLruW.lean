/- BmapLru: the walk. -/
import Derived.Test.YtihaopoehhnbkaaLruA
import Derived.Test.YtihaopoehhnbkaaCmdsLru
set_option linter.unusedSimpArgs false
set_option linter.unusedVariables false
set_option maxRecDepth 8000
namespace Go.Proofs.Ytihaopoehhnbkaa
open Go.Eng

structure LruSt (w0 w : World) (b n : Nat) (v : Value) (U : List Nat) (M : BMap) (c : Int) : Prop where
  mp : Mp w0 w b M
  ty : M.ty = 2
  ks : M.ks = 1
  vs : M.vs = 1
  cap : M.cap = n
  fr : M.frozen = false
  lru : Lru M U
  bys : Bys w v U
  sep : ∀ j, v.ownBlock = some j → ¬ M.own b j ∧ w0.heap.size ≤ j
  len : U.length ≤ n
  clock : M.clock ≤ c

/-- Where a key stands in the order; -1: nowhere. -/
def AtIs (U : List Nat) (k m : Nat) (at' : Int) : Prop := (at' = -1 ∧ ∀ (j : Nat), j < m → U[j]? ≠ some k) ∨ ∃ a : Nat, at' = a ∧ U[a]? = some k ∧ a < m

def nextU (U : List Nat) (at' : Int) (k n : Nat) : List Nat := (if 0 ≤ at' then U.eraseIdx at'.toNat else if U.length = n then U.drop 1 else U) ++ [k]

theorem atIs_none {U : List Nat} {k : Nat} {at' : Int} (h : AtIs U k U.length at') (hk : k ∉ U) : at' = -1 := by
  rcases h with ⟨h, _⟩ | ⟨a, _, ha, _⟩
  · exact h
  · exact absurd (List.mem_of_getElem? ha) hk
theorem atIs_some {U : List Nat} {k j : Nat} {at' : Int} (h : AtIs U k U.length at') (hj : U[j]? = some k) : ∃ a : Nat, at' = a ∧ U[a]? = some k := by
  rcases h with ⟨_, h⟩ | ⟨a, h1, h2, _⟩
  · exact absurd hj (h j (List.getElem?_eq_some_iff.1 hj).1)
  · exact ⟨a, h1, h2⟩

/-- Behind the call on the map, ahead of the list. -/
structure LruMid (w0 w : World) (b n : Nat) (v : Value) (U : List Nat) (M : BMap) (c : Int) (k : Nat) (at' : Int) : Prop where
  mp : Mp w0 w b M
  ty : M.ty = 2
  ks : M.ks = 1
  vs : M.vs = 1
  cap : M.cap = n
  fr : M.frozen = false
  lru : Lru M (nextU U at' k n)
  bys : Bys w v U
  sep : ∀ j, v.ownBlock = some j → ¬ M.own b j ∧ w0.heap.size ≤ j
  len : U.length ≤ n
  clock : M.clock ≤ c

theorem LruSt.calm {w0 w w' : World} {b n : Nat} {v : Value} {U : List Nat} {M : BMap} {c : Int} (h : LruSt w0 w b n v U M c) (hk : Kept none' w w') : LruSt w0 w' b n v U M c :=
  ⟨h.mp.calm hk, h.ty, h.ks, h.vs, h.cap, h.fr, h.lru, h.bys.keep hk (fun _ _ h => h), h.sep, h.len, h.clock⟩
/-- A call that turned the map alone. -/
theorem LruSt.mid {w0 w w' : World} {b n : Nat} {v : Value} {U : List Nat} {M M' : BMap} {c : Int} {k : Nat} {at' : Int} (h : LruSt w0 w b n v U M c) (hk : Kept (M.own b) w w') (hm : Mp w0 w' b M') (ho : Out M M' b w)
    (h1 : M'.ty = M.ty) (h2 : M'.ks = M.ks) (h3 : M'.vs = M.vs) (h4 : M'.cap = M.cap) (h5 : M'.frozen = M.frozen) (h6 : M'.clock = M.clock + 1) (hl : Lru M' (nextU U at' k n)) : LruMid w0 w' b n v U M' (c + 1) k at' :=
  ⟨hm, h1.trans h.ty, h2.trans h.ks, h3.trans h.vs, h4.trans h.cap, h5.trans h.fr, hl, h.bys.keep hk (fun j hj => (h.sep j hj).1), fun j hj => ⟨fun hc => (h.sep j hj).1 (ho j (h.bys.lt hj) hc), (h.sep j hj).2⟩, h.len, by have := h.clock; omega⟩

theorem bys_app {w : World} {sb so c n : Nat} {v : Value} {l m : List Nat} (h : Bys w v l) (hn : m.length = n) (hs : l.length + n ≤ 1000) (hm : ∀ (j : Nat) (x : Nat), m[j]? = some x → wcell w sb (so + j) = some (.int .u8 x)) :
    ∃ v' w', (builtin .append #[38, 38] 38 #[] #[v, .slice (some ⟨sb, so, none⟩) n c]).run Try.prog w = .ok (.value v') w' ∧ Bys w' v' (l ++ m) ∧ Kept (fun j => v.ownBlock = some j) w w' ∧
      (v'.ownBlock = v.ownBlock ∨ v'.ownBlock = some w.heap.size) := by
  subst hn; exact bys_append h hs hm
theorem bys_empty (w : World) : Bys (w.alloc (.cells #[] 5)) (.slice (some ⟨w.heap.size, 0, none⟩) 0 0) [] := .inr ⟨_, 0, #[], rfl, hp_new w _, Nat.le_refl _, by simp, rfl, fun i x h => by simp at h⟩
theorem nextU_len {U : List Nat} {at' : Int} {k n : Nat} (h : AtIs U k U.length at') (hU : U.length ≤ n) (hn : 1 ≤ n) : (nextU U at' k n).length ≤ n := by
  unfold nextU
  rcases h with ⟨rfl, _⟩ | ⟨a, rfl, _, ha⟩
  · rw [if_neg (by omega)]
    split <;> simp <;> omega
  · rw [if_pos (by omega)]
    simp [List.length_eraseIdx, ha]
    omega

set_option maxHeartbeats 4000000 in
theorem lru_ret (x0 : Int) (v1 : Value) (xs : List Int) (w : World) (h1 : Ints w v1 xs) : Ret Try.prog 6 [.int .i64 x0, v1] w fun v w' => v = .bool true ∧ Kept none' w w' := by
  refine ret_of_W Try.func6 rfl ok_tipstafflaw09_BmapLru ?_
  obtain ⟨ra, rn, rc, rfl, hn, hmax, hrow⟩ := h1
  obtain ⟨n0, hn6, hq, hqw⟩ := mod_small x0 6 (by omega) (by omega)
  have e0 : IntKind.i64.wrap (1 + (n0 : Int)) = ((n0 + 1 : Nat) : Int) := by rw [i64w (by omega) (by omega)]; omega
  simp [c_tipstafflaw09_BmapLru]
  rw [hqw, e0]
  generalize hnn : n0 + 1 = n
  refine W_call0 (by simp; rfl) (newmap_ret 2 1 1 n w (by unfold specOk; omega) (by decide)) ?_
  rintro v w1 ⟨b, rfl, hb, hk1, hm1⟩
  simp
  refine W_call0 (by simp) (maps_ret w1) ?_
  rintro v w2 ⟨rfl, hk2⟩
  simp
  refine W_no (by simp) ?_
  simp
  have hSt : LruSt w w2 b n (.slice none 0 0) [] (newM 2 1 1 n) 0 :=
    ⟨⟨hk1.trans hk2, hm1.calm hk2, fun i hi => by
      rcases hi with rfl | hi | ⟨e, he, _⟩
      · exact hb
      · simp [newM, Value.ownBlock] at hi
      · simp [newM] at he⟩, rfl, rfl, rfl, rfl, rfl, lru_new _ _ _ _, .inl ⟨rfl, rfl⟩, fun j hj => by simp [Value.ownBlock] at hj, by simp, by simp [newM]⟩
  refine W_loop (fun env w' => ∃ (i : Nat) (v : Value) (U : List Nat) (M : BMap), env = [undef, .slice ra rn rc, undef, .int .i64 n, undef, .pointer (some ⟨b, 0, none⟩), undef, undef, v, .int .i64 i, undef, undef, undef, undef, undef, undef, undef, undef, undef, undef, undef, undef, undef, undef, undef, undef, undef, undef, undef, undef, undef, undef] ∧
      i ≤ 40 ∧ LruSt w w' b n v U M i) (fun env _ => 40 - natAt env 9) ?_ ?_
  · exact ⟨0, _, _, _, by simp, by omega, hSt⟩
  rintro env w3 ⟨i, v, U, M, rfl, hi, hS⟩
  by_cases hgo : i < rn ∧ i < 40
  · simp
    refine W_yes (by simp; omega) ?_
    obtain ⟨rb, ro, rfl, hcells⟩ := hrow.resolve_left (by omega)
    have hx := wcell_kept hS.mp.kept (fun h => h) (hcells i hgo.1)
    generalize xs.getD i 0 = x at hx
    obtain ⟨k, hk9, hk, hkw⟩ := mod_small x 9 (by omega) (by omega)
    have ek : IntKind.u8.wrap (k : Int) = k := u8w (by omega) (by omega)
    simp [hgo.1, hx, hk, ek]
    have hlen := hS.bys.len
    have hvar := hS.bys.var
    refine W_loop (fun env w' => w' = w3 ∧ ∃ (j : Nat) (at' : Int), env = [undef, .slice (some ⟨rb, ro, none⟩) rn rc, undef, .int .i64 n, undef, .pointer (some ⟨b, 0, none⟩), undef, undef, v, .int .i64 i, .int .u8 k, .int .i64 at', .int .i64 j, undef, undef, undef, undef, undef, undef, undef, undef, undef, undef, undef, undef, undef, undef, undef, undef, undef, undef, undef] ∧ j ≤ U.length ∧ AtIs U k j at')
        (fun env _ => U.length - natAt env 12) ?_ ?_
    · exact ⟨rfl, 0, -1, by simp, by omega, .inl ⟨rfl, fun j hj => by omega⟩⟩
    rintro env w4 ⟨rfl, j, at', rfl, hj, hat⟩
    by_cases hj2 : j < U.length
    · simp
      refine W_yes (by simp [hlen, hvar]; omega) ?_
      obtain ⟨g, cap, rfl, hcap, hown, hby⟩ := hS.bys.form (by omega)
      have hju : U[j]? = some U[j] := List.getElem?_eq_getElem hj2
      have hbj := hby j _ hju
      have e2 : IntKind.i64.wrap ((j : Int) + 1) = ((j + 1 : Nat) : Int) := i64w (by omega) (by have := hS.len; omega)
      simp
      refine W_cond (t := decide (U[j] = k)) (by simp [hj2, hbj]; omega) ?_ ?_
      · intro hjk
        have hjk' : U[j] = k := by simpa using hjk
        simp
        refine ⟨⟨j + 1, ?_⟩, by simp [natAt, e2]; omega⟩
        exact ⟨j, ⟨rfl, e2⟩, by omega, .inr ⟨j, rfl, by rw [hju, hjk'], by omega⟩⟩
      · intro hjk
        have hjk' : ¬ U[j] = k := by simpa using hjk
        simp
        refine ⟨⟨j + 1, at', ⟨rfl, e2⟩, by omega, ?_⟩, by simp [natAt, e2]; omega⟩
        rcases hat with ⟨h1, h2⟩ | ⟨a, h1, h2, h3⟩
        · refine .inl ⟨h1, fun q hq => ?_⟩
          by_cases hqj : q = j
          · subst hqj; rw [hju]; simpa using hjk'
          · exact h2 q (by omega)
        · exact .inr ⟨a, h1, h2, by omega⟩
    have hjl : j = U.length := by omega
    subst hjl
    simp
    refine W_no (by simp [hlen, hvar]) ?_
    simp
    refine W_cut (fun env w' => ∃ (M' : BMap) (y13 y14 y15 y16 y17 y18 y19 : Value), env = [undef, .slice (some ⟨rb, ro, none⟩) rn rc, undef, .int .i64 n, undef, .pointer (some ⟨b, 0, none⟩), undef, undef, v, .int .i64 i, .int .u8 k, .int .i64 at', .int .i64 U.length,
      y13, y14, y15, y16, y17, y18, y19, undef, undef, undef, undef, undef, undef, undef, undef, undef, undef, undef, undef] ∧ LruMid w w' b n v U M' (i + 1) k at') ?_ ?_
    · have hk8 : k < 9 := by omega
      have hkey : KeyAt (w4.alloc (.cells #[.int .u8 k] 5)) (.slice (some ⟨w4.heap.size, 0, none⟩) 1 1) (key1 k) := keyAt1 (by omega) (by simp)
      have hkA : Kept none' w4 (w4.alloc (.cells #[.int .u8 k] 5)) := (Kept.refl _ _).alloc _
      have hS5 := hS.calm hkA
      have hck := hS.clock
      have hty := hS.ty
      refine W_cond (t := decide (x.tmod 3 = 0)) (by simp [hgo.1, hx]) ?_ ?_
      · intro h3
        simp
        generalize w4.alloc (.cells #[.int .u8 k] 5) = w5 at hkey hkA hS5 ⊢
        have hlk := lookup_ret b M _ (key1 k) w5 hS5.mp.map hkey (by omega) (by omega) (by omega) (by rw [hS.ks]; rfl) (by omega) (by rw [hS.vs]; omega)
        refine W_call0 (by simp) hlk ?_
        rintro r w6 (⟨i', e, nb, c, hi', hek, rfl, hc, hnb, hby, hk6, hm6⟩ | ⟨hno, rfl, hk6⟩)
        · obtain ⟨E, j, _, _, _, _, _, huj, hval⟩ := lru_find hS.lru hi' hek (by omega)
          obtain ⟨a, rfl, hua⟩ := atIs_some hat huj
          have hb0 := hby 0 (by rw [hS.vs]; omega)
          rw [hval] at hb0
          have ek1 : IntKind.u8.wrap ((k : Int) + 1) = (k : Int) + 1 := u8w (by omega) (by omega)
          simp
          refine W_no (by simp [hS.vs, hb0, ek1]) ?_
          simp
          refine W_no (by simp) ?_
          simp
          have hl := lru_touch (M' := usedM M i' e) (e' := { e with used := M.clock + 1 }) hS.lru hi' hek (by omega) rfl hval rfl rfl rfl hua
          refine ⟨usedM M i' e, hS5.mid (hk6.mono fun j _ hj => own_ent hi' hj) (hS5.mp.used hi' hk6 hm6) (out_used hi') rfl rfl rfl rfl rfl rfl ?_⟩
          unfold nextU
          rw [if_pos (by omega)]
          exact hl
        · have hnu := lru_none hS.lru hno
          have hatn := atIs_none hat hnu
          subst hatn
          simp
          refine W_no (by simp) ?_
          simp
          refine W_yes (by simp) ?_
          have e2 : IntKind.i64.wrap ((i : Int) + 1) = ((i + 1 : Nat) : Int) := i64w (by omega) (by omega)
          simp
          have hS6 := hS5.calm hk6
          refine ⟨⟨i + 1, v, ⟨rfl, e2⟩, by omega, U, M, ?_⟩, by simp [natAt, e2]; omega⟩
          exact { hS6 with clock := by omega }
      · intro h3
        have ek1 : IntKind.u8.wrap ((k : Int) + 1) = (k : Int) + 1 := u8w (by omega) (by omega)
        simp [ek1]
        have hown4 : ∀ j, M.own b j → j < w4.heap.size := fun j hj => hS.mp.lt hj
        have hk17 := hp_new w4 (.cells #[.int .u8 k] 5)
        generalize hw5 : w4.alloc (.cells #[.int .u8 k] 5) = w5 at hkey hkA hS5 hk17 ⊢
        have hs5 : w5.heap.size = w4.heap.size + 1 := by rw [← hw5]; simp
        have hk18 := hp_new w5 (.cells #[.int .u8 ((k : Int) + 1)] 5)
        have hkB : Kept none' w5 (w5.alloc (.cells #[.int .u8 ((k : Int) + 1)] 5)) := (Kept.refl _ _).alloc _
        have hS6 := hS5.calm hkB
        have hkey6 := hkey.same (w' := w5.alloc (.cells #[.int .u8 ((k : Int) + 1)] 5)) w4.heap.size 0 1 rfl (RowKit.Below.heap_alloc _ _ _ (by omega))
        have hs6 := hkB.size
        have hs6' : (w5.alloc (.cells #[.int .u8 ((k : Int) + 1)] 5)).heap.size = w5.heap.size + 1 := by simp
        generalize w5.alloc (.cells #[.int .u8 ((k : Int) + 1)] 5) = w6 at hk18 hkB hS6 hkey6 hs6 hs6' ⊢
        have hsm : M.l.length < 1000 := by have := lru_len hS.lru; have := hS.len; omega
        have hup := update_ret b M _ (key1 k) w5.heap.size 0 1 (fun _ => (k : Int) + 1) 0 w6 hS6.mp.map hkey6 (by omega) (by omega) (by omega) (by rw [hS.ks]; rfl) (by omega) hS.fr (by rw [hS.cap]; omega) (by rw [hS.vs]; omega) hsm (by omega)
          (fun j hj => by
            have : j = 0 := by rw [hS.vs] at hj; omega
            subst this; rw [wcell_of hk18]; rfl) (fun j => by omega) ⟨by omega, fun ho => by have := hown4 _ ho; omega⟩ ⟨_, _, _, rfl, by omega, fun ho => by have := hown4 _ ho; omega⟩
        rw [hS.vs] at hup
        refine W_call0 (by simp) hup ?_
        clear hup
        rintro r w7 (⟨i', e, hi', hek, ⟨q, _⟩ | ⟨_, rfl, hk7, hm7⟩⟩ | ⟨hno, ⟨q, _⟩ | ⟨_, q, _⟩ | ⟨_, _, _, q, _⟩ | ⟨_, _, rfl, hk7, lo, L', a, hlo, hak, hav, hau, hf1, hf2, hf3, hL', hm7⟩⟩)
        · exact absurd q (by decide)
        · obtain ⟨E, j, _, _, _, _, _, huj, hval⟩ := lru_find hS.lru hi' hek (by omega)
          obtain ⟨a, rfl, hua⟩ := atIs_some hat huj
          simp
          refine W_no (by simp) ?_
          simp
          have hl := lru_touch (M' := writtenM M i' e (fun _ => (k : Int) + 1)) (e' := { e with used := M.clock + 1, val := fun _ => (k : Int) + 1 }) hS.lru hi' hek (by omega) rfl rfl rfl rfl rfl hua
          refine ⟨_, hS6.mid hk7 (hS6.mp.written hi' hk7 hm7) (out_written hi') rfl rfl rfl rfl rfl rfl ?_⟩
          unfold nextU
          rw [if_pos (by omega)]
          exact hl
        · omega
        · exact absurd q (by decide)
        · exact absurd hty q
        · have hnu := lru_none hS.lru hno
          have hatn := atIs_none hat hnu
          subst hatn
          have hlen2 := lru_len hS.lru
          have hll : ∀ c ∈ lo, c ∈ M.l := by
            rcases hlo with ⟨_, rfl⟩ | ⟨_, _, i', e, _, _, rfl⟩
            · exact fun c hc => hc
            · exact fun c hc => List.mem_of_mem_eraseIdx hc
          have hav0 : a.val 0 = (k : Int) + 1 := by rw [hav]
          simp
          refine W_no (by simp) ?_
          simp
          refine ⟨_, hS6.mid hk7 (hS6.mp.pushed hk7 hll hf1 hf2 hf3 hL' hm7) (out_pushed hll hf1 hf2 hf3 hL') rfl rfl rfl rfl rfl rfl ?_⟩
          unfold nextU
          rw [if_neg (by omega)]
          rcases hlo with ⟨hlt, rfl⟩ | ⟨hlt, _, i', e, hi', hmin, rfl⟩
          · rw [hS.cap, hlen2] at hlt
            rw [if_neg (by omega)]
            exact lru_push hS.lru hnu (by omega) hak hav0 hau rfl rfl
          · rw [hS.cap, hlen2] at hlt
            have := hS.len
            rw [if_pos (by omega)]
            exact lru_evict hS.lru hi' hmin hnu (by omega) hak hav0 hau rfl rfl
    rintro env w5 ⟨M', y13, y14, y15, y16, y17, y18, y19, rfl, hM⟩
    have hbl := hM.bys.len
    have hbv := hM.bys.var
    have hUn := hM.len
    have hown5 : ∀ j, M'.own b j → j < w5.heap.size := fun j hj => hM.mp.lt hj
    have hw5 := hM.mp.kept.size
    rw [W_seq]
    refine W_cut (fun env w' => ∃ (v' : Value) (V : List Nat) (y20 y21 y22 y23 y24 : Value), env = [undef, .slice (some ⟨rb, ro, none⟩) rn rc, undef, .int .i64 n, undef, .pointer (some ⟨b, 0, none⟩), undef, undef, v', .int .i64 i, .int .u8 k, .int .i64 at', .int .i64 U.length, y13, y14, y15, y16, y17, y18, y19, y20, y21, y22, y23, y24, undef, undef, undef, undef, undef, undef, undef] ∧ Bys w' v' V ∧ V ++ [k] = nextU U at' k n ∧ Mp w w' b M' ∧ w5.heap.size ≤ w'.heap.size ∧
      (∀ j, v'.ownBlock = some j → ¬ M'.own b j ∧ w.heap.size ≤ j)) ?_ ?_
    · refine W_cond (t := decide (0 ≤ at')) (by simp) ?_ ?_
      · intro hge
        obtain ⟨a, rfl, hua, hal⟩ : ∃ a : Nat, at' = a ∧ U[a]? = some k ∧ a < U.length := by
          rcases hat with ⟨h1, _⟩ | h1
          · have : 0 ≤ at' := by simpa using hge
            omega
          · exact h1
        obtain ⟨g, cap, rfl, hcap, hown, hby⟩ := hM.bys.form (by omega)
        have ea : IntKind.i64.wrap ((a : Int) + 1) = ((a + 1 : Nat) : Int) := i64w (by omega) (by omega)
        have hby5 : ∀ (i : Nat) (x : Nat), U[i]? = some x → wcell w5.drew g i = some (.int .u8 x) := hby
        have hg5 := hM.bys.lt hown
        have b1 : (a : Int) ≤ cap := by omega
        have b2 : (a : Int) + 1 ≤ U.length := by omega
        have b3 : (U.length : Int) ≤ cap := by omega
        have b4 : ¬ (cap = 0) := by omega
        have b5 : ((a : Int) + 1).toNat = a + 1 := by omega
        have b6 : (0 : Int) ≤ (a : Int) + 1 := by omega
        have hso : ∃ so, (if cap = a + 1 then (⟨g, 0, none⟩ : Addr) else ⟨g, a + 1, none⟩) = ⟨g, so, none⟩ ∧ (a + 1 < U.length → so = a + 1) := by
          by_cases hc : cap = a + 1
          · rw [if_pos hc]; exact ⟨0, rfl, fun q => by omega⟩
          · rw [if_neg hc]; exact ⟨a + 1, rfl, fun _ => rfl⟩
        obtain ⟨so, hso, hso2⟩ := hso
        simp [ea, b1, b2, b3, b4, b5, b6, hso]
        have hMd := hM.mp.calm (Kept.refl none' w5).drew
        have hsd : w5.drew.heap.size = w5.heap.size := rfl
        generalize w5.drew = w6 at hby5 hMd hsd ⊢
        have hB0 := bys_empty w6
        have hM7 := hMd.calm ((Kept.refl none' w6).alloc (.cells #[] 5))
        have hs7 : (w6.alloc (.cells #[] 5)).heap.size = w6.heap.size + 1 := by simp
        have hby7 : ∀ (i : Nat) (x : Nat), U[i]? = some x → wcell (w6.alloc (.cells #[] 5)) g i = some (.int .u8 x) := fun i x hi => wcell_kept ((Kept.refl none' w6).alloc _) (fun h => h) (hby5 i x hi)
        generalize w6.alloc (.cells #[] 5) = w7 at hB0 hM7 hs7 hby7 ⊢
        obtain ⟨v1', w8, hr8, hB8, hk8, ho8⟩ := bys_app (sb := g) (so := 0) (c := cap) (n := a) (m := U.take a) hB0 (by simp; omega) (by simp; omega) (fun j x hj => by
          rw [List.getElem?_take] at hj
          split at hj
          · rw [Nat.zero_add]; exact hby7 j x hj
          · cases hj)
        refine W_bi (by simp [b1, b4]) hr8 (stab_nil _ _ _) ?_
        have hM8 := hM7.other hk8 (fun j hj => by
          simp [Value.ownBlock] at hj
          exact ⟨fun hc => by have := hown5 j hc; omega, by omega⟩)
        have hs8 := hk8.size
        have hby8 : ∀ (i : Nat) (x : Nat), U[i]? = some x → wcell w8 g i = some (.int .u8 x) := fun i x hi => wcell_kept hk8 (fun q => by simp [Value.ownBlock] at q; omega) (hby7 i x hi)
        have ho8' : ∀ j, v1'.ownBlock = some j → w5.heap.size ≤ j ∧ j < w8.heap.size := fun j hj => ⟨by
          rcases ho8 with q | q
          · rw [q] at hj; simp [Value.ownBlock] at hj; omega
          · rw [q] at hj; simp at hj; omega, hB8.lt hj⟩
        have hv1 := hB8.var
        simp
        obtain ⟨v2', w9, hr9, hB9, hk9', ho9⟩ := bys_app (sb := g) (so := so) (c := cap - (a + 1)) (n := U.length - (a + 1)) (m := U.drop (a + 1)) hB8 (by simp) (by simp; omega) (fun j x hj => by
          rw [List.getElem?_drop] at hj
          have := (List.getElem?_eq_some_iff.1 hj).1
          rw [hso2 (by omega)]
          exact hby8 _ x hj)
        refine W_bi (by simp [hv1, ea, b2, b3, b5, b6, hso]) hr9 (stab_nil _ _ _) ?_
        have hM9 := hM8.other hk9' (fun j hj => ⟨fun hc => by have := hown5 j hc; have := (ho8' j hj).1; omega, by have := (ho8' j hj).1; omega⟩)
        have hv2 := hB9.var
        have hs9 := hk9'.size
        simp [hv2]
        refine ⟨_, hB9, ?_, hM9, by omega, fun j hj => ?_⟩
        · unfold nextU
          rw [if_pos (by omega), show (a : Int).toNat = a from rfl, List.eraseIdx_eq_take_drop_succ]
          simp
        · have hj5 : w5.heap.size ≤ j := by
            rcases ho9 with q | q
            · rw [q] at hj; exact (ho8' j hj).1
            · rw [q] at hj; simp at hj; omega
          exact ⟨fun hc => by have := hown5 j hc; omega, by omega⟩
      · intro hlt
        have hatn : at' = -1 := by
          have : ¬ 0 ≤ at' := by simpa using hlt
          rcases hat with ⟨h1, _⟩ | ⟨a, h1, _⟩
          · exact h1
          · omega
        subst hatn
        refine W_cond (t := decide (U.length = n)) (by simp [hbl, hbv]; omega) ?_ ?_
        · intro hfull
          have hfull' : U.length = n := by simpa using hfull
          obtain ⟨g, cap, rfl, hcap, hown, hby⟩ := hM.bys.form (by omega)
          have hg5 := hM.bys.lt hown
          have b3 : (U.length : Int) ≤ cap := by omega
          have b2 : (1 : Int) ≤ U.length := by omega
          have hso : ∃ so, (if cap = 1 then (⟨g, 0, none⟩ : Addr) else ⟨g, 1, none⟩) = ⟨g, so, none⟩ ∧ (1 < U.length → so = 1) := by
            by_cases hc : cap = 1
            · rw [if_pos hc]; exact ⟨0, rfl, fun q => by omega⟩
            · rw [if_neg hc]; exact ⟨1, rfl, fun _ => rfl⟩
          obtain ⟨so, hso, hso2⟩ := hso
          simp
          have hB0 := bys_empty w5
          have hM7 := hM.mp.calm ((Kept.refl none' w5).alloc (.cells #[] 5))
          have hs7 : (w5.alloc (.cells #[] 5)).heap.size = w5.heap.size + 1 := by simp
          have hby7 : ∀ (i : Nat) (x : Nat), U[i]? = some x → wcell (w5.alloc (.cells #[] 5)) g i = some (.int .u8 x) := fun i x hi => wcell_kept ((Kept.refl none' w5).alloc _) (fun h => h) (hby i x hi)
          generalize w5.alloc (.cells #[] 5) = w7 at hB0 hM7 hs7 hby7 ⊢
          obtain ⟨v1', w8, hr8, hB8, hk8, ho8⟩ := bys_app (sb := g) (so := so) (c := cap - 1) (n := U.length - 1) (m := U.drop 1) hB0 (by simp) (by simp; omega) (fun j x hj => by
            rw [List.getElem?_drop] at hj
            have := (List.getElem?_eq_some_iff.1 hj).1
            rw [hso2 (by omega)]
            exact hby7 _ x hj)
          refine W_bi (by simp [b3, b2, hso]) hr8 (stab_nil _ _ _) ?_
          have hM8 := hM7.other hk8 (fun j hj => by
            simp [Value.ownBlock] at hj
            exact ⟨fun hc => by have := hown5 j hc; omega, by omega⟩)
          have hs8 := hk8.size
          have hv1 := hB8.var
          simp [hv1]
          refine ⟨_, hB8, ?_, hM8, by omega, fun j hj => ?_⟩
          · unfold nextU
            rw [if_neg (by omega), if_pos hfull']
            simp
          · have hj5 : w5.heap.size ≤ j := by
              rcases ho8 with q | q
              · rw [q] at hj; simp [Value.ownBlock] at hj; omega
              · rw [q] at hj; simp at hj; omega
            exact ⟨fun hc => by have := hown5 j hc; omega, by omega⟩
        · intro hfull
          have hfull' : ¬ U.length = n := by simpa using hfull
          simp
          refine ⟨_, hM.bys, ?_, hM.mp, hM.sep⟩
          unfold nextU
          rw [if_neg (by omega), if_neg hfull']
    rintro env w6 ⟨v', V, y20, y21, y22, y23, y24, rfl, hV, hVU, hMp, hs6, hsep⟩
    have hVv := hV.var
    have hVl := nextU_len (n := n) hat hUn (by omega)
    rw [← hVU] at hVl
    simp [hVv]
    have hp25 := hp_new w6 (.cells #[.int .u8 k] 5)
    have hk25 : Kept none' w6 (w6.alloc (.cells #[.int .u8 k] 5)) := (Kept.refl _ _).alloc _
    have hV7 := hV.keep hk25 (fun _ _ h => h)
    have hM7 := hMp.calm hk25
    have hs7 : (w6.alloc (.cells #[.int .u8 k] 5)).heap.size = w6.heap.size + 1 := by simp
    have hown6 : ∀ j, v'.ownBlock = some j → j < w6.heap.size := fun j hj => hV.lt hj
    generalize w6.alloc (.cells #[.int .u8 k] 5) = w7 at hp25 hk25 hV7 hM7 hs7 ⊢
    have hVl' : V.length + 1 ≤ n := by simpa using hVl
    obtain ⟨v3, w8, hr8, hB8, hk8, ho8⟩ := bys_app (sb := w6.heap.size) (so := 0) (c := 1) (n := 1) (m := [k]) hV7 rfl (by omega) (fun j x hj => by
      have hj0 : j = 0 := by have := (List.getElem?_eq_some_iff.1 hj).1; simp at this; omega
      subst hj0
      simp at hj
      subst hj
      rw [wcell_of hp25]; rfl)
    refine W_bi (by simp [hVv]) hr8 (stab_nil _ _ _) ?_
    rw [hVU] at hB8
    have hM8 := hM7.other hk8 (fun j hj => hsep j hj)
    have hv3 := hB8.var
    have hl3 := hB8.len
    have hUl := lru_len hM.lru
    have hs8 := hk8.size
    have hown7 : ∀ j, M'.own b j → j < w7.heap.size := fun j hj => hM7.lt hj
    have hsep3 : ∀ j, v3.ownBlock = some j → ¬ M'.own b j ∧ w.heap.size ≤ j := by
      intro j hj
      rcases ho8 with q | q
      · rw [q] at hj; exact hsep j hj
      · rw [q] at hj
        simp at hj
        subst hj
        exact ⟨fun hc => by have := hown7 _ hc; omega, by omega⟩
    simp [hv3]
    refine W_call0 (by simp) (len_ret b M' w8 hM8.map) ?_
    rintro r w9 ⟨rfl, rfl⟩
    simp
    refine W_no (by simp [hv3, hl3, hUl]) ?_
    have e2 : IntKind.i64.wrap ((i : Int) + 1) = ((i + 1 : Nat) : Int) := i64w (by omega) (by omega)
    simp
    refine ⟨⟨i + 1, v3, ⟨rfl, e2⟩, by omega, nextU U at' k n, M', ?_⟩, by simp [natAt, e2]; omega⟩
    exact ⟨hM8, hM.ty, hM.ks, hM.vs, hM.cap, hM.fr, hM.lru, hB8, hsep3, by rw [← hVU]; exact hVl, by have := hM.clock; omega⟩
  · simp
    refine W_no (by simp; omega) ?_
    simp
    have hbl := hS.bys.len
    have hbv := hS.bys.var
    refine W_loop (fun env w' => ∃ (j : Nat) (M : BMap), env = [undef, undef, undef, undef, undef, .pointer (some ⟨b, 0, none⟩), undef, undef, v, undef, undef, undef, undef, undef, undef, undef, undef, undef, undef, undef, undef, undef, undef, undef, undef, undef, undef, undef, .int .i64 j, undef, undef, undef] ∧ j ≤ U.length ∧ Mp w w' b M ∧ M.ty = 2 ∧ M.ks = 1 ∧ M.vs = 1 ∧ Bys w' v U ∧ (∀ j, v.ownBlock = some j → ¬ M.own b j) ∧ M.clock ≤ 40 + j ∧ (∀ u ∈ U, ∃ e ∈ M.l, e.key = key1 u)) (fun env _ => U.length - natAt env 28) ?_ ?_
    · refine ⟨0, M, by simp, by omega, hS.mp, hS.ty, hS.ks, hS.vs, hS.bys, fun j hj => (hS.sep j hj).1, by have := hS.clock; omega, ?_⟩
      intro u hu
      obtain ⟨E, hp, hq, _, _⟩ := hS.lru.ex
      obtain ⟨j, hj⟩ := List.mem_iff_getElem?.1 hu
      have hjl : j < E.length := by rw [hq.1]; exact (List.getElem?_eq_some_iff.1 hj).1
      exact ⟨_, hp.mem_iff.1 (List.getElem_mem hjl), (hq.2 j _ u (List.getElem?_eq_getElem hjl) hj).1⟩
    rintro env w4 ⟨j, M, rfl, hj, hM, hty, hks, hvs, hB, hsep, hclk, hkeys⟩
    have hUn := hS.len
    by_cases hj2 : j < U.length
    · simp
      refine W_yes (by simp [hbl, hbv]; omega) ?_
      obtain ⟨g, cap, rfl, hcap, hown, hby⟩ := hB.form (by omega)
      have hju : U[j]? = some U[j] := List.getElem?_eq_getElem hj2
      have hul := hS.lru.small _ (List.getElem_mem hj2)
      have e2 : IntKind.i64.wrap ((j : Int) + 1) = ((j + 1 : Nat) : Int) := i64w (by omega) (by omega)
      have hkey : KeyAt w4 (.slice (some ⟨g, j, none⟩) 1 (cap - j)) (key1 U[j]) := keyAt1 hul (hby j _ hju)
      have b1 : ¬ (cap = j) := by omega
      have b2 : (j : Int) + 1 ≤ cap := by omega
      have b4 : ((j : Int) + 1).toNat - j = 1 := by omega
      have b5 : (j : Int) ≤ j + 1 := by omega
      simp
      refine W_call0 (by simp [e2, b1, b2, b4, b5]) (lookup_ret b M _ (key1 U[j]) w4 hM.map hkey (by omega) (by omega) (by omega) (by rw [hks]; rfl) (by omega) (by rw [hvs]; omega)) ?_
      rintro r w6 (⟨i', e, nb, c, hi', hek, rfl, hc, hnb, hby6, hk6, hm6⟩ | ⟨hno, _, _⟩)
      · simp
        refine W_no (by simp) ?_
        simp
        refine ⟨⟨j + 1, ⟨by simp [e2], by omega, usedM M i' e, hM.used hi' hk6 hm6, hty, hks, hvs, hB.keep hk6 (fun q hq hc => hsep q hq (own_ent hi' hc)), ?_, ?_, ?_⟩⟩, by simp [natAt, e2]; omega⟩
        · exact fun q hq hc => hsep q hq (out_used hi' q (hB.lt hq) hc)
        · show M.clock + 1 ≤ _
          omega
        · intro u hu
          obtain ⟨e', he', hke'⟩ := hkeys u hu
          obtain ⟨q, hq⟩ := List.mem_iff_getElem?.1 he'
          by_cases hqi : q = i'
          · subst hqi
            rw [hi'] at hq
            simp at hq
            subst hq
            exact ⟨_, List.mem_set (List.getElem?_eq_some_iff.1 hi').1 _, hke'⟩
          · refine ⟨e', ?_, hke'⟩
            refine List.mem_of_getElem? (i := q) ?_
            show (M.l.set i' _)[q]? = _
            rw [List.getElem?_set_ne (fun h => hqi h.symm)]
            exact hq
      · obtain ⟨e', he', hke'⟩ := hkeys U[j] (List.getElem_mem hj2)
        exact absurd hke' (hno e' he')
    · simp
      refine W_no (by simp [hbl, hbv]; omega) ?_
      simp
      exact hM.kept
end Go.Proofs.Ytihaopoehhnbkaa
