/- BmapLines: the walk. -/
import Derived.Test.YtihaopoehhnbkaaBmN
import Derived.Test.YtihaopoehhnbkaaFlagsW
import Derived.Test.YtihaopoehhnbkaaCmdsLin
set_option linter.unusedSimpArgs false
set_option linter.unusedVariables false
set_option maxRecDepth 8000
namespace Go.Proofs.Ytihaopoehhnbkaa
open Go.Eng

structure LiSt (w0 w : World) (b : Nat) (ty : Int) (M : BMap) (len : Nat) (y : Nat → Int) : Prop where
  mp : Mp w0 w b M
  ty : M.ty = ty
  vs : M.vs = 1
  cap : M.cap = 8
  fr : M.frozen = false
  len : M.l.length = len
  val : ∀ (j : Nat) (e : BEnt), M.l[j]? = some e → e.val 0 = y j

theorem LiSt.calm {w0 w w' : World} {b : Nat} {ty : Int} {M : BMap} {len : Nat} {y : Nat → Int} (h : LiSt w0 w b ty M len y) (hk : Kept none' w w') : LiSt w0 w' b ty M len y :=
  ⟨h.mp.calm hk, h.ty, h.vs, h.cap, h.fr, h.len, h.val⟩

theorem own_bL {M : BMap} {b j : Nat} (hj : j = b ∨ M.L.ownBlock = some j) : M.own b j := by
  rcases hj with hj | hj
  · exact .inl hj
  · exact .inr (.inl hj)

set_option maxHeartbeats 4000000 in
theorem lines_ret (x0 : Bool) (v1 : Value) (ys : List Int) (w : World) (h1 : Octs w v1 ys) : Ret Try.prog 11 [.bool x0, v1] w fun v w' => v = .bool true ∧ Kept none' w w' := by
  refine ret_of_W Try.func11 rfl ok_tipstafflaw09_BmapLines ?_
  obtain ⟨fa, fn, fc, rfl, hfn, hfc, hfmax, hfx, hfrow⟩ := h1
  simp [c_tipstafflaw09_BmapLines]
  generalize hty : (if x0 = true then (4 : Int) else 3) = ty
  have hty' : ty = 3 ∨ ty = 4 := by rw [← hty]; cases x0 <;> simp
  refine W_cut (fun env w' => w' = w ∧ env = [.bool x0, .slice fa fn fc, .bool false, .int .i64 ty, undef, undef, undef, undef, undef, undef, undef, undef, undef, undef, undef, undef, undef, undef, undef, undef, undef, undef, undef]) ?_ ?_
  · refine W_cond (t := x0) (by simp) ?_ ?_
    · intro h; subst h; simp at hty; subst hty; simp
    · intro h; subst h; simp at hty; subst hty; simp
  rintro env w1 ⟨rfl, rfl⟩
  simp
  refine W_call0 (by simp; rfl) (newmap_ret ty 0 1 8 w1 (by unfold specOk; omega) (by omega)) ?_
  rintro v w2 ⟨b, rfl, hb, hk1, hm1⟩
  simp
  refine W_call0 (by simp) (maps_ret w2) ?_
  rintro v w3 ⟨rfl, hk2⟩
  simp
  refine W_no (by simp) ?_
  have hSt : LiSt w1 w3 b ty (newM ty 0 1 8) 0 (fun j => ys.getD j 0) :=
    ⟨⟨hk1.trans hk2, hm1.calm hk2, fun i hi => by
      rcases hi with rfl | hi | ⟨e, he, _⟩
      · exact hb
      · simp [newM, Value.ownBlock] at hi
      · simp [newM] at he⟩, rfl, rfl, rfl, rfl, rfl, fun j e hj => by simp [newM] at hj⟩
  obtain ⟨n, hn12, hnf, hmin⟩ : ∃ n : Nat, n ≤ 12 ∧ n ≤ fn ∧ (if (12 : Int) < fn then (12 : Int) else fn) = n := ⟨min fn 12, by omega, by omega, by split <;> omega⟩
  simp [hmin]
  refine W_loop (fun env w' => ∃ (i : Nat) (M : BMap), env = [.bool x0, .slice fa fn fc, undef, undef, undef, .pointer (some ⟨b, 0, none⟩), undef, undef, .int .i64 n, .int .i64 i, undef, undef, undef, undef, undef, undef, undef, undef, undef, undef, undef, undef, undef] ∧ i ≤ n ∧
      LiSt w1 w' b ty M (min i 8) (fun j => ys.getD j 0)) (fun env _ => n - natAt env 9) ?_ ?_
  · exact ⟨0, _, by simp, by omega, by simpa using hSt⟩
  rintro env w4 ⟨i, M, rfl, hi, hS⟩
  by_cases hi2 : i < n
  · simp
    refine W_yes (by simp; omega) ?_
    obtain ⟨fb, fo, rfl, hfcells⟩ := hfrow.resolve_left (by omega)
    have hx := wcell_kept hS.mp.kept (fun h => h) (hfcells i (by omega))
    have hxr := hfx i
    have e1 : IntKind.i64.wrap ((i : Int) + 1) = ((i + 1 : Nat) : Int) := i64w (by omega) (by omega)
    have b1 : ¬ (fc = i) := by omega
    have b2 : (i : Int) + 1 ≤ fc := by omega
    have b4 : ((i : Int) + 1).toNat - i = 1 := by omega
    have b5 : (i : Int) ≤ i + 1 := by omega
    obtain ⟨x, hxx⟩ : ∃ x : Nat, ys.getD i 0 = x := ⟨(ys.getD i 0).toNat, by omega⟩
    have hl := hS.len
    simp
    refine W_call0 (by simp [e1, b1, b2, b4, b5]) (push_ret b M fb (fo + i) (fc - i) [x] w4 hS.mp.map (by rw [hS.ty]; exact hty') (by rw [hS.vs]; rfl) (by simp) (by simp) (fun z hz => by simp at hz; omega) (by omega) hS.fr (fun j z hj => by
      have hj0 : j = 0 := by have := (List.getElem?_eq_some_iff.1 hj).1; simp at this; omega
      subst hj0
      simp at hj
      subst hj
      rw [← hxx]; exact hx)) ?_
    rintro r w5 (⟨hfull, rfl, hk5⟩ | ⟨hne, rfl, hk5, L', a, hav, ha1, ha2, ha3, hL, hm5⟩)
    · have hi8 : ¬ i < 8 := by rw [hS.cap] at hfull; omega
      simp
      refine W_no (by simp; omega) ?_
      simp
      refine ⟨⟨i + 1, e1, by omega, M, ?_⟩, by simp [natAt, e1]; omega⟩
      have := hS.calm hk5
      rw [show min (i + 1) 8 = min i 8 by omega]
      exact this
    · have hi8 : i < 8 := by rw [hS.cap] at hne; omega
      simp
      refine W_no (by simp; omega) ?_
      simp
      refine ⟨⟨i + 1, e1, by omega, { M with L := L', l := M.l ++ [a] }, ?_⟩, by simp [natAt, e1]; omega⟩
      have hM5 : Mp w1 w5 b { M with L := L', l := M.l ++ [a] } := hS.mp.step (hk5.mono fun j _ hj => own_bL hj) hm5 (by
        rintro j (hj | hj | ⟨c, hc, hj⟩)
        · exact .inl (.inl hj)
        · rcases hL with hL | ⟨g, hg, hgs⟩
          · exact .inl (.inr (.inl (by rw [← hL]; exact hj)))
          · right
            simp only at hj
            rw [hg] at hj
            simp at hj
            omega
        · rcases List.mem_append.1 hc with hc | hc
          · exact .inl (.inr (.inr ⟨c, hc, hj⟩))
          · simp at hc
            subst hc
            right; omega)
      refine ⟨hM5, hS.ty, hS.vs, hS.cap, hS.fr, by simp [hl]; omega, ?_⟩
      intro j e hj
      by_cases hjl : j < M.l.length
      · rw [List.getElem?_append_left hjl] at hj
        exact hS.val j e hj
      · rw [List.getElem?_append_right (by omega)] at hj
        have hj0 : j - M.l.length = 0 := by have := (List.getElem?_eq_some_iff.1 hj).1; simp at this; omega
        rw [hj0] at hj
        simp at hj
        subst hj
        rw [hav 0 x rfl]
        show (x : Int) = ys.getD j 0
        rw [show j = i by omega, hxx]
  · have hin : i = n := by omega
    subst hin
    simp
    refine W_no (by simp) ?_
    have hl := hS.len
    obtain ⟨q, hq, hqn⟩ : ∃ q : Nat, (if (8 : Int) < i then (8 : Int) else i) = q ∧ q = min i 8 := ⟨min i 8, by split <;> omega, rfl⟩
    rw [← hqn] at hS
    simp [hq]
    refine W_loop (fun env w' => ∃ (j : Nat) (M : BMap), env = [.bool x0, .slice fa fn fc, undef, undef, undef, .pointer (some ⟨b, 0, none⟩), undef, undef, .int .i64 q, undef, undef, .int .i64 j, undef, undef, undef, undef, undef, undef, undef, undef, undef, undef, undef] ∧ j ≤ q ∧
        LiSt w1 w' b ty M (q - j) (fun k => if x0 = true then ys.getD k 0 else ys.getD (j + k) 0)) (fun env _ => q - natAt env 11) ?_ ?_
    · refine ⟨0, M, by simp, by omega, ?_⟩
      refine ⟨hS.mp, hS.ty, hS.vs, hS.cap, hS.fr, hS.len, fun k e hk => ?_⟩
      rw [hS.val k e hk]
      simp
    rintro env w5 ⟨j, M, rfl, hj, hS⟩
    have hMty : M.ty = 3 ∨ M.ty = 4 := by rw [hS.ty]; exact hty'
    by_cases hj2 : j < q
    · simp
      refine W_yes (by simp; omega) ?_
      obtain ⟨fb, fo, rfl, hfcells⟩ := hfrow.resolve_left (by omega)
      have e1 : IntKind.i64.wrap ((j : Int) + 1) = ((j + 1 : Nat) : Int) := i64w (by omega) (by omega)
      have e2 : IntKind.i64.wrap (IntKind.i64.wrap ((q : Int) - 1) - j) = (q : Int) - 1 - j := by rw [i64w (n := (q : Int) - 1) (by omega) (by omega), i64w (by omega) (by omega)]
      obtain ⟨k, hk, hkq⟩ : ∃ k : Nat, (k : Int) = (if x0 = true then (q : Int) - 1 - j else j) ∧ k < q := ⟨if x0 = true then q - 1 - j else j, by split <;> omega, by split <;> omega⟩
      simp
      refine W_cut (fun env w' => w' = w5 ∧ env = [.bool x0, .slice (some ⟨fb, fo, none⟩) fn fc, undef, undef, undef, .pointer (some ⟨b, 0, none⟩), undef, undef, .int .i64 q, undef, undef, .int .i64 j, .int .i64 k, undef, undef, undef, undef, undef, undef, undef, undef, undef, undef]) ?_ ?_
      · refine W_cond (t := x0) (by simp) ?_ ?_
        · intro h; subst h; simp [e2]; simp at hk; omega
        · intro h; subst h; simp; simp at hk; omega
      rintro env w6 ⟨rfl, rfl⟩
      have hx := wcell_kept hS.mp.kept (fun h => h) (hfcells k (by omega))
      have hfb := wcell_lt (hfcells k (by omega))
      have hlen := hS.len
      have hM0 : ¬ M.l.length = 0 := by omega
      simp
      refine W_call0 (by simp) (peek_ret b M w6 hS.mp.map hMty (by rw [hS.vs]; decide)) ?_
      rintro r w7 ⟨hk7, ⟨h0, _⟩ | ⟨e, nb, c, he, rfl, hnb, hby⟩⟩
      · exact absurd h0 hM0
      have hS7 := hS.calm hk7
      have hx7 := wcell_kept hk7 (fun h => h) hx
      have hby0 := hby 0 (by rw [hS.vs]; omega)
      rw [hS.vs]
      simp
      refine W_call0 (by simp) (pop_ret b M w7 hS7.mp.map hMty (by rw [hS.vs]; decide) hS.fr) ?_
      rintro r w8 (⟨h0, _⟩ | ⟨e', nb', c', L', he', rfl, hnb', hby', hk8, hL8, hm8⟩)
      · exact absurd h0 hM0
      rw [he] at he'
      simp at he'
      subst he'
      have hby8 := hby' 0 (by rw [hS.vs]; omega)
      have hnbS : ¬ (nb = b ∨ M.L.ownBlock = some nb) := fun ho => by have := hS.mp.lt (own_bL ho); omega
      have hbyp := wcell_kept hk8 hnbS hby0
      have hfbS : ¬ (fb = b ∨ M.L.ownBlock = some fb) := fun ho => by have := hS.mp.low _ (own_bL ho); omega
      have hx8 := wcell_kept hk8 hfbS hx7
      rw [hS.vs]
      have hr := (hS.mp.map.mem he).byte 0
      have hve : e.val 0 = ys.getD k 0 := by
        rw [hS.val _ e he]
        show (if x0 = true then ys.getD (nextAtM M) 0 else ys.getD (j + nextAtM M) 0) = _
        unfold nextAtM
        rw [hS.ty]
        cases x0
        · simp at hty hk
          have : k = j := by omega
          subst this
          rw [← hty]
          simp
        · simp at hty hk
          rw [← hty]
          simp
          rw [show M.l.length - 1 = k by omega]
      obtain ⟨z, hz⟩ : ∃ z : Nat, e.val 0 = z := ⟨(e.val 0).toNat, by omega⟩
      rw [hz] at hbyp hby8
      rw [← hve, hz] at hx8
      have hs1 := bstr1 (c := c) hbyp
      have hs2 := bstr1 (c := c') hby8
      have hM8 : Mp w1 w8 b { M with L := L', l := M.l.eraseIdx (nextAtM M) } := hS7.mp.step (hk8.mono fun j _ hj => own_bL hj) hm8 fun j hj => .inl (own_erase hL8 hj)
      have hM9 := hM8.calm (Kept.refl none' w8).drew
      have hs1d : bstrv w8.drew (.slice (some ⟨nb, 0, none⟩) 1 c) = some (.string (key1 z)) := hs1
      have hs2d : bstrv w8.drew (.slice (some ⟨nb', 0, none⟩) 1 c') = some (.string (key1 z)) := hs2
      have hb8d : wcell w8.drew nb' 0 = _ := hby8
      have hx8d : wcell w8.drew fb (fo + k) = _ := hx8
      have hkf : k < fn := by omega
      have hself : ∀ s : ByteArray, strBin .neq s s = some (.bool false) := fun s => by simp [strBin]
      simp
      generalize w8.drew = w9 at hM9 hs1d hs2d hb8d hx8d ⊢
      refine W_no (by simp [hs1d, hs2d, hb8d, hx8d, hkf, hself]) ?_
      simp
      refine ⟨⟨j + 1, e1, by omega, _, ⟨hM9, hS.ty, hS.vs, hS.cap, hS.fr, ?_, ?_⟩⟩, by simp [natAt, e1]; omega⟩
      · have : nextAtM M < M.l.length := (List.getElem?_eq_some_iff.1 he).1
        simp [List.length_eraseIdx, this]
        omega
      · intro k' e'' hk'
        simp only at hk'
        rw [get_erase] at hk'
        cases x0
        · simp at hty
          have hna : nextAtM M = 0 := by unfold nextAtM; rw [hS.ty, ← hty]; simp
          rw [hna, if_neg (by omega)] at hk'
          rw [hS.val _ e'' hk']
          simp
          rw [show j + (k' + 1) = j + 1 + k' by omega]
        · simp at hty
          have hna : nextAtM M = M.l.length - 1 := by unfold nextAtM; rw [hS.ty, ← hty]; simp
          rw [hna] at hk'
          split at hk'
          · rw [hS.val _ e'' hk']; simp
          · have := (List.getElem?_eq_some_iff.1 hk').1; omega
    · have hjq : j = q := by omega
      subst hjq
      have hl0 : M.l.length = 0 := by rw [hS.len]; omega
      simp
      refine W_no (by simp) ?_
      simp
      refine W_call0 (by simp) (pop_ret b M w5 hS.mp.map hMty (by rw [hS.vs]; decide) hS.fr) ?_
      rintro r w6 (⟨_, rfl, hk6⟩ | ⟨e', nb', c', L', he', _⟩)
      · have hS6 := hS.calm hk6
        simp
        refine W_yes (by simp) ?_
        refine W_call0 (by simp) (len_ret b M w6 hS6.mp.map) ?_
        rintro r w7 ⟨rfl, rfl⟩
        simp [hl0]
        exact hS6.mp.kept
      · have := (List.getElem?_eq_some_iff.1 he').1
        omega
end Go.Proofs.Ytihaopoehhnbkaa
