/- Layer 18: the walk of all ways. -/
import Derived.Test.YtkgpmjjleemdlaaGreatVf2
import Derived.Test.YtkgpmjjleemdlaaGreatCf1
set_option linter.unusedSimpArgs false
set_option linter.unusedVariables false
set_option maxRecDepth 8000
namespace Go.Proofs.YtkgpmjjleemdlaaGreat
open Go.Eng
attribute [local irreducible] Go.Eng.W

def RepBox (w : World) (b : Nat) : Prop := w.heap[b]? = some (.cells #[.int .i64 0, .int .i64 0] 32 (0, 0))
def Reps (w : World) (b b' : Nat) : Prop := RepBox w b ∧ RepBox w b'
theorem Reps.keep {S : Nat → Prop} {w w' : World} {b b' : Nat} (h : Reps w b b') (hk : Kept S w w') (hS : ∀ j, RepBox w j → ¬ S j) : Reps w' b b' := ⟨hk.has h.1 (hS _ h.1), hk.has h.2 (hS _ h.2)⟩
def Live (J : Job) (most : Nat) (a : Int) (m : Nat) (e : Int) (w : World) (left : Value) (seen : Nat → List AState) (n : Nat) : Prop :=
  (∃ p s, WaysAt w left 1 (wayArr (p : Nat) s).toList ∧ Goes J most seen n p s a m e) ∨ (WaysAt w left 0 [] ∧ a = 0 ∧ m = n ∧ e = 0)
def RunAt (J : Job) (w0 : World) (b2 b3 most : Nat) (a : Int) (m : Nat) (e : Int) (w : World) (n : Nat) : Prop :=
  ∃ left f seen, RunInv J w0 w f seen left ∧ Reps w b2 b3 ∧ (∀ p, (seen p).length ≤ n) ∧ Live J most a m e w left seen n
theorem blk_ne {w : World} {b b' : Nat} {c c' : Array Value} {T T' : TypeId} {fz fz' : Nat × Nat} (h : w.heap[b]? = some (.cells c T fz)) (h' : w.heap[b']? = some (.cells c' T' fz')) (hT : T ≠ T') : b ≠ b' := by
  intro e
  subst e
  rw [h] at h'
  injection h' with h'
  injection h' with _ h'
  exact hT h'
theorem stab_two {a b : Ex} {env : Env} {w w' : World} {u v : Value} (h1 : a.ev env w = some u) (h2 : a.ev env w' = some u) (h3 : b.ev env w = some v) (h4 : b.ev env w' = some v) : Stab [a, b] env w w' := by
  intro e he x hx
  simp only [List.mem_cons, List.not_mem_nil, or_false] at he
  rcases he with rfl | rfl
  · rw [h1] at hx; rw [h2, hx]
  · rw [h3] at hx; rw [h4, hx]
set_option maxHeartbeats 2000000 in
theorem run_ret (J : Job) (w0 w : World) (most : Nat) (hmost : most ≤ 10000) (hsl : SlIs w0 J.l J.xs) {f : Nat → Option Value} {seen : Nat → List AState} {left : Value} (h : RunInv J w0 w f seen left) {p : Nat} {s : AState}
    {a : Int} {m : Nat} {e : Int} (hl : WaysAt w left 1 (wayArr (p : Nat) s).toList) (hg : Goes J most seen 0 p s a m e) (hlen : ∀ p, seen p = []) {b3 : Nat} (hb3 : RepBox w b3) :
    Ret Tryz.prog 20 [.pointer (some ⟨J.cb, 0, none⟩), .int .i64 most] w fun r w' => r = .tuple #[.agg #[.int .i64 a, .int .i64 m], .int .i64 e] ∧ Kept none' w0 w' ∧ RepBox w' b3 := by
  refine ret_of_W Tryz.func20 rfl ok_verify_checker_run ?_
  simp only [c_verify_checker_run, W_seq, W_set]
  refine W_new' (v := .agg #[.int .i64 0, .int .i64 0]) (cs := #[.int .i64 0, .int .i64 0]) (by simp) rfl ?_
  have hR : Reps _ w.heap.size b3 := ⟨hp_new w (.cells #[.int .i64 0, .int .i64 0] 32), hp_old hb3 _⟩
  have hne3 : b3 ≠ w.heap.size := by have := blk_lt hb3; omega
  have hk1 := (Kept.refl none' w).alloc (.cells #[.int .i64 0, .int .i64 0] 32)
  have h1 := h.calm hk1
  have hl1 : WaysAt _ left 1 (wayArr (p : Nat) s).toList := rowCalm hl hk1
  have hb2 : w0.heap.size ≤ w.heap.size := h.kept.size
  generalize (w.alloc (.cells #[.int .i64 0, .int .i64 0] 32)) = w1 at *
  generalize w.heap.size = b2 at *
  simp only [W_seq, W_set]
  refine ok_intro (.int .i64 0) (by simp) ?_
  try simp only [W_seq, W_set]
  refine ok_intro (.int .i64 0) (by simp) ?_
  try simp only [W_seq]
  rw [W_block]
  refine W_loop (fun env w' => ∃ n : Nat, n ≤ most ∧ RunAt J w0 b2 b3 most a m e w' n ∧
    env = [.pointer (some ⟨J.cb, 0, none⟩), .int .i64 most, .pointer (some ⟨b2, 0, none⟩), undef, .int .i64 n, undef, undef, undef, undef, undef, undef, undef, undef, undef, undef, undef, undef, undef, undef, undef, undef]) (fun env _ => most + 1 - natAt env 4) ?_ ?_
  · exact ⟨0, by omega, ⟨left, f, seen, h1, hR, fun p => by rw [hlen p]; simp, .inl ⟨p, s, hl1, hg⟩⟩, by simp⟩
  clear hR h1 hl1 hk1 hl hg hlen h
  rintro env w2 ⟨n, hnm, ⟨left, f, seen, h2, hR2, hlen, hlive⟩, rfl⟩
  have f4 : wcell w2 J.cb 4 = some left := by rw [wcell_of h2.chk.box]; rfl
  simp only [W_seq]
  rcases hlive with ⟨p, s, hl2, hg2⟩ | ⟨hl2, rfl, rfl, rfl⟩
  · have hll := rowLen hl2
    obtain ⟨g, c, rfl, hr7⟩ : ∃ g c, left = .slice (some ⟨g, 0, none⟩) 1 c ∧ wrow w2 g 0 274 = some (wayArr (p : Nat) s) := by
      have := row_wrow (L := [(wayArr (p : Nat) s).toList]) (by simpa [WaysAt] using hl2) (by simp) rfl (i := 0) (l := (wayArr (p : Nat) s).toList) rfl
      simpa using this
    have hc1 : 1 ≤ c := by
      rcases hl2.2 with ⟨h, _⟩ | ⟨g', cap, cur, e, _, _, h3, _⟩
      · cases h
      · cases e; exact h3
    refine W_yes (by simp [f4]) ?_
    simp only [W_skip, W_seq, W_block, W_set]
    have e0 : IntKind.i64.wrap 0 = 0 := i64w (by omega) (by omega)
    refine ok_intro (.int .i64 0) (by simp [f4, e0]) ?_
    try simp only [W_seq, W_set]
    refine ok_intro (.agg (wayArr (p : Nat) s)) (by simp [f4, hr7]) ?_
    try simp only [W_seq]
    refine W_new' (v := .agg (wayArr 0 AState.zero)) (cs := wayArr 0 AState.zero) (by simp) rfl ?_
    have h6 : WayBox _ w2.heap.size 0 AState.zero := hp_new w2 (.cells (wayArr 0 AState.zero) 76)
    have hk3 := (Kept.refl none' w2).alloc (.cells (wayArr 0 AState.zero) 76)
    generalize hb6 : w2.heap.size = b6 at *
    generalize (w2.alloc (.cells (wayArr 0 AState.zero) 76)) = w3 at *
    have hs3 := box_store (v := .agg (wayArr (p : Nat) s)) h6 (n := 274) (by simp) (by exact way_size _ _) (by exact way_one _ _)
    try simp only [W_seq]
    refine W_store (vv := .agg (wayArr (p : Nat) s)) (by simp) (by simp) hs3 (stab_nil _ _ _) ?_
    have hwc : (Value.agg (wayArr (p : Nat) s)).cells = wayArr (p : Nat) s := rfl
    rw [hwc]
    have hk4 := hk3.putNew (Nat.le_of_eq hb6) (.cells (wayArr (p : Nat) s) 76 (0, 0))
    have h64 := WayBox.put (blk_lt h6) (p : Nat) s
    generalize Eng.put w3 b6 (.cells (wayArr (p : Nat) s) 76 (0, 0)) = w4 at *
    have h4 := h2.calm hk4
    have hl4 : WaysAt w4 _ 1 _ := rowCalm hl2 hk4
    have hR4 : Reps w4 b2 b3 := hR2.keep hk4 fun j _ h => h
    have g4 : wcell w4 J.cb 4 = some (.slice (some ⟨g, 0, none⟩) 1 c) := by rw [wcell_of h4.chk.box]; rfl
    clear hs3 h6 hk3 f4 hr7
    obtain ⟨w5, hs5, h5, hk5⟩ := h4.setleft (v := .slice (some ⟨g, 0, none⟩) 0 c) rfl rfl (fun b hb => h4.lown b hb)
    try simp only [W_seq]
    refine W_store (xv := .pointer (some ⟨J.cb, 4, none⟩)) (vv := .slice (some ⟨g, 0, none⟩) 0 c) (by simp) (by simp [g4]) hs5 (stab_nil _ _ _) ?_
    have hg4 : ∃ cur, w4.heap[g]? = some (.cells cur 76 (0, 0)) ∧ cur.size = c * 274 := by
      rcases hl4.2 with ⟨h, _⟩ | ⟨g', cap, cur, e, _, h3, _, _, h5, _⟩
      · cases h
      · cases e; exact ⟨cur, h3, h5⟩
    obtain ⟨cur, hg4, hcur⟩ := hg4
    have hgc : g ≠ J.cb := blk_ne hg4 h4.chk.box (by decide)
    have h6c : b6 ≠ J.cb := blk_ne h64 h4.chk.box (by decide)
    have hcm : c ≤ maxLen := by
      rcases hl4.2 with ⟨h, _⟩ | ⟨g', cap, cur, e, _, _, _, h4, _⟩
      · cases h
      · cases e; exact h4
    have hl5 : WaysAt w5 (.slice (some ⟨g, 0, none⟩) 0 c) 0 [] := ⟨by simp, .inr ⟨g, c, cur, rfl, by omega, hk5.has hg4 hgc, by omega, hcm, hcur, by simp⟩⟩
    have h65 : WayBox w5 b6 p s := hk5.has h64 h6c
    have hR5 : Reps w5 b2 b3 := hR4.keep hk5 fun j hj => blk_ne hj h4.chk.box (by decide)
    try simp only [W_seq]
    refine W_calm (by simp [h65.all]) (gone_no s h5.chk h5.map (h5.seen p) (by have := hlen p; omega) fun t ht w' hk b hb => hg2.cov t ht w' b hb) ?_
    intro w6 hk6
    refine W_no (by simp) ?_
    simp only [W_skip, W_seq]
    have h6' := h5.calm hk6
    have h66 := h65.calm hk6
    have hR6 : Reps w6 b2 b3 := hR5.keep hk6 fun j _ h => h
    have hl6 : WaysAt w6 _ 0 [] := rowCalm hl5 hk6
    clear hk5 hs5 hg4 hl4 hl5 hR4 hR5 h64 h65 h4 h5 g4 hk4
    by_cases hbig : n = most
    · refine W_yes (by simp [hbig]) ?_
      have hres : a = (p : Nat) ∧ m = n ∧ e = 7 := by
        cases hg2 with
        | big => exact ⟨rfl, rfl, rfl⟩
        | bad h => omega
        | done h => omega
        | on h => omega
      obtain ⟨rfl, rfl, rfl⟩ := hres
      simp only [W_seq]
      refine W_chkIn [.agg #[.int .i64 (p : Nat), .int .i64 (m : Nat)]] (by simp [h66.pos]) ?_
      have hs7 := box_store (v := .agg #[.int .i64 (p : Nat), .int .i64 (m : Nat)]) hR6.1 (n := 2) rfl rfl (by simp [Value.cells, Value.oneCell'])
      simp only [W_seq]
      refine W_store (vv := .agg #[.int .i64 (p : Nat), .int .i64 (m : Nat)]) (by simp) (by simp [h66.pos]) hs7 (stab_nil _ _ _) ?_
      have hrr : wrow (Eng.put w6 b2 (.cells #[.int .i64 (p : Nat), .int .i64 (m : Nat)] 32 (0, 0))) b2 0 2 = some #[.int .i64 (p : Nat), .int .i64 (m : Nat)] := wrow_box (put_same (blk_lt hR6.1)) rfl
      have hcc : (Value.agg #[.int .i64 ((p : Nat) : Int), .int .i64 ((m : Nat) : Int)]).cells = #[.int .i64 (p : Nat), .int .i64 (m : Nat)] := rfl
      rw [hcc]
      simp [hrr]
      exact ⟨h6'.kept.putNew hb2 _, (put_other hne3).trans hR6.2⟩
    have hlt : n < most := by omega
    refine W_no (by simp; omega) ?_
    simp only [W_skip, W_seq, W_draw]
    have h7 : RunInv J w0 w6.drew f seen (.slice (some ⟨g, 0, none⟩) 0 c) := h6'.calm (Kept.refl _ _).drew
    have h67 : WayBox w6.drew b6 p s := h66
    have hR7 : Reps w6.drew b2 b3 := hR6
    have hl7 : WaysAt w6.drew (.slice (some ⟨g, 0, none⟩) 0 c) 0 [] := hl6
    generalize w6.drew = w7 at *
    clear hk6 h6' h66 hR6 hl6
    have f5 : wcell w7 J.cb 5 = some (.map (some J.mb)) := by rw [wcell_of h7.chk.box]; rfl
    have hml := h7.map.lt
    simp only [W_seq, W_set]
    refine ok_intro (.map (some J.mb)) (by simp [f5]) ?_
    try simp only [W_seq, W_set]
    refine ok_intro (.int .i64 p) (by simp [h67.pos]) ?_
    try simp only [W_seq, W_set]
    refine ok_intro (.map (some J.mb)) (by simp [f5]) ?_
    try simp only [W_seq, W_set]
    refine ok_intro (.int .i64 p) (by simp [h67.pos]) ?_
    try simp only [W_seq, W_set]
    refine ok_intro (.agg s.arr) (by simp [h67.state]) ?_
    try simp only [W_seq]
    obtain ⟨v12, w8, w9, happ, hupd, h9, hv12, hk79, hk78⟩ := h7.note p s (by have := hlen p; omega)
    have hS : ∀ j, (∃ v, f p = some v ∧ v.ownBlock = some j) → ∃ cc, w7.heap[j]? = some (.cells cc 73 (0, 0)) := by
      rintro j ⟨v, hf, hv⟩
      have := h7.seen p
      rw [hf] at this
      exact row_block this hv
    have hk7a := (Kept.refl none' w7).alloc (.cells s.arr 73)
    have h68 : WayBox w8 b6 p s := hk78.has (hk7a.has h67 fun h => h) fun e => by
      obtain ⟨cc, hcc⟩ := hS _ e
      exact blk_ne h67 hcc (by decide) rfl
    have hc8 : ChkAt w8 J.cb J.l J.specs J.frozen J.priv (.slice (some ⟨g, 0, none⟩) 0 c) J.mb J.ids := (h7.chk.calm hk7a).keep hk78 fun e => by
      obtain ⟨cc, hcc⟩ := hS _ e
      exact blk_ne h7.chk.box hcc (by decide) rfl
    have f58 : wcell w8 J.cb 5 = some (.map (some J.mb)) := by rw [wcell_of hc8.box]; rfl
    have h67a : WayBox (w7.alloc (.cells s.arr 73)) b6 p s := hk7a.has h67 fun h => h
    have f5a : wcell (w7.alloc (.cells s.arr 73)) J.cb 5 = some (.map (some J.mb)) := by rw [wcell_of (h7.chk.calm hk7a).box]; rfl
    have h69 : WayBox w9 b6 p s := hk79.has h67 fun e => by
      rcases e with e | e
      · exact map_ne h7.map h67 e
      · obtain ⟨cc, hcc⟩ := hS _ e
        exact blk_ne h67 hcc (by decide) rfl
    have hR9 : Reps w9 b2 b3 := hR7.keep hk79 fun j hj e => by
      rcases e with e | e
      · exact map_ne h7.map hj e
      · obtain ⟨cc, hcc⟩ := hS _ e
        exact blk_ne hj hcc (by decide) rfl
    have hl9 : WaysAt w9 (.slice (some ⟨g, 0, none⟩) 0 c) 0 [] := rowKeep hl7 hk79 fun i hi e => by
      obtain ⟨cb, hcb⟩ := row_block hl7 hi
      rcases e with e | e
      · exact map_ne h7.map hcb e
      · obtain ⟨cc, hcc⟩ := hS _ e
        exact blk_ne hcb hcc (by decide) rfl
    have hvv := rowVar (h7.seen p)
    have hwf := way_setstate 0 AState.zero s
    refine W_cut (fun env' w' => w' = w9 ∧ env' = [.pointer (some ⟨J.cb, 0, none⟩), .int .i64 most, .pointer (some ⟨b2, 0, none⟩), undef, .int .i64 n, .int .i64 0, .pointer (some ⟨b6, 0, none⟩), .agg (wayArr (p : Nat) s), .bool false,
      (f p).getD (.slice none 0 0), .agg s.arr, .slice (some ⟨w7.heap.size, 0, none⟩) 1 1, v12, .map (some J.mb), .int .i64 p, .map (some J.mb), .int .i64 p, undef, undef, undef, undef]) ?_ ?_
    · have hlook := run_look Tryz.underlying59 Tryz.underlying3 (by kernel_rfl) h7.map (n := p) (z := .slice none 0 0)
      have hlook2 := run_look Tryz.underlying59 Tryz.underlying3 (by kernel_rfl) (h7.map.calm hk7a) (n := p) (z := .slice none 0 0)
      rw [W_alt]
      refine ⟨?_, ?_⟩
      · simp only [W_seq]
        refine W_sem (vs := [.map (some J.mb), .int .i64 p]) (by simp) hlook (fun e he v hv => hv) ?_
        try simp only [W_seq]
        refine W_row' (v := .agg s.arr) (cs := s.arr) (by simp [setRow_all]) rfl ?_
        try simp only [W_seq]
        refine W_bi (vs := [(f p).getD (.slice none 0 0), .slice (some ⟨w7.heap.size, 0, none⟩) 1 1]) (by simp [hvv]) happ ?_ ?_
        · exact stab_two (u := .int .i64 p) (v := .map (some J.mb)) (by simp [h67a.pos]) (by simp [h68.pos]) (by simp [f5a]) (by simp [f58])
        try simp only [W_seq]
        refine W_sem (vs := [.map (some J.mb), .int .i64 p, v12]) (by simp [hv12]) hupd (stab_nil _ _ _) ?_
        simp
      · simp only [W_seq]
        refine W_row' (v := .agg s.arr) (cs := s.arr) (by simp [setRow_all]) rfl ?_
        try simp only [W_seq]
        refine W_sem (vs := [.map (some J.mb), .int .i64 p]) (by simp) hlook2 (fun e he v hv => hv) ?_
        try simp only [W_seq]
        refine W_bi (vs := [(f p).getD (.slice none 0 0), .slice (some ⟨w7.heap.size, 0, none⟩) 1 1]) (by simp [hvv]) happ ?_ ?_
        · exact stab_two (u := .int .i64 p) (v := .map (some J.mb)) (by simp [h67a.pos]) (by simp [h68.pos]) (by simp [f5a]) (by simp [f58])
        try simp only [W_seq]
        refine W_sem (vs := [.map (some J.mb), .int .i64 p, v12]) (by simp [hv12]) hupd (stab_nil _ _ _) ?_
        simp
    rintro env' w' ⟨rfl, rfl⟩
    clear happ hupd hk79 hk78 hS hk7a h68 hc8 f58 h67a f5a hvv hwf f5 hml h7 h67 hR7 hl7
    have e1 := i64_succ (j := n) (by omega)
    simp only [W_seq, W_set]
    refine ok_intro (.int .i64 ((n + 1 : Nat) : Int)) (by simp [e1, -Int.natCast_add]) ?_
    try simp only [W_seq]
    have hkw := h9.kept
    have hlen' : ∀ q, (seenPut seen p s q).length ≤ n + 1 := fun q => by
      unfold seenPut
      split
      · have := hlen p; simp; omega
      · have := hlen q; omega
    cases hg2 with
    | big hn => omega
    | bad hn hcv hst =>
      refine W_call (vs := [.pointer (some ⟨J.cb, 0, none⟩), .agg (wayArr (p : Nat) s)]) (by simp [h69.all]) (hst w' _ h9.chk (hsl.calm hkw)) ?_
      rintro r w10 ⟨v18, rfl, hv18, hk10⟩
      refine ⟨stab_nil _ _ _, ?_⟩
      have h610 := h69.calm hk10
      have hR10 : Reps w10 b2 b3 := hR9.keep hk10 fun j _ h => h
      simp only [W_seq]
      refine W_chkIn [.bool false] (by simp) ?_
      simp only [W_seq, W_set]
      refine ok_intro v18 (by simp [hv18]) ?_
      try simp only [W_seq, W_set]
      refine ok_intro (.bool false) (by simp) ?_
      refine W_yes (by simp) ?_
      simp only [W_seq]
      refine W_chkIn [.agg #[.int .i64 (p : Nat), .int .i64 ((n + 1 : Nat) : Int)]] (by simp [h610.pos, -Int.natCast_add]) ?_
      have hs7 := box_store (v := .agg #[.int .i64 (p : Nat), .int .i64 ((n + 1 : Nat) : Int)]) hR10.1 (n := 2) rfl rfl (by simp [Value.cells, Value.oneCell'])
      simp only [W_seq]
      refine W_store (vv := .agg #[.int .i64 (p : Nat), .int .i64 ((n + 1 : Nat) : Int)]) (by simp) (by simp [h610.pos, -Int.natCast_add]) hs7 (stab_nil _ _ _) ?_
      have hrr : wrow (Eng.put w10 b2 (.cells #[.int .i64 (p : Nat), .int .i64 ((n + 1 : Nat) : Int)] 32 (0, 0))) b2 0 2 = some #[.int .i64 (p : Nat), .int .i64 ((n + 1 : Nat) : Int)] := wrow_box (put_same (blk_lt hR10.1)) rfl
      have hcc : (Value.agg #[.int .i64 ((p : Nat) : Int), .int .i64 ((n + 1 : Nat) : Int)]).cells = #[.int .i64 (p : Nat), .int .i64 ((n + 1 : Nat) : Int)] := rfl
      rw [hcc]
      simp [hrr, -Int.natCast_add]
      exact ⟨(hkw.trans hk10).putNew hb2 _, (put_other hne3).trans hR10.2⟩
    | done hn hcv hst =>
      refine W_call (vs := [.pointer (some ⟨J.cb, 0, none⟩), .agg (wayArr (p : Nat) s)]) (by simp [h69.all]) (hst w' _ h9.chk (hsl.calm hkw)) ?_
      rintro r w10 ⟨rfl, hk10⟩
      refine ⟨stab_nil _ _ _, ?_⟩
      have h10 := h9.calm hk10
      have hR10 : Reps w10 b2 b3 := hR9.keep hk10 fun j _ h => h
      have hl10 : WaysAt w10 (.slice (some ⟨g, 0, none⟩) 0 c) 0 [] := rowCalm hl9 hk10
      have f10 : wcell w10 J.cb 4 = some (.slice (some ⟨g, 0, none⟩) 0 c) := by rw [wcell_of h10.chk.box]; rfl
      simp only [W_seq]
      refine W_chkIn [.bool true] (by simp) ?_
      simp only [W_seq, W_set]
      refine ok_intro (.slice none 0 0) (by simp) ?_
      try simp only [W_seq, W_set]
      refine ok_intro (.bool true) (by simp) ?_
      refine W_no (by simp) ?_
      simp only [W_skip, W_seq]
      refine W_bi (vs := [.slice (some ⟨g, 0, none⟩) 0 c, .slice none 0 0]) (by simp [f10]) (append_none Tryz.underlying60 (by kernel_rfl) _ 0 c (by omega) w10) (stab_nil _ _ _) ?_
      obtain ⟨w11, hs11, h11, hk11⟩ := h10.setleft (v := .slice (some ⟨g, 0, none⟩) 0 c) rfl rfl h10.lown
      refine W_store (xv := .pointer (some ⟨J.cb, 4, none⟩)) (vv := .slice (some ⟨g, 0, none⟩) 0 c) (by simp) (by simp) hs11 (stab_nil _ _ _) ?_
      have hR11 : Reps w11 b2 b3 := hR10.keep hk11 fun j hj => blk_ne hj h10.chk.box (by decide)
      have hl11 : WaysAt w11 (.slice (some ⟨g, 0, none⟩) 0 c) 0 [] := rowKeep hl10 hk11 fun i hi => by
        obtain ⟨cb, hcb⟩ := row_block hl10 hi
        exact blk_ne hcb h10.chk.box (by decide)
      simp [-Int.natCast_add]
      exact ⟨⟨n + 1, by omega, ⟨_, _, _, h11, hR11, hlen', .inr ⟨hl11, rfl, rfl, rfl⟩⟩, rfl⟩, by simp [natAt]; omega⟩
    | on hn hcv hst hr =>
      rename_i p' s'
      refine W_call (vs := [.pointer (some ⟨J.cb, 0, none⟩), .agg (wayArr (p : Nat) s)]) (by simp [h69.all]) (hst w' _ h9.chk (hsl.calm hkw)) ?_
      rintro r w10 ⟨v18, rfl, hk10, b18, rfl, hb18, hlt18⟩
      refine ⟨stab_nil _ _ _, ?_⟩
      have h10 := h9.calm hk10
      have hR10 : Reps w10 b2 b3 := hR9.keep hk10 fun j _ h => h
      have hl10 : WaysAt w10 (.slice (some ⟨g, 0, none⟩) 0 c) 0 [] := rowCalm hl9 hk10
      have f10 : wcell w10 J.cb 4 = some (.slice (some ⟨g, 0, none⟩) 0 c) := by rw [wcell_of h10.chk.box]; rfl
      simp only [W_seq]
      refine W_chkIn [.bool true] (by simp) ?_
      simp only [W_seq, W_set]
      refine ok_intro (.slice (some ⟨b18, 0, none⟩) 1 1) (by simp) ?_
      try simp only [W_seq, W_set]
      refine ok_intro (.bool true) (by simp) ?_
      refine W_no (by simp) ?_
      simp only [W_skip, W_seq]
      obtain ⟨v20, w11, happ, hrow, hk11, hat⟩ := row_append (P := Tryz.prog) (t := 60) (k := 274) Tryz.underlying60 (by kernel_rfl) (by omega) (sb := b18) (so := 0) (c := 1) (m := 1) (ys := (wayArr (p' : Nat) s').toList) hl10 (by omega) (by simp)
        (fun j y hj => by rw [Nat.zero_add, wcell_of hb18]; simpa using hj) (fun y hy => by
          have := way_one (p' : Nat) s'
          rw [← Array.all_toList] at this
          exact List.all_eq_true.1 this y hy)
      refine W_bi (vs := [.slice (some ⟨g, 0, none⟩) 0 c, .slice (some ⟨b18, 0, none⟩) 1 1]) (by simp [f10]) happ (stab_nil _ _ _) ?_
      have hv20 := rowVar hrow
      have hgo : ∀ b, v20.ownBlock = some b → w0.heap.size ≤ b := by
        intro b hb
        rcases hat with e | e
        · rw [e] at hb; exact h10.lown b hb
        · rw [e] at hb; injection hb with hb; have := h10.kept.size; omega
      have hlS : ∀ j, (Value.slice (some ⟨g, 0, none⟩) 0 c).ownBlock = some j → ∃ cc, w10.heap[j]? = some (.cells cc 76 (0, 0)) := fun j hj => row_block hl10 hj
      have h11 : RunInv J w0 w11 (fput f p v12) (seenPut seen p s) (.slice (some ⟨g, 0, none⟩) 0 c) := by
        refine ⟨h10.kept.then hk11 fun j hj e => ?_, h10.chk.keep hk11 fun e => ?_, h10.map.keep hk11 fun e => ?_, fun q => rowKeep (h10.seen q) hk11 fun i hi e => ?_, h10.own, h10.apart, h10.lown, h10.cb, h10.mb⟩
        · have := h10.lown j e; omega
        · obtain ⟨cc, hcc⟩ := hlS _ e
          exact blk_ne h10.chk.box hcc (by decide) rfl
        · obtain ⟨cc, hcc⟩ := hlS _ e
          exact map_ne h10.map hcc rfl
        · obtain ⟨cc, hcc⟩ := hlS _ e
          obtain ⟨c2, hc2⟩ := row_block (h10.seen q) hi
          exact blk_ne hc2 hcc (by decide) rfl
      have hR11 : Reps w11 b2 b3 := hR10.keep hk11 fun j hj e => by
        obtain ⟨cc, hcc⟩ := hlS _ e
        exact blk_ne hj hcc (by decide) rfl
      obtain ⟨w12, hs12, h12, hk12⟩ := h11.setleft (v := v20) (rowCells hrow) (rowOne hrow) hgo
      refine W_store (xv := .pointer (some ⟨J.cb, 4, none⟩)) (vv := v20) (by simp) (by simp [hv20]) hs12 (stab_nil _ _ _) ?_
      have hR12 : Reps w12 b2 b3 := hR11.keep hk12 fun j hj => blk_ne hj h11.chk.box (by decide)
      have hl12 : WaysAt w12 v20 1 (wayArr (p' : Nat) s').toList := by
        have h0 : WaysAt w11 v20 1 (wayArr (p' : Nat) s').toList := by simpa [WaysAt] using hrow
        exact rowKeep h0 hk12 fun i hi => by
          obtain ⟨cb, hcb⟩ := row_block h0 hi
          exact blk_ne hcb h11.chk.box (by decide)
      simp [-Int.natCast_add]
      exact ⟨⟨n + 1, by omega, ⟨_, _, _, h12, hR12, hlen', .inl ⟨p', s', hl12, hr⟩⟩, rfl⟩, by simp [natAt]; omega⟩
  · have hll := rowLen hl2
    have hvl := rowVar hl2
    refine W_no (by simp [f4, hll, hvl]) ?_
    simp only [W_skip, W_exit, Wx_exit_c, Wx_exit_post, Wx_exit_blk, W_seq, W_set, if_true, if_false]
    refine W_chkIn [.agg #[.int .i64 0, .int .i64 m]] (by simp) ?_
    have hs7 := box_store (v := .agg #[.int .i64 0, .int .i64 m]) hR2.1 (n := 2) rfl rfl (by simp [Value.cells, Value.oneCell'])
    try simp only [W_seq]
    refine W_store (vv := .agg #[.int .i64 0, .int .i64 m]) (by simp) (by simp) hs7 (stab_nil _ _ _) ?_
    have hrr : wrow (Eng.put w2 b2 (.cells #[.int .i64 0, .int .i64 m] 32 (0, 0))) b2 0 2 = some #[.int .i64 0, .int .i64 m] := wrow_box (put_same (blk_lt hR2.1)) rfl
    have hcc : (Value.agg #[.int .i64 0, .int .i64 ((m : Nat) : Int)]).cells = #[.int .i64 0, .int .i64 m] := rfl
    rw [hcc]
    simp [hrr]
    exact ⟨h2.kept.putNew hb2 _, (put_other hne3).trans hR2.2⟩
end Go.Proofs.YtkgpmjjleemdlaaGreat
namespace Go.Proofs.YtkgpmjjleemdlaaGreat
open Go.Eng
attribute [local irreducible] Go.Eng.W

def mostOf (priv : Bool) : Nat := if priv = true then 2048 else 512
set_option maxHeartbeats 2000000 in
theorem vcheck_ret {xs : List Ins} {d : Array Int} {lo : Bool} (ht : Tame xs) (hn : xs.length ≤ 256) (hf : checkOf xs = (0, 0)) (hd : Walks xs d lo) (hs : AllSeen xs d) {v : Value} (w : World) (h : SlIs w v xs) (priv : Bool) (hcfg : cfgOf lo priv = 0) {a e : Int} {m : Nat}
    (hg : ∀ J : Job, J.xs = xs → J.l = v → J.specs = .slice none 0 0 → J.frozen = .slice none 0 0 → J.priv = priv → Goes J (mostOf priv) (fun _ => []) 0 0 AState.start a m e) :
    Ret Tryz.prog 8 [v, .agg #[.slice none 0 0, .slice none 0 0, .bool priv]] w fun r w' => r = .tuple #[.agg #[.int .i64 a, .int .i64 m], .int .i64 e] ∧ Kept none' w w' := by
  refine ret_of_W Tryz.func8 rfl ok_verify_Check ?_
  obtain ⟨hl, hv⟩ := h.len
  have hvc := slCells h
  simp only [c_verify_Check, W_seq, W_set]
  refine W_new' (v := .agg #[.slice none 0 0, .slice none 0 0, .bool priv]) (cs := #[.slice none 0 0, .slice none 0 0, .bool priv]) (by simp) rfl ?_
  have h4 := hp_new w (.cells #[.slice none 0 0, .slice none 0 0, .bool priv] 39)
  have hk1 := (Kept.refl none' w).alloc (.cells #[.slice none 0 0, .slice none 0 0, .bool priv] 39)
  generalize hb4 : w.heap.size = b4 at *
  generalize (w.alloc (.cells #[.slice none 0 0, .slice none 0 0, .bool priv] 39)) = w1 at *
  try simp only [W_seq]
  refine W_new' (v := .agg #[.int .i64 0, .int .i64 0]) (cs := #[.int .i64 0, .int .i64 0]) (by simp) rfl ?_
  have h2 : RepBox _ w1.heap.size := hp_new w1 (.cells #[.int .i64 0, .int .i64 0] 32)
  have hk2 := (Kept.refl none' w1).alloc (.cells #[.int .i64 0, .int .i64 0] 32)
  have h42 := hk2.has h4 fun h => h
  have hb2 : w.heap.size ≤ w1.heap.size := hk1.size
  generalize (w1.alloc (.cells #[.int .i64 0, .int .i64 0] 32)) = w2 at *
  generalize w1.heap.size = b2 at *
  have hk02 := hk1.trans hk2
  simp only [W_seq, W_set]
  refine ok_intro (.int .i64 0) (by simp) ?_
  have g42 : wcell w2 b4 2 = some (.bool priv) := by rw [wcell_of h42]; rfl
  try simp only [W_seq]
  refine W_calm (by simp [hv, g42]) (cfg_ret ht hn hf hd hs w2 (h.calm hk02) priv) ?_
  intro w3 hk3
  rw [hcfg]
  simp only [W_seq]
  refine W_chkIn [.int .i64 0] (by simp) ?_
  simp only [W_seq, W_set]
  refine ok_intro (.int .i64 0) (by simp) ?_
  try simp only [W_seq, W_set]
  refine ok_intro (.int .i64 0) (by simp) ?_
  refine W_no (by simp) ?_
  simp only [W_skip, W_seq]
  have hk03 := hk02.trans hk3
  have h43 := hk3.has h42 fun h => h
  have h23 : RepBox w3 b2 := hk3.has h2 fun h => h
  have g40 : wcell w3 b4 0 = some (.slice none 0 0) := by rw [wcell_of h43]; rfl
  refine W_calm (by simp [g40]) (specs_none w3 17) ?_
  intro w4 hk4
  refine W_no (by simp) ?_
  simp only [W_skip, W_seq, W_set]
  refine ok_intro (.int .i64 512) (by simp) ?_
  have hk04 := hk03.trans hk4
  have h44 := hk4.has h43 fun h => h
  have h24 : RepBox w4 b2 := hk4.has h23 fun h => h
  have g44 : wcell w4 b4 2 = some (.bool priv) := by rw [wcell_of h44]; rfl
  have g4r : wrow w4 b4 0 3 = some #[.slice none 0 0, .slice none 0 0, .bool priv] := wrow_box h44 rfl
  refine W_cut (fun env' w' => w' = w4 ∧ env' = [v, .agg #[.slice none 0 0, .slice none 0 0, .bool priv], .pointer (some ⟨b2, 0, none⟩), .int .i64 0, .pointer (some ⟨b4, 0, none⟩), .tuple #[.int .i64 0, .int .i64 0], .int .i64 0, .int .i64 0, .bool false, .int .i64 (mostOf priv), undef, undef, undef, undef, undef, undef, undef]) ?_ ?_
  · unfold mostOf
    cases priv with
    | true =>
      refine W_yes (by simp [g44]) ?_
      simp
    | false =>
      refine W_no (by simp [g44]) ?_
      simp
  rintro env' w' ⟨rfl, rfl⟩
  clear hk4 hk3 h43 h23 h42 h2 hk2 hk1
  simp only [W_seq]
  refine W_chkIn [v] (by simp [hv]) ?_
  simp only [W_seq, W_set]
  refine ok_intro (.agg #[.slice none 0 0, .slice none 0 0, .bool priv]) (by simp [g4r]) ?_
  try simp only [W_seq]
  refine W_sem (vs := []) (by simp) (run_mkm w') (stab_nil _ _ _) ?_
  have hm5 := mapN_new w'
  have hk5 := (Kept.refl none' w').alloc (.map #[] 0)
  generalize hmb : w'.heap.size = mb at *
  have hmb0 : w.heap.size ≤ mb := by have := hk04.size; omega
  generalize (w'.alloc (.map #[] 0)) = w5 at *
  have hk05 := hk04.trans hk5
  have hmc : (Value.map (some mb)).cells = #[.map (some mb)] := rfl
  simp only [W_seq]
  refine W_chkIn [.agg #[v, .slice none 0 0, .slice none 0 0, .bool priv, .slice none 0 0, .map (some mb), .int .i64 0]] (by simp [hv, hvc, hmc]) ?_
  simp only [W_seq]
  refine W_new' (v := .agg #[v, .slice none 0 0, .slice none 0 0, .bool priv, .slice none 0 0, .map (some mb), .int .i64 0]) (cs := #[v, .slice none 0 0, .slice none 0 0, .bool priv, .slice none 0 0, .map (some mb), .int .i64 0]) (by simp [hv, hvc, hmc]) rfl ?_
  have hcb := hp_new w5 (.cells #[v, .slice none 0 0, .slice none 0 0, .bool priv, .slice none 0 0, .map (some mb), .int .i64 0] 62)
  have hk6 := (Kept.refl none' w5).alloc (.cells #[v, .slice none 0 0, .slice none 0 0, .bool priv, .slice none 0 0, .map (some mb), .int .i64 0] 62)
  have hm6 := hm5.calm hk6
  generalize hcbe : w5.heap.size = cb at *
  have hcb0 : w.heap.size ≤ cb := by have := hk05.size; omega
  generalize (w5.alloc (.cells #[v, .slice none 0 0, .slice none 0 0, .bool priv, .slice none 0 0, .map (some mb), .int .i64 0] 62)) = w6 at *
  have hk06 := hk05.trans hk6
  simp only [W_seq, W_set]
  refine ok_intro (.pointer (some ⟨cb, 0, none⟩)) (by simp) ?_
  try simp only [W_seq]
  refine W_chkIn [.pointer (some ⟨cb, 0, none⟩)] (by simp) ?_
  try simp only [W_seq]
  have tst := start_T w6
  refine W_calm (by simp) (ret_of_T tst) ?_
  intro w7 hk7
  have hwp := way_setpos 0 0 AState.zero
  have hws := way_setstate 0 AState.zero AState.start
  have hwa := way_all 0 0 AState.zero AState.start
  simp only [W_seq]
  refine W_chkIn [.agg (wayArr 0 AState.start)] (by simp [AState.val, hwp, hws]) ?_
  simp only [W_seq]
  refine W_row' (v := .agg (wayArr 0 AState.start)) (cs := wayArr 0 AState.start) (by simp [AState.val, hwp, hws, hwa]) rfl ?_
  have hk07 := hk06.trans hk7
  have hcb7 := hk7.has hcb fun h => h
  have hm7 := hm6.calm hk7
  have hk8 := (Kept.refl none' w7).alloc (.cells (wayArr 0 AState.start) 76)
  have hL : WaysAt (w7.alloc (.cells (wayArr 0 AState.start) 76)) (.slice (some ⟨w7.heap.size, 0, none⟩) 1 1) 1 (wayArr 0 AState.start).toList :=
    ⟨by simp, .inr ⟨w7.heap.size, 1, wayArr 0 AState.start, rfl, by omega, hp_new w7 _, by omega, by unfold maxLen; omega, by simp, by rw [List.take_of_length_le (by simp)]⟩⟩
  have hcb8 := hk8.has hcb7 fun h => h
  have hm8 := hm7.calm hk8
  have hk08 := hk07.trans hk8
  have hL0 : w.heap.size ≤ w7.heap.size := hk07.size
  generalize (w7.alloc (.cells (wayArr 0 AState.start) 76)) = w8 at *
  generalize w7.heap.size = lb at *
  have hR8 : RepBox w8 b2 := ((hk5.trans hk6).trans (hk7.trans hk8)).has h24 fun h => h
  let J : Job := ⟨cb, mb, v, .slice none 0 0, .slice none 0 0, priv, 0, xs⟩
  have h8 : RunInv J w w8 (fun _ => none) (fun _ => []) (.slice none 0 0) := ⟨hk08, ⟨hcb8⟩, hm8, fun p => states_nil _, fun p v b hf => (by cases hf), fun p q v v' b _ hf => (by cases hf), fun b hb => (by simp [Value.ownBlock] at hb), hcb0, hmb0⟩
  obtain ⟨w9, hs9, h9, hk9⟩ := h8.setleft (v := .slice (some ⟨lb, 0, none⟩) 1 1) rfl rfl (fun b hb => by simp [Value.ownBlock] at hb; omega)
  have hL9 : WaysAt w9 (.slice (some ⟨lb, 0, none⟩) 1 1) 1 (wayArr 0 AState.start).toList := rowKeep hL hk9 fun i hi => by
    obtain ⟨cc, hcc⟩ := row_block hL hi
    exact blk_ne hcc hcb8 (by decide)
  have hR9 : RepBox w9 b2 := hk9.has hR8 (blk_ne hR8 hcb8 (by decide))
  try simp only [W_seq]
  refine W_store (xv := .pointer (some ⟨cb, 4, none⟩)) (vv := .slice (some ⟨lb, 0, none⟩) 1 1) (by simp) (by simp) hs9 (stab_nil _ _ _) ?_
  try simp only [W_seq]
  refine W_call (vs := [.pointer (some ⟨cb, 0, none⟩), .int .i64 (mostOf priv)]) (by simp) (run_ret J w w9 (mostOf priv) (by unfold mostOf; split <;> omega) h h9 (p := 0) (s := AState.start) hL9 (hg J rfl rfl rfl rfl rfl) (fun _ => rfl) hR9) ?_
  rintro r w10 ⟨rfl, hk10, hR10⟩
  refine ⟨stab_nil _ _ _, ?_⟩
  simp only [W_seq]
  refine W_chkIn [.int .i64 e] (by simp) ?_
  have hs7 := box_store (v := .agg #[.int .i64 a, .int .i64 m]) hR10 (n := 2) rfl rfl (by simp [Value.cells, Value.oneCell'])
  simp only [W_seq]
  refine W_store (vv := .agg #[.int .i64 a, .int .i64 m]) (by simp) (by simp) hs7 (stab_nil _ _ _) ?_
  have hrr : wrow (Eng.put w10 b2 (.cells #[.int .i64 a, .int .i64 m] 32 (0, 0))) b2 0 2 = some #[.int .i64 a, .int .i64 m] := wrow_box (put_same (blk_lt hR10)) rfl
  have hcc : (Value.agg #[.int .i64 a, .int .i64 ((m : Nat) : Int)]).cells = #[.int .i64 a, .int .i64 m] := rfl
  rw [hcc]
  simp [hrr]
  exact hk10.putNew (by omega) _
end Go.Proofs.YtkgpmjjleemdlaaGreat
namespace Go.Proofs.YtkgpmjjleemdlaaGreat
open Go.Eng

structure IsLine (xs : List Ins) : Prop where
  pos : 0 < xs.length
  le : xs.length ≤ 256
  wf : ∀ (i : Nat) (x : Ins), xs[i]? = some x → x.wf
  one : ∀ (i : Nat) (x : Ins), xs[i]? = some x → oneOk xs i x = true
  mid : ∀ (i : Nat) (x : Ins), xs[i]? = some x → i + 1 < xs.length → kindOf x = 1 ∨ kindOf x = 6 ∨ kindOf x = 7
  last : ∀ (i : Nat) (x : Ins), xs[i]? = some x → i + 1 = xs.length → kindOf x = 5
theorem IsLine.kinds {xs : List Ins} (h : IsLine xs) {i : Nat} {x : Ins} (hx : xs[i]? = some x) : kindOf x = 1 ∨ kindOf x = 6 ∨ kindOf x = 7 ∨ kindOf x = 5 := by
  have hi := (List.getElem?_eq_some_iff.1 hx).1
  by_cases h1 : i + 1 = xs.length
  · have := h.last i x hx h1; omega
  · have := h.mid i x hx (by omega); omega
theorem IsLine.behind {xs : List Ins} (h : IsLine xs) {i : Nat} {x : Ins} (hx : xs[i]? = some x) : behindOf i x = if i + 1 = xs.length then [] else [(i : Int) + 1] := by
  have hi := (List.getElem?_eq_some_iff.1 hx).1
  unfold behindOf
  by_cases h1 : i + 1 = xs.length
  · have := h.last i x hx h1
    rw [if_pos (by omega), if_pos h1]
  · have := h.mid i x hx (by omega)
    rw [if_neg (by omega), if_neg (by omega), if_neg (by omega), if_neg (by omega), if_neg h1]
theorem IsLine.tame {xs : List Ins} (h : IsLine xs) : Tame xs := by
  intro i x hx
  refine ⟨?_, h.wf i x hx⟩
  intro n hn
  have hi := (List.getElem?_eq_some_iff.1 hx).1
  rw [h.behind hx] at hn
  split at hn
  · cases hn
  · simp at hn; omega
theorem firstBad_none {f : Nat → Ins → Bool} : ∀ (l : List Ins) (i : Nat), (∀ j x, l[j]? = some x → f (i + j) x = true) → firstBad f i l = none
  | [], _, _ => rfl
  | x :: l, i, h => by
    show (if f i x then firstBad f (i + 1) l else some i) = none
    have h0 := h 0 x rfl
    rw [Nat.add_zero] at h0
    rw [if_pos h0]
    exact firstBad_none l (i + 1) fun j y hy => by
      have := h (j + 1) y (by simpa using hy)
      rwa [show i + (j + 1) = i + 1 + j by omega] at this
theorem IsLine.check {xs : List Ins} (h : IsLine xs) : checkOf xs = (0, 0) := by
  have h0 := h.pos
  have h1 := h.le
  unfold checkOf
  rw [if_neg (by omega), if_neg (by omega), firstBad_none xs 0 fun j x hx => by rw [Nat.zero_add]; exact h.one j x hx]
  simp only
  rw [firstBad_none xs 0 fun j x hx => by
    have := h.kinds hx
    unfold landsOk
    rw [if_neg (by omega)]]
  simp only
  have hl : xs[xs.length - 1]? = some xs[xs.length - 1] := List.getElem?_eq_getElem (by omega)
  have hk := h.last _ _ hl (by omega)
  have : lastOk xs = true := by
    unfold lastOk
    rw [hl]
    simp [hk]
  rw [if_pos this]

def colr (n i : Nat) (z : Int) : Array Int := Array.ofFn (n := n) fun j => if j.val ≤ i then 1 else z
@[simp] theorem colr_size (n i : Nat) (z : Int) : (colr n i z).size = n := by simp [colr]
theorem colr_get (n i : Nat) (z : Int) (j : Nat) (h : j < n) : (colr n i z)[j]! = if j ≤ i then 1 else z := by simp [colr, h]
theorem colr_ext {n i : Nat} {z : Int} {c : Array Int} (hs : c.size = n) (h : ∀ j, j < n → c[j]! = if j ≤ i then 1 else z) : c = colr n i z := by
  apply Array.ext (by simp [hs])
  intro j h1 h2
  have e1 := h j (by omega)
  have e2 := colr_get n i z j (by omega)
  rw [← e1] at e2
  rw [getElem!_pos c j h1, getElem!_pos (colr n i z) j h2] at e2
  exact e2.symm
theorem set_get (c : Array Int) (i : Nat) (x : Int) (j : Nat) (hj : j < c.size) : (c.setIfInBounds i x)[j]! = if i = j then x else c[j]! := by
  by_cases h : i = j
  · subst h; simp [hj]
  · have : (c.setIfInBounds i x)[j]? = c[j]? := Array.getElem?_setIfInBounds_ne h
    simp [getElem!_def, this, h]
theorem line_visit {xs : List Ins} (h : IsLine xs) : ∀ (r i : Nat) (x : Ins), r + i + 1 = xs.length → xs[i]? = some x → VisitL xs r (colr xs.length i 0) false (behindOf i x) (colr xs.length i 2) false := by
  intro r
  induction r with
  | zero =>
    intro i x hr hx
    rw [h.behind hx, if_pos (by omega)]
    have : colr xs.length i 2 = colr xs.length i 0 := by
      refine colr_ext (by simp) fun j hj => ?_
      rw [colr_get _ _ _ _ hj, if_pos (by omega), if_pos (by omega)]
    rw [this]
    exact .nil _ _ _
  | succ r ih =>
    intro i x hr hx
    rw [h.behind hx, if_neg (by omega)]
    have hy : xs[i + 1]? = some xs[i + 1] := List.getElem?_eq_getElem (by omega)
    have e : ((i : Int) + 1).toNat = i + 1 := by omega
    have hi := ih (i + 1) _ (by omega) hy
    have s1 : (colr xs.length i 0).setIfInBounds (i + 1) 1 = colr xs.length (i + 1) 0 := by
      refine colr_ext (by simp) fun j hj => ?_
      rw [set_get _ _ _ _ (by simpa using hj), colr_get _ _ _ _ hj]
      split <;> split <;> (try split) <;> omega
    have s2 : (colr xs.length (i + 1) 2).setIfInBounds (i + 1) 2 = colr xs.length i 2 := by
      refine colr_ext (by simp) fun j hj => ?_
      rw [set_get _ _ _ _ (by simpa using hj), colr_get _ _ _ _ hj]
      split <;> split <;> (try split) <;> omega
    refine .fresh (x := xs[i + 1]) (d1 := colr xs.length (i + 1) 2) (lo1 := false) ?_ (by rw [e]; exact hy) ?_ ?_
    · rw [e, colr_get _ _ _ _ (by omega), if_neg (by omega)]
    · rw [e, s1]; exact hi
    · rw [e, s2]; exact .nil _ _ _
theorem IsLine.walks {xs : List Ins} (h : IsLine xs) : ∃ d, Walks xs d false ∧ AllSeen xs d := by
  have h0 := h.pos
  have hx : xs[0]? = some xs[0] := List.getElem?_eq_getElem h0
  have s0 : (Array.replicate xs.length (0 : Int)).setIfInBounds 0 1 = colr xs.length 0 0 := by
    refine colr_ext (by simp) fun j hj => ?_
    rw [set_get _ _ _ _ (by simpa using hj)]
    by_cases h : 0 = j
    · rw [if_pos h, if_pos (by omega)]
    · rw [if_neg h, if_neg (by omega)]; simp [hj]
  refine ⟨(colr xs.length 0 2).setIfInBounds 0 2, ⟨xs.length - 1, xs[0], colr xs.length 0 2, hx, ?_, rfl⟩, ?_⟩
  · rw [s0]
    exact line_visit h (xs.length - 1) 0 _ (by omega) hx
  · intro i x hi
    have hlt := (List.getElem?_eq_some_iff.1 hi).1
    left
    rw [set_get _ _ _ _ (by simpa using hlt), colr_get _ _ _ _ hlt]
    split
    · rfl
    · rw [if_neg (by omega)]
end Go.Proofs.YtkgpmjjleemdlaaGreat
namespace Go.Proofs.YtkgpmjjleemdlaaGreat
open Go.Eng

def movI (d : Nat) (n : Int) : Ins := ⟨183, d, 0, 0, n⟩
theorem parts_mov : partsOf 183 = ⟨1, 11, 0, true, false⟩ := by rfl
theorem parts_exit : partsOf 149 = ⟨5, 0, 0, false, false⟩ := by rfl
def u64 (n : Int) : Int := IntKind.u64.wrap n
theorem u64_rng (n : Int) : 0 ≤ u64 n ∧ u64 n < 18446744073709551616 := by
  unfold u64
  rw [IntKind.wrap_u64]
  omega
theorem eval_mov (b : Int) : evalOf 11 true 0 b = b := by simp [evalOf, plainOf, low32]
theorem step_alu {J : Job} {p : Nat} (hp : p ≤ 1000) {x : Ins} (hx : J.xs[p]? = some x) (hw : x.wf) (hk : kindOf x = 1) (s : AState) (hd : x.dst < 11) (hs : x.src < 11) {a b : Int} (ha0 : 0 ≤ a) (ha1 : a < 18446744073709551616) (hb0 : 0 ≤ b) (hb1 : b < 18446744073709551616)
    (hA : aluA (partsOf x.op) (s.r x.dst) (secondA s x (partsOf x.op).reg) = knownR a) (hB : secondA s x (partsOf x.op).reg = knownR b) :
    StepOk J p s (.on (p + 1) (s.setR x.dst (knownR (evalOf (partsOf x.op).op (partsOf x.op).long a b)))) := by
  intro w left hc hl
  refine step_by s _ hc hl hx hw (.inl hk) (fun _ w' hk' => ?_) (fun h => by omega) (fun h => by omega) (fun h => by omega) (fun h => by omega)
  have hlt : J.cb < w'.heap.size := Nat.lt_of_lt_of_le (blk_lt hc.box) hk'.size
  refine (alu_num w' J.cb hlt p s hw (partsOf x.op) hd hs ha0 ha1 hb0 hb1 hA hB).mono fun r w2 h => ?_
  have e : IntKind.i64.wrap ((p : Int) + 1) = ((p + 1 : Nat) : Int) := by rw [i64w (by omega) (by omega)]; omega
  rw [e] at h
  exact h
theorem step_mov {J : Job} {p d : Nat} {n : Int} (hp : p ≤ 1000) (hx : J.xs[p]? = some (movI d n)) (hd : d < 10) (h1 : -2147483648 ≤ n) (h2 : n ≤ 2147483647) (s : AState) : StepOk J p s (.on (p + 1) (s.setR d (knownR (u64 n)))) := by
  have hk : kindOf (movI d n) = 1 := by simp [kindOf, movI, parts_mov]
  have hr : (partsOf (movI d n).op).reg = false := by simp [movI, parts_mov]
  have hB : secondA s (movI d n) (partsOf (movI d n).op).reg = knownR (u64 n) := by
    rw [hr]; rfl
  have hA : aluA (partsOf (movI d n).op) (s.r (movI d n).dst) (secondA s (movI d n) (partsOf (movI d n).op).reg) = knownR 0 := by
    rw [hB]
    unfold aluA
    rw [if_pos ⟨by simp [movI, parts_mov], rfl⟩]
  have h := step_alu hp hx ⟨by simp [movI], by simp [movI]; omega, by simp [movI], by simp [movI], by simp [movI]; omega⟩ hk s (by simp [movI]; omega) (by simp [movI]) (by omega) (by omega) (u64_rng n).1 (u64_rng n).2 hA hB
  have e : evalOf (partsOf (movI d n).op).op (partsOf (movI d n).op).long 0 (u64 n) = u64 n := by
    simp only [movI, parts_mov]
    exact eval_mov _
  rw [e] at h
  exact h
theorem exit_kind : kindOf exitI = 5 := by simp [kindOf, exitI, parts_exit]
theorem step_exit {J : Job} {p : Nat} (hx : J.xs[p]? = some exitI) (s : AState) (h1 : (s.r 0).kind = 1) : StepOk J p s .done := by
  intro w left hc hl
  have hk := exit_kind
  refine step_by s _ hc hl hx ⟨by simp [exitI], by simp [exitI], by simp [exitI], by simp [exitI], by simp [exitI]⟩ (by omega) (fun h => by omega) (fun h => by omega) (fun _ => by rw [if_pos h1]) (fun h => by omega) (fun h => by omega)
theorem end_ret (w : World) (n : Int) : Ret Tryz.prog 7 [.int .i32 n] w fun r w' => Kept none' w w' ∧ ∃ b, r = .slice (some ⟨b, 0, none⟩) 2 2 ∧ CodeAt w' b 0 [movI 0 n, exitI] ∧ w.heap.size ≤ b := by
  refine ret_of_W Tryz.func7 rfl ok_tipstaffref18_End ?_
  simp only [c_tipstaffref18_End, W_seq, W_set]
  refine ok_intro (.slice none 0 0) (by simp) ?_
  try simp only [W_seq]
  refine W_chkIn [exitI.val, (movI 0 n).val] (by simp; exact ⟨rfl, rfl⟩) ?_
  try simp only [W_seq]
  refine W_row' (v := .agg (insCells [movI 0 n, exitI]).toArray) (cs := (insCells [movI 0 n, exitI]).toArray) (by simp [insCells]; exact ⟨by rw [Go.Eng.setRow_size]; simp, rfl⟩) rfl ?_
  simp
  refine ⟨(Kept.refl none' w).alloc _, ?_⟩
  refine code_of_cells fun j y hy => ?_
  rw [Nat.zero_add, wcell_of (hp_new w _)]
  simpa using hy
end Go.Proofs.YtkgpmjjleemdlaaGreat
namespace Go.Proofs.YtkgpmjjleemdlaaGreat
open Go.Eng
attribute [local irreducible] Go.Eng.W

theorem mod_k (x d : Int) (hd : 0 < d) : ∃ k : Nat, (k : Int) < d ∧ (IntKind.u64.wrap x).tmod d = k := by
  have h0 : 0 ≤ IntKind.u64.wrap x := by rw [IntKind.wrap_u64]; omega
  have h1 := Int.tmod_nonneg d h0
  have h2 := Int.tmod_lt_of_pos (IntKind.u64.wrap x) hd
  exact ⟨((IntKind.u64.wrap x).tmod d).toNat, by omega, by omega⟩
def lineS (k : Nat) (n : Int) : List Ins := (List.range k).map fun i => movI (i % 10) n
def stepsL (k : Nat) (n : Int) : List Ins := lineS k n ++ [movI 0 1, exitI]
theorem lineS_len (k : Nat) (n : Int) : (lineS k n).length = k := by simp [lineS]
theorem lineS_succ (k : Nat) (n : Int) : lineS (k + 1) n = lineS k n ++ [movI (k % 10) n] := by simp [lineS, List.range_succ]
theorem stepsL_len (k : Nat) (n : Int) : (stepsL k n).length = k + 2 := by simp [stepsL, lineS_len]
theorem stepsL_at {k : Nat} {n : Int} {i : Nat} {x : Ins} (h : (stepsL k n)[i]? = some x) : (i < k ∧ x = movI (i % 10) n) ∨ (i = k ∧ x = movI 0 1) ∨ (i = k + 1 ∧ x = exitI) := by
  unfold stepsL at h
  rcases Nat.lt_or_ge i k with hi | hi
  · rw [List.getElem?_append_left (by rw [lineS_len]; exact hi)] at h
    left
    refine ⟨hi, ?_⟩
    unfold lineS at h
    rw [List.getElem?_map, List.getElem?_range hi] at h
    simpa using h.symm
  · rw [List.getElem?_append_right (by rw [lineS_len]; exact hi), lineS_len] at h
    right
    have hlt := (List.getElem?_eq_some_iff.1 h).1
    simp at hlt
    rcases (by omega : i = k ∨ i = k + 1) with rfl | rfl
    · left; simp at h; exact ⟨rfl, h.symm⟩
    · right; simp at h; exact ⟨rfl, h.symm⟩
theorem stepsL_mid {k : Nat} {n : Int} {i : Nat} (h : i < k) : (stepsL k n)[i]? = some (movI (i % 10) n) := by
  have hlt : i < (stepsL k n).length := by rw [stepsL_len]; omega
  have hx := List.getElem?_eq_getElem hlt
  rcases stepsL_at hx with ⟨_, h2⟩ | ⟨h2, _⟩ | ⟨h2, _⟩
  · rw [hx, h2]
  · omega
  · omega
theorem stepsL_one (k : Nat) (n : Int) : (stepsL k n)[k]? = some (movI 0 1) := by
  have hlt : k < (stepsL k n).length := by rw [stepsL_len]; omega
  have hx := List.getElem?_eq_getElem hlt
  rcases stepsL_at hx with ⟨h2, _⟩ | ⟨_, h2⟩ | ⟨h2, _⟩
  · omega
  · rw [hx, h2]
  · omega
theorem stepsL_last (k : Nat) (n : Int) : (stepsL k n)[k + 1]? = some exitI := by
  have hlt : k + 1 < (stepsL k n).length := by rw [stepsL_len]; omega
  have hx := List.getElem?_eq_getElem hlt
  rcases stepsL_at hx with ⟨h2, _⟩ | ⟨h2, _⟩ | ⟨_, h2⟩
  · omega
  · omega
  · rw [hx, h2]
theorem mov_wf {d : Nat} {n : Int} (hd : d < 256) (h1 : -2147483648 ≤ n) (h2 : n ≤ 2147483647) : (movI d n).wf := ⟨by simp [movI], by simpa [movI] using hd, by simp [movI], by simp [movI], by simp [movI]; omega⟩
theorem exit_wf : exitI.wf := ⟨by simp [exitI], by simp [exitI], by simp [exitI], by simp [exitI], by simp [exitI]⟩
theorem mov_kind (d : Nat) (n : Int) : kindOf (movI d n) = 1 := by simp [kindOf, movI, parts_mov]
theorem mov_ok (xs : List Ins) (i d : Nat) (n : Int) (hd : d < 10) : oneOk xs i (movI d n) = true := by
  have h1 : d < 11 := by omega
  have h2 : ¬ d = 10 := by omega
  simp [oneOk, movI, parts_mov, plainOk, namedOf, constOk, h1, h2]
theorem exit_ok (xs : List Ins) (i : Nat) : oneOk xs i exitI = true := by
  simp [oneOk, exitI, parts_exit, plainOk, namedOf]
theorem steps_line {k : Nat} (hk : k ≤ 250) {n : Int} (h1 : -2147483648 ≤ n) (h2 : n ≤ 2147483647) : IsLine (stepsL k n) where
  pos := by rw [stepsL_len]; omega
  le := by rw [stepsL_len]; omega
  wf := fun i x hx => by
    rcases stepsL_at hx with ⟨_, rfl⟩ | ⟨_, rfl⟩ | ⟨_, rfl⟩
    · exact mov_wf (by omega) h1 h2
    · exact mov_wf (by omega) (by omega) (by omega)
    · exact exit_wf
  one := fun i x hx => by
    rcases stepsL_at hx with ⟨_, rfl⟩ | ⟨_, rfl⟩ | ⟨_, rfl⟩
    · exact mov_ok _ _ _ _ (by omega)
    · exact mov_ok _ _ _ _ (by omega)
    · exact exit_ok _ _
  mid := fun i x hx hi => by
    rw [stepsL_len] at hi
    rcases stepsL_at hx with ⟨_, rfl⟩ | ⟨_, rfl⟩ | ⟨h, rfl⟩
    · left; exact mov_kind _ _
    · left; exact mov_kind _ _
    · omega
  last := fun i x hx hi => by
    rw [stepsL_len] at hi
    rcases stepsL_at hx with ⟨_, rfl⟩ | ⟨_, rfl⟩ | ⟨h, rfl⟩
    · omega
    · omega
    · exact exit_kind

/-- A run along a line. -/
theorem goes_line {J : Job} {most len : Nat} (f : Nat → AState) (hm : len ≤ most) (hstep : ∀ p, p + 1 < len → StepOk J p (f p) (.on (p + 1) (f (p + 1)))) (hlast : ∀ p, p + 1 = len → StepOk J p (f p) .done) :
    ∀ (r p : Nat) (seen : Nat → List AState), r + p + 1 = len → (∀ q, p ≤ q → seen q = []) → Goes J most seen p p (f p) 0 len 0 := by
  intro r
  induction r with
  | zero =>
    intro p seen hr hs
    have e : len = p + 1 := by omega
    subst e
    exact .done (by omega) (fun t ht => by rw [hs p (by omega)] at ht; cases ht) (hlast p rfl)
  | succ r ih =>
    intro p seen hr hs
    refine .on (by omega) (fun t ht => by rw [hs p (by omega)] at ht; cases ht) (hstep p (by omega)) (ih (p + 1) _ (by omega) fun q hq => ?_)
    unfold seenPut
    rw [if_neg (by omega)]
    exact hs q (by omega)
def stepSt (n : Int) : Nat → AState
  | 0 => AState.start
  | p + 1 => (stepSt n p).setR (p % 10) (knownR (u64 n))
def stepsF (k : Nat) (n : Int) (p : Nat) : AState := if p ≤ k then stepSt n p else (stepSt n k).setR 0 (knownR (u64 1))
theorem steps_goes {k : Nat} (hk : k ≤ 250) {n : Int} (h1 : -2147483648 ≤ n) (h2 : n ≤ 2147483647) (J : Job) (hJ : J.xs = stepsL k n) {most : Nat} (hm : 252 ≤ most) : Goes J most (fun _ => []) 0 0 AState.start 0 (k + 2) 0 := by
  have h0 := goes_line (J := J) (most := most) (len := k + 2) (stepsF k n) (by omega) ?_ ?_ (k + 1) 0 (fun _ => []) (by omega) (fun _ _ => rfl)
  · have : stepsF k n 0 = AState.start := by unfold stepsF; rw [if_pos (by omega)]; rfl
    rw [this] at h0
    exact h0
  · intro p hp
    rcases (by omega : p < k ∨ p = k) with hlt | rfl
    · have := step_mov (J := J) (p := p) (d := p % 10) (n := n) (by omega) (by rw [hJ]; exact stepsL_mid hlt) (by omega) h1 h2 (stepSt n p)
      unfold stepsF
      rw [if_pos (by omega), if_pos (by omega)]
      exact this
    · have := step_mov (J := J) (p := p) (d := 0) (n := 1) (by omega) (by rw [hJ]; exact stepsL_one p n) (by omega) (by omega) (by omega) (stepSt n p)
      unfold stepsF
      rw [if_pos (by omega), if_neg (by omega)]
      exact this
  · intro p hp
    have hp : p = k + 1 := by omega
    subst hp
    refine step_exit (by rw [hJ]; exact stepsL_last k n) _ ?_
    unfold stepsF
    rw [if_neg (by omega)]
    rfl
theorem steps_check {k : Nat} (hk : k ≤ 250) {n : Int} (h1 : -2147483648 ≤ n) (h2 : n ≤ 2147483647) {v : Value} (w : World) (h : SlIs w v (stepsL k n)) (priv : Bool) :
    Ret Tryz.prog 8 [v, .agg #[.slice none 0 0, .slice none 0 0, .bool priv]] w fun r w' => r = .tuple #[.agg #[.int .i64 0, .int .i64 ((k + 2 : Nat) : Int)], .int .i64 0] ∧ Kept none' w w' := by
  have hL := steps_line hk h1 h2
  obtain ⟨d, hd, hs⟩ := hL.walks
  have := vcheck_ret hL.tame hL.le hL.check hd hs w h priv (by unfold cfgOf; simp) (a := 0) (e := 0) (m := k + 2) fun J hJ _ _ _ _ => steps_goes hk h1 h2 J hJ (by unfold mostOf; split <;> omega)
  exact this
theorem code_one {w : World} {b : Nat} {x : Ins} {fz : Nat × Nat} (h : w.heap[b]? = some (.cells x.arr 28 fz)) : CodeAt w b 0 [x] := by
  refine code_of_cells fun j y hy => ?_
  rw [Nat.zero_add, wcell_of h]
  simpa [insCells] using hy
set_option maxHeartbeats 4000000 in
theorem vsteps_ret (n q : Int) (hq1 : -2147483648 ≤ q) (hq2 : q ≤ 2147483647) (w : World) (hchk : ∀ w', Kept none' w w' → Ret Tryz.prog 9 [] w' fun r w'' => r = .bool true ∧ Kept none' w' w'') :
    Ret Tryz.prog 5 [.int .i64 n, .int .i32 q] w fun v w' => v = .bool true ∧ Kept none' w w' := by
  refine ret_of_W Tryz.func5 rfl ok_tipstafflaw18_VerifySteps ?_
  obtain ⟨k, hk, ek⟩ := mod_k n 250 (by omega)
  have e1 : IntKind.i64.wrap (k : Int) = k := i64w (by omega) (by omega)
  simp only [c_tipstafflaw18_VerifySteps, W_seq, W_set]
  refine ok_intro (.bool false) (by simp) ?_
  try simp only [W_seq, W_set]
  refine ok_intro (.int .i64 k) (by simp [ek, e1]) ?_
  try simp only [W_seq, W_set]
  refine ok_intro (.slice none 0 0) (by simp) ?_
  try simp only [W_seq, W_set]
  refine ok_intro (.int .i64 0) (by simp) ?_
  try simp only [W_seq]
  rw [W_block]
  refine W_loop (fun env w' => ∃ (j : Nat) (v : Value), Kept none' w w' ∧ env = [undef, .int .i32 q, undef, .int .i64 k, v, .int .i64 j, undef, undef, undef, undef, undef, undef, undef, undef, undef, undef, undef] ∧ j ≤ k ∧ InsRow w' v (lineS j q) ∧ (∀ g, v.ownBlock = some g → w.heap.size ≤ g))
    (fun env _ => k - natAt env 5) ?_ ?_
  · exact ⟨0, .slice none 0 0, Kept.refl _ _, by simp, by omega, row_nil _ _ _, fun g hg => by cases hg⟩
  rintro env w1 ⟨j, v, hk1, rfl, hj, hrow, hown⟩
  have hvv := rowVar hrow
  simp only [W_seq]
  by_cases hjk : j < k
  · have hjk' : (j : Int) < k := by omega
    refine W_yes (by simp [hjk']) ?_
    simp only [W_skip, W_seq, W_block]
    have em : ((j : Int) % 10) = ((j % 10 : Nat) : Int) := by omega
    have e2 : IntKind.u8.wrap ((j : Int).tmod 10) = ((j % 10 : Nat) : Int) := by
      rw [Int.tmod_eq_emod_of_nonneg (by omega), em, IntKind.wrap_u8]; omega
    refine W_chkIn [(movI (j % 10) q).val, v] (by simp [hvv, e2]; rfl) ?_
    try simp only [W_seq]
    refine W_row' (v := (movI (j % 10) q).val) (cs := (movI (j % 10) q).arr) (by simp [e2]; rfl) rfl ?_
    have h6 := hp_new w1 (.cells (movI (j % 10) q).arr 28)
    have hk2 : Kept none' w1 (w1.alloc (.cells (movI (j % 10) q).arr 28)) := (Kept.refl _ _).alloc _
    have hrow2 := rowCalm hrow hk2
    have hsz : w.heap.size ≤ w1.heap.size := hk1.size
    generalize w1.alloc (.cells (movI (j % 10) q).arr 28) = w2 at *
    generalize w1.heap.size = b2 at *
    obtain ⟨v', w3, hrun, hrow3, hk3, hown3⟩ := ins_append (c := 1) hrow2 (by rw [lineS_len]; simp; omega) (code_one h6)
    try simp only [W_seq]
    refine W_bi (vs := [v, .slice (some ⟨b2, 0, none⟩) 1 1]) (by simp [hvv]) hrun (stab_nil _ _ _) ?_
    have hvv' := rowVar hrow3
    have hk4 : Kept none' w w3 := (hk1.trans hk2).then hk3 (fun b hb hS => by have := hown b hS; omega)
    have hs4 := (hk1.trans hk2).size
    have e5 := i64_succ (j := j) (by omega)
    rw [← lineS_succ] at hrow3
    simp [hvv', e5, -Int.natCast_add]
    refine ⟨⟨hk4, j + 1, v', ⟨rfl, rfl⟩, by omega, hrow3, fun g hg => ?_⟩, ?_⟩
    · rcases hown3 with h | h
      · rw [h] at hg; exact hown g hg
      · rw [h] at hg; cases hg; omega
    · simp [natAt]; omega
  have hje : j = k := by omega
  subst hje
  refine W_no (by simp) ?_
  simp only [W_skip, W_exit, Wx_exit_c, Wx_exit_post, Wx_exit_blk, W_seq, W_set, if_true, if_false]
  refine W_chkIn [v] (by simp [hvv]) ?_
  try simp only [W_seq]
  refine W_calmP (by simp) (end_ret w1 1) ?_
  rintro r w2 hk2 ⟨b, rfl, hcode, hb⟩
  obtain ⟨v', w3, hrun, hrow3, hk3, hown3⟩ := ins_append (c := 2) (rowCalm hrow hk2) (by rw [lineS_len]; simp; omega) hcode
  try simp only [W_seq]
  refine W_bi (vs := [v, .slice (some ⟨b, 0, none⟩) 2 2]) (by simp [hvv]) hrun (stab_nil _ _ _) ?_
  have hvv' := rowVar hrow3
  have hk03 : Kept none' w w3 := (hk1.trans hk2).then hk3 (fun b hb hS => by have := hown b hS; omega)
  have hsl : SlIs w3 v' (stepsL j q) := ins_sl hrow3
  clear hrow hrow3 hk3 hown3 hown hrun hcode
  simp only [W_seq, W_set]
  refine ok_intro v' (by simp [hvv']) ?_
  try simp only [W_seq]
  refine W_calm (vs := [v', .agg #[.slice none 0 0, .slice none 0 0, .bool false]]) (by simp [hvv']) (steps_check (by omega) hq1 hq2 w3 hsl false) ?_
  intro w4 hk4
  try simp only [W_seq]
  refine W_chkIn [.int .i64 0, .agg #[.int .i64 0, .int .i64 ((j + 2 : Nat) : Int)]] (by simp) ?_
  try simp only [W_seq]
  refine W_new' (v := .agg #[.int .i64 0, .int .i64 0]) (cs := #[.int .i64 0, .int .i64 0]) (by simp) rfl ?_
  have hR := hp_new w4 (.cells #[.int .i64 0, .int .i64 0] 32)
  have hk5 := (Kept.refl none' w4).alloc (.cells #[.int .i64 0, .int .i64 0] 32)
  have hk04 := hk03.trans hk4
  have hs4 := hk04.size
  have hs34 := hk4.size
  generalize (w4.alloc (.cells #[.int .i64 0, .int .i64 0] 32)) = w5 at *
  generalize w4.heap.size = b11 at *
  have hs11 := box_store (v := .agg #[.int .i64 0, .int .i64 ((j + 2 : Nat) : Int)]) hR (n := 2) rfl rfl (by simp [Value.cells, Value.oneCell'])
  try simp only [W_seq]
  refine W_store (vv := .agg #[.int .i64 0, .int .i64 ((j + 2 : Nat) : Int)]) (by simp) (by simp) hs11 (stab_nil _ _ _) ?_
  have hcc : (Value.agg #[.int .i64 0, .int .i64 ((j + 2 : Nat) : Int)]).cells = #[.int .i64 0, .int .i64 ((j + 2 : Nat) : Int)] := rfl
  rw [hcc]
  have hR6 := put_same (o := .cells #[.int .i64 0, .int .i64 ((j + 2 : Nat) : Int)] 32) (blk_lt hR)
  have hk06 := (hk04.trans hk5).putNew hs4 (.cells #[.int .i64 0, .int .i64 ((j + 2 : Nat) : Int)] 32 (0, 0))
  have hk36 := (hk4.trans hk5).putNew hs34 (.cells #[.int .i64 0, .int .i64 ((j + 2 : Nat) : Int)] 32 (0, 0))
  generalize put w5 b11 (.cells #[.int .i64 0, .int .i64 ((j + 2 : Nat) : Int)] 32 (0, 0)) = w6 at *
  simp only [W_seq, W_set]
  refine ok_intro (.int .i64 0) (by simp) ?_
  try simp only [W_seq]
  refine W_chkIn [.agg #[.slice none 0 0, .slice none 0 0, .bool true]] (by simp) ?_
  try simp only [W_seq]
  refine W_calm (vs := [v', .agg #[.slice none 0 0, .slice none 0 0, .bool true]]) (by simp [hvv']) (steps_check (by omega) hq1 hq2 w6 (hsl.calm hk36) true) ?_
  intro w7 hk7
  have hk07 := hk06.trans hk7
  have hR7 := hk7.has hR6 fun h => h
  have hs7 := hk07.size
  clear hk06 hk36 hR hs11 hk5 hk4 hR6
  try simp only [W_seq]
  refine W_chkIn [.int .i64 0, .agg #[.int .i64 0, .int .i64 ((j + 2 : Nat) : Int)]] (by simp) ?_
  try simp only [W_seq]
  refine W_new' (v := .agg #[.int .i64 0, .int .i64 0]) (cs := #[.int .i64 0, .int .i64 0]) (by simp) rfl ?_
  have hR := hp_new w7 (.cells #[.int .i64 0, .int .i64 0] 32)
  have hk8 := (Kept.refl none' w7).alloc (.cells #[.int .i64 0, .int .i64 0] 32)
  have hR8 := hk8.has hR7 fun h => h
  have hk08 := hk07.trans hk8
  have hbb : b11 < w7.heap.size := blk_lt hR7
  generalize (w7.alloc (.cells #[.int .i64 0, .int .i64 0] 32)) = w8 at *
  generalize w7.heap.size = b14 at *
  have hs14 := box_store (v := .agg #[.int .i64 0, .int .i64 ((j + 2 : Nat) : Int)]) hR (n := 2) rfl rfl (by simp [Value.cells, Value.oneCell'])
  try simp only [W_seq]
  refine W_store (vv := .agg #[.int .i64 0, .int .i64 ((j + 2 : Nat) : Int)]) (by simp) (by simp) hs14 (stab_nil _ _ _) ?_
  rw [hcc]
  have hR9 := put_same (o := .cells #[.int .i64 0, .int .i64 ((j + 2 : Nat) : Int)] 32) (blk_lt hR)
  have hR19 := (put_other (o := .cells #[.int .i64 0, .int .i64 ((j + 2 : Nat) : Int)] 32) (w := w8) (show b11 ≠ b14 by omega)).trans hR8
  have hk09 := hk08.putNew hs7 (.cells #[.int .i64 0, .int .i64 ((j + 2 : Nat) : Int)] 32 (0, 0))
  generalize put w8 b14 (.cells #[.int .i64 0, .int .i64 ((j + 2 : Nat) : Int)] 32 (0, 0)) = w9 at *
  simp only [W_seq, W_set]
  refine ok_intro (.int .i64 0) (by simp) ?_
  try simp only [W_seq]
  refine W_calm (by simp) (hchk w9 hk09) ?_
  intro w10 hk10
  have c11 : wcell w10 b11 1 = some (.int .i64 ((j + 2 : Nat) : Int)) := by rw [wcell_of (hk10.has hR19 fun h => h)]; rfl
  have c14 : wcell w10 b14 1 = some (.int .i64 ((j + 2 : Nat) : Int)) := by rw [wcell_of (hk10.has hR9 fun h => h)]; rfl
  have e5 : IntKind.i64.wrap ((j : Int) + 2) = ((j + 2 : Nat) : Int) := by rw [i64w (by omega) (by omega)]; omega
  simp [c11, c14, e5, -Int.natCast_add]
  exact hk09.trans hk10
end Go.Proofs.YtkgpmjjleemdlaaGreat
