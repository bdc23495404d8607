/- Layer 20: the walk of a case's maps. -/
import Derived.Test.YtmfgdbapankamaaGreatGr34
set_option linter.unusedSimpArgs false
set_option linter.unusedVariables false
set_option maxRecDepth 8000
namespace Go.Proofs.YtmfgdbapankamaaGreat
open Go.Eng
structure CaseAt (w : World) (cs : Array Value) (specs : List Spec4) (puts : List PutI) (frz : Int) : Prop where
  size : cs.size = 39
  cspecs : ∃ v, cs[33]? = some v ∧ (v = .slice none 0 0 ∧ specs = [] ∨ ∃ q o c, v = .slice (some ⟨q, o, none⟩) specs.length c ∧ ∀ (i : Nat) (s : Spec4), specs[i]? = some s → wrow w q (o + i * 4) 4 = some (specV s.ty s.ks s.vs s.cap))
  cputs : ∃ v, cs[34]? = some v ∧ (v = .slice none 0 0 ∧ puts = [] ∨ ∃ q o c, v = .slice (some ⟨q, o, none⟩) puts.length c ∧ ∀ (j : Nat) (p : PutI), puts[j]? = some p → ∃ kv vv, wrow w q (o + j * 3) 3 = some #[.int .i64 p.map, kv, vv] ∧ BIn w kv p.key ∧ BIn w vv p.value)
  cfrz : cs[35]? = some (.int .i64 frz)
  bytes : ∀ p ∈ puts, (∀ x ∈ p.key, x ≤ 255) ∧ ∀ x ∈ p.value, x ≤ 255
theorem BIn.var {w : World} {v : Value} {l : List Nat} (h : BIn w v l) : varV v = some v := by
  rcases h with ⟨rfl, _⟩ | ⟨a, c, rfl, _⟩ | ⟨g, off, c, rfl, _⟩ <;> rfl
def MapsP (w : World) (q : List XMap × List XCell) (v : Value) (w' : World) : Prop :=
  Kept none' w w' ∧ ∃ v4 v5 N, v = .tuple #[v4, v5] ∧ Placed w' N q.1 q.2 ∧ MapsAt w' v4 (N.mm.map (·.1)) ∧ (N.mm.map (·.1) = [] → v4 = .slice none 0 0) ∧ (∀ j, N.own q.2.length j → w.heap.size ≤ j) ∧ varV v5 = some v5
theorem wrow_calm {w w' : World} {b off n : Nat} {r : Array Value} (hk : Kept none' w w') (h : wrow w b off n = some r) : wrow w' b off n = some r := by
  unfold wrow at h ⊢
  cases hb : w.heap[b]? with
  | none => rw [hb] at h; cases h
  | some o => rw [hb] at h; rw [hk.has hb fun h => h]; exact h
theorem bys_any {w : World} {v : Value} {l : List Nat} (h : Bys w v l) : ∃ s, bstrv w v = some (.string s) := by
  rcases h with ⟨rfl, _⟩ | ⟨g, cap, cur, rfl, h1, h2, h3, h4, h5⟩
  · exact ⟨_, rfl⟩
  · exact u8_str h1 (by omega) fun j hj => ⟨_, h5 j _ (List.getElem?_eq_getElem hj)⟩
theorem bys_form {w : World} {v : Value} {l : List Nat} (h : Bys w v l) (ho : ∃ j, v.ownBlock = some j) : ∃ g cap, v = .slice (some ⟨g, 0, none⟩) l.length cap ∧ v.ownBlock = some g ∧ l.length ≤ cap ∧ (∃ cur, w.heap[g]? = some (.cells cur 5 (0, 0))) ∧ ∀ (j x : Nat), l[j]? = some x → wcell w g j = some (.int .u8 x) := by
  rcases h with ⟨rfl, _⟩ | ⟨g, cap, cur, rfl, h1, h2, h3, h4, h5⟩
  · obtain ⟨j, hj⟩ := ho
    simp [Value.ownBlock] at hj
  · exact ⟨g, cap, rfl, rfl, h2, ⟨cur, h1⟩, fun j x hx => by rw [wcell_of h1]; exact h5 j x hx⟩
theorem set_last {α : Type} (l : List α) (a a' : α) : (l ++ [a]).set l.length a' = l ++ [a'] := by simp
theorem RefAt.mapKeep {w0 w w' : World} {b : Nat} {ty ks : Int} {vs cap n : Nat} {L : Value} {xs : List Value} {N : Names} {ms : List XMap} {cs : List XCell} (h : RefAt w0 w b ty ks vs cap L n xs) (hP : Placed w N ms cs) (hk : Kept (N.own cs.length) w w') : RefAt w0 w' b ty ks vs cap L n xs := by
  refine h.keep hk (fun hj => ?_) fun g hg hj => ?_
  · obtain ⟨c, T, h1, h2⟩ := hP.own_ty hj
    exact heap_ne h1 h.blk (by rcases h2 with rfl | rfl | rfl | rfl | rfl <;> decide) rfl
  · obtain ⟨c, T, h1, h2⟩ := hP.own_ty hj
    obtain ⟨c', h3⟩ := rowBlk h.row hg
    exact heap_ne h1 h3 (by rcases h2 with rfl | rfl | rfl | rfl | rfl <;> decide) rfl
theorem RefAt.heap {w0 w : World} {b : Nat} {ty ks : Int} {vs cap n : Nat} {L : Value} {xs : List Value} (h : RefAt w0 w b ty ks vs cap L n xs) {j : Nat} (hj : j = b ∨ L.ownBlock = some j) {q : Nat} {c : Array Value} {T : TypeId} {fz : Nat × Nat} (hq : w.heap[q]? = some (.cells c T fz)) (hT : T ≠ 62 ∧ T ≠ 86) : q ≠ j := by
  rcases hj with rfl | hj
  · exact heap_ne hq h.blk hT.1
  · obtain ⟨c', h3⟩ := rowBlk h.row hj
    exact heap_ne hq h3 hT.2
theorem Placed.refKeep {w0 w w' : World} {b : Nat} {ty ks : Int} {vs cap n : Nat} {L : Value} {xs : List Value} {N : Names} {ms : List XMap} {cs : List XCell} (hP : Placed w N ms cs) (h : RefAt w0 w b ty ks vs cap L n xs) (hk : Kept (fun j => j = b ∨ L.ownBlock = some j) w w') : Placed w' N ms cs :=
  hP.keep hk fun i hi hj => by
    obtain ⟨c, T, h1, h2⟩ := hP.own_ty hi
    exact h.heap hj h1 (by rcases h2 with rfl | rfl | rfl | rfl | rfl <;> decide) rfl
def SpecL (w2 : World) (bx b7 : Nat) (s : Spec4) (i : Nat) (v4 v5 : Value) (env : Eng.Env) (w' : World) : Prop :=
  ∃ y8 y9, env = [undef, undef, undef, .pointer (some ⟨bx, 0, none⟩), v4, v5, .int .i64 i, .pointer (some ⟨b7, 0, none⟩), y8, y9, undef, undef, undef, undef, undef, undef, undef, undef, undef, undef, undef, undef, undef, undef, undef, undef, undef, undef] ∧ Kept none' w2 w' ∧ w'.heap[b7]? = some (.cells (specV (fixS s).ty (fixS s).ks (fixS s).vs (fixS s).cap) 43 (0, 0))
def InL (w : World) (bx b7 b br : Nat) (cs : Array Value) (s : Spec4) (q : List XMap × List XCell) (puts : List PutI) (v4 v5 : Value) (bl : List Nat) (env : Eng.Env) (w' : World) : Prop :=
  ∃ (j : Nat) (N' : Names) (L : Value) (n : Nat) (xs : List Value), env = [undef, undef, undef, .pointer (some ⟨bx, 0, none⟩), v4, v5, .int .i64 q.1.length, .pointer (some ⟨b7, 0, none⟩), undef, undef, undef, .pointer (some ⟨b, 0, none⟩), undef, undef, .pointer (some ⟨br, 0, none⟩), .int .i64 j, undef, undef, undef, undef, undef, undef, undef, undef, undef, undef, undef, undef] ∧ j ≤ puts.length ∧ j ≤ 12 ∧
    Placed w' N' (q.1 ++ [(putsX s q.1.length (puts.take j) (newX s q.2.length, q.2 ++ newC s q.1.length)).1]) (putsX s q.1.length (puts.take j) (newX s q.2.length, q.2 ++ newC s q.1.length)).2 ∧
    (∀ k, N'.own (putsX s q.1.length (puts.take j) (newX s q.2.length, q.2 ++ newC s q.1.length)).2.length k → w.heap.size ≤ k) ∧ N'.mm.map (·.1) = bl ++ [b] ∧ Rest w w' bx cs v4 v5 q.1.length bl ∧
    RefAt w w' br s.ty s.ks s.vs.toNat s.cap.toNat L n xs ∧ w'.heap[b7]? = some (.cells (specV s.ty s.ks s.vs s.cap) 43 (0, 0))
def FrzL (w : World) (bx b br : Nat) (cs : Array Value) (s : Spec4) (q : List XMap × List XCell) (puts : List PutI) (frz : Int) (v4 v5 : Value) (bl : List Nat) (env0 : Eng.Env) (env : Eng.Env) (w' : World) : Prop :=
  env = env0 ∧ ∃ N', Placed w' N' (mapOne s puts frz q).1 (mapOne s puts frz q).2 ∧ (∀ k, N'.own (mapOne s puts frz q).2.length k → w.heap.size ≤ k) ∧ N'.mm.map (·.1) = bl ++ [b] ∧ Rest w w' bx cs v4 v5 q.1.length bl
def OutL (w : World) (bx : Nat) (cs : Array Value) (specs : List Spec4) (puts : List PutI) (frz : Int) (env : Eng.Env) (w' : World) : Prop :=
  ∃ (i : Nat) (v4 v5 : Value) (N : Names), env = [undef, undef, undef, .pointer (some ⟨bx, 0, none⟩), v4, v5, .int .i64 i, undef, undef, undef, undef, undef, undef, undef, undef, undef, undef, undef, undef, undef, undef, undef, undef, undef, undef, undef, undef, undef] ∧ i ≤ specs.length ∧ i ≤ 4 ∧
    Placed w' N ((specs.take i).foldl (fun q s => mapOne s puts frz q) ([], [])).1 ((specs.take i).foldl (fun q s => mapOne s puts frz q) ([], [])).2 ∧ (∀ j, N.own ((specs.take i).foldl (fun q s => mapOne s puts frz q) ([], [])).2.length j → w.heap.size ≤ j) ∧ Rest w w' bx cs v4 v5 i (N.mm.map (·.1)) ∧ (i = 0 → v4 = .slice none 0 0)
set_option maxHeartbeats 4000000 in
theorem maps_ret' {w : World} {cs : Array Value} {specs : List Spec4} {puts : List PutI} {frz : Int} (h : CaseAt w cs specs puts frz) : Ret Tryz.prog 4 [.agg cs] w (MapsP w (caseX specs puts frz)) := by
  refine ret_of_W Tryz.func4 rfl ok_tipstafflaw20_Case_maps ?_
  obtain ⟨v33, h33, hsp⟩ := h.cspecs
  obtain ⟨v34, h34, hpu⟩ := h.cputs
  simp only [c_tipstafflaw20_Case_maps]
  rw [W_seq, W_seq]
  refine W_new' (v := .agg cs) (cs := cs) (by simp) rfl ?_
  have hb := hp_new w (.cells cs 29)
  have hk : Kept none' w (w.alloc (.cells cs 29)) := (Kept.refl _ _).alloc _
  generalize w.alloc (.cells cs 29) = w1 at *
  have hbx : w.heap.size ≤ w.heap.size := Nat.le_refl _
  generalize hz : w.heap.size = bx at *
  rw [W_seq]
  simp only [W_set]
  refine ok_intro (.slice none 0 0) (by simp) ?_
  refine ok_intro (.slice none 0 0) (by simp) ?_
  rw [W_seq]
  simp only [W_set]
  refine ok_intro (.slice none 0 0) (by simp) ?_
  rw [W_seq]
  simp only [W_set]
  refine ok_intro (.slice none 0 0) (by simp) ?_
  rw [W_seq, W_seq]
  simp only [W_set]
  refine ok_intro (.int .i64 0) (by simp) ?_
  simp only [W_block, setO, List.set_cons_succ, List.set_cons_zero]
  refine W_loop (OutL w bx cs specs puts frz) (fun env _ => 4 - natAt env 6) ?_ ?_
  · refine ⟨0, _, _, ⟨fun _ => 0, fun _ => 0, []⟩, by simp, by omega, by omega, ⟨rfl, fun i A q hA => by simp at hA, fun c x hx => by simp at hx, fun c d hc => by simp at hc, fun c d hc => by simp at hc, fun i j q r hq => by simp at hq⟩, fun j hj => ?_, ⟨hk, hb, row_nil _ _ _, ⟨[], row_nil _ _ _⟩, fun j hj => by simp [Value.ownBlock] at hj, fun j hj => by simp [Value.ownBlock] at hj⟩, fun _ => rfl⟩
    rcases hj with ⟨q, hq, _⟩ | ⟨c, hc, _⟩
    · simp at hq
    · simp at hc
  · rintro env w2 ⟨i, v4, v5, N, rfl, hi, hi4, hP, hO, hR, hz4⟩
    have len33 : lenV false v33 = some (.int .i64 specs.length) := by
      rcases hsp with ⟨rfl, rfl⟩ | ⟨q, o, c, rfl, _⟩ <;> rfl
    have var33 : varV v33 = some v33 := by
      rcases hsp with ⟨rfl, rfl⟩ | ⟨q, o, c, rfl, _⟩ <;> rfl
    have c33 : wcell w2 bx 33 = some v33 := by rw [wcell_of hR.box]; exact h33
    by_cases hgo : i < specs.length ∧ i < 4
    · obtain ⟨g1, g2⟩ := hgo
      have g1' : (i : Int) < specs.length := by omega
      have g2' : (i : Int) < 4 := by omega
      rw [W_seq]
      refine W_yes (by simp [c33, len33, var33, g1', g2']) ?_
      simp only [W_skip, W_seq, W_block]
      obtain ⟨q33, o33, c33', rfl, hspecs⟩ : ∃ q o c, v33 = .slice (some ⟨q, o, none⟩) specs.length c ∧ ∀ (i : Nat) (s : Spec4), specs[i]? = some s → wrow w q (o + i * 4) 4 = some (specV s.ty s.ks s.vs s.cap) := by
        rcases hsp with ⟨_, e⟩ | h
        · rw [e] at g1; simp at g1
        · exact h
      obtain ⟨s, hs⟩ : ∃ s, specs[i]? = some s := ⟨_, List.getElem?_eq_getElem g1⟩
      have hw8 := wrow_calm hR.kept (hspecs i s hs)
      obtain ⟨hM, hMl⟩ := case_maps specs puts frz i hi
      have hv4 := rowVar hR.r4
      obtain ⟨ys5, hr5⟩ := hR.r5
      have hv5 := rowVar hr5
      simp only [W_set]
      refine ok_intro s.val (by simp [c33, g1', hw8, Spec4.val]) ?_
      rw [W_seq]
      refine W_new' (v := .agg (Array.replicate 4 (.int .i64 0))) (cs := Array.replicate 4 (.int .i64 0)) (by simp) rfl ?_
      have hb7 := hp_new w2 (.cells (Array.replicate 4 (.int .i64 0)) 43)
      have hk3 : Kept none' w2 (w2.alloc (.cells (Array.replicate 4 (.int .i64 0)) 43)) := (Kept.refl _ _).alloc _
      generalize w2.alloc (.cells (Array.replicate 4 (.int .i64 0)) 43) = w3 at *
      have hz2 := hR.kept.size
      have hb72 : w2.heap.size ≤ w2.heap.size := Nat.le_refl _
      generalize hb7e : w2.heap.size = b7 at hb7 hb72 ⊢
      have st : ∀ (w' : World) (c : Array Value) (t : Spec4), w'.heap[b7]? = some (.cells c 43 (0, 0)) → c.size = 4 → stv w' 4 (.pointer (some ⟨b7, 0, none⟩)) t.val = some (put w' b7 (.cells (specV t.ty t.ks t.vs t.cap) 43 (0, 0))) := fun w' c t h1 h2 => box_store (n := 4) (v := t.val) h1 h2 rfl (by simp [Spec4.val, specV, Value.oneCell', Value.cells])
      refine W_store (by simp) (by simp [Spec4.val]) (st w3 _ s hb7 (by simp)) (stab_nil _ _ _) ?_
      have hb8 := put_same (o := .cells (specV s.ty s.ks s.vs s.cap) 43 (0, 0)) (blk_lt hb7)
      have hk4 : Kept none' w2 (put w3 b7 (.cells (specV s.ty s.ks s.vs s.cap) 43 (0, 0))) := hk3.putNew (by omega) _
      generalize put w3 b7 (.cells (specV s.ty s.ks s.vs s.cap) 43 (0, 0)) = w4 at *
      have r7 : ∀ (w' : World) (t : Spec4), w'.heap[b7]? = some (.cells (specV t.ty t.ks t.vs t.cap) 43 (0, 0)) → wrow w' b7 0 4 = some (specV t.ty t.ks t.vs t.cap) := fun w' t h' => wrow_box h' rfl
      rw [W_seq]
      refine W_cut (SpecL w2 bx b7 s i v4 v5) ?_ ?_
      · rw [W_seq]
        refine W_calm (vs := [s.val]) (by simp [r7 _ s hb8, Spec4.val]) (fright_ret s.ty s.ks s.vs s.cap w4) fun w5 hk5 => ?_
        have hb9 := hk5.has hb8 fun h => h
        have hk25 := hk4.trans hk5
        by_cases hok : s.ok
        · have hd : decide (specOk s.ty s.ks s.vs s.cap) = true := decide_eq_true hok
          rw [hd]
          refine W_no (by simp) ?_
          simp
          exact ⟨_, _, rfl, hk25, by unfold fixS; rw [if_pos hok]; exact hb9⟩
        · have hd : decide (specOk s.ty s.ks s.vs s.cap) = false := decide_eq_false hok
          rw [hd]
          refine W_yes (by simp) ?_
          rw [W_seq]
          refine W_chkIn [(⟨1, 1, 8, 2⟩ : Spec4).val] (by simp; rfl) ?_
          refine W_store (by simp) (by simp; rfl) (st w5 _ ⟨1, 1, 8, 2⟩ hb9 rfl) (stab_nil _ _ _) ?_
          simp
          exact ⟨_, _, rfl, hk25.putNew (by omega) _, by unfold fixS; rw [if_neg hok]; exact put_same (blk_lt hb9)⟩
      · rintro env' w5 ⟨y8, y9, rfl, hk25, hb9⟩
        have hsok := fixS_ok s
        generalize hfs : fixS s = s' at *
        have hsv : ((s'.vs.toNat : Nat) : Int) = s'.vs ∧ ((s'.cap.toNat : Nat) : Int) = s'.cap := by
          unfold Spec4.ok specOk at hsok; omega
        obtain ⟨e1, e2⟩ := hsv
        have hP5 := hP.calm hk25
        have hR5 := hR.calm hk25
        have hK5 := hR5.kept
        have hs5 := hK5.size
        have c70 : wcell w5 b7 0 = some (.int .i64 s'.ty) := by rw [wcell_of hb9]; rfl
        have c71 : wcell w5 b7 1 = some (.int .i64 s'.ks) := by rw [wcell_of hb9]; rfl
        have c72 : wcell w5 b7 2 = some (.int .i64 s'.vs) := by rw [wcell_of hb9]; rfl
        have c73 : wcell w5 b7 3 = some (.int .i64 s'.cap) := by rw [wcell_of hb9]; rfl
        rw [W_seq, W_seq]
        refine W_chkIn [s'.val] (by simp [c70, c71, c72, c73]; rfl) ?_
        rw [W_seq]
        refine W_call0 (vs := [s'.val]) (by simp [c70, c71, c72, c73]; rfl) (newP_ret hP5 hsok) ?_
        rintro r w6 ⟨hk6, b, N6, rfl, hP6, hmm6, hO6⟩
        have hb10 := hk6.has hb9 fun h => h
        rw [W_seq]
        refine W_chkIn [.int .i64 0] (by simp) ?_
        rw [W_seq]
        simp only [W_set]
        refine ok_intro (.pointer (some ⟨b, 0, none⟩)) (by simp) ?_
        refine ok_intro (.int .i64 0) (by simp) ?_
        rw [W_seq, W_seq]
        have hfn := fnew_ret (ty := s'.ty) (ks := s'.ks) (vs := s'.vs.toNat) (cap := s'.cap.toNat) (by rw [e1, e2]; exact hsok) w6
        rw [e1, e2] at hfn
        refine W_calmP (vs := [s'.val]) (by simp [r7 _ s' hb10, Spec4.val]) hfn ?_
        rintro r w7 hk7 ⟨br, L, n, xs, rfl, hRf⟩
        simp only [W_set]
        refine ok_intro (.pointer (some ⟨br, 0, none⟩)) (by simp) ?_
        rw [W_seq]
        refine W_no (by simp) ?_
        simp only [W_skip]
        rw [W_seq, W_seq]
        simp only [W_set]
        refine ok_intro (.int .i64 0) (by simp) ?_
        simp only [W_block, setO, List.set_cons_succ, List.set_cons_zero]
        generalize hq : (specs.take i).foldl (fun q s => mapOne s puts frz q) ([], []) = q at *
        have hk67 := hk6.trans hk7
        have hs67 := hk67.size
        have hk57 := hk25.trans hk67
        have hP7 := hP6.calm hk7
        have hR7 := hR.calm hk57
        have hb11 := hk7.has hb10 fun h => h
        subst hMl
        refine W_loop (InL w bx b7 b br cs s' q puts v4 v5 (N.mm.map (·.1))) (fun env _ => 12 - natAt env 15) ?_ ?_
        · exact ⟨0, N6, L, n, xs, by simp, by omega, by omega, hP7, fun k hk => by
            rcases hO6 k hk with h | h
            · exact hO k h
            · omega, hmm6, hR7, ⟨hRf.blk, hRf.row, hRf.small, hRf.strs, ⟨by have := hRf.low.1; have := hk6.size; omega, fun g hg => by have := hRf.low.2 g hg; have := hk6.size; omega⟩, hRf.keys⟩, hb11⟩
        · rintro env w8 ⟨j, N8, L8, n8, x8, rfl, hj, hj12, hP8, hO8, hmm8, hR8, hRf8, hb8'⟩
          have len34 : lenV false v34 = some (.int .i64 puts.length) := by
            rcases hpu with ⟨rfl, rfl⟩ | ⟨q, o, c, rfl, _⟩ <;> rfl
          have var34 : varV v34 = some v34 := by
            rcases hpu with ⟨rfl, rfl⟩ | ⟨q, o, c, rfl, _⟩ <;> rfl
          have c34 : wcell w8 bx 34 = some v34 := by rw [wcell_of hR8.box]; exact h34
          rw [W_seq]
          by_cases hgo : j < puts.length ∧ j < 12
          · obtain ⟨j1, j2⟩ := hgo
            have j1' : (j : Int) < puts.length := by omega
            have j2' : (j : Int) < 12 := by omega
            refine W_yes (by simp [c34, len34, var34, j1', j2']) ?_
            obtain ⟨q34, o34, c34', rfl, hputs⟩ : ∃ q o c, v34 = .slice (some ⟨q, o, none⟩) puts.length c ∧ ∀ (j : Nat) (p : PutI), puts[j]? = some p → ∃ kv vv, wrow w q (o + j * 3) 3 = some #[.int .i64 p.map, kv, vv] ∧ BIn w kv p.key ∧ BIn w vv p.value := by
              rcases hpu with ⟨_, e⟩ | h
              · rw [e] at j1; simp at j1
              · exact h
            obtain ⟨p, hp⟩ : ∃ p, puts[j]? = some p := ⟨_, List.getElem?_eq_getElem j1⟩
            obtain ⟨kv, vv, hpw, hpk, hpv⟩ := hputs j p hp
            have hpw8 := wrow_calm hR8.kept hpw
            have hkvar := hpk.var
            have hvvar := hpv.var
            simp only [W_skip, W_block, W_seq, W_set]
            refine ok_intro (.agg #[.int .i64 p.map, kv, vv]) (by simp [c34, j1', hpw8]) ?_
            refine W_new' (v := .agg #[.int .i64 0, .slice none 0 0, .slice none 0 0]) (cs := #[.int .i64 0, .slice none 0 0, .slice none 0 0]) (by simp) rfl ?_
            have hn16 := hp_new w8 (.cells #[.int .i64 0, .slice none 0 0, .slice none 0 0] 53)
            have hk9 : Kept none' w8 (w8.alloc (.cells #[.int .i64 0, .slice none 0 0, .slice none 0 0] 53)) := (Kept.refl _ _).alloc _
            generalize w8.alloc (.cells #[.int .i64 0, .slice none 0 0, .slice none 0 0] 53) = w9 at *
            have hb16 : w8.heap.size ≤ w8.heap.size := Nat.le_refl _
            generalize hb16e : w8.heap.size = b16 at hn16 hb16 ⊢
            have ok1 : kv.oneCell' = true := by rcases hpk with ⟨rfl, _⟩ | ⟨_, _, rfl, _⟩ | ⟨g, off, c, rfl, _⟩ <;> rfl
            have ok2 : vv.oneCell' = true := by rcases hpv with ⟨rfl, _⟩ | ⟨_, _, rfl, _⟩ | ⟨g, off, c, rfl, _⟩ <;> rfl
            refine W_store (by simp) (by simp) (box_store (n := 3) (v := .agg #[.int .i64 p.map, kv, vv]) hn16 rfl rfl (by have ok0 : (Value.int .i64 p.map).oneCell' = true := rfl; show (#[Value.int .i64 p.map, kv, vv] : Array Value).all (·.oneCell') = true; simp [ok0, ok1, ok2])) (stab_nil _ _ _) ?_
            have hn17 := put_same (o := .cells #[.int .i64 p.map, kv, vv] 53 (0, 0)) (blk_lt hn16)
            have hk10 : Kept none' w8 (put w9 b16 (.cells #[.int .i64 p.map, kv, vv] 53 (0, 0))) := hk9.putNew (by omega) _
            have hcl : (Value.agg #[.int .i64 p.map, kv, vv]).cells = #[.int .i64 p.map, kv, vv] := rfl
            rw [hcl]
            generalize put w9 b16 (.cells #[.int .i64 p.map, kv, vv] 53 (0, 0)) = w10 at *
            have e3 : IntKind.i64.wrap ((j : Int) + 1) = ((j + 1 : Nat) : Int) := i64w (by omega) (by omega)
            have p0 : wcell w10 b16 0 = some (.int .i64 p.map) := by rw [wcell_of hn17]; rfl
            have p1 : wcell w10 b16 1 = some kv := by rw [wcell_of hn17]; rfl
            have p2 : wcell w10 b16 2 = some vv := by rw [wcell_of hn17]; rfl
            have hP10 := hP8.calm hk10
            have hR10 := hR8.calm hk10
            have hRf10 := hRf8.calm hk10
            have hb10' := hk10.has hb8' fun h => h
            have htk := puts_take (s := s') (i := q.1.length) hp (newX s' q.2.length, q.2 ++ newC s' q.1.length)
            have hfl := hM.filled s (puts.take j) (by rw [List.length_take]; omega)
            rw [hfs] at hfl
            have hjl : (puts.take j).length = j := by rw [List.length_take]; omega
            rw [hjl] at hfl
            generalize hu : putsX s' q.1.length (puts.take j) (newX s' q.2.length, q.2 ++ newC s' q.1.length) = u at *
            rw [W_seq]
            by_cases hpm : p.map = (q.1.length : Int)
            · refine W_no (by simp [p0, hpm]) ?_
              simp only [W_skip, W_seq, W_draw]
              have hkd : Kept none' w10 w10.drew := (Kept.refl _ _).drew
              have hP11 := hP10.calm hkd
              have hR11 := hR10.calm hkd
              have hRf11 := hRf10.calm hkd
              have hb11' := hkd.has hb10' fun h => h
              have hn18 := hkd.has hn17 fun h => h
              generalize w10.drew = w11 at *
              have p1 : wcell w11 b16 1 = some kv := by rw [wcell_of hn18]; rfl
              have p2 : wcell w11 b16 2 = some vv := by rw [wcell_of hn18]; rfl
              have c71 : wcell w11 b7 1 = some (.int .i64 s'.ks) := by rw [wcell_of hb11']; rfl
              have c72 : wcell w11 b7 2 = some (.int .i64 s'.vs) := by rw [wcell_of hb11']; rfl
              have e0 : ((s'.ks.toNat : Nat) : Int) = s'.ks := by unfold Spec4.ok specOk at hsok; omega
              have hsm : s'.ks ≤ 16 ∧ s'.vs ≤ 64 ∧ 1 ≤ s'.vs ∧ 1 ≤ s'.cap ∧ s'.cap ≤ 64 := by unfold Spec4.ok specOk at hsok; omega
              refine W_chkIn [.int .i64 s'.ks, kv] (by simp [p1, c71, hkvar]) ?_
              rw [W_seq]
              simp only [W_set]
              refine ok_intro vv (by simp [p2, hvvar]) ?_
              rw [W_seq]
              simp only [W_set]
              refine ok_intro (.int .i64 s'.vs) (by simp [c72]) ?_
              rw [W_seq]
              have hf1 := fit_ret kv p.key s'.ks.toNat w11 (hpk.calm hR11.kept) (by omega)
              rw [e0] at hf1
              refine W_calmP (vs := [kv, .int .i64 s'.ks]) (by simp [p1, c71, hkvar]) hf1 ?_
              rintro rk w12 hk12 ⟨hBk, hok⟩
              have hf2 := fit_ret vv p.value s'.vs.toNat w12 ((hpv.calm hR11.kept).calm hk12) (by omega)
              rw [e1] at hf2
              rw [W_seq]
              refine W_calmP (vs := [vv, .int .i64 s'.vs]) (by simp [hvvar]) hf2 ?_
              rintro rv w13 hk13 ⟨hBv, hov⟩
              have hBk13 := hBk.keep hk13 fun _ _ h => h
              obtain ⟨gk, ck, rfl, hgk0, hck, ⟨curk, hgk⟩, hbk⟩ := bys_form hBk13 ⟨hok.choose, hok.choose_spec.1⟩
              obtain ⟨gv, cv, rfl, hgv0, hcv, ⟨curv, hgv⟩, hbv⟩ := bys_form hBv ⟨hov.choose, hov.choose_spec.1⟩
              have lk : w11.heap.size ≤ gk := by obtain ⟨j0, q1, q2⟩ := hok; rw [hgk0] at q1; cases q1; exact q2
              have lv : w12.heap.size ≤ gv := by obtain ⟨j0, q1, q2⟩ := hov; rw [hgv0] at q1; cases q1; exact q2
              rw [W_seq]
              simp only [W_set]
              refine ok_intro _ (by simp; rfl) ?_
              refine ok_intro _ (by simp; rfl) ?_
              have hk1113 := hk12.trans hk13
              have hs12 := hk12.size
              have hs13 := hk13.size
              have hP13 := hP11.calm hk1113
              have hR13 := hR11.calm hk1113
              have hRf13 := hRf11.calm hk1113
              have hb13 := hk1113.has hb11' fun h => h
              obtain ⟨hby1, hby2⟩ := h.bytes p (List.mem_of_getElem? hp)
              have hle1 := fitL_le hby1 s'.ks.toNat
              have hle2 := fitL_le hby2 s'.vs.toNat
              have hA8 : (q.1 ++ [u.1])[q.1.length]? = some u.1 := by rw [List.getElem?_append_right (Nat.le_refl _)]; simp
              have hbl : (N.mm.map (·.1)).length = q.1.length := by rw [List.length_map, hP.len]
              obtain ⟨M8, hq8⟩ : ∃ M, N8.mm[q.1.length]? = some (b, M) := by
                have h6 := congrArg (fun l => l[q.1.length]?) hmm8
                simp only [List.getElem?_map] at h6
                rw [List.getElem?_append_right (by omega), hbl, Nat.sub_self] at h6
                cases h7 : N8.mm[q.1.length]? with
                | none => rw [h7] at h6; simp at h6
                | some p =>
                  rw [h7] at h6
                  obtain ⟨x, y⟩ := p
                  simp at h6
                  exact ⟨y, by rw [h6]⟩
              have hLv : (fitL p.value s'.vs.toNat).length = u.1.vs := by rw [fitL_len, hfl.vs]
              have hown13 : ∀ k, N8.own u.2.length k → k < w11.heap.size := fun k hk => hP11.own_lt hk
              have hupd := pupdate_ret (fl := 0) (x := byteF (fitL p.value s'.vs.toNat)) (xb := gv) (xo := 0) (xc := cv) hP13 hA8 hq8 hfl.ok (KeyP.of (b := gk) (o := 0) (c := ck) hle1 hck fun j x hj => by rw [Nat.zero_add]; exact hbk j x hj) (by rw [bs_size, fitL_len]; omega) (by have := hfl.clock; omega) hfl.fr (by omega)
                (fun j hj => by
                  obtain ⟨x, hx1, hx2⟩ := byteF_get (m := fitL p.value s'.vs.toNat) (j := j) (by omega)
                  rw [Nat.zero_add, hx2]
                  exact hbv j x hx1) (byteF_rng hle2) ⟨blk_lt hgv, fun ho => by have := hown13 gv ho; omega⟩ (fun j hj ho => by simp [Value.ownBlock] at hj; have := hown13 j ho; omega)
              rw [← hLv] at hupd
              rw [W_seq]
              refine W_call0 (by simp) hupd ?_
              rintro r w14 ⟨rfl, N14, hP14, hn14, hk14⟩
              rw [set_last] at hP14
              have hs14 := hk14.size
              have hU := hfl.upd (bs (fitL p.key s'.ks.toNat)) (byteF (fitL p.value s'.vs.toNat))
              have hpe : putOne s' q.1.length u p = (pushX (updX u.1 u.2 q.1.length (bs (fitL p.key s'.ks.toNat)) (byteF (fitL p.value s'.vs.toNat)) 0).2.1 (updX u.1 u.2 q.1.length (bs (fitL p.key s'.ks.toNat)) (byteF (fitL p.value s'.vs.toNat)) 0).2.2 q.1.length (fun j => (((fitL p.value s'.vs.toNat).getD j 0 : Nat) : Int)) 0).2 := by
                unfold putOne; rw [if_pos hpm]; rfl
              generalize updX u.1 u.2 q.1.length (bs (fitL p.key s'.ks.toNat)) (byteF (fitL p.value s'.vs.toNat)) 0 = U at *
              have hs11 := hR11.kept.size
              have hO14 : ∀ k, N14.own U.2.2.length k → w.heap.size ≤ k := fun k hk => by
                rcases hn14.own k hk with h | h
                · exact hO8 k h
                · omega
              have hR14 := hR13.step hk14 fun j hj => ⟨hO8 j hj, hP13.tame hj⟩
              have hRf14 := hRf13.mapKeep hP13 hk14
              have hb14 := hk14.has hb13 fun ho => (hP13.tame ho).ne hb13 (by decide) rfl
              have nok : ¬ N8.own u.2.length gk := fun ho => by have := hown13 gk ho; omega
              have nov : ¬ N8.own u.2.length gv := fun ho => by have := hown13 gv ho; omega
              have hBk14 := hBk13.keep hk14 (fun j hj => by simp [Value.ownBlock] at hj; subst hj; exact nok)
              have hBv14 := hBv.keep hk14 (fun j hj => by simp [Value.ownBlock] at hj; subst hj; exact nov)
              have hgv14 := hk14.has hgv nov
              obtain ⟨sk, hsk⟩ := bys_any hBk14
              obtain ⟨sv, hsv⟩ := bys_any hBv14
              have hcp : 1 ≤ s'.cap.toNat ∧ s'.cap.toNat ≤ 64 := by omega
              rw [W_seq]
              refine W_call0 (vs := [.pointer (some ⟨br, 0, none⟩), .string sk, .string sv, .int .u64 0]) (by simp [hsk, hsv]) (fupdate_ret hRf14 sk sv hcp (by omega)) ?_
              rintro r w15 ⟨hk15, L15, n15, x15, hRf15⟩
              have hs15 := hk15.size
              have low14 : ∀ j, j = br ∨ L8.ownBlock = some j → w.heap.size ≤ j := fun j hj => by
                rcases hj with rfl | hj
                · exact hRf14.low.1
                · exact hRf14.low.2 j hj
              have hP15 := hP14.refKeep hRf14 hk15
              have hR15 := hR14.step hk15 fun j hj => ⟨low14 j hj, hRf14.tame hj⟩
              have hb15 := hk15.has hb14 fun hj => hRf14.heap hj hb14 (by decide) rfl
              have hgv15 := hk15.has hgv14 fun hj => hRf14.heap hj hgv14 (by decide) rfl
              have hBv15 := hBv14.keep hk15 (fun j hj => by simp [Value.ownBlock] at hj; subst hj; exact fun hj => hRf14.heap hj hgv14 (by decide) rfl)
              obtain ⟨gv', cv', q5, _, _, _, hbv15⟩ := bys_form hBv15 ⟨gv, rfl⟩
              simp at q5
              obtain ⟨rfl, rfl⟩ := q5
              have hA15 : (q.1 ++ [U.2.1])[q.1.length]? = some U.2.1 := by rw [List.getElem?_append_right (Nat.le_refl _)]; simp
              obtain ⟨M15, hq15⟩ := mm_same hn14.mb hq8
              have hpush := ppush_ret (fl := 0) (xb := gv) (xo := 0) (xc := cv) (m := fitL p.value s'.vs.toNat) hP15 hA15 hq15 hU.ok hU.fr (by rw [fitL_len, hU.vs]) hle2 (fun j x hx => by rw [Nat.zero_add]; exact hbv15 j x hx)
              rw [W_seq]
              refine W_call0 (by simp) hpush ?_
              rintro r w16 ⟨rfl, N16, hP16, hn16', hk16⟩
              rw [set_last] at hP16
              rw [← hpe] at hP16 hn16'
              have hs16 := hk16.size
              have hR16 := hR15.step hk16 fun j hj => ⟨hO14 j hj, hP15.tame hj⟩
              have hRf16 := hRf15.mapKeep hP15 hk16
              have hb16' := hk16.has hb15 fun ho => (hP15.tame ho).ne hb15 (by decide) rfl
              have hO16 : ∀ k, N16.own (putOne s' q.1.length u p).2.length k → w.heap.size ≤ k := fun k hk => by
                rcases hn16'.own k hk with h | h
                · exact hO14 k h
                · omega
              have nov14 : ¬ N14.own U.2.2.length gv := fun ho => by
                rcases hn14.own gv ho with h | h
                · exact nov h
                · have := blk_lt hgv; omega
              have hgv16 := hk16.has hgv15 nov14
              have hBv16 := hBv15.keep hk16 (fun j hj => by simp [Value.ownBlock] at hj; subst hj; exact nov14)
              obtain ⟨sv2, hsv2⟩ := bys_any hBv16
              refine W_call0 (vs := [.pointer (some ⟨br, 0, none⟩), .string sv2, .int .u64 0]) (by simp [hsv2]) (fpush_ret hRf16 sv2 hcp (by omega)) ?_
              rintro r w17 ⟨hk17, L17, n17, x17, hRf17⟩
              have hP17 := hP16.refKeep hRf16 hk17
              have low16 : ∀ j, j = br ∨ L15.ownBlock = some j → w.heap.size ≤ j := fun j hj => by
                rcases hj with rfl | hj
                · exact hRf16.low.1
                · exact hRf16.low.2 j hj
              have hR17 := hR16.step hk17 fun j hj => ⟨low16 j hj, hRf16.tame hj⟩
              have hb17 := hk17.has hb16' fun hj => hRf16.heap hj hb16' (by decide) rfl
              have hmm17 := hn16'.mb.trans (hn14.mb.trans hmm8)
              simp [e3]
              refine ⟨⟨j + 1, N16, L17, n17, x17, by simp, by omega, by omega, ?_⟩, by simp [natAt]; omega⟩
              rw [htk]
              exact ⟨hP17, hO16, hmm17, hR17, hRf17, hb17⟩
            · refine W_yes (by simp [p0, hpm]) ?_
              simp [e3]
              refine ⟨⟨j + 1, N8, L8, n8, x8, by simp, by omega, by omega, ?_⟩, by simp [natAt]; omega⟩
              have hsame : putOne s' q.1.length u p = u := by unfold putOne; rw [if_neg hpm]
              rw [hsame] at htk
              rw [htk]
              exact ⟨hP10, hO8, hmm8, hR10, hRf10, hb10'⟩
          · refine W_no ?_ ?_
            · by_cases g1 : j < puts.length
              · have g1' : (j : Int) < puts.length := by omega
                have g2' : ¬ (j : Int) < 12 := by omega
                simp [c34, len34, var34, g1', g2']
              · have g1' : ¬ (j : Int) < puts.length := by omega
                simp [c34, len34, var34, g1']
            have hln8 : (puts.take j) = puts.take 12 := by
              by_cases hl : puts.length ≤ 12
              · rw [List.take_of_length_le hl, List.take_of_length_le (by omega)]
              · have : j = 12 := by omega
                rw [this]
            rw [hln8] at hP8 hO8
            have hfl := hM.filled s (puts.take 12) (by rw [List.length_take]; omega)
            rw [hfs] at hfl
            simp only [W_exit, Wx_exit_c, Wx_exit_post, Wx_exit_blk, if_true]
            rw [W_seq]
            have c35 : wcell w8 bx 35 = some (.int .i64 frz) := by rw [wcell_of hR8.box]; exact h.cfrz
            have hone : mapOne s puts frz q = (q.1 ++ [if frzBit frz q.1.length = true then frzX (putsX s' q.1.length (puts.take 12) (newX s' q.2.length, q.2 ++ newC s' q.1.length)).1 else (putsX s' q.1.length (puts.take 12) (newX s' q.2.length, q.2 ++ newC s' q.1.length)).1], (putsX s' q.1.length (puts.take 12) (newX s' q.2.length, q.2 ++ newC s' q.1.length)).2) := by
              unfold mapOne; rw [hfs]
            generalize putsX s' q.1.length (puts.take 12) (newX s' q.2.length, q.2 ++ newC s' q.1.length) = u at *
            refine W_cut (FrzL w bx b br cs s q puts frz v4 v5 (N.mm.map (·.1)) [undef, undef, undef, .pointer (some ⟨bx, 0, none⟩), v4, v5, .int .i64 q.1.length, .pointer (some ⟨b7, 0, none⟩), undef, undef, undef, .pointer (some ⟨b, 0, none⟩), undef, undef, .pointer (some ⟨br, 0, none⟩), .int .i64 j, undef, undef, undef, undef, undef, undef, undef, undef, undef, undef, undef, undef]) ?_ ?_
            · by_cases hbit : bitAnd .i64 (frz.fdiv (2 ^ (min q.1.length 64))) 1 = 1
              · have hfb : frzBit frz q.1.length = true := decide_eq_true hbit
                rw [hfb, if_pos rfl] at hone
                refine W_yes (by simp [c35]; exact hbit) ?_
                have hA8 : (q.1 ++ [u.1])[q.1.length]? = some u.1 := by rw [List.getElem?_append_right (Nat.le_refl _)]; simp
                have hbl : (N.mm.map (·.1)).length = q.1.length := by rw [List.length_map, hP.len]
                obtain ⟨M8, hq8⟩ : ∃ M, N8.mm[q.1.length]? = some (b, M) := by
                  have h6 := congrArg (fun l => l[q.1.length]?) hmm8
                  simp only [List.getElem?_map] at h6
                  rw [List.getElem?_append_right (by omega), hbl, Nat.sub_self] at h6
                  cases h7 : N8.mm[q.1.length]? with
                  | none => rw [h7] at h6; simp at h6
                  | some p =>
                    rw [h7] at h6
                    obtain ⟨x, y⟩ := p
                    simp at h6
                    exact ⟨y, by rw [h6]⟩
                rw [W_seq]
                refine W_call0 (vs := [.pointer (some ⟨b, 0, none⟩)]) (by simp) (pfreeze_ret hP8 hA8 hq8 hfl.fr) ?_
                rintro r w9 ⟨N9, hP9, hn9, hk9⟩
                rw [set_last] at hP9
                have hs9 := hk9.size
                have hs8 := hR8.kept.size
                have hR9 := hR8.step hk9 fun k hk => ⟨hO8 k hk, hP8.tame hk⟩
                have hRf9 := hRf8.mapKeep hP8 hk9
                have hstf : stv w9 1 (.pointer (some ⟨br, 5, none⟩)) (.bool true) = some (put w9 br (.cells (#[.int .i64 s'.ty, .int .i64 s'.ks, .int .i64 (s'.vs.toNat : Nat), .int .i64 (s'.cap.toNat : Nat), L8, .bool true]) 62 (0, 0))) := by
                  rw [stv_of (n := 1) (v := .bool true) hRf9.blk rfl (by simp) (.inl (by simp)) (by simp [Value.oneCell'])]
                  rfl
                refine W_store (by simp) (by simp) hstf (stab_nil _ _ _) ?_
                have hk10 : Kept (· = br) w9 (put w9 br (.cells (#[.int .i64 s'.ty, .int .i64 s'.ks, .int .i64 (s'.vs.toNat : Nat), .int .i64 (s'.cap.toNat : Nat), L8, .bool true]) 62 (0, 0))) := Kept.put (S := (· = br)) (Kept.refl _ _) (b := br) (fun _ => rfl) _
                generalize put w9 br _ = w10 at *
                simp
                refine ⟨rfl, N9, ?_⟩
                rw [hone]
                refine ⟨hP9.keep hk10 fun k hk e => ?_, fun k hk => ?_, hn9.mb.trans hmm8, hR9.step hk10 fun k hk => ⟨by subst hk; exact hRf9.low.1, hRf9.tame (.inl hk)⟩⟩
                · obtain ⟨c, T, h1, h2⟩ := hP9.own_ty hk
                  exact hRf9.heap (.inl e) h1 (by rcases h2 with rfl | rfl | rfl | rfl | rfl <;> decide) rfl
                · rcases hn9.own k hk with h | h
                  · exact hO8 k h
                  · omega
              · have hfb : frzBit frz q.1.length = false := decide_eq_false hbit
                rw [hfb, if_neg (by simp)] at hone
                refine W_no (by simp [c35]; exact hbit) ?_
                simp
                refine ⟨rfl, N8, ?_⟩
                rw [hone]
                exact ⟨hP8, hO8, hmm8, hR8⟩
            · rintro env' w9 ⟨rfl, N9, hP9, hO9, hmm9, hR9⟩
              have e3 : IntKind.i64.wrap ((q.1.length : Int) + 1) = ((q.1.length + 1 : Nat) : Int) := i64w (by omega) (by omega)
              rw [W_seq]
              refine W_chkIn [v4] (by simp [hv4]) ?_
              rw [W_seq]
              refine W_row' (v := .agg #[.pointer (some ⟨b, 0, none⟩)]) (cs := #[.pointer (some ⟨b, 0, none⟩)]) (by simp) rfl ?_
              have hrp := hp_new w9 (.cells #[.pointer (some ⟨b, 0, none⟩)] 45)
              have hk10 : Kept none' w9 (w9.alloc (.cells #[.pointer (some ⟨b, 0, none⟩)] 45)) := (Kept.refl _ _).alloc _
              generalize hz9 : w9.heap.size = rp at *
              generalize w9.alloc (.cells #[.pointer (some ⟨b, 0, none⟩)] 45) = w10 at *
              have hR10 := hR9.calm hk10
              have hP10 := hP9.calm hk10
              have hs10 := hR10.kept.size
              obtain ⟨v4', w11, hr11, hrow11, hk11, ho11⟩ := Go.Eng.row_append (P := Tryz.prog) (t := 30) (T := 45) (k := 1) (sb := rp) (so := 0) (c := 1) (m := 1) (ys := [.pointer (some ⟨b, 0, none⟩)]) Tryz.underlying30 (by kernel_rfl) (by omega) hR10.r4 (by omega) (by simp)
                (fun k y hk => by
                  have : k = 0 := by have := (List.getElem?_eq_some_iff.1 hk).1; simp at this; exact this
                  subst this
                  simp at hk
                  subst hk
                  rw [wcell_of hrp]; rfl) (fun y hy => by simp at hy; subst hy; rfl)
              rw [W_seq]
              refine W_bi (vs := [v4, .slice (some ⟨rp, 0, none⟩) 1 1]) (by simp [hv4]) hr11 (stab_nil _ _ _) ?_
              obtain ⟨ys10, hr5b⟩ := hR10.r5
              have hv5b := rowVar hr5b
              have hs11 := hk11.size
              have n4 : ∀ (k : Nat) (c : Array Value) (T : TypeId) (fz : Nat × Nat), w10.heap[k]? = some (.cells c T fz) → T ≠ 45 → ¬ v4.ownBlock = some k := fun k c T fz h1 h2 h3 => by
                obtain ⟨c', h4⟩ := rowBlk hR10.r4 h3
                exact heap_ne h1 h4 h2 rfl
              have hP11 := hP10.keep hk11 fun k hk e => by
                obtain ⟨c, T, h1, h2⟩ := hP10.own_ty hk
                exact n4 k c T _ h1 (by rcases h2 with rfl | rfl | rfl | rfl | rfl <;> decide) e
              have hbox11 := hk11.has hR10.box (n4 bx _ _ _ hR10.box (by decide))
              have hr5c := rowKeep hr5b hk11 fun k hk e => by
                obtain ⟨c, h1⟩ := rowBlk hr5b hk
                exact n4 k c _ _ h1 (by decide) e
              have hK11 : Kept none' w w11 := hR10.kept.then hk11 fun k hk e => by have := hR10.o4 k e; omega
              have o11 : ∀ k, v4'.ownBlock = some k → w.heap.size ≤ k := fun k hk => by
                rcases ho11 with o | o
                · exact hR10.o4 k (o ▸ hk)
                · rw [o] at hk; cases hk; exact hs10
              have hv4b := rowVar hrow11
              rw [W_seq]
              refine W_chkIn [v5] (by simp [hv5]) ?_
              rw [W_seq]
              refine W_row' (v := .agg #[.pointer (some ⟨br, 0, none⟩)]) (cs := #[.pointer (some ⟨br, 0, none⟩)]) (by simp) rfl ?_
              have hrp2 := hp_new w11 (.cells #[.pointer (some ⟨br, 0, none⟩)] 49)
              have hk12 : Kept none' w11 (w11.alloc (.cells #[.pointer (some ⟨br, 0, none⟩)] 49)) := (Kept.refl _ _).alloc _
              generalize w11.alloc (.cells #[.pointer (some ⟨br, 0, none⟩)] 49) = w12 at *
              have hP12 := hP11.calm hk12
              have hbox12 := hk12.has hbox11 fun h => h
              have hrow12 := rowCalm hrow11 hk12
              have hr5d := rowCalm hr5c hk12
              have hK12 := hK11.trans hk12
              have hs12 := hK12.size
              obtain ⟨v5', w13, hr13, hrow13, hk13, ho13⟩ := Go.Eng.row_append (P := Tryz.prog) (t := 31) (T := 49) (k := 1) (sb := w11.heap.size) (so := 0) (c := 1) (m := 1) (ys := [.pointer (some ⟨br, 0, none⟩)]) Tryz.underlying31 (by kernel_rfl) (by omega) hr5d (by omega) (by simp)
                (fun k y hk => by
                  have : k = 0 := by have := (List.getElem?_eq_some_iff.1 hk).1; simp at this; exact this
                  subst this
                  simp at hk
                  subst hk
                  rw [wcell_of hrp2]; rfl) (fun y hy => by simp at hy; subst hy; rfl)
              rw [W_seq]
              refine W_bi (vs := [v5, .slice (some ⟨w11.heap.size, 0, none⟩) 1 1]) (by simp [hv5]) hr13 (stab_nil _ _ _) ?_
              have n5 : ∀ (k : Nat) (c : Array Value) (T : TypeId) (fz : Nat × Nat), w12.heap[k]? = some (.cells c T fz) → T ≠ 49 → ¬ v5.ownBlock = some k := fun k c T fz h1 h2 h3 => by
                obtain ⟨c', h4⟩ := rowBlk hr5d h3
                exact heap_ne h1 h4 h2 rfl
              have hP13 := hP12.keep hk13 fun k hk e => by
                obtain ⟨c, T, h1, h2⟩ := hP12.own_ty hk
                exact n5 k c T _ h1 (by rcases h2 with rfl | rfl | rfl | rfl | rfl <;> decide) e
              have hbox13 := hk13.has hbox12 (n5 bx _ _ _ hbox12 (by decide))
              have hrow14 := rowKeep hrow12 hk13 fun k hk e => by
                obtain ⟨c, h1⟩ := rowBlk hrow12 hk
                exact n5 k c _ _ h1 (by decide) e
              have hK13 : Kept none' w w13 := hK12.then hk13 fun k hk e => by have := hR10.o5 k e; omega
              have o13 : ∀ k, v5'.ownBlock = some k → w.heap.size ≤ k := fun k hk => by
                rcases ho13 with o | o
                · exact hR10.o5 k (o ▸ hk)
                · rw [o] at hk; cases hk; exact hs12
              have hv5c := rowVar hrow13
              simp [hv4b, hv5c, e3]
              have htake := case_take (puts := puts) (frz := frz) hs
              rw [hq] at htake
              refine ⟨⟨q.1.length + 1, v4', v5', N9, by simp, by omega, by omega, ?_, ?_, ⟨hK13, hbox13, ?_, ⟨_, hrow13⟩, o11, o13⟩, fun e => by omega⟩, by simp [natAt]; omega⟩
              · rw [htake]; exact hP13
              · rw [htake]; exact hO9
              · rw [hmm9]; simpa using hrow14
    · rw [W_seq]
      refine W_no ?_ ?_
      · by_cases g1 : i < specs.length
        · have g1' : (i : Int) < specs.length := by omega
          have g2' : ¬ (i : Int) < 4 := by omega
          simp [c33, len33, var33, g1', g2']
        · have g1' : ¬ (i : Int) < specs.length := by omega
          simp [c33, len33, var33, g1']
      obtain ⟨ys, h5⟩ := hR.r5
      have hv4 := rowVar hR.r4
      have hv5 := rowVar h5
      simp [hv4, hv5]
      have hfold : (specs.take i).foldl (fun q s => mapOne s puts frz q) ([], []) = caseX specs puts frz := by
        unfold caseX
        congr 1
        by_cases hl : specs.length ≤ 4
        · rw [List.take_of_length_le hl, List.take_of_length_le (by omega)]
        · have : i = 4 := by omega
          rw [this]
      have hln := (case_maps specs puts frz i hi).2
      rw [hfold] at hP hO hln
      have hml : (N.mm.map (·.1)).length = i := by rw [List.length_map, hP.len, hln]
      refine ⟨hR.kept, v4, v5, N, rfl, hP, mapsAt_row (by omega) (by rw [hml]; exact hR.r4), fun e => hz4 (by rw [← hml, e]; rfl), hO, hv5⟩
end Go.Proofs.YtmfgdbapankamaaGreat
