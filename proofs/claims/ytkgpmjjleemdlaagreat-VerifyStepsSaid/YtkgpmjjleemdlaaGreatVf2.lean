/- Layer 18: an operation on numbers that are known. -/
import Derived.Test.YtkgpmjjleemdlaaGreatVf1
import Derived.Test.YtkgpmjjleemdlaaGreatEngQ
set_option linter.unusedSimpArgs false
set_option linter.unusedVariables false
set_option maxRecDepth 8000
namespace Go.Proofs.YtkgpmjjleemdlaaGreat
open Go.Eng

def aluA (q : Parts) (a b : AReg) : AReg := if q.op = 11 ∧ b.kind = 1 then knownR 0 else a
@[simp] theorem areg_kind0 (r : AReg) : r.arr[0]? = some (.int .i64 r.kind) := by simp [AReg.arr]
@[simp] theorem areg_g0 (r : AReg) (h : 0 < r.arr.size) : r.arr[0]'h = .int .i64 r.kind := rfl
theorem kind_rng (e : Int) : setRow (kindR 1).arr 1 (rngC e).toList = (knownR e).arr := rfl
theorem rngC_size (e : Int) : (rngC e).size = 6 := rfl
theorem known_kind (x : Int) : (knownR x).kind = 1 := rfl
set_option maxHeartbeats 2000000 in
theorem alu_num (w : World) (cb : Nat) (hcb : cb < w.heap.size) (p : Int) (s : AState) {x : Ins} (hx : x.wf) (q : Parts) (hd : x.dst < 11) (hs : x.src < 11) {a b : Int} (ha0 : 0 ≤ a) (ha1 : a < 18446744073709551616) (hb0 : 0 ≤ b) (hb1 : b < 18446744073709551616)
    (hA : aluA q (s.r x.dst) (secondA s x q.reg) = knownR a) (hB : secondA s x q.reg = knownR b) :
    Ret Tryz.prog 51 [.pointer (some ⟨cb, 0, none⟩), .agg (wayArr p s), .agg x.arr, .agg q.arr] w fun r w' => ∃ v, r = .tuple #[v, .bool true] ∧ OneWay w w' v (IntKind.i64.wrap (p + 1)) (s.setR x.dst (knownR (evalOf q.op q.long a b))) := by
  refine ret_of_W Tryz.func51 rfl ok_verify_checker_alu ?_
  have hd' : (x.dst : Int) < 11 := by omega
  have t1 := second_T w s hx hs q.reg
  have t2 := known_T w 0
  have e1 := row_wreg p s hd
  simp only [AState.val, Ins.val, AReg.val] at t1 t2
  rw [hB] at t1
  unfold aluA at hA
  rw [hB] at hA
  have hkb : (knownR b).kind = 1 := rfl
  rw [hkb] at hA
  simp only [c_verify_checker_alu]
  rw [W_assoc, W_assoc, W_seq]
  refine W_seg [.v (.pointer (some ⟨cb, 0, none⟩)), .v (.agg (wayArr p s)), .v (.agg x.arr), .v (.agg q.arr), .v (.slice none 0 0), .v (.bool false), .p 76 (wayArr p s), .p 28 x.arr, .p 82 q.arr, .any,
    .p 68 (knownR a).arr, .p 68 (knownR b).arr, .any, .any, .any, .any, .any, .any, .any, .any, .any, .any, .any, .any, .any] (by simp [hcb]) ?_ (fun B hB => ?_) ?_
  · simp_all [slsOk, Sl.ok]
  · by_cases h11 : q.op = 11
    · have hA' : knownR 0 = knownR a := by rw [← hA, if_pos ⟨h11, rfl⟩]
      simp [C_cond_eq, C_alt, hd', hd, e1, t1, t2, h11, slsIs, Sl.is, hkb, hA', pickV_bool]
    · have hA' : s.r x.dst = knownR a := by rw [← hA, if_neg (fun h => h11 h.1)]
      have h11' : ¬ (q.op : Int) = 11 := by omega
      simp [C_cond_eq, C_alt, hd', hd, e1, t1, t2, h11', slsIs, Sl.is, hkb, hA', pickV_bool]
  · intro w1 hk
    refine open_v (open_v (open_v (open_v (open_v (open_v (open_p fun p6 _ h6 => open_p fun p7 _ h7 => open_p fun p8 _ h8 => open_any fun u9 => open_p fun p10 _ h10 => open_p fun p11 _ h11 => ?_))))))
    repeat' refine open_any fun _ => ?_
    refine open_nil ?_
    have r10 : wrow w1 p10 1 6 = some (rngC a) := by rw [wrow_of h10 (by simp)]; rfl
    have r11 : wrow w1 p11 1 6 = some (rngC b) := by rw [wrow_of h11 (by simp)]; rfl
    simp only [W_seq]
    refine W_yes (by simp [wcell_of h10, wcell_of h11, known_kind]) ?_
    simp only [W_seq]
    refine W_calm (by simp [wcell_of h8, r10, r11]) (ret_of_T (scdo_T w1 q.op q.long a b ha0 ha1 hb0 hb1)) ?_
    intro w2 hk2
    simp only [W_seq]
    have hup : (knownR (evalOf q.op q.long a b)).val = .agg #[.int .i64 1, .int .u64 (evalOf q.op q.long a b), .int .u64 0, .int .u64 (evalOf q.op q.long a b), .int .u64 (evalOf q.op q.long a b), .int .i64 (IntKind.i64.wrap (evalOf q.op q.long a b)), .int .i64 (IntKind.i64.wrap (evalOf q.op q.long a b)), .int .i64 0, .int .i64 0, .int .i64 0, .int .i64 0] := rfl
    refine W_chkIn [(knownR (evalOf q.op q.long a b)).val] (by simp [hup]; rfl) ?_
    generalize evalOf q.op q.long a b = e at *
    simp only [W_seq]
    refine W_new' (v := .agg AReg.zero.arr) (cs := AReg.zero.arr) (by simp) rfl ?_
    have h18 : RegBox _ w2.heap.size AReg.zero := hp_new w2 (.cells AReg.zero.arr 68)
    have hk3 := (Kept.refl none' w2).alloc (.cells AReg.zero.arr 68)
    generalize hb18 : w2.heap.size = b18 at *
    generalize (w2.alloc (.cells AReg.zero.arr 68)) = w3 at *
    try simp only [W_seq]
    refine W_store (xv := .pointer (some ⟨b18, 0, none⟩)) (vv := .agg (knownR e).arr) (by simp) (by simp [kind_rng, rngC_size]) (h18.store _) (stab_nil _ _ _) ?_
    have h19 : RegBox _ b18 (knownR e) := put_same (blk_lt h18)
    have hk4 := hk3.putNew (Nat.le_of_eq hb18) (.cells (knownR e).arr 68 (0, 0))
    generalize Eng.put w3 b18 (.cells (knownR e).arr 68 (0, 0)) = w4 at *
    have hk14 := hk2.trans hk4
    have hk04 := hk.trans hk14
    have g6 : WayBox w4 p6 p s := hk14.has h6 fun h => h
    have g7 := hk14.has h7 fun h => h
    have g71 : wcell w4 p7 1 = some (.int .u8 x.dst) := by rw [wcell_of g7]; rfl
    try simp only [W_seq]
    refine W_call (by simp [g6.all, g71, h19.row]) (wset_ret w4 p s hd (knownR e) 1) ?_
    rintro r w5 h5
    refine ⟨stab_nil _ _ _, ?_⟩
    obtain ⟨hk5, b5, rfl, hb5⟩ := h5
    simp
    exact ⟨hk04.trans hk5, b5, rfl, hb5.1, by have := hk04.size; omega⟩
end Go.Proofs.YtkgpmjjleemdlaaGreat
namespace Go.Proofs.YtkgpmjjleemdlaaGreat
open Go.Eng
attribute [local irreducible] Go.Eng.W

/-! Rows of elements of so many cells. -/
theorem flat_at {k : Nat} : ∀ (L : List (List Value)) (i : Nat) (l : List Value), (∀ y ∈ L, y.length = k) → L[i]? = some l → (L.flatten.drop (i * k)).take k = l
  | [], i, l, _, h => by simp at h
  | y :: L, 0, l, hk, h => by
    simp at h
    subst h
    have := hk y (by simp)
    simp [this]
  | y :: L, i + 1, l, hk, h => by
    have h1 := hk y (by simp)
    have e : (i + 1) * k = y.length + i * k := by rw [h1, Nat.succ_mul]; omega
    rw [List.flatten_cons, e, List.drop_append]
    simp only [Nat.add_sub_cancel_left]
    rw [List.drop_eq_nil_of_le (by omega), List.nil_append]
    exact flat_at L i l (fun y hy => hk y (by simp [hy])) (by simpa using h)
theorem row_wrow {T : TypeId} {k n : Nat} {w : World} {v : Value} {L : List (List Value)} (h : Row T k w v n L.flatten) (hk : ∀ y ∈ L, y.length = k) (hn : L.length = n) {i : Nat} {l : List Value} (hi : L[i]? = some l) :
    ∃ g c, v = .slice (some ⟨g, 0, none⟩) n c ∧ wrow w g (i * k) k = some l.toArray := by
  have hlt : i < L.length := (List.getElem?_eq_some_iff.1 hi).1
  rcases h.2 with ⟨_, h0⟩ | ⟨g, cap, cur, rfl, hb, h2, h3, h4, h5, h6⟩
  · omega
  · refine ⟨g, cap, rfl, ?_⟩
    have h7 : (i + 1) * k ≤ n * k := Nat.mul_le_mul_right _ (by omega)
    have h8 : n * k ≤ cap * k := Nat.mul_le_mul_right _ h3
    rw [Nat.succ_mul] at h7
    rw [wrow_of h2 (by omega)]
    congr 1
    apply Array.ext_getElem?
    intro j
    have := flat_at L i l hk hi
    rw [← this, ← h6, Array.getElem?_extract]
    show _ = (List.take k (List.drop (i * k) (List.take (n * k) cur.toList))).toArray[j]?
    simp only [List.getElem?_toArray, List.getElem?_take, List.getElem?_drop]
    by_cases hj : j < k
    · rw [if_pos (by omega), if_pos hj, if_pos (by omega)]; simp
    · rw [if_neg (by omega), if_neg hj]

def stCells (ss : List AState) : List (List Value) := ss.map fun s => s.arr.toList
def StatesAt (w : World) (v : Value) (ss : List AState) : Prop := Row 73 273 w v ss.length (stCells ss).flatten
theorem stCells_len (ss : List AState) : ∀ y ∈ stCells ss, y.length = 273 := by
  intro y hy
  obtain ⟨s, _, rfl⟩ := List.mem_map.1 hy
  simp
theorem StatesAt.at {w : World} {v : Value} {ss : List AState} (h : StatesAt w v ss) {i : Nat} {s : AState} (hi : ss[i]? = some s) : ∃ g c, v = .slice (some ⟨g, 0, none⟩) ss.length c ∧ wrow w g (i * 273) 273 = some s.arr := by
  have := row_wrow h (stCells_len ss) (by simp [stCells]) (i := i) (l := s.arr.toList) (by simp [stCells, hi])
  simpa using this
theorem states_nil (w : World) : StatesAt w (.slice none 0 0) [] := row_nil _ _ _

theorem indexS_none {v : Value} {ss : List AState} {g : FuncId} {cap : Array Value} (w : World) (h : StatesAt w v ss) (hn : ss.length ≤ 100000) (hg : funOk Tryz.prog g = true)
    (hcl : ∀ s ∈ ss, ∀ w', Kept none' w w' → Ret Tryz.prog g (.agg s.arr :: cap.toList) w' fun r w'' => r = .bool false ∧ Kept none' w' w'') :
    Ret Tryz.prog 89 [v, .func (.func g) #[] cap] w fun r w' => r = .int .i64 (-1) ∧ Kept none' w w' := by
  refine ret_of_W Tryz.func89 rfl ok_vfs_IndexFunc ?_
  have hl := rowLen h
  have hv := rowVar h
  simp only [c_vfs_IndexFunc, W_seq, W_set]
  refine ok_intro (.int .i64 0) (by simp) ?_
  try simp only [W_seq, W_set]
  refine ok_intro (.int .i64 ss.length) (by simp [hl, hv]) ?_
  try simp only [W_seq, W_set]
  refine ok_intro (.int .i64 0) (by simp) ?_
  try simp only [W_seq]
  rw [W_block]
  refine W_loop (fun env w' => Kept none' w w' ∧ ∃ i : Nat, i ≤ ss.length ∧ env = [v, .func (.func g) #[] cap, undef, .int .i64 (i : Nat), .int .i64 ss.length, undef, undef]) (fun env _ => ss.length - natAt env 3) ?_ ?_
  · exact ⟨Kept.refl _ _, 0, by omega, by simp [hv]⟩
  rintro env w1 ⟨hk1, i, hi, rfl⟩
  simp only [W_seq]
  by_cases hgo : i < ss.length
  · have hgo' : (i : Int) < ss.length := by omega
    have hge : (0 : Int) ≤ i := by omega
    have e1 := i64_succ (j := i) (by omega)
    have hx : ss[i]? = some ss[i] := List.getElem?_eq_getElem hgo
    have hm := List.mem_of_getElem? hx
    generalize ss[i] = y at *
    have h1 : StatesAt w1 v ss := rowCalm h hk1
    obtain ⟨q, c, rfl, hc⟩ := h1.at hx
    refine W_yes (by simp [hgo']) ?_
    simp only [W_skip, W_seq, W_block, W_set]
    refine ok_intro (.int .i64 i) (by simp) ?_
    try simp only [W_seq]
    refine W_dyn (g := g) (first := #[]) (cap := cap) (by simp) (vs := [.agg y.arr]) (by simp [hge, hgo', hgo, hc]) hg (by simpa using hcl y hm w1 hk1) ?_
    rintro r w2 ⟨rfl, hk2⟩
    refine ⟨stab_nil _ _ _, ?_⟩
    refine W_no (by simp) ?_
    simp [e1, -Int.natCast_add]
    exact ⟨⟨hk1.trans hk2, i + 1, by omega, rfl⟩, by simp [natAt]; omega⟩
  · have hie : i = ss.length := by omega
    subst hie
    refine W_no (by simp [hl, hv]) ?_
    simp
    exact hk1
theorem containsS_none {v : Value} {ss : List AState} {g : FuncId} {cap : Array Value} (w : World) (h : StatesAt w v ss) (hn : ss.length ≤ 100000) (hg : funOk Tryz.prog g = true)
    (hcl : ∀ s ∈ ss, ∀ w', Kept none' w w' → Ret Tryz.prog g (.agg s.arr :: cap.toList) w' fun r w'' => r = .bool false ∧ Kept none' w' w'') :
    Ret Tryz.prog 48 [v, .func (.func g) #[] cap] w fun r w' => r = .bool false ∧ Kept none' w w' := by
  refine ret_of_W Tryz.func48 rfl ok_vfs_ContainsFunc ?_
  have hv := rowVar h
  simp only [c_vfs_ContainsFunc, W_seq, W_set]
  refine ok_intro (.bool false) (by simp) ?_
  try simp only [W_seq]
  refine W_calm (by simp [hv]) (indexS_none w h hn hg hcl) ?_
  intro w1 hk1
  simp
  exact hk1
theorem specs_none (w : World) (g : FuncId) : Ret Tryz.prog 16 [.slice none 0 0, .func (.func g) #[] #[]] w fun r w' => r = .bool false ∧ Kept none' w w' := by
  have hi : ∀ w, Ret Tryz.prog 33 [.slice none 0 0, .func (.func g) #[] #[]] w fun r w' => r = .int .i64 (-1) ∧ Kept none' w w' := by
    intro w
    refine ret_of_W Tryz.func33 rfl ok_vf_IndexFunc ?_
    simp only [c_vf_IndexFunc, W_seq, W_set]
    refine ok_intro (.int .i64 0) (by simp) ?_
    try simp only [W_seq, W_set]
    refine ok_intro (.int .i64 0) (by simp) ?_
    try simp only [W_seq, W_set]
    refine ok_intro (.int .i64 0) (by simp) ?_
    try simp only [W_seq]
    rw [W_block]
    refine W_loop (fun env w' => w' = w ∧ env = [.slice none 0 0, .func (.func g) #[] #[], undef, .int .i64 0, .int .i64 0, undef, undef]) (fun env _ => 0) ?_ ?_
    · exact ⟨rfl, by simp⟩
    rintro env w1 ⟨rfl, rfl⟩
    simp only [W_seq]
    refine W_no (by simp) ?_
    simp
    exact Kept.refl _ _
  refine ret_of_W Tryz.func16 rfl ok_vf_ContainsFunc ?_
  simp only [c_vf_ContainsFunc, W_seq, W_set]
  refine ok_intro (.bool false) (by simp) ?_
  try simp only [W_seq]
  refine W_calm (by simp) (hi w) ?_
  intro w1 hk1
  simp
  exact hk1

/-- The checker, as it lies in its block. -/
structure ChkAt (w : World) (cb : Nat) (l specs frozen : Value) (priv : Bool) (left : Value) (mb : Nat) (ids : Int) : Prop where
  box : w.heap[cb]? = some (.cells #[l, specs, frozen, .bool priv, left, .map (some mb), .int .i64 ids] 62 (0, 0))
theorem ChkAt.calm {w w' : World} {cb : Nat} {l specs frozen : Value} {priv : Bool} {left : Value} {mb : Nat} {ids : Int} (h : ChkAt w cb l specs frozen priv left mb ids) (hk : Kept none' w w') : ChkAt w' cb l specs frozen priv left mb ids := ⟨hk.has h.box fun h => h⟩
theorem ChkAt.keep {S : Nat → Prop} {w w' : World} {cb : Nat} {l specs frozen : Value} {priv : Bool} {left : Value} {mb : Nat} {ids : Int} (h : ChkAt w cb l specs frozen priv left mb ids) (hk : Kept S w w') (hS : ¬ S cb) : ChkAt w' cb l specs frozen priv left mb ids := ⟨hk.has h.box hS⟩
/-- What was seen of a place: states, in rows of their own. -/
def SeenAt (w : World) (f : Nat → Option Value) (n : Nat) (ss : List AState) : Prop := StatesAt w ((f n).getD (.slice none 0 0)) ss
theorem gone_no {w : World} {cb mb p : Nat} {l specs frozen left : Value} {priv : Bool} {ids : Int} {f : Nat → Option Value} {ss : List AState} (s : AState) (hc : ChkAt w cb l specs frozen priv left mb ids) (hm : MapN w mb f) (hs : SeenAt w f p ss) (hn : ss.length ≤ 100000)
    (hcov : ∀ t ∈ ss, ∀ w', Kept none' w w' → ∀ b, WayBox w' b p s → Ret Tryz.prog 49 [.agg t.arr, .pointer (some ⟨b, 0, none⟩)] w' fun r w'' => r = .bool false ∧ Kept none' w' w'') :
    Ret Tryz.prog 35 [.pointer (some ⟨cb, 0, none⟩), .agg (wayArr p s)] w fun r w' => r = .bool false ∧ Kept none' w w' := by
  refine ret_of_W Tryz.func35 rfl ok_verify_checker_gone ?_
  simp only [c_verify_checker_gone, W_seq, W_set]
  refine W_new' (v := .agg (wayArr p s)) (cs := wayArr p s) (by simp) rfl ?_
  have h3 : WayBox _ w.heap.size p s := hp_new w (.cells (wayArr p s) 76)
  have hk1 := (Kept.refl none' w).alloc (.cells (wayArr p s) 76)
  generalize hb3 : w.heap.size = b3 at *
  generalize (w.alloc (.cells (wayArr p s) 76)) = w1 at *
  simp only [W_seq, W_set]
  refine ok_intro (.bool false) (by simp) ?_
  simp only [W_seq, W_draw]
  have hk2 : Kept none' w w1.drew := hk1.drew
  have h32 : WayBox w1.drew b3 p s := h3
  generalize w1.drew = w2 at *
  refine W_chkIn [.func (.func 49) #[] #[.pointer (some ⟨b3, 0, none⟩)]] (by simp) ?_
  try simp only [W_seq]
  have hm2 := hm.calm hk2
  have hc2 := hc.calm hk2
  have f5 : wcell w2 cb 5 = some (.map (some mb)) := by rw [wcell_of hc2.box]; rfl
  refine W_sem (vs := [.map (some mb), .int .i64 p]) (by simp [f5, h32.pos]) (run_look Tryz.underlying59 Tryz.underlying3 (by kernel_rfl) hm2 (z := .slice none 0 0)) (stab_nil _ _ _) ?_
  have hs2 : StatesAt w2 ((f p).getD (.slice none 0 0)) ss := rowCalm hs hk2
  have hvv := rowVar hs2
  try simp only [W_seq]
  refine W_calm (by simp [hvv]; try rfl) (containsS_none w2 hs2 hn (by kernel_rfl) fun t ht w' hk => hcov t ht w' (hk2.trans hk) b3 (h32.calm hk)) ?_
  intro w3 hk3
  simp
  exact hk2.trans hk3
end Go.Proofs.YtkgpmjjleemdlaaGreat
namespace Go.Proofs.YtkgpmjjleemdlaaGreat
open Go.Eng
attribute [local irreducible] Go.Eng.W

/-- What comes of a step: one state further on, none any more, or it can't be done. -/
inductive Out where
  | on (p : Nat) (s : AState)
  | done
  | bad
def Tells (w : World) (o : Out) (r : Value) (w' : World) : Prop :=
  match o with
  | .on p s => ∃ v, r = .tuple #[v, .bool true] ∧ OneWay w w' v p s
  | .done => r = .tuple #[.slice none 0 0, .bool true] ∧ Kept none' w w'
  | .bad => ∃ v, r = .tuple #[v, .bool false] ∧ varV v = some v ∧ Kept none' w w'
theorem Tells.before {w0 w w' : World} {o : Out} {r : Value} (h : Tells w o r w') (hk : Kept none' w0 w) : Tells w0 o r w' := by
  cases o with
  | on p s => obtain ⟨v, h1, h2⟩ := h; exact ⟨v, h1, h2.before hk⟩
  | done => exact ⟨h.1, hk.trans h.2⟩
  | bad => obtain ⟨v, h1, h2, h3⟩ := h; exact ⟨v, h1, h2, hk.trans h3⟩
theorem OneWay.var {w w' : World} {v : Value} {p : Int} {s : AState} (h : OneWay w w' v p s) : varV v = some v := by
  obtain ⟨h1, b, rfl, _⟩ := h; rfl
/-- Its two parts, as values. -/
theorem Tells.two {w w' : World} {o : Out} {r : Value} (h : Tells w o r w') : ∃ v t, r = .tuple #[v, .bool t] ∧ varV v = some v := by
  cases o with
  | on p s => obtain ⟨v, h1, h2⟩ := h; exact ⟨v, true, h1, h2.var⟩
  | done => exact ⟨_, _, h.1, rfl⟩
  | bad => obtain ⟨v, h1, h2, h3⟩ := h; exact ⟨v, false, h1, h2⟩
theorem Tells.kept {w w' : World} {o : Out} {r : Value} (h : Tells w o r w') : Kept none' w w' := by
  cases o with
  | on p s => obtain ⟨v, h1, h2⟩ := h; exact h2.1
  | done => exact h.2
  | bad => obtain ⟨v, h1, h2, h3⟩ := h; exact h3

theorem WayBox.kind0 {w : World} {b : Nat} {p : Int} {s : AState} (h : WayBox w b p s) : wcell w b 1 = some (.int .i64 (s.r 0).kind) := by
  have h1 : s.cell 0 = (s.r 0).at 0 := cell_reg s 0 0 (by omega) (by omega)
  have h2 := way_at p s 0 (by omega)
  rw [wcell_of h, h2, h1]
  rfl
set_option maxHeartbeats 2000000 in
theorem step_by {w : World} {cb mb p : Nat} {l specs frozen left : Value} {priv : Bool} {ids : Int} {xs : List Ins} {x : Ins} (s : AState) (o : Out) (hc : ChkAt w cb l specs frozen priv left mb ids) (hl : SlIs w l xs) (hx : xs[p]? = some x) (hw : x.wf)
    (hkind : kindOf x = 1 ∨ kindOf x = 2 ∨ kindOf x = 5 ∨ kindOf x = 6 ∨ kindOf x = 7)
    (h1 : kindOf x = 1 → ∀ w', Kept none' w w' → Ret Tryz.prog 51 [.pointer (some ⟨cb, 0, none⟩), .agg (wayArr p s), .agg x.arr, .agg (partsOf x.op).arr] w' (Tells w' o))
    (h2 : kindOf x = 2 → ∀ w', Kept none' w w' → Ret Tryz.prog 52 [.pointer (some ⟨cb, 0, none⟩), .agg (wayArr p s), .agg x.arr, .agg (partsOf x.op).arr] w' (Tells w' o))
    (h5 : kindOf x = 5 → o = if (s.r 0).kind = 1 then .done else .bad)
    (h6 : kindOf x = 6 → ∀ w', Kept none' w w' → Ret Tryz.prog 56 [.pointer (some ⟨cb, 0, none⟩), .agg (wayArr p s), .agg x.arr, .agg (partsOf x.op).arr] w' (Tells w' o))
    (h7 : kindOf x = 7 → x.src < 11 ∧ ∀ w', Kept none' w w' → Ret Tryz.prog 57 [.pointer (some ⟨cb, 0, none⟩), .agg (wayArr p s), .agg x.arr, .agg (partsOf x.op).arr, .agg (secondA s x (partsOf x.op).reg).arr] w' (Tells w' o)) :
    Ret Tryz.prog 36 [.pointer (some ⟨cb, 0, none⟩), .agg (wayArr p s)] w (Tells w o) := by
  refine ret_of_W Tryz.func36 rfl ok_verify_checker_step ?_
  have hlt : p < xs.length := (List.getElem?_eq_some_iff.1 hx).1
  have hlt' : (p : Int) < xs.length := by omega
  have hge : (0 : Int) ≤ p := by omega
  obtain ⟨b, off, c, rfl, hrow⟩ := hl.at hx
  simp only [c_verify_checker_step, W_seq, W_set]
  refine W_new' (v := .agg (wayArr p s)) (cs := wayArr p s) (by simp) rfl ?_
  have h4 : WayBox _ w.heap.size p s := hp_new w (.cells (wayArr p s) 76)
  have hk1 := (Kept.refl none' w).alloc (.cells (wayArr p s) 76)
  generalize hb4 : w.heap.size = b4 at *
  generalize (w.alloc (.cells (wayArr p s) 76)) = w1 at *
  simp only [W_seq, W_set]
  refine ok_intro (.slice none 0 0) (by simp) ?_
  try simp only [W_seq, W_set]
  refine ok_intro (.bool false) (by simp) ?_
  simp only [W_seq, W_draw]
  have hk2 : Kept none' w w1.drew := hk1.drew
  have h42 : WayBox w1.drew b4 p s := h4
  generalize w1.drew = w2 at *
  have hc2 := hc.calm hk2
  have f0 : wcell w2 cb 0 = some (.slice (some ⟨b, off, none⟩) xs.length c) := by rw [wcell_of hc2.box]; rfl
  have hrow2 : wrow w2 b (off + p * 5) 5 = some x.arr := wrow_mono hk2.le hrow
  simp only [W_seq, W_set]
  refine ok_intro (.slice (some ⟨b, off, none⟩) xs.length c) (by simp [f0]) ?_
  try simp only [W_seq, W_set]
  refine ok_intro (.int .i64 p) (by simp [h42.pos]) ?_
  try simp only [W_seq, W_set]
  refine ok_intro x.val (by simp [hlt', hge, hlt, hrow2]) ?_
  try simp only [W_seq]
  refine W_new' (v := Ins.zero.val) (cs := Ins.zero.arr) (by simp; try rfl) rfl ?_
  have hZ := hp_new w2 (.cells Ins.zero.arr 28)
  have hka := (Kept.refl none' w2).alloc (.cells Ins.zero.arr 28)
  generalize (w2.alloc (.cells Ins.zero.arr 28)) = w3 at *
  generalize hb5 : w2.heap.size = b5 at *
  have hs3 := box_store (v := x.val) hZ (n := 5) (by simp) (by simp [Value.cells]) (by exact ins_one _)
  try simp only [W_seq]
  refine W_store (vv := x.val) (by simp) (by simp) hs3 (stab_nil _ _ _) ?_
  have hxc : x.val.cells = x.arr := rfl
  rw [hxc]
  have hk4 := hka.putNew (show w2.heap.size ≤ b5 by omega) (.cells x.arr 28 (0, 0))
  have h54 : (Eng.put w3 b5 (.cells x.arr 28 (0, 0))).heap[b5]? = some (.cells x.arr 28 (0, 0)) := put_same (blk_lt hZ)
  generalize Eng.put w3 b5 (.cells x.arr 28 (0, 0)) = w4 at *
  have hk04 := hk2.trans hk4
  have h44 := h42.calm hk4
  have hc0 : wcell w4 b5 0 = some (.int .u8 x.op) := by rw [wcell_of h54]; rfl
  try simp only [W_seq]
  refine W_calm (by simp [hc0]) (ret_of_T (Of_T w4 hw.op)) ?_
  intro w5 hk5
  have hk05 := hk04.trans hk5
  have hkz : Kept none' w5 w5 := Kept.refl _ _
  try simp only [W_seq]
  refine W_new' (v := Parts.zero.val) (cs := Parts.zero.arr) (by simp; try rfl) rfl ?_
  have hZ8 := hp_new w5 (.cells Parts.zero.arr 82)
  have hkb := (Kept.refl none' w5).alloc (.cells Parts.zero.arr 82)
  generalize (w5.alloc (.cells Parts.zero.arr 82)) = w6 at *
  generalize hb8 : w5.heap.size = b8 at *
  have hpc : (partsOf x.op).val.cells = (partsOf x.op).arr := rfl
  have hs8 := box_store (v := (partsOf x.op).val) hZ8 (n := 5) (by simp) (by simp [Value.cells]) (by rw [hpc]; exact parts_one _)
  try simp only [W_seq]
  refine W_store (vv := (partsOf x.op).val) (by simp) (by simp) hs8 (stab_nil _ _ _) ?_
  rw [hpc]
  have hk7 := hkb.putNew (show w5.heap.size ≤ b8 by omega) (.cells (partsOf x.op).arr 82 (0, 0))
  have h87 : (Eng.put w6 b8 (.cells (partsOf x.op).arr 82 (0, 0))).heap[b8]? = some (.cells (partsOf x.op).arr 82 (0, 0)) := put_same (blk_lt hZ8)
  generalize Eng.put w6 b8 (.cells (partsOf x.op).arr 82 (0, 0)) = w7 at *
  have hk07 := hk05.trans hk7
  have hk47 := hk5.trans hk7
  have h47 := h44.calm hk47
  have h57 := hk47.has h54 (fun h => h)
  have r4 := h47.all
  have r5 : wrow w7 b5 0 5 = some x.arr := wrow_box h57 (by simp)
  have r8 : wrow w7 b8 0 5 = some (partsOf x.op).arr := wrow_box h87 (by simp)
  have f8 : wcell w7 b8 0 = some (.int .i64 (kindOf x)) := by rw [wcell_of h87]; simp [kindOf]
  have f84 : wcell w7 b8 4 = some (.bool (partsOf x.op).reg) := by rw [wcell_of h87]; simp
  clear hs3 hs8 hZ hZ8
  simp only [W_seq, W_set]
  refine ok_intro (.int .i64 (kindOf x)) (by simp [f8]) ?_
  try simp only [W_seq]
  rw [W_block]
  simp only [W_seq, W_set]
  refine ok_intro (.bool (decide (kindOf x = 1))) (by simp) ?_
  simp
  by_cases k1 : kindOf x = 1
  · refine W_yes (by simp [k1]) ?_
    simp only [W_seq]
    refine W_call (by simp [r4, r5, r8]) (h1 k1 w7 hk07) ?_
    rintro r w8 ht
    refine ⟨stab_nil _ _ _, ?_⟩
    obtain ⟨v, t, rfl, hv⟩ := ht.two
    have ht0 := ht.before hk07
    simp [hv]
    exact ht0
  refine W_no (by simp [k1]) ?_
  simp
  by_cases k2 : kindOf x = 2
  · refine W_yes (by simp [k2]) ?_
    simp only [W_seq]
    refine W_call (by simp [r4, r5, r8]) (h2 k2 w7 hk07) ?_
    rintro r w8 ht
    refine ⟨stab_nil _ _ _, ?_⟩
    obtain ⟨v, t, rfl, hv⟩ := ht.two
    have ht0 := ht.before hk07
    simp [hv]
    exact ht0
  refine W_no (by simp [k2]) ?_
  simp
  have k3 : ¬ kindOf x = 3 := by omega
  refine W_no (by simp [k3]) ?_
  simp
  have k4 : ¬ kindOf x = 4 := by omega
  refine W_no (by simp [k4]) ?_
  simp
  by_cases k5 : kindOf x = 5
  · refine W_yes (by simp [k5]) ?_
    simp only [W_seq, W_draw]
    have hk08 : Kept none' w w7.drew := hk07.drew
    have h48 : WayBox w7.drew b4 p s := h47
    generalize w7.drew = w8 at *
    have g0 : wcell w8 b4 1 = some (.int .i64 (s.r 0).kind) := h48.kind0
    rw [h5 k5]
    by_cases hr : (s.r 0).kind = 1
    · rw [if_pos hr]
      simp [g0, hr]
      exact ⟨rfl, hk08⟩
    · rw [if_neg hr]
      simp [g0, hr]
      exact ⟨_, rfl, rfl, hk08⟩
  refine W_no (by simp [k5]) ?_
  simp
  by_cases k6 : kindOf x = 6
  · refine W_yes (by simp [k6]) ?_
    simp only [W_seq]
    refine W_call (by simp [r4, r5, r8]) (h6 k6 w7 hk07) ?_
    rintro r w8 ht
    refine ⟨stab_nil _ _ _, ?_⟩
    obtain ⟨v, t, rfl, hv⟩ := ht.two
    have ht0 := ht.before hk07
    simp [hv]
    exact ht0
  refine W_no (by simp [k6]) ?_
  simp
  have k7 : kindOf x = 7 := by omega
  obtain ⟨hsrc, h7⟩ := h7 k7
  refine W_yes (by simp [k7]) ?_
  simp only [W_seq, W_draw]
  have hk08 : Kept none' w w7.drew := hk07.drew
  have h48 : WayBox w7.drew b4 p s := h47
  have r58 : wrow w7.drew b5 0 5 = some x.arr := r5
  have r88 : wrow w7.drew b8 0 5 = some (partsOf x.op).arr := r8
  have f88 : wcell w7.drew b8 4 = some (.bool (partsOf x.op).reg) := f84
  generalize w7.drew = w8 at *
  refine W_chkIn [.pointer (some ⟨cb, 0, none⟩)] (by simp) ?_
  simp only [W_seq, W_set]
  refine ok_intro (.agg (wayArr p s)) (by simp [h48.all]) ?_
  try simp only [W_seq, W_set]
  refine ok_intro (.agg x.arr) (by simp [r58]) ?_
  try simp only [W_seq, W_set]
  refine ok_intro (.agg (partsOf x.op).arr) (by simp [r88]) ?_
  try simp only [W_seq]
  have t2 := second_T w8 s hw hsrc (partsOf x.op).reg
  refine W_calm (vs := [s.val, x.val, .bool (partsOf x.op).reg]) (by simp [h48.state, r58, f88, AState.val]) (ret_of_T t2) ?_
  intro w9 hk9
  simp only [W_seq]
  refine W_call (by simp [AReg.val]) (h7 w9 (hk08.trans hk9)) ?_
  rintro r w10 ht
  refine ⟨stab_nil _ _ _, ?_⟩
  obtain ⟨v, t, rfl, hv⟩ := ht.two
  have ht0 := ht.before (hk08.trans hk9)
  simp [hv]
  exact ht0
end Go.Proofs.YtkgpmjjleemdlaaGreat
namespace Go.Proofs.YtkgpmjjleemdlaaGreat
open Go.Eng
attribute [local irreducible] Go.Eng.W

/-- The checker's program and environment, which stay as they are. -/
structure Job where
  cb : Nat
  mb : Nat
  l : Value
  specs : Value
  frozen : Value
  priv : Bool
  ids : Int
  xs : List Ins
def StepOk (J : Job) (p : Nat) (s : AState) (o : Out) : Prop := ∀ w left, ChkAt w J.cb J.l J.specs J.frozen J.priv left J.mb J.ids → SlIs w J.l J.xs → Ret Tryz.prog 36 [.pointer (some ⟨J.cb, 0, none⟩), .agg (wayArr p s)] w (Tells w o)
def NotCov (p : Nat) (t s : AState) : Prop := ∀ w b, WayBox w b p s → Ret Tryz.prog 49 [.agg t.arr, .pointer (some ⟨b, 0, none⟩)] w fun r w' => r = .bool false ∧ Kept none' w w'
def seenPut (f : Nat → List AState) (p : Nat) (s : AState) : Nat → List AState := fun q => if q = p then f p ++ [s] else f q
/-- A run that goes one way, and what it tells: the place, the steps, the error. -/
inductive Goes (J : Job) (most : Nat) : (Nat → List AState) → Nat → Nat → AState → Int → Nat → Int → Prop
  | big {seen : Nat → List AState} {n p : Nat} {s : AState} (hn : n = most) (hc : ∀ t ∈ seen p, NotCov p t s) : Goes J most seen n p s p n 7
  | bad {seen : Nat → List AState} {n p : Nat} {s : AState} (hn : n < most) (hc : ∀ t ∈ seen p, NotCov p t s) (hs : StepOk J p s .bad) : Goes J most seen n p s p (n + 1) 13
  | done {seen : Nat → List AState} {n p : Nat} {s : AState} (hn : n < most) (hc : ∀ t ∈ seen p, NotCov p t s) (hs : StepOk J p s .done) : Goes J most seen n p s 0 (n + 1) 0
  | on {seen : Nat → List AState} {n p p' : Nat} {s s' : AState} {a e : Int} {m : Nat} (hn : n < most) (hc : ∀ t ∈ seen p, NotCov p t s) (hs : StepOk J p s (.on p' s')) (hr : Goes J most (seenPut seen p s) (n + 1) p' s' a m e) : Goes J most seen n p s a m e
theorem Goes.cov {J : Job} {most : Nat} {seen : Nat → List AState} {n p : Nat} {s : AState} {a e : Int} {m : Nat} (h : Goes J most seen n p s a m e) : ∀ t ∈ seen p, NotCov p t s := by
  cases h <;> assumption

def WaysAt (w : World) (v : Value) (n : Nat) (l : List Value) : Prop := Row 76 274 w v n l
structure RunInv (J : Job) (w0 w : World) (f : Nat → Option Value) (seen : Nat → List AState) (left : Value) : Prop where
  kept : Kept none' w0 w
  chk : ChkAt w J.cb J.l J.specs J.frozen J.priv left J.mb J.ids
  map : MapN w J.mb f
  seen : ∀ p, StatesAt w ((f p).getD (.slice none 0 0)) (seen p)
  own : ∀ p v b, f p = some v → v.ownBlock = some b → w0.heap.size ≤ b
  apart : ∀ p q v v' b, p ≠ q → f p = some v → f q = some v' → v.ownBlock = some b → v'.ownBlock ≠ some b
  lown : ∀ b, left.ownBlock = some b → w0.heap.size ≤ b
  cb : w0.heap.size ≤ J.cb
  mb : w0.heap.size ≤ J.mb
theorem RunInv.calm {J : Job} {w0 w w' : World} {f : Nat → Option Value} {seen : Nat → List AState} {left : Value} (h : RunInv J w0 w f seen left) (hk : Kept none' w w') : RunInv J w0 w' f seen left :=
  ⟨h.kept.trans hk, h.chk.calm hk, h.map.calm hk, fun p => rowCalm (h.seen p) hk, h.own, h.apart, h.lown, h.cb, h.mb⟩
theorem row_block {T : TypeId} {k n : Nat} {w : World} {v : Value} {xs : List Value} (h : Row T k w v n xs) {b : Nat} (hb : v.ownBlock = some b) : ∃ c, w.heap[b]? = some (.cells c T (0, 0)) := by
  rcases h.2 with ⟨rfl, _⟩ | ⟨g, cap, cur, rfl, _, h2, _⟩
  · simp [Value.ownBlock] at hb
  · simp [Value.ownBlock] at hb; subst hb; exact ⟨_, h2⟩
/-- The checker's field of ways is written. -/
theorem RunInv.setleft {J : Job} {w0 w : World} {f : Nat → Option Value} {seen : Nat → List AState} {left : Value} (h : RunInv J w0 w f seen left) {v : Value} (hv : v.cells = #[v]) (h1 : v.oneCell' = true) (ho : ∀ b, v.ownBlock = some b → w0.heap.size ≤ b) :
    ∃ w', stv w 1 (.pointer (some ⟨J.cb, 4, none⟩)) v = some w' ∧ RunInv J w0 w' f seen v ∧ Kept (fun j => j = J.cb) w w' := by
  have hb := blk_lt h.chk.box
  have hk := (Kept.refl (fun j => j = J.cb) w).put (b := J.cb) (fun _ => rfl) (.cells #[J.l, J.specs, J.frozen, .bool J.priv, v, .map (some J.mb), .int .i64 J.ids] 62 (0, 0))
  refine ⟨_, ?_, ⟨h.kept.then hk fun j hj e => by have := h.cb; omega, ⟨put_same hb⟩, h.map.keep hk ?_, fun p => rowKeep (h.seen p) hk ?_, h.own, h.apart, ho, h.cb, h.mb⟩, hk⟩
  · rw [stv_of (n := 1) (v := v) h.chk.box (by rw [hv]; rfl) (by simp) (.inl (by simp)) (by rw [hv]; simpa using h1), hv]
    rfl
  · intro e
    obtain ⟨en, cl, h2, _⟩ := h.map
    rw [e, h.chk.box] at h2
    cases h2
  · intro i hi e
    obtain ⟨c, h2⟩ := row_block (h.seen p) hi
    rw [e, h.chk.box] at h2
    injection h2 with h2
    injection h2 with _ h2
    exact absurd h2 (by decide)
theorem map_ne {w : World} {b : Nat} {f : Nat → Option Value} (h : MapN w b f) {c : Array Value} {T : TypeId} {fz : Nat × Nat} {j : Nat} (hj : w.heap[j]? = some (.cells c T fz)) : j ≠ b := by
  intro e
  obtain ⟨en, cl, h2, _⟩ := h
  rw [← e, hj] at h2
  cases h2
theorem states_push {ss : List AState} {s : AState} : (stCells (ss ++ [s])).flatten = (stCells ss).flatten ++ s.arr.toList := by simp [stCells]
/-- A state is noted with its place. -/
theorem RunInv.note {J : Job} {w0 w : World} {f : Nat → Option Value} {seen : Nat → List AState} {left : Value} (h : RunInv J w0 w f seen left) (p : Nat) (s : AState) (hn : (seen p).length + 1 ≤ 1000000) :
    ∃ v' w2 w3, (builtin .append #[94, 94] 94 #[] #[(f p).getD (.slice none 0 0), .slice (some ⟨w.heap.size, 0, none⟩) 1 1]).run Tryz.prog (w.alloc (.cells s.arr 73)) = .ok (.value v') w2 ∧
      ((Tag.upd 59).sem [.map (some J.mb), .int .i64 p, v']).run Tryz.prog w2 = .ok undef w3 ∧ RunInv J w0 w3 (fput f p v') (seenPut seen p s) left ∧ varV v' = some v' ∧ Kept (fun j => j = J.mb ∨ ∃ v, f p = some v ∧ v.ownBlock = some j) w w3 ∧ Kept (fun j => ∃ v, f p = some v ∧ v.ownBlock = some j) (w.alloc (.cells s.arr 73)) w2 := by
  have hk1 := (Kept.refl none' w).alloc (.cells s.arr 73)
  have hnew := hp_new w (.cells s.arr 73)
  have h1 := h.calm hk1
  have hsz : (w.alloc (.cells s.arr 73)).heap.size = w.heap.size + 1 := by simp
  have hw0 := h.kept.size
  generalize (w.alloc (.cells s.arr 73)) = w1 at *
  obtain ⟨v', w2, hrun, hrow, hk2, hat⟩ := row_append (P := Tryz.prog) (t := 94) (k := 273) Tryz.underlying94 (by kernel_rfl) (by omega) (sb := w.heap.size) (so := 0) (c := 1) (m := 1) (ys := s.arr.toList) (h1.seen p) (by omega) (by simp)
    (fun j y hj => by rw [Nat.zero_add, wcell_of hnew]; simpa using hj) (fun y hy => by
      have := astate_one s
      rw [← Array.all_toList] at this
      exact List.all_eq_true.1 this y hy)
  have hown9 : ∀ j, ((f p).getD (.slice none 0 0)).ownBlock = some j → ∃ v, f p = some v ∧ v.ownBlock = some j := by
    intro j hj
    cases hf : f p with
    | none => rw [hf] at hj; simp [Value.ownBlock] at hj
    | some v => rw [hf] at hj; exact ⟨v, rfl, hj⟩
  have hS : ∀ j, ((f p).getD (.slice none 0 0)).ownBlock = some j → j ≠ J.mb ∧ j ≠ J.cb ∧ w0.heap.size ≤ j := by
    intro j hj
    obtain ⟨c, hc⟩ := row_block (h1.seen p) hj
    obtain ⟨v, hf, hv⟩ := hown9 j hj
    refine ⟨map_ne h1.map hc, ?_, h.own p v j hf hv⟩
    intro e
    rw [e, h1.chk.box] at hc
    injection hc with hc
    injection hc with _ hc
    exact absurd hc (by decide)
  have hm2 : MapN w2 J.mb f := h1.map.keep hk2 fun e => (hS _ e).1 rfl
  obtain ⟨w3, hupd, hm3, hk3⟩ := run_mapupd (v := v') (n := p) Tryz.underlying59 Tryz.underlying3 hm2
  have hk13 : Kept (fun j => j = J.mb ∨ ∃ v, f p = some v ∧ v.ownBlock = some j) w1 w3 := (hk2.mono fun j _ e => .inr (hown9 j e)).trans (hk3.mono fun j _ e => .inl e)
  have hrow' : StatesAt w2 v' (seen p ++ [s]) := by
    unfold StatesAt
    rw [states_push, List.length_append]
    exact hrow
  have hlt : ∀ j, v'.ownBlock = some j → (∃ v, f p = some v ∧ v.ownBlock = some j) ∨ j = w1.heap.size := by
    intro j hj
    rcases hat with e | e
    · rw [e] at hj; exact .inl (hown9 j hj)
    · rw [e] at hj; injection hj with hj; exact .inr hj.symm
  have hchk3 : ChkAt w3 J.cb J.l J.specs J.frozen J.priv left J.mb J.ids := by
    refine (h1.chk.keep hk2 fun e => (hS _ e).2.1 rfl).keep hk3 ?_
    exact map_ne h1.map h1.chk.box
  refine ⟨v', w2, w3, hrun, hupd, ⟨?_, hchk3, hm3, ?_, ?_, ?_, h.lown, h.cb, h.mb⟩, rowVar hrow, ?_, hk2.mono fun j _ e => hown9 j e⟩
  · exact h1.kept.then hk13 fun j hj e => by
      rcases e with e | ⟨v, hf, hv⟩
      · have := h.mb; omega
      · have := h.own p v j hf hv; omega
  · intro q
    unfold fput seenPut
    by_cases hq : q = p
    · subst hq
      simp only [if_true]
      refine rowKeep hrow' hk3 fun i hi => ?_
      obtain ⟨c, hc⟩ := row_block hrow' hi
      exact map_ne hm2 hc
    · rw [if_neg hq, if_neg hq]
      refine rowKeep (rowKeep (h1.seen q) hk2 fun i hi e => ?_) hk3 fun i hi => ?_
      · cases hf : f q with
        | none => rw [hf] at hi; simp [Value.ownBlock] at hi
        | some v =>
          rw [hf] at hi
          obtain ⟨v2, hf2, hv2⟩ := hown9 i e
          exact h.apart q p v v2 i hq hf hf2 hi hv2
      · obtain ⟨c, hc⟩ := row_block (h1.seen q) hi
        exact map_ne h1.map hc
  · intro q v b hf hb
    unfold fput at hf
    by_cases hq : q = p
    · rw [if_pos hq] at hf
      injection hf with hf
      subst hf
      rcases hlt b hb with ⟨v2, h3, h4⟩ | h3
      · exact h.own p v2 b h3 h4
      · omega
    · rw [if_neg hq] at hf
      exact h.own q v b hf hb
  · have key : ∀ q v2 b, q ≠ p → f q = some v2 → v2.ownBlock = some b → v'.ownBlock ≠ some b := by
      intro q v2 b hq hf hb hb'
      rcases hlt b hb' with ⟨v3, h3, h4⟩ | h3
      · exact h.apart q p v2 v3 b hq hf h3 hb h4
      · have hr := h1.seen q
        rw [hf] at hr
        have := rowLt hr hb
        omega
    intro q r v v2 b hqr hf hf2 hb
    unfold fput at hf hf2
    by_cases hq : q = p
    · rw [if_pos hq] at hf
      injection hf with hf
      subst hf
      have hr : r ≠ p := fun e => hqr (by rw [hq, e])
      rw [if_neg hr] at hf2
      exact fun e => key r v2 b hr hf2 e hb
    · rw [if_neg hq] at hf
      by_cases hr : r = p
      · rw [if_pos hr] at hf2
        injection hf2 with hf2
        subst hf2
        exact key q v b hq hf hb
      · rw [if_neg hr] at hf2
        exact h.apart q r v v2 b hqr hf hf2 hb
  · exact hk1.any.trans hk13
end Go.Proofs.YtkgpmjjleemdlaaGreat
