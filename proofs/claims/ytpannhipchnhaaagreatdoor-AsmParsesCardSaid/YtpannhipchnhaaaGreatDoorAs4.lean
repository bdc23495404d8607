/- Layer 23: words read, one by one. -/
import Derived.Test.YtpannhipchnhaaaGreatDoorAs3
import Derived.Lib.ParseIntBTie
import Derived.Lib.ParseIntBCases
set_option linter.unusedSimpArgs false
set_option linter.unusedVariables false
set_option maxRecDepth 8000
namespace Go.Proofs.YtpannhipchnhaaaGreatDoor
open Go.Eng

/-! Cut at each c. -/
def splitG (c : UInt8) : Str → List Str
  | [] => [[]]
  | x :: r => if x = c then [] :: splitG c r else (x :: (splitG c r).headD []) :: (splitG c r).tail
theorem splitG_ne (c : UInt8) (l : Str) : splitG c l ≠ [] := by
  cases l with
  | nil => simp [splitG]
  | cons x r => simp only [splitG]; split <;> simp
theorem splitG_head (c : UInt8) (l : Str) : (splitG c l).headD [] :: (splitG c l).tail = splitG c l := by
  cases h : splitG c l with
  | nil => exact absurd h (splitG_ne c l)
  | cons a t => rfl
theorem splitK_eq (c : UInt8) : ∀ s : List UInt8, Lib.splitK [c] 0 (Lib.count s [c]) s = splitG c s
  | [] => by rw [Lib.count_miss (by simp [Lib.index])]; rfl
  | b :: r => by
    have ih := splitK_eq c r
    by_cases h : b = c
    · subst h
      rw [Lib.count_cons_eq, Nat.add_comm]
      have hix : Lib.index (b :: r) [b] = 0 := by rw [Lib.index]; simp [List.isPrefixOf]
      simp only [Lib.splitK, hix, splitG, if_true]
      rw [← ih]
      rfl
    · rw [Lib.count_cons_ne b c r h]
      simp only [splitG, if_neg h]
      have hp : ([c] : List UInt8).isPrefixOf (b :: r) = false := by simp [List.isPrefixOf, Ne.symm h]
      have hix : Lib.index (b :: r) [c] = if Lib.index r [c] == -1 then -1 else Lib.index r [c] + 1 := by rw [Lib.index, hp]; simp
      rw [← ih]
      cases hk : Lib.count r [c] with
      | zero => rfl
      | succ k =>
        have hm : Lib.index r [c] ≠ -1 := fun e => by rw [Lib.count_miss e] at hk; omega
        have hge := Lib.index_ge r [c]
        obtain ⟨j, hj⟩ : ∃ j : Nat, Lib.index r [c] = j := ⟨(Lib.index r [c]).toNat, by omega⟩
        have hb : ¬ ((j : Int) == -1) = true := fun e => by have := beq_iff_eq.1 e; omega
        have hb' : ¬ (((j : Int) + 1) == -1) = true := fun e => by have := beq_iff_eq.1 e; omega
        simp only [Lib.splitK, hix, hj, if_neg hb, if_neg hb']
        simp
theorem splitB_us (l : Str) : Lib.splitB (us [32]) 0 (Lib.countB (us l) (us [32])) (us l) = (splitG 32 l).map us := by
  have h := Lib.splitB_data (us [32]) 0 (Lib.countB (us l) (us [32])) (us l)
  have h2 : Lib.splitK (us [32]).data.toList 0 (Lib.countB (us l) (us [32])) (us l).data.toList = splitG 32 l := splitK_eq 32 l
  rw [h2] at h
  have hinj : ∀ (a b : List ByteArray), a.map (·.data.toList) = b.map (·.data.toList) → a = b := by
    intro a b e
    refine List.map_inj_right (f := fun s : ByteArray => s.data.toList) (fun x y hxy => ?_) |>.1 e
    obtain ⟨⟨x⟩⟩ := x; obtain ⟨⟨y⟩⟩ := y
    simpa using hxy
  refine hinj _ _ (h.trans ?_)
  rw [List.map_map]
  conv => lhs; rw [← List.map_id (splitG 32 l)]
  exact List.map_congr_left fun m _ => rfl
theorem splitG_len (l : Str) : (splitG 32 l).length ≤ l.length + 1 := by
  induction l with
  | nil => simp [splitG]
  | cons a r ih =>
    by_cases h : a = 32
    · simp only [splitG, if_pos h]; simp; exact ih
    · simp only [splitG, if_neg h]; simp; omega
theorem splitG_words (c : UInt8) (l : Str) : ∀ m ∈ splitG c l, m.length ≤ l.length := by
  induction l with
  | nil => intro m hm; simp [splitG] at hm; subst hm; simp
  | cons a r ih =>
    intro m hm
    by_cases h : a = c
    · simp only [splitG, if_pos h] at hm
      rcases List.mem_cons.1 hm with rfl | hm
      · simp
      · have := ih m hm; simp; omega
    · simp only [splitG, if_neg h] at hm
      rcases List.mem_cons.1 hm with rfl | hm
      · have := ih ((splitG c r).headD []) (by rw [← splitG_head c r]; simp)
        simp only [List.length_cons]; omega
      · have := ih m (by rw [← splitG_head c r]; simp [hm]); simp; omega
theorem split_ret (l : Str) (w : World) (hlen : l.length ≤ 1000000) (hg : GlobA w) :
    Ret Tryz.prog 34 [.string (us l), .string (us [32])] w fun v w' => Kept none' w w' ∧ v = .slice (some ⟨w.heap.size, 0, none⟩) (splitG 32 l).length (splitG 32 l).length ∧ w'.heap.size = w.heap.size + 1 ∧ StrAt w' w.heap.size 0 (splitG 32 l) := by
  obtain ⟨m, hm⟩ := hg.max
  have h := Tryz.strings_Split (us l) (us [32]) m w (by simp; omega) (wcell_cell hm) (by decide)
  rw [splitB_us l] at h
  have hn : Lib.countB (us l) (us [32]) + 1 = (splitG 32 l).length := by
    have := Lib.splitB_all (us [32]) (by decide) 0 _ (us l) rfl
    rw [splitB_us l] at this
    simpa using this.symm
  refine ret_of_calls (h.mono fun e w' he => ⟨_, he.1, ?_, ?_, ?_, ?_⟩)
  · rw [he.2]; exact (Kept.refl _ _).alloc _
  · rw [hn]
  · rw [he.2]; simp
  · rw [he.2]
    intro i m hm
    rw [wcell_of (hp_new w _)]
    simp [hm]

/-! What is read, and what is left. -/
structure Rd where
  l : List Str
  wr : Bool
/-- The reader's box. -/
def RdAt (w : World) (b : Nat) (r : Rd) : Prop := ∃ sb o c, w.heap[b]? = some (.cells #[.slice (some ⟨sb, o, none⟩) r.l.length c, .bool r.wr] 78 (0, 0)) ∧ StrAt w sb o r.l ∧ sb ≠ b ∧ r.l.length ≤ c ∧ ∀ s ∈ r.l, s.length ≤ 1000000
theorem RdAt.calm {w w' : World} {b : Nat} {r : Rd} (h : RdAt w b r) (hk : Kept none' w w') : RdAt w' b r := by
  obtain ⟨sb, o, c, h1, h2, h3⟩ := h
  exact ⟨sb, o, c, hk.has h1 (fun h => h), h2.calm hk, h3⟩
theorem RdAt.lt {w : World} {b : Nat} {r : Rd} (h : RdAt w b r) : b < w.heap.size := by
  obtain ⟨sb, o, c, h1, _⟩ := h
  exact blk_lt h1
abbrev KB (b : Nat) (w w' : World) : Prop := Kept (fun j => j = b) w w'
def nextR (r : Rd) : Str × Rd := match r.l with
  | [] => ([], ⟨[], true⟩)
  | s :: t => (s, ⟨t, r.wr⟩)
theorem RdAt.mark {w : World} {b : Nat} {r : Rd} (h : RdAt w b r) (t : Bool) : ∃ w', stv w 1 (.pointer (some ⟨b, 1, none⟩)) (.bool t) = some w' ∧ RdAt w' b ⟨r.l, t⟩ ∧ KB b w w' := by
  obtain ⟨sb, o, c, h1, h2, h3, h4⟩ := h
  refine ⟨_, stv_of (n := 1) (v := .bool t) h1 rfl (by simp) (.inl (by simp)) (by simp [Value.oneCell']), ⟨sb, o, c, put_same (blk_lt h1), ?_, h3, h4⟩, (Kept.refl (fun j => j = b) w).put (b := b) (fun _ => rfl) _⟩
  exact h2.kept ((Kept.refl (fun j => j = b) w).put (b := b) (fun _ => rfl) _) h3
theorem next_ret {b : Nat} {r : Rd} (w : World) (h : RdAt w b r) (hn : r.l.length ≤ 1000000) :
    Ret Tryz.prog 36 [.pointer (some ⟨b, 0, none⟩)] w fun v w' => v = .string (us (nextR r).1) ∧ RdAt w' b (nextR r).2 ∧ KB b w w' := by
  refine ret_of_W Tryz.func36 rfl ok_asm_words_next ?_
  obtain ⟨sb, o, c, h1, h2, h3, h4, h5⟩ := h
  obtain ⟨l, wr⟩ := r
  have hc0 : wcell w b 0 = some (.slice (some ⟨sb, o, none⟩) l.length c) := by rw [wcell_of h1]; rfl
  have hc1 : wcell w b 1 = some (.bool wr) := by rw [wcell_of h1]; rfl
  cases l with
  | nil =>
    obtain ⟨w', hst, hr, hk⟩ := RdAt.mark (r := ⟨[], wr⟩) ⟨sb, o, c, h1, h2, h3, h4, h5⟩ true
    simp [c_asm_words_next]
    refine W_yes (by simp [hc0]) ?_
    try simp only [W_seq]
    refine W_store (by simp) (by simp) hst (stab_nil _ _ _) ?_
    simp [nextR, nil_us]
    exact ⟨hr, hk⟩
  | cons s t =>
    have hs := h2 0 s rfl
    rw [Nat.add_zero] at hs
    have h0 : ¬ (((t.length + 1 : Nat) : Int)) = 0 := by omega
    have h0' : (0 : Int) < ((t.length + 1 : Nat) : Int) := by omega
    have hl1 : (1 : Int) ≤ ((t.length + 1 : Nat) : Int) := by omega
    have hlc : ((t.length + 1 : Nat) : Int) ≤ c := by simp at h4; omega
    simp [c_asm_words_next, -Int.natCast_add]
    refine W_no (by simp [hc0, h0, -Int.natCast_add]) ?_
    simp only [W_skip, W_seq, W_set]
    refine ok_intro (.string (us s)) (by simp [hc0, h0', hs, -Int.natCast_add]) ?_
    try simp only [W_seq]
    obtain ⟨w', hst, hr, hk⟩ : ∃ w', stv w 1 (.pointer (some ⟨b, 0, none⟩)) (.slice (some (if c = 1 then ⟨sb, o, none⟩ else ⟨sb, o + 1, none⟩)) t.length (c - 1)) = some w' ∧ RdAt w' b ⟨t, wr⟩ ∧ KB b w w' := by
      have hkp := (Kept.refl (fun j => j = b) w).put (b := b) (fun _ => rfl) (.cells (setRow #[.slice (some ⟨sb, o, none⟩) (s :: t).length c, .bool wr] 0 [.slice (some (if c = 1 then ⟨sb, o, none⟩ else ⟨sb, o + 1, none⟩)) t.length (c - 1)]) 78 (0, 0))
      refine ⟨_, stv_of (n := 1) h1 rfl (by simp) (.inl (by simp)) (by simp [Value.oneCell']), ?_, hkp⟩
      have hts : StrAt w sb (o + 1) t := fun i m hm => by
        have := h2 (i + 1) m (by simpa using hm)
        rw [show o + 1 + i = o + (i + 1) from by omega]
        exact this
      by_cases hc : c = 1
      · have ht : t = [] := by
          cases t with
          | nil => rfl
          | cons a b => simp at h4; omega
        subst ht
        refine ⟨sb, o, c - 1, ?_, fun i m hm => by simp at hm, h3, by simp, fun s hs => by cases hs⟩
        rw [put_same (blk_lt h1)]
        simp [hc]
      · refine ⟨sb, o + 1, c - 1, ?_, hts.kept hkp h3, h3, by show t.length ≤ c - 1; have h4 : t.length + 1 ≤ c := h4; omega, fun s hs => h5 s (by simp [hs])⟩
        rw [put_same (blk_lt h1)]
        simp [hc]
    refine W_store (by simp) (vv := .slice (some (if c = 1 then ⟨sb, o, none⟩ else ⟨sb, o + 1, none⟩)) t.length (c - 1)) ?_ hst (stab_nil _ _ _) ?_
    · simp [hc0, hl1, hlc, -Int.natCast_add]
    simp [nextR]
    exact ⟨hr, hk⟩
end Go.Proofs.YtpannhipchnhaaaGreatDoor
namespace Go.Proofs.YtpannhipchnhaaaGreatDoor
open Go.Eng

theorem i16w {n : Int} (h1 : -32768 ≤ n) (h2 : n ≤ 32767) : IntKind.i16.wrap n = n := IntWalk.i16_in n ⟨h1, h2⟩
theorem i32w {n : Int} (h1 : -2147483648 ≤ n) (h2 : n ≤ 2147483647) : IntKind.i32.wrap n = n := IntWalk.i32_in n ⟨h1, h2⟩
theorem pi16 (s : Str) : -32768 ≤ piVal 16 s ∧ piVal 16 s ≤ 32767 := by
  unfold piVal
  cases h : Lib.parseIntB 16 s with
  | ok v => have := Lib.parseIntB_bounds h; simp at this ⊢; omega
  | «syntax» => simp
  | range => simp only [Lib.intSat]; split <;> simp
theorem pi32 (s : Str) : -2147483648 ≤ piVal 32 s ∧ piVal 32 s ≤ 2147483647 := by
  unfold piVal
  cases h : Lib.parseIntB 32 s with
  | ok v => have := Lib.parseIntB_bounds h; simp at this ⊢; omega
  | «syntax» => simp
  | range => simp only [Lib.intSat]; split <;> simp
theorem puLt (s : Str) : puVal s < 18446744073709551616 := by
  unfold puVal
  cases h : Lib.parseUintB 64 s with
  | ok v => have := Lib.parseUintB_le h; simp only; omega
  | «syntax» => simp
  | range => simp
theorem kb_trans {b : Nat} {w0 w1 w2 : World} (h : KB b w0 w1) (k : KB b w1 w2) : KB b w0 w2 := h.trans k
theorem kb_calm {b : Nat} {w0 w1 : World} (k : Kept none' w0 w1) : KB b w0 w1 := k.any
/-- A box beside the reader's. -/
abbrev AtB (w : World) (bx : Nat) (x : Ins) : Prop := w.heap[bx]? = some (.cells x.arr 39 (0, 0))
theorem RdAt.beside {w w' : World} {b bx : Nat} {r : Rd} {x : Ins} (h : RdAt w b r) (hx : AtB w bx x) (hk : KB bx w w') : RdAt w' b r := by
  obtain ⟨sb, o, c, h1, h2, h3, h4⟩ := h
  have hb : b ≠ bx := by
    intro e
    subst e
    rw [hx] at h1
    have := congrArg (fun o : Option Obj => match o with | some (.cells c _ _) => c.size | _ => 0) h1
    simp at this
  refine ⟨sb, o, c, hk.has h1 hb, ?_, h3, h4⟩
  intro i m hm
  refine wcell_kept hk ?_ (h2 i m hm)
  intro e
  subst e
  have h5 := h2 i m hm
  rw [wcell_of hx] at h5
  have h6 : o + i < 5 := by
    have := (Array.getElem?_eq_some_iff.1 h5).1
    simpa using this
  have : o + i = 0 ∨ o + i = 1 ∨ o + i = 2 ∨ o + i = 3 ∨ o + i = 4 := by omega
  rcases this with e | e | e | e | e <;> rw [e] at h5 <;> simp at h5
theorem rd_ne {w : World} {b bx : Nat} {r : Rd} {x : Ins} (h : RdAt w b r) (hx : AtB w bx x) : bx ≠ b := by
  obtain ⟨sb, o, c, h1, h2, h3, h4⟩ := h
  intro e
  subst e
  rw [hx] at h1
  have := congrArg (fun o : Option Obj => match o with | some (.cells c _ _) => c.size | _ => 0) h1
  simp at this
theorem ins_put {w : World} {bx : Nat} {x : Ins} (h : AtB w bx x) (k : Nat) (hk : k < 5) {v : Value} (hv : v.cells = #[v]) (h1 : v.oneCell' = true) :
    ∃ w', stv w 1 (.pointer (some ⟨bx, k, none⟩)) v = some w' ∧ w'.heap[bx]? = some (.cells (x.arr.setIfInBounds k v) 39 (0, 0)) ∧ KB bx w w' := by
  refine ⟨_, stv_of (n := 1) (v := v) h (by rw [hv]; rfl) (by simp; omega) (.inl (by simp)) (by rw [hv]; simpa using h1), ?_, (Kept.refl (fun j => j = bx) w).put (b := bx) (fun _ => rfl) _⟩
  rw [put_same (blk_lt h), hv]
  rfl

theorem next_len {r : Rd} (h : ∀ s ∈ r.l, s.length ≤ 1000000) : (nextR r).1.length ≤ 1000000 := by
  unfold nextR
  cases hl : r.l with
  | nil => simp
  | cons s t => exact h s (by rw [hl]; simp)
theorem RdAt.words {w : World} {b : Nat} {r : Rd} (h : RdAt w b r) : ∀ s ∈ r.l, s.length ≤ 1000000 := by
  obtain ⟨sb, o, c, h1, h2, h3, h4, h5⟩ := h
  exact h5
theorem next_le (r : Rd) : (nextR r).2.l.length ≤ r.l.length := by
  unfold nextR
  cases r.l <;> simp
theorem nn (b : Nat) : nnV (.pointer (some ⟨b, 0, none⟩)) = some (.pointer (some ⟨b, 0, none⟩)) := rfl
theorem err_nil {ok : Bool} {e : Value} (h : ErrIs ok e) : nilV 3 true e = some (.bool (!ok)) ∧ varV e = some e := by
  rcases h with ⟨rfl, rfl⟩ | ⟨rfl, t, p, rfl⟩
  · exact ⟨by simp, rfl⟩
  · exact ⟨by simp, rfl⟩
def numR (r : Rd) (B : Nat) (s : Str) : Int × Rd := (piVal B s, ⟨r.l, r.wr || !piOk B s⟩)
theorem number16_ret {b : Nat} {r : Rd} {s : Str} (w : World) (hg : GlobA w) (h : RdAt w b r) (hs : s.length ≤ 1000000) :
    Ret Tryz.prog 52 [.pointer (some ⟨b, 0, none⟩), .string (us s), .int .i64 16] w fun v w' => v = .int .i64 (numR r 16 s).1 ∧ RdAt w' b (numR r 16 s).2 ∧ KB b w w' := by
  refine ret_of_W Tryz.func52 rfl ok_asm_words_number ?_
  simp [c_asm_words_number]
  refine W_calmP (by simp) (parse16_ret s w hg hs) ?_
  rintro v w1 hk1 ⟨e, rfl, he⟩
  have hr := h.calm hk1
  have hr' := hr
  obtain ⟨hn, hv⟩ := err_nil he
  obtain ⟨sb, o, c, h1, _⟩ := hr'
  have hc1 : wcell w1 b 1 = some (.bool r.wr) := by rw [wcell_of h1]; rfl
  simp [hv]
  obtain ⟨w', hst, hr2, hk⟩ := hr.mark (r.wr || !piOk 16 s)
  refine W_store (by simp) (vv := .bool (r.wr || !piOk 16 s)) (by simp [hc1, hn, hv]) hst (stab_nil _ _ _) ?_
  simp [numR]
  exact ⟨hr2, (kb_calm hk1).trans hk⟩
theorem number32_ret {b : Nat} {r : Rd} {s : Str} (w : World) (hg : GlobA w) (h : RdAt w b r) (hs : s.length ≤ 1000000) :
    Ret Tryz.prog 52 [.pointer (some ⟨b, 0, none⟩), .string (us s), .int .i64 32] w fun v w' => v = .int .i64 (numR r 32 s).1 ∧ RdAt w' b (numR r 32 s).2 ∧ KB b w w' := by
  refine ret_of_W Tryz.func52 rfl ok_asm_words_number ?_
  simp [c_asm_words_number]
  refine W_calmP (by simp) (parse32_ret s w hg hs) ?_
  rintro v w1 hk1 ⟨e, rfl, he⟩
  have hr := h.calm hk1
  have hr' := hr
  obtain ⟨hn, hv⟩ := err_nil he
  obtain ⟨sb, o, c, h1, _⟩ := hr'
  have hc1 : wcell w1 b 1 = some (.bool r.wr) := by rw [wcell_of h1]; rfl
  simp [hv]
  obtain ⟨w', hst, hr2, hk⟩ := hr.mark (r.wr || !piOk 32 s)
  refine W_store (by simp) (vv := .bool (r.wr || !piOk 32 s)) (by simp [hc1, hn, hv]) hst (stab_nil _ _ _) ?_
  simp [numR]
  exact ⟨hr2, (kb_calm hk1).trans hk⟩
def gs : List Nat := [0, 1, 2, 4, 3, 6, 5, 9, 10]
theorem cell_lt {w : World} {b o : Nat} {v : Value} (h : wcell w b o = some v) : b < w.heap.size := by
  unfold wcell at h
  cases hc : w.heap[b]? with
  | none => rw [hc] at h; cases h
  | some o => exact blk_lt hc
theorem GlobA.lt {w : World} (h : GlobA w) : ∀ i ∈ gs, i < w.heap.size := by
  intro i hi
  simp only [gs, List.mem_cons, List.not_mem_nil, or_false] at hi
  rcases hi with rfl | rfl | rfl | rfl | rfl | rfl | rfl | rfl | rfl
  · exact cell_lt (h.alus 0 _ rfl)
  · exact cell_lt (h.jumps 0 _ rfl)
  · exact cell_lt (h.atomics 0 _ rfl)
  · exact cell_lt (h.sizes 0 _ rfl)
  · exact cell_lt (h.atoms 0 _ rfl)
  · have h1 := h.pow
    unfold Lib.TabIs World.var? at h1
    have hg : Tryz.prog.globalNamed "internal/strconv.uint64pow10" = some 6 := by kernel_rfl
    rw [hg] at h1
    simp only [Option.bind_some] at h1
    cases hb : w.heap[6]? with
    | none => rw [hb] at h1; cases h1
    | some o => exact blk_lt hb
  · obtain ⟨m, hm⟩ := h.max; exact cell_lt hm
  · obtain ⟨m, hm, _⟩ := h.syn; exact cell_lt hm
  · obtain ⟨m, hm, _⟩ := h.rng; exact cell_lt hm
theorem GlobA.kept {S : Nat → Prop} {w w' : World} (h : GlobA w) (hk : Kept S w w') (hS : ∀ i ∈ gs, ¬ S i) : GlobA w' := by
  have tab : Lib.TabIs Tryz.prog w' "internal/strconv.uint64pow10" .u64 Lib.pow10Tab := by
    have h1 := h.pow
    unfold Lib.TabIs World.var? at h1 ⊢
    have hg : Tryz.prog.globalNamed "internal/strconv.uint64pow10" = some 6 := by kernel_rfl
    rw [hg] at h1 ⊢
    simp only [Option.bind_some] at h1 ⊢
    cases hb : w.heap[6]? with
    | none => rw [hb] at h1; cases h1
    | some o => rw [hk.has hb (hS _ (by simp [gs]))]; rw [hb] at h1; exact h1
  exact ⟨fun i s hi => wcell_kept hk (hS _ (by simp [gs])) (h.alus i s hi), fun i s hi => wcell_kept hk (hS _ (by simp [gs])) (h.jumps i s hi), fun i s hi => wcell_kept hk (hS _ (by simp [gs])) (h.atomics i s hi), fun i s hi => wcell_kept hk (hS _ (by simp [gs])) (h.sizes i s hi), fun i s hi => wcell_kept hk (hS _ (by simp [gs])) (h.atoms i s hi), tab,
    h.max.imp fun _ e => wcell_kept hk (hS _ (by simp [gs])) e, h.syn.imp fun _ e => ⟨wcell_kept hk (hS _ (by simp [gs])) e.1, e.2⟩, h.rng.imp fun _ e => ⟨wcell_kept hk (hS _ (by simp [gs])) e.1, e.2⟩⟩
/-- A block above all tables. -/
def Above (b : Nat) : Prop := ∀ i ∈ gs, i < b
theorem GlobA.kb {b : Nat} {w w' : World} (h : GlobA w) (hb : Above b) (hk : KB b w w') : GlobA w' := h.kept hk fun i hi e => by have := hb i hi; omega

def regR (r : Rd) : Nat × Rd := (((piVal 16 (Lib.trimPrefix (nextR r).1 [114])) % 256).toNat, ⟨(nextR r).2.l, ((((nextR r).2.wr || !piOk 16 (Lib.trimPrefix (nextR r).1 [114])) || !Lib.hasPrefix (nextR r).1 [114]) || decide (piVal 16 (Lib.trimPrefix (nextR r).1 [114]) < 0)) || decide (11 ≤ piVal 16 (Lib.trimPrefix (nextR r).1 [114]))⟩)
theorem trim_le (s p : Str) : (Lib.trimPrefix s p).length ≤ s.length := by
  unfold Lib.trimPrefix
  split <;> simp
set_option maxHeartbeats 1000000 in
theorem reg_ret {b : Nat} {r : Rd} (w : World) (hg : GlobA w) (hb : Above b) (h : RdAt w b r) (hn : r.l.length ≤ 1000000) :
    Ret Tryz.prog 79 [.pointer (some ⟨b, 0, none⟩)] w fun v w' => v = .int .u8 (regR r).1 ∧ RdAt w' b (regR r).2 ∧ KB b w w' := by
  refine ret_of_W Tryz.func79 rfl ok_asm_words_reg ?_
  have hl := next_len h.words
  have hle := next_le r
  simp [c_asm_words_reg]
  refine W_call0 (by simp) (next_ret w h hn) ?_
  rintro v w1 ⟨rfl, h1, hk1⟩
  unfold regR
  generalize nextR r = q at *
  obtain ⟨s, r1⟩ := q
  simp only at *
  have ht := trim_le s [114]
  simp [mk_us]
  refine W_calm (by simp) (ret_of_T (cutPrefix_T w1 s [114])) ?_
  intro w2 hk2
  simp
  refine W_call0 (by simp) (number16_ret w2 (hg.kb hb (hk1.trans (kb_calm hk2))) (h1.calm hk2) (s := Lib.trimPrefix s [114]) (by omega)) ?_
  rintro v w3 ⟨rfl, h3, hk3⟩
  have hr' := h3
  obtain ⟨sb, o, c, h4, _⟩ := hr'
  have hc1 : wcell w3 b 1 = some (.bool (numR r1 16 (Lib.trimPrefix s [114])).2.wr) := by rw [wcell_of h4]; rfl
  simp
  obtain ⟨w', hst, hr2, hk⟩ := h3.mark ((((r1.wr || !piOk 16 (Lib.trimPrefix s [114])) || !Lib.hasPrefix s [114]) || decide (piVal 16 (Lib.trimPrefix s [114]) < 0)) || decide (11 ≤ piVal 16 (Lib.trimPrefix s [114])))
  have hp := pi16 (Lib.trimPrefix s [114])
  refine W_store (by simp) (vv := .bool ((((r1.wr || !piOk 16 (Lib.trimPrefix s [114])) || !Lib.hasPrefix s [114]) || decide (piVal 16 (Lib.trimPrefix s [114]) < 0)) || decide (11 ≤ piVal 16 (Lib.trimPrefix s [114])))) ?_ hst (stab_nil _ _ _) ?_
  · simp [hc1, numR]
  have e8 : IntKind.u8.wrap (piVal 16 (Lib.trimPrefix s [114])) = (((piVal 16 (Lib.trimPrefix s [114])) % 256).toNat : Int) := by rw [IntKind.wrap_u8]; omega
  simp [numR, e8]
  exact ⟨hr2, ((hk1.trans (kb_calm hk2)).trans hk3).trans hk⟩
def offR (r : Rd) : Int × Rd := numR (nextR r).2 16 (nextR r).1
theorem offset_ret {b : Nat} {r : Rd} (w : World) (hg : GlobA w) (hb : Above b) (h : RdAt w b r) (hn : r.l.length ≤ 1000000) :
    Ret Tryz.prog 51 [.pointer (some ⟨b, 0, none⟩)] w fun v w' => v = .int .i16 (offR r).1 ∧ RdAt w' b (offR r).2 ∧ KB b w w' := by
  refine ret_of_W Tryz.func51 rfl ok_asm_words_offset ?_
  have hl := next_len h.words
  have hle := next_le r
  simp [c_asm_words_offset]
  refine W_call0 (by simp) (next_ret w h hn) ?_
  rintro v w1 ⟨rfl, h1, hk1⟩
  unfold offR
  generalize nextR r = q at *
  obtain ⟨s, r1⟩ := q
  simp only at *
  simp
  refine W_call0 (by simp) (number16_ret w1 (hg.kb hb hk1) h1 hl) ?_
  rintro v w3 ⟨rfl, h3, hk3⟩
  have hp := pi16 s
  have e : IntKind.i16.wrap (piVal 16 s) = piVal 16 s := i16w (by omega) (by omega)
  simp [numR, e]
  exact ⟨h3, hk1.trans hk3⟩
end Go.Proofs.YtpannhipchnhaaaGreatDoor
namespace Go.Proofs.YtpannhipchnhaaaGreatDoor
open Go.Eng

theorem bitOr_u8 (a b : Nat) (ha : a ≤ 255) (hb : b ≤ 255) : bitOr .u8 (a : Int) (b : Int) = ((a ||| b : Nat) : Int) := by
  unfold bitOr
  have h := Nat.or_lt_two_pow (x := a) (y := b) (n := 8) (by omega) (by omega)
  show IntKind.u8.wrap ((BitVec.ofInt 8 (a : Int) ||| BitVec.ofInt 8 (b : Int)).toNat : Int) = _
  rw [bv_nat, bv_nat, BitVec.toNat_or, BitVec.toNat_ofNat, BitVec.toNat_ofNat, Nat.mod_eq_of_lt (by omega), Nat.mod_eq_of_lt (by omega), u8w (by omega) (by omega)]
theorem or_le {a b : Nat} (ha : a ≤ 255) (hb : b ≤ 255) : a ||| b ≤ 255 := by
  have := Nat.or_lt_two_pow (x := a) (y := b) (n := 8) (by omega) (by omega)
  omega
theorem regR_lt (r : Rd) : (regR r).1 < 256 := by unfold regR; simp only; omega
theorem regR_le (r : Rd) : (regR r).2.l.length ≤ r.l.length := next_le r
theorem offR_le (r : Rd) : (offR r).2.l.length ≤ r.l.length := next_le r
theorem offR_in (r : Rd) : -32768 ≤ (offR r).1 ∧ (offR r).1 ≤ 32767 := pi16 _
def isReg : List Str → Bool
  | [] => false
  | s :: _ => Lib.hasPrefix s [114]
def secR (r : Rd) (x : Ins) (bit : Nat) : Ins × Rd :=
  if isReg r.l = true then ({ x with op := x.op ||| bit, src := (regR r).1 }, (regR r).2)
  else ({ x with imm := piVal 32 (nextR r).1 }, (numR (nextR r).2 32 (nextR r).1).2)
theorem secR_le (r : Rd) (x : Ins) (bit : Nat) : (secR r x bit).2.l.length ≤ r.l.length := by
  unfold secR
  split
  · exact regR_le r
  · exact next_le r
theorem secR_wf {r : Rd} {x : Ins} {bit : Nat} (hx : x.wf) (hb : bit ≤ 255) : (secR r x bit).1.wf := by
  unfold secR
  split
  · exact ⟨by have := hx.op; have := or_le (a := x.op) (b := bit) (by omega) hb; simp only; omega, hx.dst, regR_lt r, hx.off, hx.imm⟩
  · exact ⟨hx.op, hx.dst, hx.src, hx.off, pi32 _⟩
abbrev KBB (b bx : Nat) (w w' : World) : Prop := Kept (fun j => j = b ∨ j = bx) w w'
theorem at_kb {w w' : World} {b bx : Nat} {x : Ins} (h : AtB w bx x) (hk : KB b w w') (hne : bx ≠ b) : AtB w' bx x := hk.has h hne
theorem kb_b {b bx : Nat} {w w' : World} (h : KB b w w') : KBB b bx w w' := h.mono fun _ _ h => .inl h
theorem kb_x {b bx : Nat} {w w' : World} (h : KB bx w w') : KBB b bx w w' := h.mono fun _ _ h => .inr h
theorem kbb_c {b bx : Nat} {w w' : World} (h : Kept none' w w') : KBB b bx w w' := h.any
set_option maxHeartbeats 2000000 in
theorem second_ret {b bx bit : Nat} {r : Rd} {x : Ins} (w : World) (hg : GlobA w) (hb : Above b) (h : RdAt w b r) (hn : r.l.length ≤ 1000000) (hx : AtB w bx x) (hbx : Above bx) (hxw : x.wf) (hbit : bit ≤ 255) :
    Ret Tryz.prog 82 [.pointer (some ⟨b, 0, none⟩), .pointer (some ⟨bx, 0, none⟩), .int .u8 bit] w fun v w' => RdAt w' b (secR r x bit).2 ∧ AtB w' bx (secR r x bit).1 ∧ KBB b bx w w' := by
  refine ret_of_W Tryz.func82 rfl ok_asm_words_second ?_
  have hne := rd_ne h hx
  have hl := next_len h.words
  have hor := bitOr_u8 x.op bit (by have := hxw.op; omega) hbit
  have hr' := h
  obtain ⟨sb, o, c, h1, h2, h3, h4, h5⟩ := hr'
  have hc0 : wcell w b 0 = some (.slice (some ⟨sb, o, none⟩) r.l.length c) := by rw [wcell_of h1]; rfl
  have hx0 : wcell w bx 0 = some (.int .u8 x.op) := by rw [wcell_of hx]; rfl
  simp only [c_asm_words_second, W_seq, W_set]
  -- the second way
  have way2 : ∀ (w1 : World) (x3 x4 : Value), Kept none' w w1 → isReg r.l = false →
      W Tryz.prog (Fin r_asm_words_second fun v w' => RdAt w' b (secR r x bit).2 ∧ AtB w' bx (secR r x bit).1 ∧ KBB b bx w w')
        [.c (.seq (.chk [(.var 1)]) (.seq (.call (some 6) 36 [(.var 0)] []) (.seq (.call (some 7) 52 [(.var 0), (.var 6), (.const (.int .i64 32))] []) (.store 1 (.offp 4 (.nn (.var 1))) (.conv .i32 (.var 7)) []))))]
        [.pointer (some ⟨b, 0, none⟩), .pointer (some ⟨bx, 0, none⟩), .int .u8 bit, x3, x4, undef, undef, undef] w1 := by
    intro w1 x3 x4 hk1 hp
    have hsec : secR r x bit = ({ x with imm := piVal 32 (nextR r).1 }, (numR (nextR r).2 32 (nextR r).1).2) := by unfold secR; rw [hp]; rfl
    rw [hsec]
    simp
    refine W_call0 (by simp) (next_ret w1 (h.calm hk1) hn) ?_
    rintro v w2 ⟨rfl, h2, hk2⟩
    have hx2 := at_kb (hk1.has hx (fun h => h)) hk2 hne
    generalize nextR r = q at *
    obtain ⟨s, r1⟩ := q
    simp only at *
    simp
    refine W_call0 (by simp) (number32_ret w2 (hg.kb hb ((kb_calm hk1).trans hk2)) h2 hl) ?_
    rintro v w3 ⟨rfl, h3, hk3⟩
    have hx3 := at_kb hx2 hk3 hne
    obtain ⟨w4, hst, hx4, hk4⟩ := ins_put hx3 4 (by omega) (v := .int .i32 (piVal 32 s)) rfl rfl
    have hp := pi32 s
    have e : IntKind.i32.wrap (piVal 32 s) = piVal 32 s := i32w (by omega) (by omega)
    simp
    refine W_store (by simp) (vv := .int .i32 (piVal 32 s)) (by simp [numR, e]) hst (stab_nil _ _ _) ?_
    simp
    exact ⟨h3.beside hx3 hk4, hx4, (((kbb_c hk1).trans (kb_b hk2)).trans (kb_b hk3)).trans (kb_x hk4)⟩
  cases hrl : r.l with
  | nil =>
    rw [hrl] at hc0
    refine ok_intro (.bool false) (by simp [hc0]) ?_
    try simp only [W_seq]
    refine W_chkIn [.bool false] (by simp) ?_
    refine W_no (by simp) ?_
    simp only [W_clr, List.foldl_cons, List.foldl_nil]
    refine W_no (by simp) ?_
    simp only [W_skip]
    exact way2 w _ _ (Kept.refl _ _) (by rw [hrl]; rfl)
  | cons s t =>
    rw [hrl] at hc0
    have hs := h2 0 s (by rw [hrl]; rfl)
    rw [Nat.add_zero] at hs
    have h0' : (0 : Int) < ((t.length + 1 : Nat) : Int) := by omega
    refine ok_intro (.bool true) (by simp [hc0, h0', -Int.natCast_add]) ?_
    try simp only [W_seq]
    refine W_chkIn [.string (us s)] (by simp [hc0, h0', hs, -Int.natCast_add]) ?_
    refine W_yes (by simp) ?_
    refine W_calm (by simp [hc0, h0', hs, -Int.natCast_add]; rfl) (ret_of_T (hasPrefix_T w s [114])) ?_
    intro w1 hk1
    refine W_cond (t := Lib.hasPrefix s [114]) (by simp) ?_ ?_
    · intro hp
      have hsec : secR r x bit = ({ x with op := x.op ||| bit, src := (regR r).1 }, (regR r).2) := by unfold secR; rw [hrl]; simp only [isReg, hp, if_true]
      rw [hsec]
      have hx1 := hk1.has hx (fun h => h)
      obtain ⟨w2, hst, hx2, hk2⟩ := ins_put hx1 0 (by omega) (v := .int .u8 (x.op ||| bit : Nat)) rfl rfl
      have hx2 : AtB w2 bx { x with op := x.op ||| bit } := hx2
      try simp only [W_seq]
      refine W_store (by simp) (vv := .int .u8 (x.op ||| bit : Nat)) (by simp [wcell_calm hk1 hx0, hor]) hst (stab_nil _ _ _) ?_
      try simp only [W_seq]
      refine W_chkIn [.pointer (some ⟨bx, 0, none⟩)] (by simp) ?_
      try simp only [W_seq]
      have hr2 := (h.calm hk1).beside hx1 hk2
      have hg2 : GlobA w2 := by
        refine hg.kept (S := fun j => j = bx) ((hk1.any).trans hk2) fun i hi e => ?_
        have := hbx i hi
        omega
      refine W_call0 (by simp) (reg_ret w2 hg2 hb hr2 hn) ?_
      rintro v w3 ⟨rfl, h3, hk3⟩
      have hx3 := at_kb hx2 hk3 hne
      obtain ⟨w4, hst4, hx4, hk4⟩ := ins_put hx3 2 (by omega) (v := .int .u8 (regR r).1) rfl rfl
      refine W_store (by simp) (by simp) hst4 (stab_nil _ _ _) ?_
      simp
      exact ⟨h3.beside hx3 hk4, hx4, (((kbb_c hk1).trans (kb_x hk2)).trans (kb_b hk3)).trans (kb_x hk4)⟩
    · intro hp
      simp only [W_skip]
      exact way2 w1 _ _ hk1 (by rw [hrl]; exact hp)

theorem kbb_new {b bx : Nat} {a x y : World} (h : KB b a x) (k : KBB b bx x y) (hbx : a.heap.size ≤ bx) : KB b a y := h.then k fun i hi hS => by
  rcases hS with h | h
  · exact h
  · omega
theorem kx_new {b bx : Nat} {a x y : World} (h : KB b a x) (k : KB bx x y) (hbx : a.heap.size ≤ bx) : KB b a y := h.then k fun i hi hS => by omega
theorem ins_mk (op d s : Nat) (o i : Int) : (#[.int .u8 op, .int .u8 d, .int .u8 s, .int .i16 o, .int .i32 i] : Array Value) = (Ins.mk op d s o i).arr := rfl
theorem zero_box (w : World) : AtB (w.alloc (.cells Ins.zero.arr 39)) w.heap.size Ins.zero := hp_new w _
theorem above_le {b c : Nat} (h : Above b) (hc : b ≤ c) : Above c := fun i hi => by have := h i hi; omega
theorem GlobA.above {w : World} (h : GlobA w) : Above w.heap.size := h.lt
def aluR (r : Rd) (op low : Nat) : Ins × Rd := if op = 8 then (⟨op * 16 ||| low, (regR r).1, 0, 0, 0⟩, (regR r).2) else secR (regR r).2 ⟨op * 16 ||| low, (regR r).1, 0, 0, 0⟩ 8
theorem op_low {op low : Nat} (ho : op < 16) (hl : low ≤ 255) : bitOr .u8 (IntKind.u8.wrap ((op : Int) * 16)) (low : Int) = ((op * 16 ||| low : Nat) : Int) := by
  rw [u8w (by omega) (by omega), show ((op : Int) * 16) = ((op * 16 : Nat) : Int) from by simp, bitOr_u8 _ _ (by omega) hl]
theorem box_of {w : World} {b : Nat} {z : Ins} (h : AtB w b z) (x : Ins) : ∃ w', stv w 5 (.pointer (some ⟨b, 0, none⟩)) x.val = some w' ∧ AtB w' b x ∧ KB b w w' := ins_box h
set_option maxHeartbeats 2000000 in
theorem alu_ret {b op low : Nat} {r : Rd} (w : World) (hg : GlobA w) (hb : Above b) (h : RdAt w b r) (hn : r.l.length ≤ 1000000) (ho : op < 16) (hl : low ≤ 255) :
    Ret Tryz.prog 56 [.pointer (some ⟨b, 0, none⟩), .int .i64 op, .int .u8 low] w fun v w' => v = (aluR r op low).1.val ∧ RdAt w' b (aluR r op low).2 ∧ KB b w w' := by
  refine ret_of_W Tryz.func56 rfl ok_asm_words_alu ?_
  have hblt := h.lt
  have hA := hg.above
  simp only [c_asm_words_alu, W_seq]
  refine W_new' (cs := Ins.zero.arr) (by simp; rfl) rfl ?_
  have hb3 := zero_box w
  have hk1 : Kept none' w (w.alloc (.cells Ins.zero.arr 39)) := (Kept.refl _ _).alloc _
  have hr1 := h.calm hk1
  have hs1 : (w.alloc (.cells Ins.zero.arr 39)).heap.size = w.heap.size + 1 := by simp
  generalize w.alloc (.cells Ins.zero.arr 39) = w1 at hb3 hk1 hr1 hs1
  have e1 : IntKind.u8.wrap (op : Int) = op := u8w (by omega) (by omega)
  have e2 := op_low ho hl
  have hm4 : min 4 (IntKind.bits .u8) = 4 := rfl
  have hop : op * 16 ||| low ≤ 255 := or_le (by omega) hl
  simp only [W_set, W_seq]
  refine ok_intro (.int .u8 (op * 16 ||| low : Nat)) (by simp [e1, e2, hm4]) ?_
  try simp only [W_seq]
  refine W_call0 (by simp) (reg_ret w1 (hg.calm hk1) hb hr1 hn) ?_
  rintro v w2 ⟨rfl, h2, hk2⟩
  have hne3 := rd_ne hr1 hb3
  have hb32 := at_kb hb3 hk2 hne3
  simp only [W_set, W_seq]
  refine ok_intro (Ins.mk (op * 16 ||| low) (regR r).1 0 0 0).val (by simp; rfl) ?_
  try simp only [W_seq]
  refine W_new' (cs := Ins.zero.arr) (by simp; rfl) rfl ?_
  have hb6 := zero_box w2
  have hk3 : Kept none' w2 (w2.alloc (.cells Ins.zero.arr 39)) := (Kept.refl _ _).alloc _
  generalize w2.alloc (.cells Ins.zero.arr 39) = w3 at hb6 hk3
  have hs2 := hk2.size
  have hlt3 := blk_lt hb32
  generalize hb6n : w2.heap.size = b6 at hb6
  have hne6 : w.heap.size ≠ b6 := by omega
  have hb33 := hk3.has hb32 (fun h => h)
  have hr3 := h2.calm hk3
  obtain ⟨w4, hst, hb64, hk4⟩ := box_of hb6 (Ins.mk (op * 16 ||| low) (regR r).1 0 0 0)
  try simp only [W_seq]
  refine W_store (by simp) (by simp) hst (stab_nil _ _ _) ?_
  have hr4 := hr3.beside hb6 hk4
  have hb34 : AtB w4 w.heap.size Ins.zero := hk4.has hb33 hne6
  have hk04 : KB b w w4 := kx_new (((kb_calm hk1).trans hk2).trans (kb_calm hk3)) hk4 (by omega)
  have hA6 : Above b6 := above_le hA (by omega)
  have hxw : (Ins.mk (op * 16 ||| low) (regR r).1 0 0 0).wf := ⟨by simp only; omega, regR_lt r, by simp, by simp, by simp⟩
  generalize hx0 : Ins.mk (op * 16 ||| low) (regR r).1 0 0 0 = x0 at *
  try simp only [W_seq]
  refine W_cut (fun env w' => (∃ x4 x5 x7 : Value, env = [.pointer (some ⟨b, 0, none⟩), .int .i64 op, .int .u8 low, .pointer (some ⟨w.heap.size, 0, none⟩), x4, x5, .pointer (some ⟨b6, 0, none⟩), x7]) ∧ AtB w' b6 (aluR r op low).1 ∧ RdAt w' b (aluR r op low).2 ∧ KB b w w' ∧ AtB w' w.heap.size Ins.zero) ?_ ?_
  · refine W_cond (t := !decide (op = 8)) (by simp [ci_eq]) ?_ ?_
    · intro h8
      have h8 : ¬ op = 8 := by simpa using h8
      have hal : aluR r op low = secR (regR r).2 x0 8 := by unfold aluR; rw [if_neg h8, hx0]
      have := regR_le r
      refine W_call0 (by simp) (second_ret (bit := 8) w4 (hg.kb hb hk04) hb hr4 (by omega) hb64 hA6 hxw (by omega)) ?_
      rintro v w5 ⟨h5, hb65, hk5⟩
      simp [hal]
      exact ⟨hb65, h5, kbb_new hk04 hk5 (by omega), hk5.has hb34 (fun hS => by rcases hS with h | h <;> omega)⟩
    · intro h8
      have h8 : op = 8 := by simpa using h8
      have hal : aluR r op low = (x0, (regR r).2) := by unfold aluR; rw [if_pos h8, hx0]
      simp [hal]
      exact ⟨hb64, hr4, hk04, hb34⟩
  rintro env w5 ⟨⟨x4, x5, x7, rfl⟩, hb65, hr5, hk05, hb35⟩
  generalize aluR r op low = q at *
  obtain ⟨y, r5⟩ := q
  simp only at *
  have hrow := wrow_box hb65 (n := 5) (by simp)
  obtain ⟨w6, hst6, hb36, hk6⟩ := box_of hb35 y
  try simp only [W_seq]
  refine W_store (by simp) (vv := y.val) (by simp [hrow]) hst6 (stab_nil _ _ _) ?_
  have hrow6 := wrow_box hb36 (n := 5) (by simp)
  simp [hrow6]
  exact ⟨hr5.beside hb35 hk6, kx_new hk05 hk6 (by omega)⟩
end Go.Proofs.YtpannhipchnhaaaGreatDoor
namespace Go.Proofs.YtpannhipchnhaaaGreatDoor
open Go.Eng

def jumpR (r : Rd) (op low : Nat) : Ins × Rd :=
  ({ (secR (regR r).2 ⟨op * 16 ||| low, (regR r).1, 0, 0, 0⟩ 8).1 with off := (offR (secR (regR r).2 ⟨op * 16 ||| low, (regR r).1, 0, 0, 0⟩ 8).2).1 }, (offR (secR (regR r).2 ⟨op * 16 ||| low, (regR r).1, 0, 0, 0⟩ 8).2).2)
set_option maxHeartbeats 2000000 in
theorem jump_ret {b op low : Nat} {r : Rd} (w : World) (hg : GlobA w) (hb : Above b) (h : RdAt w b r) (hn : r.l.length ≤ 1000000) (ho : op < 16) (hl : low ≤ 255) :
    Ret Tryz.prog 58 [.pointer (some ⟨b, 0, none⟩), .int .i64 op, .int .u8 low] w fun v w' => v = (jumpR r op low).1.val ∧ RdAt w' b (jumpR r op low).2 ∧ KB b w w' := by
  refine ret_of_W Tryz.func58 rfl ok_asm_words_jump ?_
  have hblt := h.lt
  have hA := hg.above
  simp only [c_asm_words_jump, W_seq]
  refine W_new' (cs := Ins.zero.arr) (by simp; rfl) rfl ?_
  have hb3 := zero_box w
  have hk1 : Kept none' w (w.alloc (.cells Ins.zero.arr 39)) := (Kept.refl _ _).alloc _
  have hr1 := h.calm hk1
  have hs1 : (w.alloc (.cells Ins.zero.arr 39)).heap.size = w.heap.size + 1 := by simp
  generalize w.alloc (.cells Ins.zero.arr 39) = w1 at hb3 hk1 hr1 hs1
  have e1 : IntKind.u8.wrap (op : Int) = op := u8w (by omega) (by omega)
  have e2 := op_low ho hl
  have hm4 : min 4 (IntKind.bits .u8) = 4 := rfl
  have hop : op * 16 ||| low ≤ 255 := or_le (by omega) hl
  simp only [W_set, W_seq]
  refine ok_intro (.int .u8 (op * 16 ||| low : Nat)) (by simp [e1, e2, hm4]) ?_
  try simp only [W_seq]
  refine W_call0 (by simp) (reg_ret w1 (hg.calm hk1) hb hr1 hn) ?_
  rintro v w2 ⟨rfl, h2, hk2⟩
  have hne3 := rd_ne hr1 hb3
  have hb32 := at_kb hb3 hk2 hne3
  simp only [W_set, W_seq]
  refine ok_intro (Ins.mk (op * 16 ||| low) (regR r).1 0 0 0).val (by simp; rfl) ?_
  try simp only [W_seq]
  refine W_new' (cs := Ins.zero.arr) (by simp; rfl) rfl ?_
  have hb6 := zero_box w2
  have hk3 : Kept none' w2 (w2.alloc (.cells Ins.zero.arr 39)) := (Kept.refl _ _).alloc _
  generalize w2.alloc (.cells Ins.zero.arr 39) = w3 at hb6 hk3
  have hs2 := hk2.size
  have hlt3 := blk_lt hb32
  generalize hb6n : w2.heap.size = b6 at hb6
  have hne6 : w.heap.size ≠ b6 := by omega
  have hb33 := hk3.has hb32 (fun h => h)
  have hr3 := h2.calm hk3
  obtain ⟨w4, hst, hb64, hk4⟩ := box_of hb6 (Ins.mk (op * 16 ||| low) (regR r).1 0 0 0)
  try simp only [W_seq]
  refine W_store (by simp) (by simp) hst (stab_nil _ _ _) ?_
  have hr4 := hr3.beside hb6 hk4
  have hb34 : AtB w4 w.heap.size Ins.zero := hk4.has hb33 hne6
  have hk04 : KB b w w4 := kx_new (((kb_calm hk1).trans hk2).trans (kb_calm hk3)) hk4 (by omega)
  have hA6 : Above b6 := above_le hA (by omega)
  have hxw : (Ins.mk (op * 16 ||| low) (regR r).1 0 0 0).wf := ⟨by simp only; omega, regR_lt r, by simp, by simp, by simp⟩
  unfold jumpR
  generalize hx0 : Ins.mk (op * 16 ||| low) (regR r).1 0 0 0 = x0 at *
  try simp only [W_seq]
  have hle := regR_le r
  refine W_call0 (by simp) (second_ret (bit := 8) w4 (hg.kb hb hk04) hb hr4 (by omega) hb64 hA6 hxw (by omega)) ?_
  rintro v w5 ⟨h5, hb65, hk5⟩
  have hb35 : AtB w5 w.heap.size Ins.zero := hk5.has hb34 (fun hS => by rcases hS with h | h <;> omega)
  have hk05 : KB b w w5 := kbb_new hk04 hk5 (by omega)
  have hsle := secR_le (regR r).2 x0 8
  generalize secR (regR r).2 x0 8 = q at *
  obtain ⟨y, r5⟩ := q
  simp only at *
  try simp only [W_seq]
  refine W_call0 (by simp) (offset_ret w5 (hg.kb hb hk05) hb h5 (by omega)) ?_
  rintro v w6 ⟨rfl, h6, hk6⟩
  have hne5 := rd_ne h5 hb65
  have hb66 := at_kb hb65 hk6 hne5
  have hb36 := at_kb hb35 hk6 (rd_ne h5 hb35)
  obtain ⟨w7, hst7, hb67, hk7⟩ := ins_put hb66 3 (by omega) (v := .int .i16 (offR r5).1) rfl rfl
  have hb67 : AtB w7 b6 { y with off := (offR r5).1 } := hb67
  try simp only [W_seq]
  refine W_store (by simp) (by simp) hst7 (stab_nil _ _ _) ?_
  have hb37 : AtB w7 w.heap.size Ins.zero := hk7.has hb36 hne6
  have hrow := wrow_box hb67 (n := 5) (by simp)
  obtain ⟨w8, hst8, hb38, hk8⟩ := box_of hb37 { y with off := (offR r5).1 }
  try simp only [W_seq]
  refine W_store (by simp) (vv := ({ y with off := (offR r5).1 } : Ins).val) (by simp [hrow]) hst8 (stab_nil _ _ _) ?_
  have hrow8 := wrow_box hb38 (n := 5) (by simp)
  simp [hrow8]
  exact ⟨(h6.beside hb66 hk7).beside hb37 hk8, kx_new (kx_new (hk05.trans hk6) hk7 (by omega)) hk8 (by omega)⟩

/-- Where a word is among others. -/
def ixOf (l : List Str) (x : Str) : Int := if x ∈ l then (l.idxOf x : Nat) else -1
theorem ixOf_at {l : List Str} {x : Str} {n : Nat} (h : ixOf l x = n) : n < l.length ∧ l[n]? = some x := by
  unfold ixOf at h
  split at h
  · rename_i hm
    have hi : l.idxOf x = n := by omega
    have hlt := List.idxOf_lt_length_of_mem hm
    subst hi
    exact ⟨hlt, by rw [List.getElem?_eq_getElem hlt, List.getElem_idxOf hlt]⟩
  · omega
theorem indexS_ret (b o c : Nat) (l : List Str) (x : Str) (w : World) (hn : l.length ≤ 1000000) (hf : StrAt w b o l) :
    Ret Tryz.prog 55 [.slice (some ⟨b, o, none⟩) l.length c, .string (us x)] w fun v w' => w' = w ∧ v = .int .i64 (ixOf l x) := by
  refine ret_of_W Tryz.func55 rfl ok_slices_IndexS ?_
  simp [c_slices_IndexS]
  refine W_loop (fun env w' => w' = w ∧ ∃ i : Nat, env = [.slice (some ⟨b, o, none⟩) l.length c, .string (us x), undef, .int .i64 i, .int .i64 l.length, undef] ∧ i ≤ l.length ∧ ∀ j : Nat, j < i → l[j]? ≠ some x) (fun env _ => l.length - natAt env 3) ?_ ?_
  · exact ⟨rfl, 0, by simp, by omega, fun j hj => by omega⟩
  rintro env w1 ⟨rfl, i, rfl, hi, hall⟩
  by_cases hgo : i < l.length
  · simp
    refine W_yes (by simp; omega) ?_
    have e2 : IntKind.i64.wrap ((i : Int) + 1) = ((i + 1 : Nat) : Int) := i64w (by omega) (by omega)
    have hc := hf i l[i] (List.getElem?_eq_getElem hgo)
    have he := us_eql x l[i]
    simp
    refine W_cond (t := decide (x = l[i])) (by simp [hgo, hc, he]) ?_ ?_
    · intro h
      have h : x = l[i] := of_decide_eq_true h
      simp
      have hm : x ∈ l := by rw [h]; exact List.getElem_mem hgo
      unfold ixOf
      rw [if_pos hm]
      have h1 : l.idxOf x = i := by
        have hlt := List.idxOf_lt_length_of_mem hm
        have hge : i ≤ l.idxOf x := by
          apply Nat.le_of_not_lt
          intro hlt2
          exact hall _ hlt2 (by rw [List.getElem?_eq_getElem hlt, List.getElem_idxOf hlt])
        have hle : ¬ i < l.idxOf x := fun hlt2 => by
          have := List.not_of_lt_findIdx hlt2
          simp [h] at this
        omega
      rw [h1]
    · intro h
      have h : ¬ x = l[i] := of_decide_eq_false h
      simp
      refine ⟨⟨i + 1, e2, by omega, fun j hj => ?_⟩, by simp [natAt, e2]; omega⟩
      by_cases hji : j = i
      · subst hji; rw [List.getElem?_eq_getElem hgo]; exact fun e => h (Option.some.inj e).symm
      · exact hall j (by omega)
  · simp
    refine W_no (by simp; omega) ?_
    simp
    unfold ixOf
    rw [if_neg]
    intro hx
    obtain ⟨j, hj, e⟩ := List.mem_iff_getElem.1 hx
    exact hall j (by omega) (by rw [List.getElem?_eq_getElem hj, e])
theorem alus_T {w0 : World} (hg : GlobA w0) (x : Str) : T Tryz.prog w0 55 [.slice (some ⟨0, 0, none⟩) 13 13, .string (us x)] = some (.int .i64 (ixOf aluW x)) :=
  T_of_ret (by kernel_rfl) (by simp [hg.lt 0 (by simp [gs])]) (by simp) fun w hk => (indexS_ret 0 0 13 aluW x w (by decide) (fun i m hm => by rw [Nat.zero_add]; exact wcell_calm hk (hg.alus i m hm))).mono fun v w' h => ⟨h.2, by rw [h.1]; exact Kept.refl _ _⟩
theorem jumps_T {w0 : World} (hg : GlobA w0) (x : Str) : T Tryz.prog w0 55 [.slice (some ⟨1, 0, none⟩) 14 14, .string (us x)] = some (.int .i64 (ixOf jumpW x)) :=
  T_of_ret (by kernel_rfl) (by simp [hg.lt 1 (by simp [gs])]) (by simp) fun w hk => (indexS_ret 1 0 14 jumpW x w (by decide) (fun i m hm => by rw [Nat.zero_add]; exact wcell_calm hk (hg.jumps i m hm))).mono fun v w' h => ⟨h.2, by rw [h.1]; exact Kept.refl _ _⟩
theorem atomics_T {w0 : World} (hg : GlobA w0) (x : Str) : T Tryz.prog w0 55 [.slice (some ⟨2, 0, none⟩) 4 4, .string (us x)] = some (.int .i64 (ixOf atomW x)) :=
  T_of_ret (by kernel_rfl) (by simp [hg.lt 2 (by simp [gs])]) (by simp) fun w hk => (indexS_ret 2 0 4 atomW x w (by decide) (fun i m hm => by rw [Nat.zero_add]; exact wcell_calm hk (hg.atomics i m hm))).mono fun v w' h => ⟨h.2, by rw [h.1]; exact Kept.refl _ _⟩
theorem sizes_T {w0 : World} (hg : GlobA w0) (x : Str) : T Tryz.prog w0 55 [.slice (some ⟨4, 0, none⟩) 4 4, .string (us x)] = some (.int .i64 (ixOf sizeW x)) :=
  T_of_ret (by kernel_rfl) (by simp [hg.lt 4 (by simp [gs])]) (by simp) fun w hk => (indexS_ret 4 0 4 sizeW x w (by decide) (fun i m hm => by rw [Nat.zero_add]; exact wcell_calm hk (hg.sizes i m hm))).mono fun v w' h => ⟨h.2, by rw [h.1]; exact Kept.refl _ _⟩
end Go.Proofs.YtpannhipchnhaaaGreatDoor
namespace Go.Proofs.YtpannhipchnhaaaGreatDoor
open Go.Eng

def memR (r : Rd) (name : Str) (size : Nat) : Ins × Rd :=
  if name = [108, 100] then (⟨97 ||| size * 8, (regR r).1, (regR (regR r).2).1, (offR (regR (regR r).2).2).1, 0⟩, (offR (regR (regR r).2).2).2)
  else if name = [115, 116] then secR (offR (regR r).2).2 ⟨98 ||| size * 8, (regR r).1, 0, (offR (regR r).2).1, 0⟩ 1
  else if ixOf atomW name < 0 then (Ins.zero, ⟨r.l, true⟩)
  else (⟨195 ||| size * 8, (regR r).1, (regR (offR (regR r).2).2).1, (offR (regR r).2).1, atomN.getD (ixOf atomW name).toNat 0⟩, (regR (offR (regR r).2).2).2)
theorem low_op {op size : Nat} (ho : op ≤ 255) (hl : size < 4) : bitOr .u8 (op : Int) (IntKind.u8.wrap ((size : Int) * 8)) = ((op ||| size * 8 : Nat) : Int) := by
  rw [u8w (by omega) (by omega), show ((size : Int) * 8) = ((size * 8 : Nat) : Int) from by simp, bitOr_u8 _ _ ho (by omega)]
theorem ostore_upd (x : Ins) : (Value.agg x.arr) = x.val := rfl
set_option maxHeartbeats 4000000 in
theorem memory_ret {b size : Nat} {r : Rd} {name : Str} (w : World) (hg : GlobA w) (hb : Above b) (h : RdAt w b r) (hn : r.l.length ≤ 1000000) (hz : size < 4) :
    Ret Tryz.prog 59 [.pointer (some ⟨b, 0, none⟩), .string (us name), .int .u8 size] w fun v w' => v = (memR r name size).1.val ∧ RdAt w' b (memR r name size).2 ∧ KB b w w' := by
  refine ret_of_W Tryz.func59 rfl ok_asm_words_memory ?_
  have hblt := h.lt
  have hA := hg.above
  simp only [c_asm_words_memory, W_seq]
  refine W_new' (cs := Ins.zero.arr) (by simp; rfl) rfl ?_
  have hb3 := zero_box w
  have hk1 : Kept none' w (w.alloc (.cells Ins.zero.arr 39)) := (Kept.refl _ _).alloc _
  have hr1 := h.calm hk1
  have hs1 : (w.alloc (.cells Ins.zero.arr 39)).heap.size = w.heap.size + 1 := by simp
  generalize w.alloc (.cells Ins.zero.arr 39) = w1 at hb3 hk1 hr1 hs1
  have hg1 := hg.calm hk1
  have hm3 : min 3 (IntKind.bits .u8) = 3 := rfl
  have l1 := low_op (op := 97) (size := size) (by omega) hz
  have l2 := low_op (op := 98) (size := size) (by omega) hz
  have l3 := low_op (op := 195) (size := size) (by omega) hz
  have o1 : 97 ||| size * 8 ≤ 255 := or_le (by omega) (by omega)
  have o2 : 98 ||| size * 8 ≤ 255 := or_le (by omega) (by omega)
  have o3 : 195 ||| size * 8 ≤ 255 := or_le (by omega) (by omega)
  have q1 : strBin .eql (us name) ⟨#[108, 100]⟩ = some (.bool (decide (name = [108, 100]))) := us_eql _ _
  have q2 : strBin .eql (us name) ⟨#[115, 116]⟩ = some (.bool (decide (name = [115, 116]))) := us_eql _ _
  have hrle := regR_le r
  simp only [W_set, W_seq]
  refine ok_intro (.string (us name)) (by simp) ?_
  simp only [W_block, W_seq]
  refine W_chkIn [.bool (decide (name = [108, 100]))] (by simp [q1]) ?_
  simp only [W_set, W_seq]
  refine ok_intro (.bool (decide (name = [108, 100]))) (by simp [q1]) ?_
  try simp only [W_seq]
  by_cases h1 : name = [108, 100]
  · refine W_yes (by simp [h1]) ?_
    have hme : memR r name size = (⟨97 ||| size * 8, (regR r).1, (regR (regR r).2).1, (offR (regR (regR r).2).2).1, 0⟩, (offR (regR (regR r).2).2).2) := by unfold memR; rw [if_pos h1]
    rw [hme]
    simp only [W_seq]
    refine W_chkIn [.int .u8 (97 ||| size * 8 : Nat)] (by simp [hm3, l1]; exact l1) ?_
    simp only [W_seq]
    refine W_call0 (by simp) (reg_ret w1 hg1 hb hr1 hn) ?_
    rintro v w2 ⟨rfl, h2, hk2⟩
    simp only [W_seq]
    refine W_call0 (by simp) (reg_ret w2 (hg1.kb hb hk2) hb h2 (by omega)) ?_
    rintro v w3 ⟨rfl, h3, hk3⟩
    have hrle2 := regR_le (regR r).2
    simp only [W_seq]
    refine W_call0 (by simp) (offset_ret w3 (hg1.kb hb (hk2.trans hk3)) hb h3 (by omega)) ?_
    rintro v w4 ⟨rfl, h4, hk4⟩
    have hne := rd_ne hr1 hb3
    have hb34 := at_kb (at_kb (at_kb hb3 hk2 hne) hk3 hne) hk4 hne
    generalize hx : Ins.mk (97 ||| size * 8) (regR r).1 (regR (regR r).2).1 (offR (regR (regR r).2).2).1 0 = x at *
    obtain ⟨w5, hst5, hb35, hk5⟩ := box_of hb34 x
    simp only [W_seq]
    have hev : ∀ (k : List It) (w : World), True := fun _ _ => trivial
    refine W_chkIn [x.val] ?_ ?_
    · subst hx; simp [hm3]; rw [show ((97 : Int)) = ((97 : Nat) : Int) from rfl, l1]; rfl
    refine W_store (by simp) (vv := x.val) ?_ hst5 (stab_nil _ _ _) ?_
    · subst hx; simp [hm3]; rw [show ((97 : Int)) = ((97 : Nat) : Int) from rfl, l1]; rfl
    have hrow5 := wrow_box hb35 (n := 5) (by simp)
    simp [hrow5]
    exact ⟨h4.beside hb34 hk5, kx_new ((((kb_calm hk1).trans hk2).trans hk3).trans hk4) hk5 (by omega)⟩
  refine W_no (by simp [h1]) ?_
  simp only [W_seq]
  refine W_chkIn [.bool (decide (name = [115, 116]))] (by simp [q2]) ?_
  simp only [W_set, W_seq]
  refine ok_intro (.bool (decide (name = [115, 116]))) (by simp [q2]) ?_
  try simp only [W_seq]
  by_cases h2 : name = [115, 116]
  · refine W_yes (by simp [h2]) ?_
    have hme : memR r name size = secR (offR (regR r).2).2 ⟨98 ||| size * 8, (regR r).1, 0, (offR (regR r).2).1, 0⟩ 1 := by unfold memR; rw [if_neg h1, if_pos h2]
    rw [hme]
    simp only [W_seq]
    refine W_chkIn [.int .u8 (98 ||| size * 8 : Nat)] (by simp [hm3]; rw [show ((98 : Int)) = ((98 : Nat) : Int) from rfl, l2]) ?_
    simp only [W_seq]
    refine W_call0 (by simp) (reg_ret w1 hg1 hb hr1 hn) ?_
    rintro v w2 ⟨rfl, h2, hk2⟩
    simp only [W_seq]
    refine W_call0 (by simp) (offset_ret w2 (hg1.kb hb hk2) hb h2 (by omega)) ?_
    rintro v w3 ⟨rfl, h3, hk3⟩
    have hole := offR_le (regR r).2
    have hne := rd_ne hr1 hb3
    have hb33 := at_kb (at_kb hb3 hk2 hne) hk3 hne
    have hxw : (Ins.mk (98 ||| size * 8) (regR r).1 0 (offR (regR r).2).1 0).wf := ⟨by simp only; omega, regR_lt r, by simp, offR_in _, by simp⟩
    generalize hx : Ins.mk (98 ||| size * 8) (regR r).1 0 (offR (regR r).2).1 0 = x at *
    simp only [W_seq]
    refine W_chkIn [x.val] ?_ ?_
    · subst hx; simp [hm3]; rw [show ((98 : Int)) = ((98 : Nat) : Int) from rfl, l2]; rfl
    simp only [W_seq]
    refine W_new' (cs := Ins.zero.arr) (by simp; rfl) rfl ?_
    have hb6 := zero_box w3
    have hk4 : Kept none' w3 (w3.alloc (.cells Ins.zero.arr 39)) := (Kept.refl _ _).alloc _
    generalize w3.alloc (.cells Ins.zero.arr 39) = w4 at hb6 hk4
    have hlt := blk_lt hb33
    have hs2 := hk2.size
    have hs3 := hk3.size
    generalize hb6n : w3.heap.size = b6 at hb6
    obtain ⟨w5, hst5, hb65, hk5⟩ := box_of hb6 x
    refine W_store (by simp) (vv := x.val) ?_ hst5 (stab_nil _ _ _) ?_
    · subst hx; simp [hm3]; rw [show ((98 : Int)) = ((98 : Nat) : Int) from rfl, l2]; rfl
    have hr5 := (h3.calm hk4).beside hb6 hk5
    have hb35 : AtB w5 w.heap.size Ins.zero := hk5.has (hk4.has hb33 (fun h => h)) (by omega)
    have hk05 : KB b w w5 := kx_new ((((kb_calm hk1).trans hk2).trans hk3).trans (kb_calm hk4)) hk5 (by omega)
    try simp only [W_seq]
    refine W_call0 (by simp) (second_ret (bit := 1) w5 (hg.kb hb hk05) hb hr5 (by omega) hb65 (above_le hA (by omega)) hxw (by omega)) ?_
    rintro v w6 ⟨h6, hb66, hk6⟩
    have hb36 : AtB w6 w.heap.size Ins.zero := hk6.has hb35 (fun hS => by rcases hS with h | h <;> omega)
    generalize secR (offR (regR r).2).2 x 1 = q at *
    obtain ⟨y, r6⟩ := q
    simp only at *
    have hrow := wrow_box hb66 (n := 5) (by simp)
    obtain ⟨w7, hst7, hb37, hk7⟩ := box_of hb36 y
    try simp only [W_seq]
    refine W_store (by simp) (vv := y.val) (by simp [hrow]) hst7 (stab_nil _ _ _) ?_
    have hrow7 := wrow_box hb37 (n := 5) (by simp)
    simp [hrow7]
    exact ⟨h6.beside hb36 hk7, kx_new (kbb_new hk05 hk6 (by omega)) hk7 (by omega)⟩
  refine W_no (by simp [h2]) ?_
  simp only [W_skip, W_seq, W_blk]
  refine W_chkIn [.slice (some ⟨2, 0, none⟩) 4 4] (by simp) ?_
  simp only [W_seq]
  refine W_calm (by simp) (ret_of_T (atomics_T hg1 name)) ?_
  intro w2 hk2
  simp only [W_set, W_seq]
  refine ok_intro (.int .i64 (ixOf atomW name)) (by simp) ?_
  have hr2 := hr1.calm hk2
  have hb32 := hk2.has hb3 (fun h => h)
  try simp only [W_seq]
  by_cases h3 : ixOf atomW name < 0
  · refine W_yes (by simp [h3]) ?_
    have hme : memR r name size = (Ins.zero, ⟨r.l, true⟩) := by unfold memR; rw [if_neg h1, if_neg h2, if_pos h3]
    rw [hme]
    obtain ⟨w3, hst3, hr3, hk3⟩ := hr2.mark true
    try simp only [W_seq]
    refine W_store (by simp) (by simp) hst3 (stab_nil _ _ _) ?_
    have hb33 := at_kb hb32 hk3 (rd_ne hr2 hb32)
    obtain ⟨w4, hst4, hb34, hk4⟩ := box_of hb33 Ins.zero
    try simp only [W_seq]
    refine W_store (by simp) (vv := Ins.zero.val) (by simp) hst4 (stab_nil _ _ _) ?_
    have hrow4 := wrow_box hb34 (n := 5) (by simp)
    simp [hrow4]
    exact ⟨hr3.beside hb33 hk4, kx_new (((kb_calm hk1).trans (kb_calm hk2)).trans hk3) hk4 (by omega)⟩
  refine W_no (by simp [h3]) ?_
  obtain ⟨n, hn3⟩ : ∃ n : Nat, ixOf atomW name = n := ⟨(ixOf atomW name).toNat, by omega⟩
  obtain ⟨hn4, _⟩ := ixOf_at hn3
  have hn4 : n < 4 := hn4
  have hme : memR r name size = (⟨195 ||| size * 8, (regR r).1, (regR (offR (regR r).2).2).1, (offR (regR r).2).1, atomN.getD n 0⟩, (regR (offR (regR r).2).2).2) := by unfold memR; rw [if_neg h1, if_neg h2, if_neg h3, hn3, Int.toNat_natCast]
  rw [hme, hn3]
  obtain ⟨m, hm⟩ : ∃ m, atomN[n]? = some m := ⟨_, List.getElem?_eq_getElem (show n < atomN.length from hn4)⟩
  have hmd : atomN.getD n 0 = m := by rw [List.getD_eq_getElem?_getD, hm]; rfl
  have hmr : -2147483648 ≤ m ∧ m ≤ 2147483647 := by
    have : ∀ x ∈ atomN, -2147483648 ≤ x ∧ x ≤ 2147483647 := by decide
    exact this m (List.mem_of_getElem? hm)
  rw [hmd]
  have hg2 := hg1.calm hk2
  simp only [W_skip, W_seq]
  refine W_chkIn [.int .u8 (195 ||| size * 8 : Nat)] (by simp [hm3]; rw [show ((195 : Int)) = ((195 : Nat) : Int) from rfl, l3]) ?_
  simp only [W_seq]
  refine W_call0 (by simp) (reg_ret w2 hg2 hb hr2 hn) ?_
  rintro v w3 ⟨rfl, h3', hk3⟩
  simp only [W_seq]
  refine W_call0 (by simp) (offset_ret w3 (hg2.kb hb hk3) hb h3' (by omega)) ?_
  rintro v w4 ⟨rfl, h4, hk4⟩
  have hole := offR_le (regR r).2
  simp only [W_seq]
  refine W_call0 (by simp) (reg_ret w4 (hg2.kb hb (hk3.trans hk4)) hb h4 (by omega)) ?_
  rintro v w5 ⟨rfl, h5, hk5⟩
  have hne := rd_ne hr2 hb32
  have hb35 := at_kb (at_kb (at_kb hb32 hk3 hne) hk4 hne) hk5 hne
  generalize hx : Ins.mk (195 ||| size * 8) (regR r).1 (regR (offR (regR r).2).2).1 (offR (regR r).2).1 0 = x at *
  simp only [W_seq]
  refine W_chkIn [x.val] ?_ ?_
  · subst hx; simp [hm3]; rw [show ((195 : Int)) = ((195 : Nat) : Int) from rfl, l3]; rfl
  simp only [W_seq]
  refine W_new' (cs := Ins.zero.arr) (by simp; rfl) rfl ?_
  have hb6 := zero_box w5
  have hk6 : Kept none' w5 (w5.alloc (.cells Ins.zero.arr 39)) := (Kept.refl _ _).alloc _
  generalize w5.alloc (.cells Ins.zero.arr 39) = w6 at hb6 hk6
  have hlt := blk_lt hb35
  have hs2 := hk2.size
  have hs3 := hk3.size
  have hs4 := hk4.size
  have hs5 := hk5.size
  generalize hb6n : w5.heap.size = b6 at hb6
  obtain ⟨w7, hst7, hb67, hk7⟩ := box_of hb6 x
  refine W_store (by simp) (vv := x.val) ?_ hst7 (stab_nil _ _ _) ?_
  · subst hx; simp [hm3]; rw [show ((195 : Int)) = ((195 : Nat) : Int) from rfl, l3]; rfl
  have hr7 := (h5.calm hk6).beside hb6 hk7
  have hb37 : AtB w7 w.heap.size Ins.zero := hk7.has (hk6.has hb35 (fun h => h)) (by omega)
  have hk07 : KB b w w7 := kx_new ((((((kb_calm hk1).trans (kb_calm hk2)).trans hk3).trans hk4).trans hk5).trans (kb_calm hk6)) hk7 (by omega)
  have hcell := (hg.kb hb hk07).atoms n m hm
  have hn4' : (n : Int) < 4 := by omega
  try simp only [W_seq]
  refine W_chkIn [.int .i32 m, .pointer (some ⟨3, n, none⟩)] (by simp [hn4, hn4', hcell]) ?_
  obtain ⟨w8, hst8, hb68, hk8⟩ := ins_put hb67 4 (by omega) (v := .int .i32 m) rfl rfl
  have hb68 : AtB w8 b6 { x with imm := m } := hb68
  refine W_store (by simp) (vv := .int .i32 m) (by simp [hn4, hn4', hcell]) hst8 (stab_nil _ _ _) ?_
  have hr8 := hr7.beside hb67 hk8
  have hb38 : AtB w8 w.heap.size Ins.zero := hk8.has hb37 (by omega)
  have hrow := wrow_box hb68 (n := 5) (by simp)
  obtain ⟨w9, hst9, hb39, hk9⟩ := box_of hb38 { x with imm := m }
  try simp only [W_seq]
  refine W_store (by simp) (vv := ({ x with imm := m } : Ins).val) (by simp [hrow]) hst9 (stab_nil _ _ _) ?_
  have hrow9 := wrow_box hb39 (n := 5) (by simp)
  simp [hrow9]
  subst hx
  exact ⟨rfl, hr8.beside hb38 hk9, kx_new (kx_new hk07 hk8 (by omega)) hk9 (by omega)⟩
end Go.Proofs.YtpannhipchnhaaaGreatDoor
