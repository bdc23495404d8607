/- Layer 23's reference: Read, the walk. -/
import Derived.Test.YtpannhipchnhaaaGreatDoorAs11
set_option linter.unusedSimpArgs false
set_option linter.unusedVariables false
set_option maxRecDepth 8000
namespace Go.Proofs.YtpannhipchnhaaaGreatDoor
open Go.Eng

/-! The registers and numbers that a line names. -/
def plusOff (x : Str) : Str := if x.head? = some 43 then x.drop 1 else x
def rdW (wide : Bool) : List Str → List Nat → List Int → Option (List Nat × List Int)
  | [], rs, ns => some (rs, ns)
  | x :: r, rs, ns =>
    if 1 < x.length ∧ x.head? = some 114 then
      (if (rnumR (x.drop 1)).2 = false ∨ (rnumR (x.drop 1)).1 < 0 ∨ 10 < (rnumR (x.drop 1)).1 then none else rdW wide r (rs ++ [(rnumR (x.drop 1)).1.toNat]) ns)
    else (if (rnumR (plusOff x)).2 = false ∧ wide = false then none else rdW wide r rs (ns ++ [(rnumR (plusOff x)).1]))
def isWide (s : Str) : Bool := decide ((splitG 32 s)[0]? = some [119, 105, 100, 101])
def okL (s : Str) (l : List Ins) : Bool := rOwnB l && decide (joinS (lineW (l.headD Ins.zero) (l.getD 1 Ins.zero)) = s)
/-- What Read tells. -/
def RdOut (s : Str) (l : List Ins) (ok : Bool) : Prop :=
  (ok = true ∧ okL s l = true ∧ ∃ op rs ns, op < 256 ∧ l ∈ fillR op (splitG 32 s) rs ns ∧ ∀ r ∈ rs, r < 256) ∨
  (ok = false ∧ l = [] ∧ ∀ rs ns, rdW (isWide s) ((splitG 32 s).drop 1) [] [] = some (rs, ns) → ∀ op < 256, ∀ c ∈ fillR op (splitG 32 s) rs ns, okL s c = false)

theorem rnumD_lt (m : Bool) (d : Str) : -1000000000000 < (rnumD m d).1 ∧ (rnumD m d).1 < 1000000000000 := by
  unfold rnumD
  split
  · simp
  rename_i h
  simp only [not_or] at h
  split
  · rename_i hd
    have h1 := digN_lt (l := d) fun c hc => (hd c hc).2
    have h2 := pow_le12 (n := d.length) (by omega)
    cases m <;> simp <;> omega
  · simp
/-- Each candidate is one instruction, or a wide one. -/
theorem fill_form {op : Nat} {ws : List Str} {rs : List Nat} {ns : List Int} (ho : op < 256) (hr : ∀ r ∈ rs, r < 256) {l : List Ins} (h : l ∈ fillR op ws rs ns) :
    AllWf l ∧ ((∃ x, l = [x] ∧ kindOf x ≠ 0 ∧ kindOf x ≠ 9 ∧ kindOf x ≠ 10) ∨ (∃ x y, l = [x, y] ∧ kindOf x = 9 ∧ kindOf y = 10)) := by
  have hd : ∀ i, rs.getD i 0 < 256 := by
    intro i
    rw [List.getD_eq_getElem?_getD]
    cases hi : rs[i]? with
    | none => simp
    | some r => exact hr r (List.mem_of_getElem? hi)
  unfold fillR at h
  split at h
  · cases h
  rename_i h010
  simp only [not_or] at h010
  unfold fillI at h
  split at h
  · rename_i h9
    split at h
    · rename_i hm
      simp only [List.mem_cons, List.not_mem_nil, or_false] at h
      subst h
      refine ⟨?_, .inr ⟨_, _, rfl, h9, by decide +kernel⟩⟩
      intro y hy
      simp only [List.mem_cons, List.not_mem_nil, or_false] at hy
      rcases hy with rfl | rfl
      · exact ins0_wf _ _ _ _ _ ho (hd 0) (by omega) (by omega) (by omega)
      · exact zero_wf
    · split at h
      · cases h
      · simp only [List.mem_cons, List.not_mem_nil, or_false] at h
        subst h
        refine ⟨?_, .inr ⟨_, _, rfl, h9, by show (partsOf 0).kind = 10; decide +kernel⟩⟩
        intro y hy
        simp only [List.mem_cons, List.not_mem_nil, or_false] at hy
        rcases hy with rfl | rfl
        · exact ins0_wf _ _ _ _ _ ho (hd 0) (hd 1) (by omega) (i32c_in _)
        · exact ins0_wf _ _ _ _ _ (by decide) (by decide) (by decide) (by decide) (i32c_in _)
  · rename_i h9
    split at h
    · cases h
    · rename_i hrng
      simp only [not_or, Int.not_lt, Int.not_le] at hrng
      rcases List.mem_cons.1 h with rfl | h
      · refine ⟨one_wf (ins0_wf _ _ _ _ _ ho (hd 0) (hd 1) (by omega) (by omega)), .inl ⟨_, rfl, h010.1, h9, h010.2⟩⟩
      · split at h
        · simp at h
          rcases h with rfl | rfl | rfl
          · exact ⟨one_wf (ins0_wf _ _ _ _ _ ho (hd 0) (hd 1) (by omega) (by decide)), .inl ⟨_, rfl, h010.1, h9, h010.2⟩⟩
          · exact ⟨one_wf (ins0_wf _ _ _ _ _ ho (hd 0) (hd 1) (by omega) (by decide)), .inl ⟨_, rfl, h010.1, h9, h010.2⟩⟩
          · exact ⟨one_wf (ins0_wf _ _ _ _ _ ho (hd 0) (hd 1) (by omega) (by decide)), .inl ⟨_, rfl, h010.1, h9, h010.2⟩⟩
        · cases h
/-- What is found is what is read. -/
theorem found_read {op : Nat} {s : Str} {ws : List Str} {rs : List Nat} {ns : List Int} (ho : op < 256) (hr : ∀ r ∈ rs, r < 256) {l : List Ins} (h : l ∈ fillR op ws rs ns) (hk : okL s l = true) :
    readR s = (l, true) ∧ GoodP l ∧ AllWf l ∧ (textL l = s ++ [10]) := by
  obtain ⟨hw, hf⟩ := fill_form ho hr h
  unfold okL at hk
  rw [Bool.and_eq_true] at hk
  obtain ⟨hown, hline⟩ := hk
  have hline := of_decide_eq_true hline
  unfold rOwnB at hown
  rcases hf with ⟨x, rfl, h0, h9, h10⟩ | ⟨x, y, rfl, h9, h10⟩
  · rw [rown_one] at hown
    have hl := line_read (r := []) hw hown h10
    have hn : nextOf x [] = Ins.zero := by unfold nextOf; rw [if_neg h9]
    rw [hn, if_neg h9] at hl
    have e : joinS (lineW x Ins.zero) = s := hline
    rw [e] at hl
    have hg : GoodP [x] := .one x [] h10 h9 hown .nil
    refine ⟨hl, hg, hw, ?_⟩
    rw [textL_cons, if_neg h10, hn, ← e]
    simp [textL, lineT]
  · rw [rown_two h9 h10] at hown
    have hx10 : kindOf x ≠ 10 := by omega
    have hl := line_read (r := [y]) hw hown hx10
    have hn : nextOf x [y] = y := by unfold nextOf; rw [if_pos h9]; rfl
    rw [hn, if_pos h9] at hl
    have e : joinS (lineW x y) = s := hline
    rw [e] at hl
    have hg : GoodP [x, y] := .two x y [] h9 h10 hown .nil
    refine ⟨hl, hg, hw, ?_⟩
    rw [textL_cons, if_neg hx10, hn, textL_cons, if_pos h10, ← e]
    simp [textL, lineT]

/-! A line's own instruction is among the candidates. -/
theorem digN_dec (u : Nat) : digN (Lib.decDigits u) = u := by
  refine dec_ind (P := fun u => digN (Lib.decDigits u) = u) ?_ ?_ u
  · intro u h
    rw [dec_eq, if_pos h]
    have := dig_in u h
    simp only [digN, List.foldl_cons, List.foldl_nil, this]
    omega
  · intro u h ih
    rw [dec_eq, if_neg h, digN_next, ih, dig_in _ (Nat.mod_lt _ (by omega))]
    omega
theorem dec_small (k : Nat) : ∀ u : Nat, u < 10 ^ (k + 1) → (Lib.decDigits u).length ≤ k + 1 := by
  induction k with
  | zero => intro u h; rw [dec_eq, if_pos (by simpa using h)]; simp
  | succ k ih =>
    intro u h
    rw [dec_eq]
    split
    · simp
    · have : u / 10 < 10 ^ (k + 1) := by
        rw [Nat.pow_succ] at h
        omega
      have := ih (u / 10) this
      rw [List.length_append, List.length_singleton]
      omega
theorem head_append {α : Type} {a b : List α} (h : a ≠ []) : (a ++ b).head? = a.head? := by
  cases a with
  | nil => exact absurd rfl h
  | cons x r => rfl
theorem dec_lead (u : Nat) : 10 ≤ u → (Lib.decDigits u).head? ≠ some 48 := by
  refine dec_ind (P := fun u => 10 ≤ u → (Lib.decDigits u).head? ≠ some 48) ?_ ?_ u
  · intro u h h'; omega
  · intro u h ih _
    rw [dec_eq, if_neg h, head_append (dec_ne _)]
    by_cases h10 : u / 10 < 10
    · rw [dec_eq, if_pos h10]
      intro e
      have e : UInt8.ofNat (48 + u / 10) = 48 := by simpa using e
      have := dig_in _ h10
      rw [e] at this
      have h48 : (48 : UInt8).toNat = 48 := rfl
      omega
    · exact ih (by omega)
theorem dec_head {u : Nat} {c : UInt8} (h : ¬ (48 ≤ c.toNat ∧ c.toNat ≤ 57)) : (Lib.decDigits u).head? ≠ some c := by
  cases hd : Lib.decDigits u with
  | nil => simp
  | cons x r =>
    have := dec_digits u x (by rw [hd]; simp)
    intro e
    simp at e
    subst e
    exact h this
theorem rnumD_dec (m : Bool) {u : Nat} (hu : u < 1000000000000) (h0 : m = true → 0 < u) : rnumD m (Lib.decDigits u) = (if m then -(u : Int) else u, true) := by
  have h1 : 1 ≤ (Lib.decDigits u).length := List.length_pos_iff.2 (dec_ne u)
  have h2 : (Lib.decDigits u).length ≤ 12 := dec_small 11 u (by simpa using hu)
  have h3 : ¬ (1 < (Lib.decDigits u).length ∧ (Lib.decDigits u).head? = some 48) := by
    rintro ⟨a, b⟩
    by_cases h10 : u < 10
    · rw [dec_eq, if_pos h10] at a; simp at a
    · exact dec_lead u (by omega) b
  have h4 : ¬ (m = true ∧ Lib.decDigits u = [48]) := by
    rintro ⟨a, b⟩
    have := digN_dec u
    rw [b] at this
    have h48 : digN [48] = 0 := rfl
    have := h0 a
    omega
  unfold rnumD
  rw [if_neg (fun h => by
    rcases h with h | h | h | h
    · omega
    · omega
    · exact h3 h
    · exact h4 h), if_pos (dec_digits u), digN_dec]
theorem rnumR_dec {u : Nat} (hu : u < 1000000000000) : rnumR (Lib.decDigits u) = ((u : Int), true) := by
  unfold rnumR
  have h : ¬ (Lib.decDigits u).head? = some 45 := dec_head (by decide)
  rw [if_neg h, decide_eq_false h, rnumD_dec false hu (by simp)]
  rfl
theorem rnumR_itoa {n : Int} (h1 : -2147483648 ≤ n) (h2 : n ≤ 2147483647) : rnumR (Lib.itoa n) = (n, true) := by
  rcases itoa_cases n with ⟨h, e⟩ | ⟨h, e⟩
  · rw [e, rnumR_dec (by omega)]
    rw [Int.toNat_of_nonneg h]
  · rw [e]
    unfold rnumR
    have hh : (45 :: Lib.decDigits n.natAbs).head? = some 45 := rfl
    rw [if_pos hh, decide_eq_true hh]
    show rnumD true (Lib.decDigits n.natAbs) = _
    rw [rnumD_dec true (by omega) (by omega)]
    simp only [if_true]
    congr 1
    omega
theorem itoa_head {n : Int} {c : UInt8} (h : ¬ (48 ≤ c.toNat ∧ c.toNat ≤ 57)) (h45 : c ≠ 45) : (Lib.itoa n).head? ≠ some c := by
  rcases itoa_cases n with ⟨_, e⟩ | ⟨_, e⟩
  · rw [e]; exact dec_head h
  · rw [e]; intro e'; simp at e'; exact h45 e'.symm
theorem rd_reg (wide : Bool) {n : Nat} (hn : n < 11) (t : List Str) (rs : List Nat) (ns : List Int) : rdW wide (regW n :: t) rs ns = rdW wide t (rs ++ [n]) ns := by
  have hl : 1 < (regW n).length := by
    have := List.length_pos_iff.2 (dec_ne n)
    show 1 < (Lib.decDigits n).length + 1
    omega
  have hr := rnumR_dec (u := n) (by omega)
  have hd : (regW n).drop 1 = Lib.decDigits n := rfl
  rw [rdW, if_pos ⟨hl, rfl⟩, hd, hr, if_neg (by simp; omega)]
  simp
theorem rd_num (wide : Bool) {s : Str} {n : Int} (h114 : s.head? ≠ some 114) (hr : rnumR (plusOff s) = (n, true)) (t : List Str) (rs : List Nat) (ns : List Int) : rdW wide (s :: t) rs ns = rdW wide t rs (ns ++ [n]) := by
  rw [rdW, if_neg (fun h => h114 h.2), hr, if_neg (by simp)]
theorem rd_itoa (wide : Bool) {n : Int} (h : -2147483648 ≤ n ∧ n ≤ 2147483647) (t : List Str) (rs : List Nat) (ns : List Int) : rdW wide (Lib.itoa n :: t) rs ns = rdW wide t rs (ns ++ [n]) := by
  refine rd_num wide (itoa_head (by decide) (by decide)) ?_ t rs ns
  have : ¬ (Lib.itoa n).head? = some 43 := itoa_head (by decide) (by decide)
  unfold plusOff
  rw [if_neg this, rnumR_itoa h.1 h.2]
theorem rd_off (wide : Bool) {n : Int} (h : -32768 ≤ n ∧ n ≤ 32767) (t : List Str) (rs : List Nat) (ns : List Int) : rdW wide (offW n :: t) rs ns = rdW wide t rs (ns ++ [n]) := by
  unfold offW
  split
  · exact rd_itoa wide (by omega) t rs ns
  · refine rd_num wide (by simp) ?_ t rs ns
    show rnumR (Lib.itoa n) = _
    exact rnumR_itoa (by omega) (by omega)
theorem rd_wide {s : Str} (h114 : s.head? ≠ some 114) (t : List Str) (rs : List Nat) (ns : List Int) : ∃ m, rdW true (s :: t) rs ns = rdW true t rs (ns ++ [m]) := by
  refine ⟨(rnumR (plusOff s)).1, ?_⟩
  rw [rdW, if_neg (fun h => h114 h.2), if_neg (by simp)]
theorem rwdN_dec (u : Nat) : u < 18446744073709551616 → rwdN (Lib.decDigits u) = u := by
  refine dec_ind (P := fun u => u < 18446744073709551616 → rwdN (Lib.decDigits u) = u) ?_ ?_ u
  · intro u h h'
    rw [dec_eq, if_pos h]
    have := dig_in u h
    simp only [rwdN, List.foldl_cons, List.foldl_nil, this]
    omega
  · intro u h ih h'
    rw [dec_eq, if_neg h, rwdN_next, ih (by omega), dig_in _ (Nat.mod_lt _ (by omega))]
    omega

theorem mem_fill {op : Nat} {ws : List Str} {rs : List Nat} {ns : List Int} {y : Ins} (h0 : (partsOf op).kind ≠ 0) (h9 : (partsOf op).kind ≠ 9) (h10 : (partsOf op).kind ≠ 10) (hi : -2147483648 ≤ y.imm ∧ y.imm ≤ 2147483647) (ho : -32768 ≤ y.off ∧ y.off ≤ 32767)
    (e0 : y.op = op) (e1 : y.dst = rs.getD 0 0) (e2 : y.src = rs.getD 1 0) (e3 : immOff (partsOf op) ns = (y.imm, y.off)) : [y] ∈ fillR op ws rs ns := by
  unfold fillR fillI
  rw [if_neg (by omega), if_neg h9, e3, if_neg (by simp only; omega)]
  have : (⟨op, rs.getD 0 0, rs.getD 1 0, y.off, y.imm⟩ : Ins) = y := insEq e0.symm e1.symm e2.symm rfl rfl
  simp only [this]
  exact List.mem_cons_self ..
theorem getD_two (a b c : Str) : ([a, b, c] : List Str).getD 2 [] = c := rfl
theorem cand_line {x : Ins} {r : List Ins} (hw : AllWf (x :: r)) (h : aloneOk (x :: r) = true) (h10 : kindOf x ≠ 10) :
    ∃ rs ns, rdW (decide ((lineW x (nextOf x r))[0]? = some [119, 105, 100, 101])) ((lineW x (nextOf x r)).drop 1) [] [] = some (rs, ns) ∧ (x :: (if kindOf x = 9 then r.take 1 else [])) ∈ fillR x.op (lineW x (nextOf x r)) rs ns ∧ ∀ q ∈ rs, q < 256 := by
  have hx := hw x (by simp)
  have hf := alone_fits h
  have hop := hx.op
  have hk : kindOf x = (partsOf x.op).kind := rfl
  have ha := alu_ok ⟨x.op, hop⟩
  have hp := plain_kinds ⟨x.op, hop⟩
  have hwide := fun h9 => alone_wide h h9
  have hatom := fun h8 => alone_atom h h8
  unfold aluOk at ha
  unfold plainKinds at hp
  simp only [decide_eq_true_eq] at hp
  simp only [Bool.or_eq_true, Bool.and_eq_true, decide_eq_true_eq] at ha
  obtain ⟨p3, p4, p5, p9, p10, pk0, pk1, p6, p7, p8, psz⟩ := hp
  obtain ⟨fk, fd, fs, d0, s0, o0, i0⟩ := hf
  rw [hk] at h10 hwide hatom ⊢
  have hi := hx.imm
  have ho := hx.off
  have hd256 := hx.dst
  have hs256 := hx.src
  have q1 : ∀ a : Nat, a < 256 → ∀ q ∈ [a], q < 256 := fun a ha q hq => by simp at hq; omega
  have q2 : ∀ a b : Nat, a < 256 → b < 256 → ∀ q ∈ [a, b], q < 256 := fun a b ha hb q hq => by simp at hq; omega
  unfold lineW lineP
  unfold namedOf at d0 s0 o0 i0
  by_cases k1 : (partsOf x.op).kind = 1
  · rcases ha with ha | ⟨_, _, _, _, _, hneg, _⟩
    · exact absurd k1 ha
    rw [if_pos k1] at d0 s0 o0 i0
    rw [if_pos k1, if_neg (show ¬ (partsOf x.op).kind = 9 by omega)]
    by_cases h8 : (partsOf x.op).op = 8
    · rw [if_pos h8]
      refine ⟨[x.dst], [], ?_, mem_fill (by omega) (by omega) h10 hi ho rfl rfl (s0 (hneg h8)) ?_, q1 _ hd256⟩
      · show rdW _ [regW x.dst] [] [] = _
        rw [rd_reg _ fd]; rfl
      · rw [o0 rfl, i0 (by rw [h8]; simp)]; rfl
    · rw [if_neg h8]
      cases hreg : (partsOf x.op).reg with
      | true =>
        have hsec : secW x (partsOf x.op) = regW x.src := by unfold secW; rw [if_pos hreg]
        rw [hsec]
        refine ⟨[x.dst, x.src], [], ?_, mem_fill (by omega) (by omega) h10 hi ho rfl rfl rfl ?_, q2 _ _ hd256 hs256⟩
        · show rdW _ [regW x.dst, regW x.src] [] [] = _
          rw [rd_reg _ fd, rd_reg _ fs]; rfl
        · rw [o0 rfl, i0 (by rw [hreg]; rfl)]; rfl
      | false =>
        have hsec : secW x (partsOf x.op) = Lib.itoa x.imm := by unfold secW; rw [hreg]; rfl
        rw [hsec]
        refine ⟨[x.dst], [x.imm], ?_, mem_fill (by omega) (by omega) h10 hi ho rfl rfl (s0 hreg) ?_, q1 _ hd256⟩
        · show rdW _ [regW x.dst, Lib.itoa x.imm] [] [] = _
          rw [rd_reg _ fd, rd_itoa _ hi]; rfl
        · rw [o0 rfl]; unfold immOff; simp [k1]
  by_cases k2 : (partsOf x.op).kind = 2
  · rw [if_neg k1, if_pos k2, if_neg (show ¬ (partsOf x.op).kind = 9 by omega)]
    rw [if_neg k1, if_pos (Or.inl k2)] at d0 s0 o0 i0
    cases hreg : (partsOf x.op).reg with
    | true =>
      have hsec : secW x (partsOf x.op) = regW x.src := by unfold secW; rw [if_pos hreg]
      rw [hsec]
      refine ⟨[x.dst, x.src], [x.off], ?_, mem_fill (by omega) (by omega) h10 hi ho rfl rfl rfl ?_, q2 _ _ hd256 hs256⟩
      · show rdW _ [regW x.dst, regW x.src, offW x.off] [] [] = _
        rw [rd_reg _ fd, rd_reg _ fs, rd_off _ ho]; rfl
      · rw [i0 (by rw [hreg]; rfl)]; unfold immOff; simp [k2]
    | false =>
      have hsec : secW x (partsOf x.op) = Lib.itoa x.imm := by unfold secW; rw [hreg]; rfl
      rw [hsec]
      refine ⟨[x.dst], [x.imm, x.off], ?_, mem_fill (by omega) (by omega) h10 hi ho rfl rfl (s0 hreg) ?_, q1 _ hd256⟩
      · show rdW _ [regW x.dst, Lib.itoa x.imm, offW x.off] [] [] = _
        rw [rd_reg _ fd, rd_itoa _ hi, rd_off _ ho]; rfl
      · unfold immOff; simp [k2]
  by_cases k3 : (partsOf x.op).kind = 3
  · rw [if_neg k1, if_neg k2, if_pos k3, if_neg (show ¬ (partsOf x.op).kind = 9 by omega)]
    rw [if_neg k1, if_neg (by omega), if_pos k3] at d0 s0 o0 i0
    refine ⟨[], [x.off], ?_, mem_fill (by omega) (by omega) h10 hi ho rfl (d0 rfl) (s0 rfl) ?_, by simp⟩
    · show rdW _ [offW x.off] [] [] = _
      rw [rd_off _ ho]; rfl
    · rw [i0 rfl]; unfold immOff; simp [k3]
  by_cases k4 : (partsOf x.op).kind = 4
  · rw [if_neg k1, if_neg k2, if_neg k3, if_pos k4, if_neg (show ¬ (partsOf x.op).kind = 9 by omega)]
    rw [if_neg k1, if_neg (by omega), if_neg k3, if_pos (Or.inl k4)] at d0 s0 o0 i0
    refine ⟨[], [x.imm], ?_, mem_fill (by omega) (by omega) h10 hi ho rfl (d0 rfl) (s0 rfl) ?_, by simp⟩
    · show rdW _ [Lib.itoa x.imm] [] [] = _
      rw [rd_itoa _ hi]; rfl
    · rw [o0 rfl]; unfold immOff; simp [k4]
  by_cases k5 : (partsOf x.op).kind = 5
  · rw [if_neg k1, if_neg k2, if_neg k3, if_neg k4, if_pos k5, if_neg (show ¬ (partsOf x.op).kind = 9 by omega)]
    rw [if_neg k1, if_neg (by omega), if_neg k3, if_neg (by omega), if_neg (by omega), if_neg (by omega), if_neg (by omega)] at d0 s0 o0 i0
    refine ⟨[], [], rfl, mem_fill (by omega) (by omega) h10 hi ho rfl (d0 rfl) (s0 rfl) ?_, by simp⟩
    rw [o0 rfl, i0 rfl]; rfl
  by_cases k6 : (partsOf x.op).kind = 6
  · rw [if_neg k1, if_neg k2, if_neg k3, if_neg k4, if_neg k5, if_pos k6, if_neg (show ¬ (partsOf x.op).kind = 9 by omega)]
    rw [if_neg k1, if_neg (by omega), if_neg k3, if_neg (by omega), if_pos k6] at d0 s0 o0 i0
    refine ⟨[x.dst, x.src], [x.off], ?_, mem_fill (by omega) (by omega) h10 hi ho rfl rfl rfl ?_, q2 _ _ hd256 hs256⟩
    · show rdW _ [regW x.dst, regW x.src, offW x.off] [] [] = _
      rw [rd_reg _ fd, rd_reg _ fs, rd_off _ ho]; rfl
    · rw [i0 rfl]; unfold immOff; simp [k6]
  by_cases k7 : (partsOf x.op).kind = 7
  · rw [if_neg k1, if_neg k2, if_neg k3, if_neg k4, if_neg k5, if_neg k6, if_pos k7, if_neg (show ¬ (partsOf x.op).kind = 9 by omega)]
    rw [if_neg k1, if_pos (Or.inr k7)] at d0 s0 o0 i0
    cases hreg : (partsOf x.op).reg with
    | true =>
      have hsec : secW x (partsOf x.op) = regW x.src := by unfold secW; rw [if_pos hreg]
      rw [hsec]
      refine ⟨[x.dst, x.src], [x.off], ?_, mem_fill (by omega) (by omega) h10 hi ho rfl rfl rfl ?_, q2 _ _ hd256 hs256⟩
      · show rdW _ [regW x.dst, offW x.off, regW x.src] [] [] = _
        rw [rd_reg _ fd, rd_off _ ho, rd_reg _ fs]; rfl
      · rw [i0 (by rw [hreg]; rfl)]; unfold immOff; simp [k7]
    | false =>
      have hsec : secW x (partsOf x.op) = Lib.itoa x.imm := by unfold secW; rw [hreg]; rfl
      rw [hsec]
      refine ⟨[x.dst], [x.off, x.imm], ?_, mem_fill (by omega) (by omega) h10 hi ho rfl rfl (s0 hreg) ?_, q1 _ hd256⟩
      · show rdW _ [regW x.dst, offW x.off, Lib.itoa x.imm] [] [] = _
        rw [rd_reg _ fd, rd_off _ ho, rd_itoa _ hi]; rfl
      · unfold immOff; simp [k7]
  by_cases k8 : (partsOf x.op).kind = 8
  · rw [if_neg k1, if_neg k2, if_neg k3, if_neg k4, if_neg k5, if_neg k6, if_neg k7, if_pos k8, if_neg (show ¬ (partsOf x.op).kind = 9 by omega)]
    refine ⟨[x.dst, x.src], [x.off], ?_, ?_, q2 _ _ hd256 hs256⟩
    · show rdW _ [regW x.dst, offW x.off, regW x.src] [] [] = _
      rw [rd_reg _ fd, rd_off _ ho, rd_reg _ fs]; rfl
    · unfold fillR fillI
      have hio : immOff (partsOf x.op) [x.off] = (0, x.off) := by unfold immOff; simp [k8]
      rw [if_neg (by omega), if_neg (by omega), hio, if_neg (by simp only; omega), if_pos k8]
      have hm := hatom k8
      rcases hm with hm | hm | hm | hm
      · have e : (⟨x.op, [x.dst, x.src].getD 0 0, [x.dst, x.src].getD 1 0, x.off, 0⟩ : Ins) = x := insEq rfl rfl rfl rfl hm.symm
        rw [e]
        exact List.mem_cons_self ..
      all_goals
        have e : (⟨x.op, [x.dst, x.src].getD 0 0, [x.dst, x.src].getD 1 0, x.off, x.imm⟩ : Ins) = x := insEq rfl rfl rfl rfl rfl
        rw [hm] at e
        simp only [List.map_cons, List.map_nil, e]
        simp
  have k9 : (partsOf x.op).kind = 9 := by clear hwide hatom; omega
  obtain ⟨y, r', hr, hy10, hsrc, hcase⟩ := hwide k9
  clear hwide hatom
  subst hr
  have hyw := hw y (by simp)
  have hfy : Fits y := by
    have h2 := (checkOf_ok _).1 (of_decide_eq_true h)
    have hkx : kindOf x = 9 := by rw [hk, k9]
    have ho : ownOf (x :: y :: r') = [still x, y] := by
      show still x :: _ = _
      rw [if_pos hkx]
      rfl
    rw [ho] at h2
    exact fits_of (h2.2.2.1 1 y rfl)
  have hyop : y.op = 0 := by
    have := plain_kinds ⟨y.op, hyw.op⟩
    unfold plainKinds at this
    simp only [decide_eq_true_eq] at this
    exact this.2.2.2.2.1 hy10
  obtain ⟨_, _, _, yd0, ys0, yo0, _⟩ := hfy
  have hy10' : (partsOf y.op).kind = 10 := hy10
  unfold namedOf at yd0 ys0 yo0
  rw [hy10'] at yd0 ys0 yo0
  simp at yd0 ys0 yo0
  have hkx : kindOf x = 9 := by rw [hk, k9]
  have hnx : nextOf x (y :: r') = y := by unfold nextOf; rw [if_pos hkx]; rfl
  rw [if_neg k1, if_neg k2, if_neg k3, if_neg k4, if_neg k5, if_neg k6, if_neg k7, if_neg k8, if_pos k9, hnx]
  rw [if_neg k1, if_neg (by omega), if_neg k3, if_neg (by omega), if_neg (by omega), if_neg (by omega), if_pos k9] at d0 s0 o0 i0
  have htk : (y :: r').take 1 = [y] := rfl
  rw [htk]
  by_cases hs1 : x.src = 1
  · rw [if_pos hs1]
    refine ⟨[x.dst], [x.imm], ?_, ?_, q1 _ hd256⟩
    · show rdW _ [regW x.dst, Lib.itoa x.imm] [] [] = _
      rw [rd_reg _ fd, rd_itoa _ hi]; rfl
    · have hyi : y.imm = 0 := by omega
      have c1 : (⟨x.op, [x.dst].getD 0 0, 1, 0, x.imm⟩ : Ins) = x := insEq rfl rfl hs1.symm (o0 rfl).symm rfl
      have c2 : Ins.zero = y := insEq hyop.symm yd0.symm ys0.symm yo0.symm hyi.symm
      unfold fillR fillI
      rw [if_neg (by omega), if_pos k9, if_pos ⟨rfl, rfl, by show 0 ≤ x.imm; omega, by show x.imm < 4; omega⟩]
      show _ ∈ [[(⟨x.op, [x.dst].getD 0 0, 1, 0, x.imm⟩ : Ins), Ins.zero]]
      rw [c1, c2]
      exact List.mem_cons_self ..
  · have hs0 : x.src = 0 := by omega
    have hwl : wideN x.imm y.imm < 18446744073709551616 := by unfold wideN; omega
    have h20 := dec_len hwl
    have hrd := rwdN_dec _ hwl
    have l1 := i32c_lo x.imm y.imm hi
    have l2 := i32c_hi x.imm y.imm hyw.imm
    rw [if_neg hs1]
    generalize wideN x.imm y.imm = n at *
    have hdw : decide (([[119, 105, 100, 101], regW x.dst, Lib.decDigits (n)] : List Str)[0]? = some [119, 105, 100, 101]) = true := decide_eq_true rfl
    rw [hdw]
    obtain ⟨m, hm⟩ := rd_wide (s := Lib.decDigits (n)) (dec_head (by decide)) [] [x.dst] []
    refine ⟨[x.dst], [m], ?_, ?_, q1 _ hd256⟩
    · show rdW _ [regW x.dst, Lib.decDigits (n)] [] [] = _
      rw [rd_reg _ fd]
      exact hm
    · have c1 : (⟨x.op, [x.dst].getD 0 0, [x.dst].getD 1 0, 0, x.imm⟩ : Ins) = x := insEq rfl rfl hs0.symm (o0 rfl).symm rfl
      have c2 : (⟨0, 0, 0, 0, y.imm⟩ : Ins) = y := insEq hyop.symm yd0.symm ys0.symm yo0.symm rfl
      unfold fillR fillI
      have g2 := getD_two [119, 105, 100, 101] (regW x.dst) (Lib.decDigits n)
      rw [g2, hrd, l1, l2]
      rw [if_neg (by omega), if_pos k9, if_neg (fun h => by have h1 := h.1; simp at h1), if_neg (fun h => by
        rcases h with h | h | h
        · exact h rfl
        · exact h rfl
        · omega)]
      show _ ∈ [[(⟨x.op, [x.dst].getD 0 0, [x.dst].getD 1 0, 0, x.imm⟩ : Ins), ⟨0, 0, 0, 0, y.imm⟩]]
      rw [c1, c2]
      exact List.mem_cons_self ..

theorem text_ne {r : List Ins} (h : GoodP r) (hr : r ≠ []) : textL r ≠ [] := by
  cases h with
  | nil => exact absurd rfl hr
  | one x r h10 h9 ha hg =>
    rw [textL_cons, if_neg h10]
    simp [lineT]
  | two x y r h9 h10 ha hg =>
    rw [textL_cons, if_neg (by omega)]
    simp [lineT]
theorem one_line {a s R : Str} (hs : ∀ c ∈ s, c ≠ 10) (h : a ++ [10] ++ R = s ++ [10]) : R = [] ∧ a = s := by
  rcases List.eq_nil_or_concat R with rfl | ⟨R', z, rfl⟩
  · rw [List.append_nil] at h
    exact ⟨rfl, List.append_cancel_right h⟩
  · exfalso
    rw [List.concat_eq_append, ← List.append_assoc] at h
    have := List.append_inj_left' h rfl
    exact hs 10 (by rw [← this]; simp) rfl
theorem line_ne (x y : Ins) : lineW x y ≠ [] := by
  unfold lineW lineP
  repeat' split
  all_goals simp
/-- What Read tells is what the program reads. -/
theorem rdOut_read {s : Str} (h10 : ∀ c ∈ s, c ≠ 10) {l : List Ins} {ok : Bool} (h : RdOut s l ok) : (readR s).2 = ok ∧ (ok = true → (readR s).1 = l ∧ GoodP l ∧ AllWf l ∧ textL l = s ++ [10]) ∧ (ok = false → l = []) := by
  rcases h with ⟨rfl, hk, op, rs, ns, hop, hl, hr⟩ | ⟨rfl, rfl, hno⟩
  · obtain ⟨h1, h2, h3, h4⟩ := found_read hop hr hl hk
    rw [h1]
    exact ⟨rfl, fun _ => ⟨rfl, h2, h3, h4⟩, fun h => by cases h⟩
  refine ⟨?_, fun h => (by cases h), fun _ => rfl⟩
  cases hrd : (readR s).2 with
  | false => rfl
  | true =>
    exfalso
    obtain ⟨hsh, htx, hw, hlen, _⟩ := readR_ok hrd
    generalize (readR s).1 = l at *
    have hg := good_of_shape hsh
    have key : ∀ (x : Ins) (r : List Ins), AllWf (x :: r) → aloneOk (x :: r) = true → kindOf x ≠ 10 → joinS (lineW x (nextOf x r)) = s → okL s (x :: (if kindOf x = 9 then r.take 1 else [])) = true → False := by
      intro x r hw ha hx10 hs hok
      obtain ⟨rs, ns, h1, h2, h3⟩ := cand_line hw ha hx10
      have hwd : splitG 32 s = lineW x (nextOf x r) := by rw [← hs]; exact split_join _ (line_ne _ _) (noSp_line _ _)
      have hiw : isWide s = decide ((lineW x (nextOf x r))[0]? = some [119, 105, 100, 101]) := by unfold isWide; rw [hwd]
      rw [← hiw, ← hwd] at h1
      rw [← hwd] at h2
      have := hno rs ns h1 x.op (hw x (by simp)).op _ h2
      rw [hok] at this
      cases this
    cases hg with
    | nil => simp at hlen
    | one x r hx10 h9 ha hg =>
      have hn : ∀ r, nextOf x r = Ins.zero := fun r => by unfold nextOf; rw [if_neg h9]
      rw [textL_cons, if_neg hx10] at htx
      obtain ⟨hR, hs⟩ := one_line h10 (a := joinS (lineW x (nextOf x r))) (R := textL r) htx
      have hr : r = [] := by
        by_cases hr : r = []
        · exact hr
        · exact absurd hR (text_ne hg hr)
      subst hr
      refine key x [] hw ha hx10 hs ?_
      rw [if_neg h9]
      unfold okL rOwnB
      rw [rown_one, ha]
      simp only [Bool.true_and]
      refine decide_eq_true ?_
      rw [hn] at hs
      exact hs
    | two x y r h9 hy10 ha hg =>
      have hn : ∀ r, nextOf x (y :: r) = y := fun r => by unfold nextOf; rw [if_pos h9]; rfl
      rw [textL_cons, if_neg (by omega), textL_cons, if_pos hy10, List.nil_append] at htx
      obtain ⟨hR, hs⟩ := one_line h10 (a := joinS (lineW x (nextOf x (y :: r)))) (R := textL r) htx
      have hr : r = [] := by
        by_cases hr : r = []
        · exact hr
        · exact absurd hR (text_ne hg hr)
      subst hr
      refine key x [y] hw ha (by omega) hs ?_
      rw [if_pos h9]
      show okL s [x, y] = true
      unfold okL rOwnB
      rw [rown_two h9 hy10, ha]
      simp only [Bool.true_and]
      refine decide_eq_true ?_
      rw [hn] at hs
      exact hs
end Go.Proofs.YtpannhipchnhaaaGreatDoor
namespace Go.Proofs.YtpannhipchnhaaaGreatDoor
open Go.Eng
attribute [local irreducible] Go.Eng.W

theorem fill_len (op : Nat) (ws : List Str) (rs : List Nat) (ns : List Int) : (fillR op ws rs ns).length ≤ 4 := by
  unfold fillR fillI
  repeat' split
  all_goals simp
abbrev natV (rs : List Nat) : List Value := rs.map fun r : Nat => Value.int .u8 (r : Int)
abbrev numV (ns : List Int) : List Value := ns.map fun n : Int => Value.int .i64 n
theorem drop_at {α : Type} {l : List α} {i : Nat} {x : α} (h : l[i]? = some x) : l.drop i = x :: l.drop (i + 1) := by
  obtain ⟨hlt, rfl⟩ := List.getElem?_eq_some_iff.1 h
  exact List.drop_eq_getElem_cons hlt
theorem rnum_wrap {s : Str} : IntKind.u8.wrap (rnumR s).1 = (rnumR s).1 ∨ ((rnumR s).1 < 0 ∨ 10 < (rnumR s).1) := by
  by_cases h : (rnumR s).1 < 0 ∨ 10 < (rnumR s).1
  · exact .inr h
  · exact .inl (u8w (by omega) (by omega))
def RdPost (w : World) (s : Str) (v : Value) (w' : World) : Prop := Kept none' w w' ∧ ∃ lv l ok, v = .tuple #[lv, .bool ok] ∧ InsRow w' lv l ∧ RdOut s l ok
theorem post_no {w w1 w2 : World} {s : Str} (hk1 : Kept none' w w1) (hk2 : Kept none' w1 w2) (h : ∀ rs ns, rdW (isWide s) ((splitG 32 s).drop 1) [] [] = some (rs, ns) → ∀ op < 256, ∀ c ∈ fillR op (splitG 32 s) rs ns, okL s c = false) : RdPost w s (.tuple #[.slice none 0 0, .bool false]) w2 :=
  ⟨hk1.trans hk2, _, [], false, rfl, insRow_nil w2, .inr ⟨rfl, rfl, h⟩⟩
theorem post_none {w w1 w2 : World} {s : Str} (hk1 : Kept none' w w1) (hk2 : Kept none' w1 w2) (h : rdW (isWide s) ((splitG 32 s).drop 1) [] [] = none) : RdPost w s (.tuple #[.slice none 0 0, .bool false]) w2 :=
  post_no hk1 hk2 fun rs ns h' => by rw [h] at h'; cases h'
set_option maxHeartbeats 2000000 in
theorem rread_ret {s : Str} (w : World) (hs : s.length ≤ 1000) :
    Ret Tryz.prog 8 [strV s] w fun v w' => RdPost w s v w' := by
  refine ret_of_W Tryz.func8 rfl ok_tipstaffref23_Read ?_
  have hsz := splitG_size 32 s
  have hwl := splitG_words 32 s
  have hw0 : 0 < (splitG 32 s).length := List.length_pos_iff.2 (splitG_ne 32 s)
  have hwd : isWide s = decide ((splitG 32 s)[0]? = some [119, 105, 100, 101]) := rfl
  simp only [c_tipstaffref23_Read, W_seq, W_set]
  refine ok_intro (.slice none 0 0) (by simp) ?_
  try simp only [W_seq, W_set]
  refine ok_intro (.bool false) (by simp) ?_
  try simp only [W_seq, W_set]
  refine ok_intro (.slice none 0 0) (by simp) ?_
  try simp only [W_seq, W_set]
  refine ok_intro (.slice none 0 0) (by simp) ?_
  try simp only [W_seq]
  refine W_calmP (vs := [strV s]) (by simp) (rwords_ret w (t := s) (by omega)) ?_
  intro v6 w1 hk1 hr6
  have hv6 := rowVar hr6
  simp only [W_set, W_seq]
  refine ok_intro v6 (by simp [hv6]) ?_
  try simp only [W_seq, W_set]
  refine ok_intro (.int .i64 1) (by simp) ?_
  try simp only [W_seq, W_block]
  have hpn : ∀ w2, Kept none' w1 w2 → rdW (isWide s) ((splitG 32 s).drop 1) [] [] = none → RdPost w s (.tuple #[.slice none 0 0, .bool false]) w2 := fun w2 hk2 h => post_none hk1 hk2 h
  have hno : ∀ w2, Kept none' w1 w2 → _ → RdPost w s (.tuple #[.slice none 0 0, .bool false]) w2 := fun w2 hk2 h => post_no hk1 hk2 h
  generalize hws : splitG 32 s = ws at *
  obtain ⟨s0, hs0⟩ : ∃ s0, ws[0]? = some s0 := ⟨ws[0], List.getElem?_eq_getElem hw0⟩
  obtain ⟨g6, c6, rfl, hc60⟩ := row1_ix hr6 (i := 0) (x := strV s0) (by rw [List.getElem?_map, hs0]; rfl)
  rw [List.length_map] at hr6
  have hc6 : ∀ (i : Nat) (x : Str), ws[i]? = some x → wcell w1 g6 i = some (strV x) := by
    intro i x hx
    obtain ⟨g, c, e, hc⟩ := row1_ix hr6 (i := i) (x := strV x) (by rw [List.getElem?_map, hx]; rfl)
    simp at e
    rw [e.1]
    exact hc
  generalize hr0 : rdW (isWide s) (ws.drop 1) [] [] = r0 at *
  refine W_loop (fun env w' => Kept none' w1 w' ∧ ∃ (i : Nat) (v3 v4 : Value) (rs : List Nat) (ns : List Int), 1 ≤ i ∧ i ≤ ws.length ∧ Row1 5 w' v3 (natV rs) ∧ Row1 2 w' v4 (numV ns) ∧ (∀ j, v3.ownBlock = some j → w1.heap.size ≤ j) ∧ (∀ j, v4.ownBlock = some j → w1.heap.size ≤ j) ∧ rs.length ≤ i ∧ ns.length ≤ i ∧ (∀ r ∈ rs, r < 256) ∧
    r0 = rdW (isWide s) (ws.drop i) rs ns ∧ env = [strV s, undef, undef, v3, v4, undef, .slice (some ⟨g6, 0, none⟩) ws.length c6, .int .i64 i, undef, undef, undef, undef, undef, undef, undef, undef, undef, undef, undef, undef, undef, undef, undef, undef, undef, undef]) (fun env _ => ws.length - natAt env 7) ?_ ?_
  · refine ⟨Kept.refl _ _, 1, _, _, [], [], by omega, by omega, row1_nil _ _, row1_nil _ _, ?_, ?_, by simp, by simp, by simp, hr0.symm, by simp⟩
    · intro j hj; simp [Value.ownBlock] at hj
    · intro j hj; simp [Value.ownBlock] at hj
  rintro env w2 ⟨hk2, i, v3, v4, rs, ns, hi1, hi, hr3, hr4, ho3, ho4, hl3, hl4, hrb, hrd, rfl⟩
  have hv3 := rowVar hr3
  have hv4 := rowVar hr4
  simp only [W_seq]
  by_cases hgo : i < ws.length
  · have hgo' : (i : Int) < ws.length := by omega
    have hge : (0 : Int) ≤ i := by omega
    have e1 : IntKind.i64.wrap ((i : Int) + 1) = ((i + 1 : Nat) : Int) := i64w (by omega) (by omega)
    obtain ⟨x, hx⟩ : ∃ x, ws[i]? = some x := ⟨ws[i], List.getElem?_eq_getElem hgo⟩
    have hcx := wcell_calm hk2 (hc6 i x hx)
    have hxl : x.length ≤ 1000 := by have := hwl x (List.mem_of_getElem? hx); omega
    rw [drop_at hx] at hrd
    refine W_yes (by simp [hgo']) ?_
    simp only [W_skip, W_seq, W_block, W_set]
    refine ok_intro (strV x) (by simp [hge, hgo', hcx]) ?_
    try simp only [W_seq]
    refine W_cond (t := decide (1 < x.length ∧ x.head? = some 114)) ?_ ?_ ?_
    · cases x with
      | nil => simp
      | cons c r =>
        cases r with
        | nil => simp
        | cons c2 r =>
          have h1 : (1 : Int) < (r.length : Int) + 1 + 1 := by omega
          have h0 : (0 : Int) < (r.length : Int) + 1 + 1 := by omega
          simp [h1, h0, us_arr, u8_is (x := c) (c := 114) (n := 114) rfl]
    · intro hreg
      have hreg := of_decide_eq_true hreg
      rw [rdW, if_pos hreg] at hrd
      have h1 : (1 : Int) ≤ x.length := by omega
      simp only [W_seq]
      refine W_calm (vs := [strV (x.drop 1)]) (by simp [h1, us_extract]) (ret_of_T (rnumber_T w2 (s := x.drop 1) (by rw [List.length_drop]; omega))) ?_
      intro w3 hk3
      have hwr := rnum_wrap (s := x.drop 1)
      generalize rnumR (x.drop 1) = q at *
      obtain ⟨n, okn⟩ := q
      simp only at hrd hwr
      simp
      by_cases hbad : okn = false ∨ n < 0 ∨ 10 < n
      · rw [if_pos hbad] at hrd
        refine W_yes ?_ ?_
        · cases okn with
          | false => simp [pickV_bool]
          | true =>
            by_cases a1 : n < 0
            · simp [a1, pickV_bool]
            · have a2 : 10 < n := by
                rcases hbad with h | h | h
                · cases h
                · exact absurd h a1
                · exact h
              simp [a1, a2, pickV_bool]
        simp
        exact hpn _ (hk2.trans hk3) hrd
      · rw [if_neg hbad] at hrd
        simp only [not_or] at hbad
        obtain ⟨b1, b2, b3⟩ := hbad
        have b1 : okn = true := by simpa using b1
        subst b1
        have hw8 : IntKind.u8.wrap n = ((n.toNat : Nat) : Int) := by rw [u8w (by omega) (by omega)]; omega
        refine W_no (by simp [b2, b3, pickV_bool]) ?_
        simp only [W_skip, W_seq]
        refine W_chkIn [v3] (by simp [hv3]) ?_
        simp only [W_seq]
        refine W_push (x := .int .u8 ((n.toNat : Nat) : Int)) (xs := natV rs) (v := v3) Tryz.underlying44 (by kernel_rfl) (rowCalm hr3 hk3) (by simp; omega) rfl (by simp [hw8]) rfl (by simp [hv3]) ?_
        intro v' w4 hr4' hk4 hown4
        have hv' := rowVar hr4'
        have hk14 : Kept none' w1 w4 := (hk2.trans hk3).then hk4 fun j hj h => by have := ho3 j h; omega
        have hr4'' : Row1 2 w4 v4 (numV ns) := rowKeep (rowCalm hr4 hk3) hk4 fun j hj => rows_ne (rowCalm hr3 hk3) (rowCalm hr4 hk3) (by decide) hj
        have ho' : ∀ j, v'.ownBlock = some j → w1.heap.size ≤ j := fun j hj => (hown4 j hj).elim (ho3 j) fun h => by have := (hk2.trans hk3).size; omega
        simp [hv', hv4, e1, -Int.natCast_add]
        refine ⟨⟨hk14, i + 1, by omega, by omega, v', v4, rs ++ [n.toNat], by simpa [natV] using hr4', ns, hr4'', ho', ho4, by simp; omega, by omega, ?_, hrd, rfl, rfl, rfl⟩, by simp [natAt]; omega⟩
        intro r hr
        rcases List.mem_append.1 hr with hr | hr
        · exact hrb r hr
        · simp at hr; subst hr; omega
    · intro hreg
      have hreg := of_decide_eq_false hreg
      rw [rdW, if_neg hreg] at hrd
      simp only [W_skip, W_seq]
      refine W_cut (fun env w' => w' = w2 ∧ env = [strV s, undef, undef, v3, v4, undef, .slice (some ⟨g6, 0, none⟩) ws.length c6, .int .i64 i, strV (plusOff x), undef, undef, undef, undef, undef, undef, undef, undef, undef, undef, undef, undef, undef, undef, undef, undef, undef]) ?_ ?_
      · refine W_cond (t := decide (x.head? = some 43)) ?_ ?_ ?_
        · cases x with
          | nil => simp
          | cons c r =>
            have h0 : (0 : Int) < (r.length : Int) + 1 := by omega
            simp [h0, us_arr, u8_is (x := c) (c := 43) (n := 43) rfl]
        · intro h
          have h := of_decide_eq_true h
          have h1 : (1 : Int) ≤ x.length := by
            cases x with
            | nil => cases h
            | cons c r => simp; omega
          simp [plusOff, h, h1, us_extract]
        · intro h
          have h := of_decide_eq_false h
          simp [plusOff, h]
      rintro _ w2' ⟨rfl, rfl⟩
      have hpl : (plusOff x).length ≤ 1000 := by unfold plusOff; split; rw [List.length_drop]; omega; omega
      simp only [W_seq]
      refine W_calm (vs := [strV (plusOff x)]) (by simp) (ret_of_T (rnumber_T w2' (s := plusOff x) (by omega))) ?_
      intro w3 hk3
      generalize rnumR (plusOff x) = q at *
      obtain ⟨n, okn⟩ := q
      simp only at hrd
      have hcs := wcell_calm (hk2.trans hk3) (hc6 0 s0 hs0)
      have ew := us_neq s0 [119, 105, 100, 101]
      have hiw : isWide s = decide (s0 = [119, 105, 100, 101]) := by rw [hwd, hs0]; simp
      have hw0' : (0 : Int) < ws.length := by omega
      simp only [W_seq]
      refine W_chkIn [.bool okn] (by simp) ?_
      simp only [W_seq, W_set]
      refine ok_intro (.int .i64 n) (by simp) ?_
      try simp only [W_seq, W_set]
      refine ok_intro (.bool okn) (by simp) ?_
      try simp only [W_seq]
      by_cases hbad : okn = false ∧ isWide s = false
      · rw [if_pos hbad] at hrd
        have hs0w : ¬ s0 = [119, 105, 100, 101] := by rw [hiw] at hbad; simpa using hbad.2
        have ew' : strBin .neq (us s0) (us [119, 105, 100, 101]) = some (.bool true) := by rw [ew, decide_eq_false hs0w]; rfl
        obtain ⟨rfl, _⟩ := hbad
        simp [hcs, hw0, hw0', mk_us, ew']
        refine W_yes (by simp [hcs, hw0, hw0', mk_us, ew']) ?_
        simp
        exact hpn _ (hk2.trans hk3) hrd
      · rw [if_neg hbad] at hrd
        have hb : okn = true ∨ s0 = [119, 105, 100, 101] := by
          cases okn with
          | true => exact .inl rfl
          | false =>
            right
            rw [hiw] at hbad
            simpa using hbad
        refine W_chkIn [.bool false, .bool false] ?_ ?_
        · cases okn with
          | true => simp
          | false =>
            have hs0w : s0 = [119, 105, 100, 101] := by simpa using hb
            have ew' : strBin .neq (us s0) (us [119, 105, 100, 101]) = some (.bool false) := by rw [ew, decide_eq_true hs0w]; rfl
            simp [hcs, hw0, hw0', mk_us, ew']
        refine W_no ?_ ?_
        · cases okn with
          | true => simp
          | false =>
            have hs0w : s0 = [119, 105, 100, 101] := by simpa using hb
            have ew' : strBin .neq (us s0) (us [119, 105, 100, 101]) = some (.bool false) := by rw [ew, decide_eq_true hs0w]; rfl
            simp [hcs, hw0, hw0', mk_us, ew']
        simp only [W_skip, W_seq]
        refine W_chkIn [v4] (by simp [hv4]) ?_
        simp only [W_seq]
        refine W_push (x := .int .i64 n) (xs := numV ns) (v := v4) Tryz.underlying45 (by kernel_rfl) (rowCalm hr4 hk3) (by simp; omega) rfl (by simp) rfl (by simp [hv4]) ?_
        intro v' w4 hr4' hk4 hown4
        have hv' := rowVar hr4'
        have hk14 : Kept none' w1 w4 := (hk2.trans hk3).then hk4 fun j hj h => by have := ho4 j h; omega
        have hr3'' : Row1 5 w4 v3 (natV rs) := rowKeep (rowCalm hr3 hk3) hk4 fun j hj => rows_ne (rowCalm hr4 hk3) (rowCalm hr3 hk3) (by decide) hj
        have ho' : ∀ j, v'.ownBlock = some j → w1.heap.size ≤ j := fun j hj => (hown4 j hj).elim (ho4 j) fun h => by have := (hk2.trans hk3).size; omega
        simp [hv', hv3, e1, -Int.natCast_add]
        exact ⟨⟨hk14, i + 1, by omega, by omega, v3, v', rs, hr3'', ns ++ [n], by simpa [numV] using hr4', ho3, ho', by omega, by simp; omega, hrb, hrd, rfl, rfl, rfl⟩, by simp [natAt]; omega⟩
  · have hil : i = ws.length := by omega
    subst hil
    rw [List.drop_length, rdW] at hrd
    refine W_no (by simp) ?_
    clear hi1 hgo hc60 hl3 hl4
    have hno' : ∀ w3, Kept none' w2 w3 → (∀ op < 256, ∀ c ∈ fillR op ws rs ns, okL s c = false) → RdPost w s (.tuple #[.slice none 0 0, .bool false]) w3 := by
      intro w3 hk3 h
      refine hno w3 (hk2.trans hk3) ?_
      intro rs' ns' e
      rw [hrd] at e
      simp at e
      obtain ⟨rfl, rfl⟩ := e
      exact h
    have hyes : ∀ w3 lv l op, Kept none' w2 w3 → InsRow w3 lv l → op < 256 → l ∈ fillR op ws rs ns → okL s l = true → RdPost w s (.tuple #[lv, .bool true]) w3 := by
      intro w3 lv l op hk3 hrow hop hl hok
      refine ⟨(hk1.trans hk2).trans hk3, lv, l, true, rfl, hrow, .inl ⟨rfl, hok, op, rs, ns, hop, ?_, hrb⟩⟩
      rw [hws]
      exact hl
    have hr6' : Row1 9 w2 (.slice (some ⟨g6, 0, none⟩) ws.length c6) (ws.map strV) := by
      have := rowCalm hr6 hk2
      simpa [Row1] using this
    clear hrd hno hpn hr6 hc6 ho3 ho4
    simp only [W_skip, W_exit, Wx_exit_c, Wx_exit_post, Wx_exit_blk, W_seq, W_set, if_true, if_false]
    refine ok_intro (.int .i64 0) (by simp) ?_
    try simp only [W_seq, W_block]
    refine W_loop (fun env w' => ∃ op : Nat, Kept none' w2 w' ∧ op ≤ 256 ∧ (∀ o < op, ∀ c ∈ fillR o ws rs ns, okL s c = false) ∧ env = [strV s, undef, undef, v3, v4, undef, .slice (some ⟨g6, 0, none⟩) ws.length c6, undef, undef, undef, undef, undef, undef, undef, undef, undef, undef, undef, undef, .int .i64 op, undef, undef, undef, undef, undef, undef]) (fun env _ => 256 - natAt env 19) ?_ ?_
    · exact ⟨0, Kept.refl _ _, by omega, fun o ho => by omega, by simp⟩
    rintro env w3 ⟨op, hk3, hop, hprev, rfl⟩
    simp only [W_seq]
    by_cases hgo : op < 256
    · have hgo' : (op : Int) < 256 := by omega
      have e1 : IntKind.i64.wrap ((op : Int) + 1) = ((op + 1 : Nat) : Int) := i64w (by omega) (by omega)
      have e8 : IntKind.u8.wrap (op : Int) = op := u8w (by omega) (by omega)
      refine W_yes (by simp [hgo']) ?_
      simp only [W_skip, W_seq, W_block]
      refine W_calmP (vs := [.int .u8 op, .slice (some ⟨g6, 0, none⟩) ws.length c6, v3, v4]) (by simp [e8, hv3, hv4]) (fill_ret w3 hgo (rowCalm hr6' hk3) (rowCalm hr3 hk3) (rowCalm hr4 hk3) hw0 (fun x hx => by have := hwl x hx; omega) hrb) ?_
      intro v21 w4 hk4 hll
      have hk24 := hk3.trans hk4
      have hforms : ∀ c ∈ fillR op ws rs ns, AllWf c ∧ ((∃ x, c = [x] ∧ kindOf x ≠ 0 ∧ kindOf x ≠ 9 ∧ kindOf x ≠ 10) ∨ (∃ x y, c = [x, y] ∧ kindOf x = 9 ∧ kindOf y = 10)) := fun c hc => fill_form hgo hrb hc
      have hyes' : ∀ w5 lv l, Kept none' w4 w5 → InsRow w5 lv l → l ∈ fillR op ws rs ns → okL s l = true → RdPost w s (.tuple #[lv, .bool true]) w5 := fun w5 lv l hk5 hrow hl hok => hyes w5 lv l op (hk24.trans hk5) hrow hgo hl hok
      have hLl := fill_len op ws rs ns
      generalize hL : fillR op ws rs ns = L at *
      obtain ⟨vs, hvs1, hvs2, hvs3⟩ := hll.ex
      have hv21 := rowVar hvs1
      have hn21 := row1_len hvs1
      rw [hvs2] at hn21
      simp only [W_set, W_seq]
      refine ok_intro v21 (by simp [hv21]) ?_
      try simp only [W_set, W_seq]
      refine ok_intro (.int .i64 0) (by simp) ?_
      try simp only [W_seq, W_block]
      refine W_loop (fun env w' => ∃ k : Nat, Kept none' w4 w' ∧ k ≤ L.length ∧ (∀ (j : Nat) (c : List Ins), j < k → L[j]? = some c → okL s c = false) ∧ env = [strV s, undef, undef, v3, v4, undef, .slice (some ⟨g6, 0, none⟩) ws.length c6, undef, undef, undef, undef, undef, undef, undef, undef, undef, undef, undef, undef, .int .i64 op, undef, v21, .int .i64 k, undef, undef, undef]) (fun env _ => L.length - natAt env 22) ?_ ?_
      · exact ⟨0, Kept.refl _ _, by omega, fun j c hj => by omega, by simp⟩
      rintro env w5 ⟨k, hk5, hkl, hseen, rfl⟩
      simp only [W_seq]
      by_cases hgk : k < L.length
      · have hgk' : (k : Int) < L.length := by omega
        have hgek : (0 : Int) ≤ k := by omega
        have e2 : IntKind.i64.wrap ((k : Int) + 1) = ((k + 1 : Nat) : Int) := i64w (by omega) (by omega)
        refine W_yes (by simp [hn21, hv21, hgk']) ?_
        simp only [W_skip, W_seq, W_block]
        obtain ⟨c, hc⟩ : ∃ c, L[k]? = some c := ⟨L[k], List.getElem?_eq_getElem hgk⟩
        obtain ⟨vk, hvk⟩ : ∃ vk, vs[k]? = some vk := ⟨vs[k]'(by omega), List.getElem?_eq_getElem (by omega)⟩
        have hcm : c ∈ L := List.mem_of_getElem? hc
        obtain ⟨hcw, hform⟩ := hforms c hcm
        have hclen : 0 < c.length ∧ c.length ≤ 2 := by rcases hform with ⟨x, rfl, _⟩ | ⟨x, y, rfl, _⟩ <;> simp
        have hrk := rowCalm (hvs3 k vk c hvk hc) hk5
        obtain ⟨g21, c21, rfl, hck⟩ := row1_ix (rowCalm hvs1 hk5) hvk
        have hcode0 := InsRow.code hrk hclen.1
        obtain ⟨g, cc, rfl, hcc, _, hcode⟩ := hcode0
        have hyk := fun w6 (h : Kept none' w5 w6) => hyes' w6 _ c (hk5.trans h) (rowCalm hrk h) hcm
        refine W_new' (v := Ins.zero.val) (cs := Ins.zero.arr) (by simp; try rfl) rfl ?_
        have hZ := hp_new w5 (.cells Ins.zero.arr 39)
        have hka := (Kept.refl none' w5).alloc (.cells Ins.zero.arr 39)
        have hbz : w5.heap.size ≤ w5.heap.size := Nat.le_refl _
        generalize (w5.alloc (.cells Ins.zero.arr 39)) = w6 at *
        generalize hbzz : w5.heap.size = bz at *
        have hvsl : (k : Int) < vs.length := by omega
        simp only [W_seq]
        refine W_cut (fun env w' => Kept none' w5 w' ∧ AtB w' bz (c.getD 1 Ins.zero) ∧ env = [strV s, undef, undef, v3, v4, undef, .slice (some ⟨g6, 0, none⟩) ws.length c6, undef, undef, undef, undef, undef, undef, undef, undef, undef, undef, undef, undef, .int .i64 op, undef, .slice (some ⟨g21, 0, none⟩) vs.length c21, .int .i64 k, .pointer (some ⟨bz, 0, none⟩), undef, undef]) ?_ ?_
        · have hck6 := wcell_calm hka hck
          refine W_cond (t := decide (1 < c.length)) (by simp [hgek, hvsl, hck6]; omega) ?_ ?_
          · intro h1
            have h1 := of_decide_eq_true h1
            have h1' : (1 : Int) < c.length := by omega
            obtain ⟨y, hy⟩ : ∃ y, c[1]? = some y := ⟨c[1], List.getElem?_eq_getElem h1⟩
            have hgd : c.getD 1 Ins.zero = y := by rw [List.getD_eq_getElem?_getD, hy]; rfl
            have hrow1 := (hcode.calm hka) 1 y hy
            have hs7 := box_store (v := y.val) hZ (n := 5) (by simp) (by simp [Value.cells]) (by exact ins_one _)
            refine W_store (vv := y.val) (by simp) (by simp [hgek, hvsl, hck6, h1']; simpa using hrow1) hs7 (stab_nil _ _ _) ?_
            have hyc : y.val.cells = y.arr := rfl
            rw [hyc, hgd]
            simp
            exact ⟨hka.putNew (by omega) _, put_same (blk_lt hZ)⟩
          · intro h1
            have h1 := of_decide_eq_false h1
            have hgd : c.getD 1 Ins.zero = Ins.zero := by rw [List.getD_eq_getElem?_getD, List.getElem?_eq_none (by omega)]; rfl
            rw [hgd]
            simp
            exact ⟨hka, hZ⟩
        rintro _ w7 ⟨hk7, hZ7, rfl⟩
        have hkd : Kept none' w5 w7.drew := hk7.drew
        have hstep : okL s c = false → ∀ (j : Nat) (c' : List Ins), j < k + 1 → L[j]? = some c' → okL s c' = false := by
          intro hok j c' hj hc'
          by_cases h : j = k
          · subst h
            rw [hc] at hc'
            obtain rfl : c = c' := by simpa using hc'
            exact hok
          · exact hseen j c' (by omega) hc'
        have hnext : ∀ w', Kept none' w5 w' → Kept none' w4 w' := fun w' h => hk5.trans h
        have hck7 := wcell_calm hkd hck
        have hcode7 := hcode.calm hkd
        have hZ8 : AtB w7.drew bz (c.getD 1 Ins.zero) := hZ7
        simp only [W_seq, W_draw]
        generalize w7.drew = w8 at *
        refine W_calm (vs := [.slice (some ⟨g, 0, none⟩) c.length cc]) (by simp [hgek, hvsl, hck7]) (ret_of_T (rown_T hcode7 hcw hclen.1 (by omega) hcc)) ?_
        intro w9 hk9
        have hk59 := hkd.trans hk9
        have hck9 := wcell_calm hk59 hck
        have hcode9 := hcode.calm hk59
        have hZ9 : AtB w9 bz (c.getD 1 Ins.zero) := hk9.has hZ8 (fun h => h)
        have hrowz := wrow_box hZ9 (n := 5) (by simp)
        obtain ⟨x, hx⟩ : ∃ x, c[0]? = some x := ⟨c[0], List.getElem?_eq_getElem hclen.1⟩
        have hhd : c.headD Ins.zero = x := by
          cases c with
          | nil => simp at hx
          | cons a b => simpa using hx
        have hrowx : wrow w9 g 0 5 = some x.arr := by simpa using hcode9 0 x hx
        have hyw : (c.getD 1 Ins.zero).wf := by
          rw [List.getD_eq_getElem?_getD]
          cases h1 : c[1]? with
          | none => exact zero_wf
          | some y => exact hcw y (List.mem_of_getElem? h1)
        have hxw := hcw x (List.mem_of_getElem? hx)
        have hokd : okL s c = (rOwnB c && decide (joinS (lineW x (c.getD 1 Ins.zero)) = s)) := by unfold okL; rw [hhd]
        have hown8 : rOwnB c = true → (kindOf x = 8 → x.imm = 0 ∨ x.imm = 64 ∨ x.imm = 80 ∨ x.imm = 160) := by
          intro ho hk
          rcases hform with ⟨x', rfl, h0, h9, h10⟩ | ⟨x', y', rfl, h9, h10⟩
          · obtain rfl : x' = x := by simpa using hx
            unfold rOwnB at ho
            rw [rown_one] at ho
            exact alone_atom ho hk
          · obtain rfl : x' = x := by simpa using hx
            omega
        have hcl0 : (0 : Int) < c.length := by omega
        generalize c.getD 1 Ins.zero = y at *
        have hcl0' := hclen.1
        cases hb : rOwnB c with
        | true =>
          rw [hb] at hokd
          have hl := rline_T w9 hxw hyw (hown8 hb)
          simp only [W_seq]
          refine W_chkIn [strV s, y.val, x.val] (by simp [hgek, hvsl, hck9, hrowx, hrowz, hcl0, hcl0']) ?_
          refine W_yes (by simp) ?_
          refine W_calm (vs := [x.val, y.val]) (by simp [hgek, hvsl, hck9, hrowx, hrowz, hcl0, hcl0']) (ret_of_T hl) ?_
          intro w10 hk10
          have hk510 := hk59.trans hk10
          have hck10 := wcell_calm hk510 hck
          refine W_cond (t := decide (joinS (lineW x y) = s)) (by simp [us_eql]) ?_ ?_
          · intro he
            simp [hgek, hvsl, hck10]
            exact hyk _ hk510 (by rw [hokd, he]; rfl)
          · intro he
            simp [e2, -Int.natCast_add]
            exact ⟨⟨hk5.trans hk510, k + 1, by omega, hstep (by rw [hokd, he]; rfl), rfl⟩, by simp [natAt]; omega⟩
        | false =>
          rw [hb] at hokd
          simp
          refine W_no (by simp) ?_
          simp
          refine W_no (by simp) ?_
          simp [e2, -Int.natCast_add]
          exact ⟨⟨hk5.trans hk59, k + 1, by omega, hstep hokd, rfl⟩, by simp [natAt]; omega⟩
      · have hkL : k = L.length := by omega
        subst hkL
        refine W_no (by simp [hn21, hv21]) ?_
        simp [e1, -Int.natCast_add]
        refine ⟨⟨hk24.trans hk5, op + 1, by omega, ?_, rfl⟩, by simp [natAt]; omega⟩
        intro o ho c hc
        by_cases h : o = op
        · subst h
          rw [hL] at hc
          obtain ⟨j, hj⟩ := List.mem_iff_getElem?.1 hc
          exact hseen j c (List.getElem?_eq_some_iff.1 hj).1 hj
        · exact hprev o (by omega) c hc
    · have hop2 : op = 256 := by omega
      subst hop2
      refine W_no (by simp) ?_
      simp
      exact hno' _ hk3 hprev
end Go.Proofs.YtpannhipchnhaaaGreatDoor
namespace Go.Proofs.YtpannhipchnhaaaGreatDoor
open Go.Eng
attribute [local irreducible] Go.Eng.W

/-- A slice of strings as it comes in. -/
def StrSl (w : World) (v : Value) (l : List Str) : Prop := (l = [] ∧ v = .slice none 0 0) ∨ ∃ b o c, v = .slice (some ⟨b, o, none⟩) l.length c ∧ StrAt w b o l ∧ b < w.heap.size
theorem StrSl.calm {w w' : World} {v : Value} {l : List Str} (h : StrSl w v l) (hk : Kept none' w w') : StrSl w' v l := by
  rcases h with h | ⟨b, o, c, h1, h2, h3⟩
  · exact .inl h
  · exact .inr ⟨b, o, c, h1, h2.calm hk, Nat.lt_of_lt_of_le h3 hk.size⟩
theorem StrSl.len {w : World} {v : Value} {l : List Str} (h : StrSl w v l) : lenV false v = some (.int .i64 l.length) ∧ varV v = some v := by
  rcases h with ⟨rfl, rfl⟩ | ⟨b, o, c, rfl, _⟩ <;> exact ⟨rfl, rfl⟩
theorem ins_sl {w : World} {v : Value} {xs : List Ins} (h : InsRow w v xs) : SlIs w v xs := by
  rcases h.2 with ⟨rfl, h0⟩ | ⟨g, cap, cur, rfl, hb, h2, h3, h4, h5, h6⟩
  · exact .inl ⟨List.length_eq_zero_iff.1 h0, rfl⟩
  · refine .inr ⟨g, 0, cap, rfl, h3, ?_, blk_lt h2⟩
    refine code_of_cells fun j y hy => ?_
    rw [Nat.zero_add, wcell_of h2]
    rw [← h6, List.getElem?_take] at hy
    split at hy
    · simpa using hy
    · cases hy

/-! Lines put together, and read. -/
def txtL (ss : List Str) : Str := (ss.map (· ++ [10])).flatten
def wantL (ss : List Str) : List Ins := (ss.map fun s => if (readR s).2 = true then (readR s).1 else []).flatten
def badAt : List Str → Nat → Nat
  | [], _ => 0
  | s :: r, k => if (readR s).2 = true then badAt r (k + 1) else k
theorem txtL_next (ss : List Str) (s : Str) : txtL (ss ++ [s]) = txtL ss ++ s ++ [10] := by simp [txtL]
theorem wantL_next (ss : List Str) (s : Str) : wantL (ss ++ [s]) = wantL ss ++ (if (readR s).2 = true then (readR s).1 else []) := by simp [wantL]
theorem badAt_next : ∀ (ss : List Str) (s : Str) (k : Nat), 0 < k → badAt (ss ++ [s]) k = if badAt ss k = 0 ∧ (readR s).2 = false then k + ss.length else badAt ss k
  | [], s, k, hk => by
    show (if (readR s).2 = true then 0 else k) = _
    cases (readR s).2 <;> simp [badAt]
  | x :: r, s, k, hk => by
    show (if (readR x).2 = true then badAt (r ++ [s]) (k + 1) else k) = _
    have ih := badAt_next r s (k + 1) (by omega)
    rw [badAt]
    cases hx : (readR x).2 with
    | true =>
      simp only [if_true]
      rw [ih]
      split
      · simp; omega
      · rfl
    | false =>
      simp only [Bool.false_eq_true, if_false]
      rw [if_neg (by omega)]
theorem readR_two (s : Str) : (readR s).2 = true → (readR s).1.length ≤ 2 := fun h => (readR_ok h).2.2.2.2
theorem parse_lines : ∀ (ss : List Str) (f k : Nat) (out : List Ins), (∀ s ∈ ss, ∀ c ∈ s, c ≠ 10) → (txtL ss).length < f → out.length + 2 * ss.length ≤ 256 → 0 < k →
    parseF f (txtL ss) k out = if badAt ss k = 0 then (out ++ wantL ss, 0, 0) else ([], badAt ss k, 22)
  | [], f, k, out, _, hf, ho, hk => by
    obtain ⟨f', rfl⟩ : ∃ f', f = f' + 1 := ⟨f - 1, by omega⟩
    have : txtL [] = [] := rfl
    rw [this, parseF, if_pos rfl, if_neg (by simp at ho; omega)]
    simp [badAt, wantL]
  | s :: r, f, k, out, h10, hf, ho, hk => by
    obtain ⟨f', rfl⟩ : ∃ f', f = f' + 1 := ⟨f - 1, by omega⟩
    have htx : txtL (s :: r) = s ++ 10 :: txtL r := by simp [txtL]
    have hcut := cutL_nl (h10 s (by simp)) (txtL r)
    rw [htx] at hf ⊢
    rw [parseF, if_neg (by simp), hcut]
    simp only
    rw [badAt]
    cases hx : (readR s).2 with
    | false =>
      simp only [Bool.true_eq_false, false_or, if_true, Bool.false_eq_true, if_false]
      rw [if_neg (by omega)]
    | true =>
      have h2 := readR_two s hx
      have hw : wantL (s :: r) = (readR s).1 ++ wantL r := by simp [wantL, hx]
      simp only [Bool.true_eq_false, or_self, if_false, if_true]
      rw [parse_lines r f' (k + 1) (out ++ (readR s).1) (fun x hx => h10 x (by simp [hx])) (by simp at hf; omega) (by simp at ho ⊢; omega) (by omega), hw, List.append_assoc]
theorem parse_txt {ss : List Str} (h10 : ∀ s ∈ ss, ∀ c ∈ s, c ≠ 10) (hn : ss.length ≤ 6) : parseR (txtL ss) = if badAt ss 1 = 0 then (wantL ss, 0, 0) else ([], badAt ss 1, 22) := by
  have := parse_lines ss ((txtL ss).length + 1) 1 [] h10 (by omega) (by simp; omega) (by omega)
  unfold parseR
  rw [this, List.nil_append]
theorem want_len : ∀ ss : List Str, (wantL ss).length ≤ 2 * ss.length
  | [] => by simp [wantL]
  | s :: r => by
    have ih := want_len r
    have hw : wantL (s :: r) = (if (readR s).2 = true then (readR s).1 else []) ++ wantL r := by simp [wantL]
    rw [hw, List.length_append, List.length_cons]
    have : (if (readR s).2 = true then (readR s).1 else []).length ≤ 2 := by
      split
      · rename_i h; exact readR_two s h
      · simp
    omega
theorem bad_le : ∀ (ss : List Str) (k : Nat), badAt ss k ≤ k + ss.length
  | [], k => by simp [badAt]
  | s :: r, k => by
    have := bad_le r (k + 1)
    rw [badAt, List.length_cons]
    split <;> omega
theorem same_nil {w0 : World} {a b : Option Addr} {c c' : Nat} (ha : Ext w0.heap.size (.slice a 0 c)) (hb : Ext w0.heap.size (.slice b 0 c')) :
    T Tryz.prog w0 11 [.slice a 0 c, .slice b 0 c'] = some (.bool true) := by
  refine T_of (by kernel_rfl) Tryz.func11 rfl ok_tipstaffref04_Same (by simpa using ⟨ha, hb⟩) (by simp) fun B hB => ?_
  simp [c_tipstaffref04_Same, C_cond_eq]
  refine C_loop (fun env l => l = [] ∧ env = [.slice a 0 c, .slice b 0 c', undef, .int .i64 0]) (fun env _ => 0) ?_ ?_
  · exact ⟨rfl, by simp⟩
  rintro env l ⟨rfl, rfl⟩
  simp [C_cond_eq]
theorem same_rows {w : World} {v v' : Value} {xs : List Ins} (h : InsRow w v xs) (h' : InsRow w v' xs) (hn : xs.length ≤ 1000000) : T Tryz.prog w 11 [v, v'] = some (.bool true) := by
  cases xs with
  | nil =>
    have key : ∀ {v : Value}, InsRow w v [] → ∃ a c, v = .slice a 0 c ∧ Ext w.heap.size (.slice a 0 c) := by
      intro v h
      rcases h.2 with ⟨rfl, h0⟩ | ⟨g, cap, cur, rfl, hb, h2, h3, h4, h5, h6⟩
      · exact ⟨none, 0, rfl, by simp⟩
      · exact ⟨_, cap, rfl, by simpa using blk_lt h2⟩
    obtain ⟨a, c, rfl, ha⟩ := key h
    obtain ⟨b, c', rfl, hb⟩ := key h'
    exact same_nil ha hb
  | cons x r =>
    obtain ⟨g, c, rfl, _, _, hc⟩ := InsRow.code h (by simp)
    obtain ⟨g', c', rfl, _, _, hc'⟩ := InsRow.code h' (by simp)
    exact same_T hc hc' hn (by simp)

/-- The line of an input. -/
def lineOf (x : Str) : Str := (cutL (x.take 40)).1
theorem cutL_no (t : Str) : ∀ c ∈ (cutL t).1, c ≠ 10 := by
  induction t with
  | nil => intro c hc; cases hc
  | cons x r ih =>
    intro c hc
    rw [cutL] at hc
    split at hc
    · cases hc
    · rename_i hx
      rcases List.mem_cons.1 hc with rfl | hc
      · exact hx
      · exact ih c hc
theorem lineOf_len (x : Str) : (lineOf x).length ≤ 40 := by
  have := (cutL_len (x.take 40)).1
  rw [List.length_take] at this
  unfold lineOf
  omega
theorem txt_len : ∀ ss : List Str, (∀ s ∈ ss, s.length ≤ 40) → (txtL ss).length ≤ 41 * ss.length
  | [], _ => by simp [txtL]
  | s :: r, h => by
    have ih := txt_len r fun x hx => h x (by simp [hx])
    have hs := h s (by simp)
    have htx : txtL (s :: r) = s ++ [10] ++ txtL r := by simp [txtL]
    rw [htx]
    simp
    omega
set_option maxHeartbeats 2000000 in
theorem parses_ret {v0 : Value} {ls : List Str} (w : World) (hg : GlobA w) (h : StrSl w v0 ls) : Ret Tryz.prog 3 [v0] w fun v w' => v = .bool true ∧ Kept none' w w' := by
  refine ret_of_W Tryz.func3 rfl ok_tipstafflaw23_AsmParses ?_
  obtain ⟨hl0, hv0⟩ := h.len
  simp only [c_tipstafflaw23_AsmParses, W_seq, W_set]
  refine ok_intro (.bool false) (by simp) ?_
  try simp only [W_seq, W_set]
  refine ok_intro (strV (txtL [])) (by simp; rfl) ?_
  try simp only [W_seq, W_set]
  refine ok_intro (.int .i64 0) (by simp) ?_
  try simp only [W_seq, W_set]
  refine ok_intro (.slice none 0 0) (by simp) ?_
  try simp only [W_seq, W_set]
  refine ok_intro (.int .i64 0) (by simp) ?_
  try simp only [W_seq, W_block]
  refine W_loop (fun env w' => ∃ (ss : List Str) (v4 : Value), Kept none' w w' ∧ ss = (ls.take ss.length).map lineOf ∧ ss.length ≤ 6 ∧ ss.length ≤ ls.length ∧ InsRow w' v4 (wantL ss) ∧ (∀ j, v4.ownBlock = some j → w.heap.size ≤ j) ∧
    env = [v0, undef, strV (txtL ss), .int .i64 (badAt ss 1 : Nat), v4, .int .i64 (ss.length : Nat), undef, undef, undef, undef, undef, undef, undef, undef, undef, undef, undef, undef]) (fun env _ => 6 - natAt env 5) ?_ ?_
  · exact ⟨[], .slice none 0 0, Kept.refl _ _, by simp, by simp, by simp, insRow_nil w, fun j hj => by simp [Value.ownBlock] at hj, by simp; rfl⟩
  rintro env w1 ⟨ss, v4, hk1, hss, h6, hsl, hr4, ho4, rfl⟩
  have hv4 := rowVar hr4
  have hs40 : ∀ s ∈ ss, s.length ≤ 40 := by
    intro s hs
    rw [hss, List.mem_map] at hs
    obtain ⟨x, _, rfl⟩ := hs
    exact lineOf_len x
  have hs10 : ∀ s ∈ ss, ∀ c ∈ s, c ≠ 10 := by
    intro s hs
    rw [hss, List.mem_map] at hs
    obtain ⟨x, _, rfl⟩ := hs
    exact cutL_no _
  have htl := txt_len ss hs40
  have hwl := want_len ss
  have hbl := bad_le ss 1
  simp only [W_seq]
  by_cases hgo : ss.length < ls.length ∧ ss.length < 6
  · obtain ⟨g1, g2⟩ := hgo
    have g1' : (ss.length : Int) < ls.length := by omega
    have g2' : (ss.length : Int) < 6 := by omega
    have hge : (0 : Int) ≤ ss.length := by omega
    have e1 : IntKind.i64.wrap ((ss.length : Int) + 1) = ((ss.length + 1 : Nat) : Int) := i64w (by omega) (by omega)
    obtain ⟨x, hx⟩ : ∃ x, ls[ss.length]? = some x := ⟨ls[ss.length], List.getElem?_eq_getElem g1⟩
    obtain ⟨b, o, c, rfl, hst, hb⟩ : ∃ b o c, v0 = .slice (some ⟨b, o, none⟩) ls.length c ∧ StrAt w b o ls ∧ b < w.heap.size := by
      rcases h with ⟨rfl, _⟩ | h
      · simp at g1
      · exact h
    have hcx := wcell_calm hk1.drew (hst _ x hx)
    refine W_yes (by simp [g1', g2']) ?_
    simp only [W_skip, W_seq, W_block, W_draw]
    have hk1d : Kept none' w w1.drew := hk1.drew
    have hr4d : InsRow w1.drew v4 (wantL ss) := rowCalm hr4 (Kept.refl none' w1).drew
    generalize w1.drew = w2 at *
    obtain ⟨m, hm1, hm2, htk⟩ : ∃ m : Nat, (if (40 : Int) < x.length then (40 : Int) else x.length) = m ∧ (m : Int) ≤ x.length ∧ x.take m = x.take 40 := by
      by_cases h40 : 40 < x.length
      · exact ⟨40, by rw [if_pos (by omega)]; rfl, by omega, rfl⟩
      · exact ⟨x.length, by rw [if_neg (by omega)], by omega, by rw [List.take_length, List.take_of_length_le (by omega)]⟩
    try simp only [W_seq]
    refine W_calmP (vs := [strV (x.take 40)]) (by simp [hge, g1', hcx, hm1, hm2, us_extract, htk]) (rlines_ret w2 (t := x.take 40) (by rw [List.length_take]; omega)) ?_
    intro v6 w3 hk3 hr6
    have hne := splitG_first (x.take 40)
    obtain ⟨g6, c6, rfl, hc60⟩ := row1_ix hr6 (i := 0) (x := strV (lineOf x)) (by rw [List.getElem?_map, hne]; rfl)
    have hpos : (0 : Int) < ((splitG 10 (x.take 40)).map strV).length := by
      have := List.length_pos_iff.2 (splitG_ne 10 (x.take 40))
      simp only [List.length_map]; omega
    generalize ((splitG 10 (x.take 40)).map strV).length = n6 at *
    have hk03 := hk1d.trans hk3
    have hll := lineOf_len x
    have hl10 : ∀ c ∈ lineOf x, c ≠ 10 := cutL_no _
    have hss' : ss ++ [lineOf x] = (ls.take (ss.length + 1)).map lineOf := by
      rw [List.take_add_one, hx, List.map_append, ← hss]; rfl
    generalize lineOf x = s at *
    try simp only [W_set, W_seq]
    refine ok_intro (strV s) (by simp [show 0 < n6 by omega, hc60]) ?_
    have hc1 : strBin .add (us (txtL ss)) (us s) = some (.string (us (txtL ss ++ s))) := us_cat _ _ (by omega)
    have hc2 : strBin .add (us (txtL ss ++ s)) (us [10]) = some (.string (us (txtL ss ++ s ++ [10]))) := us_cat _ _ (by simp; omega)
    try simp only [W_seq]
    refine W_chkIn [strV (txtL (ss ++ [s]))] (by simp [mk_us, hc1, hc2, txtL_next]) ?_
    try simp only [W_set, W_seq]
    refine ok_intro (strV (txtL (ss ++ [s]))) (by simp [mk_us, hc1, hc2, txtL_next]) ?_
    try simp only [W_seq]
    refine W_calmP (vs := [strV s]) (by simp) ((rread_ret w3 (s := s) (by omega)).mono fun v w' h => h) ?_
    rintro v8 w4 hk4 ⟨lv, l, ok, rfl, hrl, hout⟩
    obtain ⟨q1, q2, q3⟩ := rdOut_read hl10 hout
    have hlw : (if (readR s).2 = true then (readR s).1 else []) = l := by
      rw [q1]
      cases ok with
      | true => rw [if_pos rfl]; exact (q2 rfl).1
      | false => rw [if_neg (by simp)]; exact (q3 rfl).symm
    have hl2 : l.length ≤ 2 := by
      rw [← hlw]
      split
      · rename_i h'; exact readR_two s h'
      · simp
    have hk04 := hk03.trans hk4
    have hrl' := hrl
    have hlv := rowVar hrl
    try simp only [W_seq]
    refine W_chkIn [.bool ok] (by simp) ?_
    try simp only [W_set, W_seq]
    refine ok_intro lv (by simp [hlv]) ?_
    try simp only [W_set, W_seq]
    refine ok_intro (.bool ok) (by simp) ?_
    try simp only [W_seq]
    have hbn := badAt_next ss s 1 (by omega)
    rw [q1] at hbn
    have hwn := wantL_next ss s
    rw [hlw] at hwn
    have hr44 : InsRow w4 v4 (wantL ss) := rowCalm (rowCalm hr4d hk3) hk4
    have hv44 := rowVar hr44
    obtain ⟨v', w5, hrun, hr5, hk5, hat⟩ := (ins_sl hrl).append hr44 (by omega)
    have hk05 : Kept none' w w5 := hk04.then hk5 fun j hj hS => by have := ho4 j hS; omega
    have ho5 : ∀ j, v'.ownBlock = some j → w.heap.size ≤ j := by
      intro j hj
      rcases hat with e | e <;> rw [e] at hj
      · exact ho4 j hj
      · simp at hj; have := hk04.size; omega
    have hv5 := rowVar hr5
    rw [← hwn] at hr5
    refine W_cut (fun env w' => w' = w4 ∧ env = [.slice (some ⟨b, o, none⟩) ls.length c, undef, strV (txtL (ss ++ [s])), .int .i64 (badAt (ss ++ [s]) 1 : Nat), v4, .int .i64 (ss.length : Nat), .slice (some ⟨g6, 0, none⟩) n6 c6, strV s, .tuple #[lv, .bool ok], lv, .bool ok, undef, undef, undef, undef, undef, undef, undef]) ?_ ?_
    · refine W_cond (t := decide (badAt ss 1 = 0 ∧ ok = false)) ?_ ?_ ?_
      · cases ok with
        | true => simp
        | false => simp
      · intro hy
        have hy := of_decide_eq_true hy
        rw [hbn, if_pos hy]
        have : 1 + ss.length = ss.length + 1 := by omega
        simp [e1, this, -Int.natCast_add]
      · intro hy
        have hy := of_decide_eq_false hy
        rw [hbn, if_neg hy]
        simp
    rintro _ _ ⟨rfl, rfl⟩
    try simp only [W_seq]
    refine W_bi (vs := [v4, lv]) (by simp [hv44, hlv]) hrun (stab_nil _ _ _) ?_
    simp [hv5, e1, -Int.natCast_add]
    refine ⟨⟨hk05, ss ++ [s], by simpa using hss', by simp; omega, by simp; omega, v', hr5, ho5, rfl, rfl, rfl, by simp⟩, by simp [natAt]; omega⟩
  · have hend : ∀ b, b = (decide (ss.length < ls.length) && decide (ss.length < 6)) → b = false := fun b hb => by
      rw [hb]
      by_cases g : ss.length < ls.length
      · have : ¬ ss.length < 6 := fun h => hgo ⟨g, h⟩
        simp [this]
      · simp [g]
    refine W_no ?_ ?_
    · by_cases g : ss.length < ls.length
      · have : ¬ ss.length < 6 := fun h => hgo ⟨g, h⟩
        have g' : (ss.length : Int) < ls.length := by omega
        have this' : ¬ (ss.length : Int) < 6 := by omega
        simp [hl0, hv0, g', this']
      · have g' : ¬ (ss.length : Int) < ls.length := by omega
        simp [hl0, hv0, g']
    clear hend hgo
    simp
    refine W_calmP (vs := [strV (txtL ss)]) (by simp) (parse_ret w1 (hg.calm hk1) (by omega)) ?_
    rintro v12 w2 hk2 ⟨lv, rfl, hrl, _⟩
    have hp := parse_txt hs10 h6
    have hlv := rowVar hrl
    have hln := rowLen hrl
    have hk02 := hk1.trans hk2
    try simp only [W_seq]
    refine W_chkIn [.int .i64 (parseR (txtL ss)).2.2, .int .i64 (parseR (txtL ss)).2.1] (by simp) ?_
    try simp only [W_set, W_seq]
    refine ok_intro lv (by simp [hlv]) ?_
    try simp only [W_set, W_seq]
    refine ok_intro (.int .i64 (parseR (txtL ss)).2.1) (by simp) ?_
    try simp only [W_set, W_seq]
    refine ok_intro (.int .i64 (parseR (txtL ss)).2.2) (by simp) ?_
    try simp only [W_seq]
    refine W_calm (by simp) (ret_of_T (words_T (hg.calm hk02))) ?_
    intro w3 hk3
    have hk03 := hk02.trans hk3
    try simp only [W_seq]
    refine W_no (by simp) ?_
    try simp only [W_skip, W_seq]
    have hr43 : InsRow w3 v4 (wantL ss) := rowCalm (rowCalm hr4 hk2) hk3
    have hrl3 := rowCalm hrl hk3
    by_cases hbad : badAt ss 1 = 0
    · rw [if_pos hbad] at hp
      rw [hp] at hrl3 hln ⊢
      refine W_no (by simp [hbad]) ?_
      try simp only [W_skip, W_seq]
      refine W_chkIn [v4, lv] (by simp [hv4, hlv]) ?_
      try simp only [W_seq]
      refine W_yes (by simp) ?_
      refine W_calm (vs := [lv, v4]) (by simp [hlv, hv4]) (ret_of_T (same_rows (xs := wantL ss) hrl3 hr43 (by omega))) ?_
      intro w4 hk4
      simp
      exact hk03.trans hk4
    · rw [if_neg hbad] at hp
      rw [hp] at hrl3 hln ⊢
      have hb0 : (0 : Int) < (badAt ss 1 : Nat) := by omega
      refine W_yes (by simp; omega) ?_
      have hln' : lenV false lv = some (.int .i64 0) := hln
      simp [hlv, hln']
      exact hk03
end Go.Proofs.YtpannhipchnhaaaGreatDoor
