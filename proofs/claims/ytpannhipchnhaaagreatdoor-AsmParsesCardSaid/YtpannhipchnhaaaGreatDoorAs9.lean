/- Layer 23: the reference's numbers and words. -/
import Derived.Test.YtpannhipchnhaaaGreatDoorAs8
set_option linter.unusedSimpArgs false
set_option linter.unusedVariables false
set_option maxRecDepth 8000
namespace Go.Proofs.YtpannhipchnhaaaGreatDoor
open Go.Eng

set_option maxHeartbeats 1000000 in
theorem rDigits_ret {u : Nat} (w : World) (hu : u < 18446744073709551616) : Ret Tryz.prog 31 [.int .u64 u] w fun v w' => v = .string (us (Lib.decDigits u)) ∧ Kept none' w w' := by
  refine ret_of_W Tryz.func31 rfl ok_tipstaffref23_Digits ?_
  have hdl := dec_len hu
  simp only [c_tipstaffref23_Digits, W_seq, W_set]
  refine ok_intro (.string ⟨#[]⟩) (by simp) ?_
  try simp only [W_seq, W_set]
  refine ok_intro (.string ⟨#[]⟩) (by simp) ?_
  try simp only [W_seq, W_block]
  refine W_loop (fun env w' => Kept none' w w' ∧ ∃ (n : Nat) (s : Str), env = [.int .u64 n, undef, .string (us s), undef] ∧ n < 18446744073709551616 ∧ Lib.decDigits u = (if n = 0 ∧ s ≠ [] then [] else Lib.decDigits n) ++ s) (fun env _ => natAt env 0 * 2 + (if lenAt env 2 = 0 then 1 else 0)) ?_ ?_
  · exact ⟨Kept.refl _ _, u, [], by simp; rfl, hu, by simp⟩
  rintro env w1 ⟨hk1, n, s, rfl, hn, hd⟩
  have he := us_eql s []
  have e0 : decide ((0 : Int) < (n : Int)) = decide (0 < n) := by
    by_cases h : 0 < n
    · rw [decide_eq_true h, decide_eq_true (by omega)]
    · rw [decide_eq_false h, decide_eq_false (by omega)]
  have e0' : IntKind.u64.wrap 0 = 0 := by decide +kernel
  try simp only [W_seq]
  by_cases hgo : n = 0 ∧ s ≠ []
  · rw [if_pos hgo, List.nil_append] at hd
    obtain ⟨hn0, hs0⟩ := hgo
    subst hn0
    refine W_chkIn [.bool false, .bool false] (by simp [nil_us, he, hs0]) ?_
    refine W_no (by simp [nil_us, he, hs0]) ?_
    simp [hd]
    exact hk1
  · rw [if_neg hgo] at hd
    have hcond : (decide (0 < n) || decide (s = [])) = true := by
      by_cases h : 0 < n
      · simp [h]
      · have : s = [] := by
          by_cases hs : s = []
          · exact hs
          · exact absurd ⟨by omega, hs⟩ hgo
        simp [this]
    have hlen := congrArg List.length hd
    rw [List.length_append] at hlen
    refine W_chkIn [.bool true, .bool (if 0 < n then false else true)] ?_ ?_
    · by_cases h : 0 < n
      · have h' : (0 : Int) < n := by omega
        simp [nil_us, he, h, h']
      · have h' : ¬ (0 : Int) < n := by omega
        have hs : s = [] := by simpa [h] using hcond
        subst hs
        simp [nil_us, us_eql [] [], h, h']
    refine W_yes ?_ ?_
    · by_cases h : 0 < n
      · have h' : (0 : Int) < n := by omega
        simp [nil_us, he, h, h']
      · have h' : ¬ (0 : Int) < n := by omega
        have hs : s = [] := by simpa [h] using hcond
        subst hs
        simp [nil_us, us_eql [] [], h, h']
    have hm : (n : Int).tmod 10 = ((n % 10 : Nat) : Int) := t_mod n 10
    have hq : (n : Int).tdiv 10 = ((n / 10 : Nat) : Int) := t_div n 10
    have hm10 : n % 10 < 10 := Nat.mod_lt _ (by omega)
    have e48 : IntKind.u64.wrap (48 + ((n % 10 : Nat) : Int)) = ((48 + n % 10 : Nat) : Int) := by rw [u64w (by omega) (by omega)]; simp
    have e8 : IntKind.u8.wrap ((48 + n % 10 : Nat) : Int) = ((48 + n % 10 : Nat) : Int) := u8w (by omega) (by omega)
    have eq : IntKind.u64.wrap ((n / 10 : Nat) : Int) = ((n / 10 : Nat) : Int) := u64w (by omega) (by omega)
    simp only [W_skip, W_block, W_seq]
    refine W_row' (v := .agg #[.int .u8 ((48 + n % 10 : Nat) : Int)]) (cs := #[.int .u8 ((48 + n % 10 : Nat) : Int)]) (by simp [hm, e48, e8, -Int.natCast_add, -Int.natCast_emod]) rfl ?_
    have hb := bytes_bstr (w := w1.alloc (.cells #[.int .u8 ((48 + n % 10 : Nat) : Int)] 5)) (b := w1.heap.size) (off := 0) (c := 1) (m := [48 + n % 10]) (by simp) (fun j x hj => by
      cases j with
      | zero => simp at hj; subst hj; simp
      | succ j => simp at hj)
    have hbu : bs [48 + n % 10] = us [UInt8.ofNat (48 + n % 10)] := rfl
    rw [hbu] at hb
    have hcat : strBin .add (us [UInt8.ofNat (48 + n % 10)]) (us s) = some (.string (us (UInt8.ofNat (48 + n % 10) :: s))) := us_cat _ _ (by simp; omega)
    have hstep : Lib.decDigits u = (if n / 10 = 0 ∧ (UInt8.ofNat (48 + n % 10) :: s) ≠ [] then [] else Lib.decDigits (n / 10)) ++ (UInt8.ofNat (48 + n % 10) :: s) := by
      rw [hd, dec_eq n]
      by_cases h : n < 10
      · rw [if_pos h, if_pos ⟨by omega, by simp⟩, Nat.mod_eq_of_lt h]; rfl
      · rw [if_neg h, if_neg (fun h' => by omega)]; simp
    clear hbu
    generalize UInt8.ofNat (48 + n % 10) = d at *
    generalize 48 + n % 10 = k at *
    try simp only [W_set]
    refine ok_intro (.string (us (d :: s))) ?_ ?_
    · simp only [List.length_singleton] at hb
      simp [hb, hcat]
    try simp only [W_set]
    refine ok_intro (.int .u64 ((n / 10 : Nat) : Int)) (by simp [hq, eq, -Int.natCast_ediv]) ?_
    clear hb hcat
    generalize hqn : n / 10 = q at *
    have hsl : lenAt [Value.int IntKind.u64 q, undef, Value.string (us (d :: s)), undef] 2 = s.length + 1 := by simp [lenAt]
    have hsl' : lenAt [Value.int IntKind.u64 n, undef, Value.string (us s), undef] 2 = s.length := by simp [lenAt]
    have hnl : natAt [Value.int IntKind.u64 q, undef, Value.string (us (d :: s)), undef] 0 = q := by simp [natAt]
    have hnl' : natAt [Value.int IntKind.u64 n, undef, Value.string (us s), undef] 0 = n := by simp [natAt]
    have hlt : q * 2 + (if s.length + 1 = 0 then 1 else 0) < n * 2 + (if s.length = 0 then 1 else 0) := by
      rw [if_neg (by omega)]
      by_cases h : 0 < n
      · omega
      · have hs : s = [] := by simpa [h] using hcond
        subst hs
        simp; omega
    simp
    rw [hsl, hsl', hnl, hnl']
    refine ⟨⟨hk1.alloc _, q, d :: s, ⟨rfl, rfl⟩, by omega, ?_⟩, hlt⟩
    simpa using hstep
theorem rDigits_T (w0 : World) {u : Nat} (hu : u < 18446744073709551616) : T Tryz.prog w0 31 [.int .u64 u] = some (.string (us (Lib.decDigits u))) :=
  T_of_ret (by kernel_rfl) (by simp) (by simp) fun w hk => rDigits_ret w hu
theorem rsigned_T (w0 : World) {n : Int} (hn : -2147483648 ≤ n ∧ n ≤ 2147483647) : T Tryz.prog w0 29 [.int .i64 n] = some (.string (us (Lib.itoa n))) :=
  T_of (by kernel_rfl) Tryz.func29 rfl ok_tipstaffref23_signed (by simp) (by simp) fun B hB => by
    rcases itoa_cases n with ⟨h, e⟩ | ⟨h, e⟩
    · have h' : ¬ n < 0 := by omega
      obtain ⟨u, rfl⟩ : ∃ u : Nat, n = u := ⟨n.toNat, by omega⟩
      have t := rDigits_T w0 (u := u) (by omega)
      have e1 : IntKind.u64.wrap (u : Int) = u := u64w (by omega) (by omega)
      rw [e, Int.toNat_natCast]
      simp [c_tipstaffref23_signed, C_cond_eq, h', e1, t]
    · have t := rDigits_T w0 (u := n.natAbs) (by omega)
      have e1 : IntKind.i64.wrap (0 - n) = (n.natAbs : Int) := by rw [i64w (by omega) (by omega)]; omega
      have e2 : IntKind.u64.wrap (n.natAbs : Int) = n.natAbs := u64w (by omega) (by omega)
      have e1' : IntKind.i64.wrap (-n) = (n.natAbs : Int) := by rw [← e1]; simp
      have hl := dec_len (n := n.natAbs) (by omega)
      have hc := us_cat [45] (Lib.decDigits n.natAbs) (by simp; omega)
      generalize n.natAbs = m at *
      rw [e]
      simp [c_tipstaffref23_signed, C_cond_eq, h, e1', e2, t, mk_us, hc]
theorem rreg_T (w0 : World) {n : Nat} (hn : n < 256) : T Tryz.prog w0 30 [.int .u8 n] = some (.string (us (regW n))) :=
  T_of (by kernel_rfl) Tryz.func30 rfl ok_tipstaffref23_reg (by simp) (by simp) fun B hB => by
    have t := rDigits_T w0 (u := n) (by omega)
    have e1 : IntKind.u64.wrap (n : Int) = n := u64w (by omega) (by omega)
    have hl := dec_len (n := n) (by omega)
    have hc := us_cat [114] (Lib.decDigits n) (by simp; omega)
    simp [c_tipstaffref23_reg, e1, t, mk_us, hc, regW]
theorem roff_T (w0 : World) {n : Int} (hn : -32768 ≤ n ∧ n ≤ 32767) : T Tryz.prog w0 32 [.int .i16 n] = some (.string (us (offW n))) :=
  T_of (by kernel_rfl) Tryz.func32 rfl ok_tipstaffref23_offset (by simp) (by simp) fun B hB => by
    have e0 : IntKind.i64.wrap n = n := i64w (by omega) (by omega)
    have t := rsigned_T w0 (n := n) (by omega)
    unfold offW
    by_cases h : n < 0
    · simp [c_tipstaffref23_offset, C_cond_eq, e0, t, h]
    · obtain ⟨u, rfl⟩ : ∃ u : Nat, n = u := ⟨n.toNat, by omega⟩
      have t := rDigits_T w0 (u := u) (by omega)
      have e1 : IntKind.u64.wrap (u : Int) = u := u64w (by omega) (by omega)
      have hl := dec_len (n := u) (by omega)
      have hc := us_cat [43] (Lib.decDigits u) (by simp; omega)
      simp [c_tipstaffref23_offset, C_cond_eq, e1, t, h, mk_us, hc, itoa_nat]
end Go.Proofs.YtpannhipchnhaaaGreatDoor
namespace Go.Proofs.YtpannhipchnhaaaGreatDoor
open Go.Eng

/-- Short words put together. -/
theorem cat' {a b : Str} (h : a.length ≤ 1000 ∧ b.length ≤ 1000) : strBin .add (us a) (us b) = some (.string (us (a ++ b))) := us_cat a b (by omega)
section
variable {P : Program} {w0 B : World} {R : Env → Own → Prop} {env : Env} {l : Own} {k : List ItO}
/-- A condition that only puts two slots: what is behind it is walked once. -/
theorem C_condK {e : Ex} {a : Cmd} {t : Bool} (i j : Nat) (u v : Value) (he : e.ev env (ownW B l) = some (.bool t)) (h1 : t = true → C P w0 B R (.c a :: .post (fun e' l' => e' = (env.set i u).set j v ∧ l' = l) :: k) env l)
    (h2 : t = false → (env.set i u).set j v = env) (h : C P w0 B R k ((env.set i u).set j v) l) : C P w0 B R (.c (.cond e a .skip) :: k) env l := by
  refine C_cut (fun e' l' => e' = (env.set i u).set j v ∧ l' = l) ?_ ?_
  · refine C_cond he ?_ ?_
    · exact h1
    · intro ht
      rw [C_skip, C_post]
      exact ⟨(h2 ht).symm, rfl⟩
  · rintro _ _ ⟨rfl, rfl⟩
    exact h
end
theorem fin_cat {A W : ByteArray} {Z Y : Str} (h : strBin .add A W = some (.string (us Z))) (e : Z = Y) :
    Ok (some (.string W)) fun v => Ok (((varV v).bind fun v => binV .add (.string A) v).bind fun v => some [v]) fun _ => Ok ((varV v).bind fun v => binV .add (.string A) v) fun v => Ok ((varV v).bind fun v => some [v]) fun vs => resV vs = .string (us Y) := by
  subst e
  simp [h]
theorem upd13 (d a0 a1 a2 a3 a4 a5 a6 a7 a8 a9 a10 a11 a12 : Value) : (((((((((((((Array.replicate 13 d).setIfInBounds 0 a0).setIfInBounds 1 a1).setIfInBounds 2 a2).setIfInBounds 3 a3).setIfInBounds 4 a4).setIfInBounds 5 a5).setIfInBounds 6 a6).setIfInBounds 7 a7).setIfInBounds 8 a8).setIfInBounds 9 a9).setIfInBounds 10 a10).setIfInBounds 11 a11).setIfInBounds 12 a12 = #[a0, a1, a2, a3, a4, a5, a6, a7, a8, a9, a10, a11, a12] := by rw [← Array.toList_inj]; simp [List.replicate]
theorem upd14 (d a1 a2 a3 a4 a5 a6 a7 a8 a9 a10 a11 a12 a13 : Value) : (((((((((((((Array.replicate 14 d).setIfInBounds 1 a1).setIfInBounds 2 a2).setIfInBounds 3 a3).setIfInBounds 4 a4).setIfInBounds 5 a5).setIfInBounds 6 a6).setIfInBounds 7 a7).setIfInBounds 8 a8).setIfInBounds 9 a9).setIfInBounds 10 a10).setIfInBounds 11 a11).setIfInBounds 12 a12).setIfInBounds 13 a13 = #[d, a1, a2, a3, a4, a5, a6, a7, a8, a9, a10, a11, a12, a13] := by rw [← Array.toList_inj]; simp [List.replicate]
theorem rsizeW {n : Int} (h0 : 0 ≤ n) : Lib.decDigits n.toNat = Lib.itoa n := by
  rw [← itoa_nat]; congr 1; omega
set_option maxHeartbeats 8000000 in
theorem rline_T (w0 : World) {x y : Ins} (hx : x.wf) (hy : y.wf) (ha : kindOf x = 8 → x.imm = 0 ∨ x.imm = 64 ∨ x.imm = 80 ∨ x.imm = 160) :
    T Tryz.prog w0 18 [x.val, y.val] = some (.string (us (joinS (lineW x y)))) :=
  T_of (by kernel_rfl) Tryz.func18 rfl ok_tipstaffref23_Line (by simp) (by simp) fun B hB => by
  have t1 := rOf_T w0 hx.op
  obtain ⟨hb1, hb2, hb3, hb4⟩ := parts_bounds hx.op
  have trd := rreg_T w0 hx.dst
  have trs := rreg_T w0 hx.src
  have to := roff_T w0 hx.off
  have hk : kindOf x = (partsOf x.op).kind := rfl
  rw [hk] at ha
  unfold lineW lineP
  generalize partsOf x.op = p at *
  have tz := rDigits_T w0 (u := p.size.toNat) (by omega)
  rw [Int.toNat_of_nonneg hb3, rsizeW hb3] at tz
  have ez : IntKind.u64.wrap p.size = p.size := u64w hb3 (by omega)
  have lZ := itoa_len (n := p.size) (by omega) (by omega)
  simp at t1
  have hi := hx.imm
  have ei : IntKind.i64.wrap x.imm = x.imm := i64w (by omega) (by omega)
  have tI := rsigned_T w0 (n := x.imm) hi
  have lI := itoa_len (n := x.imm) (by omega) (by omega)
  have lD : (regW x.dst).length ≤ 21 := by have := dec_len (n := x.dst) (by have := hx.dst; omega); simp only [regW, List.length_cons]; omega
  have lS : (regW x.src).length ≤ 21 := by have := dec_len (n := x.src) (by have := hx.src; omega); simp only [regW, List.length_cons]; omega
  have lO : (offW x.off).length ≤ 22 := by
    have := itoa_len (n := x.off) (by have := hx.off; omega) (by have := hx.off; omega)
    unfold offW; split <;> simp <;> omega
  generalize hS : Lib.itoa p.size = S at *
  generalize hI : Lib.itoa x.imm = I at *
  generalize hD : regW x.dst = D at *
  generalize hR : regW x.src = R at *
  generalize hO : offW x.off = O at *
  have hsec : secW x p = if p.reg = true then R else I := by unfold secW; rw [hR, hI]
  have lsec : (secW x p).length ≤ 21 := by rw [hsec]; split <;> assumption
  generalize hsecW : secW x p = sec at *
  unfold c_tipstaffref23_Line
  simp [t1, tI, ei]
  refine C_condK (t := p.reg) 9 8 (if p.reg = true then .string (us R) else undef) (.string (us sec)) (by simp) ?_ ?_ ?_
  · intro hr
    simp [hr, trs, hsec]
  · intro hr
    simp [hr, hsec]
  simp [mk_us]
  refine C_condK (t := p.long) 10 10 undef (.string (us (if p.long = true then [] else [51, 50]))) (by simp) ?_ ?_ ?_
  · intro hr
    simp [hr, nil_us]
  · intro hr
    simp [hr]
  simp [tz, ez]
  have hsh : shortW p = if p.long = true then [] else [51, 50] := rfl
  have lq : (shortW p).length ≤ 2 := by rw [hsh]; split <;> simp
  rw [← hsh]
  generalize shortW p = q at *
  by_cases h1 : p.kind = 1
  · refine C_yes (by simp [h1]) ?_
    have hop := hb1 h1
    obtain ⟨a, ha'⟩ : ∃ a, aluW[p.op]? = some a := ⟨_, List.getElem?_eq_getElem (by simpa [aluW] using hop)⟩
    have lA : a.length ≤ 10 := by
      have : ∀ i : Fin 13, (aluW.getD i.val []).length ≤ 10 := by decide
      have h := this ⟨p.op, hop⟩
      simpa [List.getD_eq_getElem?_getD, ha'] using h
    have hcell : (strArr aluW)[p.op]? = some (.string (us a)) := by simp [strArr, ha']
    have hop' : (p.op : Int) < 13 := by omega
    have c0 := us_cat a q (by (try simp only [List.length_append, List.length_cons, List.length_nil]); omega)
    try simp at c0
    have c1 := us_cat (a ++ q) [32] (by (try simp only [List.length_append, List.length_cons, List.length_nil]); omega)
    try simp at c1
    have c2 := us_cat (a ++ (q ++ [32])) D (by (try simp only [List.length_append, List.length_cons, List.length_nil]); omega)
    try simp at c2
    have c3 := us_cat (a ++ (q ++ (32 :: D))) [32] (by (try simp only [List.length_append, List.length_cons, List.length_nil]); omega)
    try simp at c3
    have c4 := us_cat (a ++ (q ++ (32 :: (D ++ [32])))) sec (by (try simp only [List.length_append, List.length_cons, List.length_nil]); omega)
    try simp at c4
    have ha8 : p.op = 8 → aluW[8]? = some a := fun h => by rw [← h]; exact ha'
    simp [-C_row]
    rw [C_alt]
    refine ⟨?_, ?_⟩
    · simp only [C_seq]
      refine C_rowI (v := .agg (strArr aluW)) (cs := strArr aluW) ?_ rfl ?_
      · simp [strArr, aluW, mk_us, upd13]
      simp [hcell, hop, hop', ha', trd, mk_us, nil_us, c0, c1, c2, c3, c4]
      by_cases h8 : p.op = 8
      · refine C_yes (by simp [h8]) ?_
        simp [h1, h8, ha8 h8, joinS]
      · refine C_no (by simp [h8, ci_eq]) ?_
        simp [h1, h8, ha', hcell, hop, hop', ha', trd, mk_us, nil_us, c0, c1, c2, c3, c4, joinS]
    · simp [-C_row, trd]
      refine C_rowI (v := .agg (strArr aluW)) (cs := strArr aluW) ?_ rfl ?_
      · simp [strArr, aluW, mk_us, upd13]
      simp [hcell, hop, hop', ha', trd, mk_us, nil_us, c0, c1, c2, c3, c4]
      by_cases h8 : p.op = 8
      · refine C_yes (by simp [h8]) ?_
        simp [h1, h8, ha8 h8, joinS]
      · refine C_no (by simp [h8, ci_eq]) ?_
        simp [h1, h8, ha', hcell, hop, hop', ha', trd, mk_us, nil_us, c0, c1, c2, c3, c4, joinS]
  refine C_no (by simp [h1]) ?_
  simp
  by_cases h2 : p.kind = 2
  · refine C_yes (by simp [h2]) ?_
    have hop := hb2 h2
    obtain ⟨a, ha'⟩ : ∃ a, jumpW[p.op]? = some a := ⟨_, List.getElem?_eq_getElem (by simpa [jumpW] using hop)⟩
    have lA : a.length ≤ 10 := by
      have : ∀ i : Fin 14, (jumpW.getD i.val []).length ≤ 10 := by decide
      have h := this ⟨p.op, hop⟩
      simpa [List.getD_eq_getElem?_getD, ha'] using h
    have hcell : (strArr jumpW)[p.op]? = some (.string (us a)) := by simp [strArr, ha']
    have hop' : (p.op : Int) < 14 := by omega
    have c0 := us_cat a q (by (try simp only [List.length_append, List.length_cons, List.length_nil]); omega)
    try simp at c0
    have c1 := us_cat (a ++ q) [32] (by (try simp only [List.length_append, List.length_cons, List.length_nil]); omega)
    try simp at c1
    have c2 := us_cat (a ++ (q ++ [32])) D (by (try simp only [List.length_append, List.length_cons, List.length_nil]); omega)
    try simp at c2
    have c3 := us_cat (a ++ (q ++ (32 :: D))) [32] (by (try simp only [List.length_append, List.length_cons, List.length_nil]); omega)
    try simp at c3
    have c4 := us_cat (a ++ (q ++ (32 :: (D ++ [32])))) sec (by (try simp only [List.length_append, List.length_cons, List.length_nil]); omega)
    try simp at c4
    have c5 := us_cat (a ++ (q ++ (32 :: (D ++ (32 :: sec))))) [32] (by (try simp only [List.length_append, List.length_cons, List.length_nil]); omega)
    try simp at c5
    have c6 := us_cat (a ++ (q ++ (32 :: (D ++ (32 :: (sec ++ [32])))))) O (by (try simp only [List.length_append, List.length_cons, List.length_nil]); omega)
    try simp at c6
    simp [-C_row]
    rw [C_alt]
    refine ⟨?_, ?_⟩
    · simp only [C_seq]
      refine C_rowI (v := .agg (strArr jumpW)) (cs := strArr jumpW) ?_ rfl ?_
      · simp [strArr, jumpW, mk_us, upd14]
      simp [h2, hcell, hop, hop', ha', trd, to, mk_us, nil_us, c0, c1, c2, c3, c4, c5, c6, joinS]
    · simp [-C_row, trd]
      rw [C_alt]
      refine ⟨?_, ?_⟩
      · simp only [C_seq]
        refine C_rowI (v := .agg (strArr jumpW)) (cs := strArr jumpW) ?_ rfl ?_
        · simp [strArr, jumpW, mk_us, upd14]
        simp [h2, hcell, hop, hop', ha', trd, to, mk_us, nil_us, c0, c1, c2, c3, c4, c5, c6, joinS]
      · simp [-C_row, to]
        refine C_rowI (v := .agg (strArr jumpW)) (cs := strArr jumpW) ?_ rfl ?_
        · simp [strArr, jumpW, mk_us, upd14]
        simp [h2, hcell, hop, hop', ha', trd, to, mk_us, nil_us, c0, c1, c2, c3, c4, c5, c6, joinS]
  refine C_no (by simp [h2]) ?_
  simp
  by_cases h3 : p.kind = 3
  · refine C_yes (by simp [h3]) ?_
    have c0 := us_cat [106, 97, 32] O (by (try simp only [List.length_append, List.length_cons, List.length_nil]); omega)
    try simp at c0
    simp [h3, trd, trs, to, tI, ei, mk_us, nil_us, joinS, c0]
  refine C_no (by simp [h3]) ?_
  simp
  by_cases h4 : p.kind = 4
  · refine C_yes (by simp [h4]) ?_
    have c0 := us_cat [99, 97, 108, 108, 32] I (by (try simp only [List.length_append, List.length_cons, List.length_nil]); omega)
    try simp at c0
    simp [h4, trd, trs, to, tI, ei, mk_us, nil_us, joinS, c0]
  refine C_no (by simp [h4]) ?_
  simp
  by_cases h5 : p.kind = 5
  · refine C_yes (by simp [h5]) ?_

    simp [h5, trd, trs, to, tI, ei, mk_us, nil_us, joinS, mk_us]
  refine C_no (by simp [h5]) ?_
  simp
  by_cases h6 : p.kind = 6
  · refine C_yes (by simp [h6]) ?_
    have c0 := us_cat [108, 100] S (by (try simp only [List.length_append, List.length_cons, List.length_nil]); omega)
    try simp at c0
    have c1 := us_cat (108 :: (100 :: S)) [32] (by (try simp only [List.length_append, List.length_cons, List.length_nil]); omega)
    try simp at c1
    have c2 := us_cat (108 :: (100 :: (S ++ [32]))) D (by (try simp only [List.length_append, List.length_cons, List.length_nil]); omega)
    try simp at c2
    have c3 := us_cat (108 :: (100 :: (S ++ (32 :: D)))) [32] (by (try simp only [List.length_append, List.length_cons, List.length_nil]); omega)
    try simp at c3
    have c4 := us_cat (108 :: (100 :: (S ++ (32 :: (D ++ [32]))))) R (by (try simp only [List.length_append, List.length_cons, List.length_nil]); omega)
    try simp at c4
    have c5 := us_cat (108 :: (100 :: (S ++ (32 :: (D ++ (32 :: R)))))) [32] (by (try simp only [List.length_append, List.length_cons, List.length_nil]); omega)
    try simp at c5
    have c6 := us_cat (108 :: (100 :: (S ++ (32 :: (D ++ (32 :: (R ++ [32]))))))) O (by (try simp only [List.length_append, List.length_cons, List.length_nil]); omega)
    try simp at c6
    simp [h6, trd, trs, to, tI, ei, mk_us, nil_us, joinS, c0, c1, c2, c3, c4, c5, c6]
  refine C_no (by simp [h6]) ?_
  simp
  by_cases h7 : p.kind = 7
  · refine C_yes (by simp [h7]) ?_
    have c0 := us_cat [115, 116] S (by (try simp only [List.length_append, List.length_cons, List.length_nil]); omega)
    try simp at c0
    have c1 := us_cat (115 :: (116 :: S)) [32] (by (try simp only [List.length_append, List.length_cons, List.length_nil]); omega)
    try simp at c1
    have c2 := us_cat (115 :: (116 :: (S ++ [32]))) D (by (try simp only [List.length_append, List.length_cons, List.length_nil]); omega)
    try simp at c2
    have c3 := us_cat (115 :: (116 :: (S ++ (32 :: D)))) [32] (by (try simp only [List.length_append, List.length_cons, List.length_nil]); omega)
    try simp at c3
    have c4 := us_cat (115 :: (116 :: (S ++ (32 :: (D ++ [32]))))) O (by (try simp only [List.length_append, List.length_cons, List.length_nil]); omega)
    try simp at c4
    have c5 := us_cat (115 :: (116 :: (S ++ (32 :: (D ++ (32 :: O)))))) [32] (by (try simp only [List.length_append, List.length_cons, List.length_nil]); omega)
    try simp at c5
    have c6 := us_cat (115 :: (116 :: (S ++ (32 :: (D ++ (32 :: (O ++ [32]))))))) sec (by (try simp only [List.length_append, List.length_cons, List.length_nil]); omega)
    try simp at c6
    simp [h7, trd, trs, to, tI, ei, mk_us, nil_us, joinS, c0, c1, c2, c3, c4, c5, c6]
  refine C_no (by simp [h7]) ?_
  simp
  by_cases h8 : p.kind = 8
  · refine C_yes (by simp [h8]) ?_
    have hat := ha h8
    simp
    have hgo : ∀ (a : Str), a.length ≤ 4 → atomW[atomIx x.imm]?.getD [] = a → True := fun _ _ _ => trivial
    refine C_condK (t := decide (x.imm = 64)) 46 46 undef (.string (us (if x.imm = 64 then [97, 111, 114] else [97, 97, 100, 100]))) (by simp) ?_ ?_ ?_
    · intro h; have h := of_decide_eq_true h; simp [h, mk_us]
    · intro h; have h := of_decide_eq_false h; simp [h, mk_us]
    simp
    refine C_condK (t := decide (x.imm = 80)) 46 46 undef (.string (us (if x.imm = 80 then [97, 97, 110, 100] else if x.imm = 64 then [97, 111, 114] else [97, 97, 100, 100]))) (by simp) ?_ ?_ ?_
    · intro h; have h := of_decide_eq_true h; simp [h, mk_us]
    · intro h; have h := of_decide_eq_false h; simp [h, mk_us]
    simp
    refine C_condK (t := decide (x.imm = 160)) 46 46 undef (.string (us (atomW[atomIx x.imm]?.getD []))) (by simp) ?_ ?_ ?_
    · intro h; have h := of_decide_eq_true h; simp [h, mk_us]; rfl
    · intro h; have h := of_decide_eq_false h
      rcases hat with e | e | e | e
      · simp [e]; rfl
      · simp [e]; rfl
      · simp [e]; rfl
      · exact absurd e h
    have lA : (atomW[atomIx x.imm]?.getD []).length ≤ 4 := by
      rcases hat with e | e | e | e <;> rw [e] <;> decide
    try simp only [List.getD_eq_getElem?_getD]
    generalize atomW[atomIx x.imm]?.getD [] = a at *
    have c0 := us_cat a S (by (try simp only [List.length_append, List.length_cons, List.length_nil]); omega)
    try simp at c0
    have c1 := us_cat (a ++ S) [32] (by (try simp only [List.length_append, List.length_cons, List.length_nil]); omega)
    try simp at c1
    have c2 := us_cat (a ++ (S ++ [32])) D (by (try simp only [List.length_append, List.length_cons, List.length_nil]); omega)
    try simp at c2
    have c3 := us_cat (a ++ (S ++ (32 :: D))) [32] (by (try simp only [List.length_append, List.length_cons, List.length_nil]); omega)
    try simp at c3
    have c4 := us_cat (a ++ (S ++ (32 :: (D ++ [32])))) O (by (try simp only [List.length_append, List.length_cons, List.length_nil]); omega)
    try simp at c4
    have c5 := us_cat (a ++ (S ++ (32 :: (D ++ (32 :: O))))) [32] (by (try simp only [List.length_append, List.length_cons, List.length_nil]); omega)
    try simp at c5
    have c6 := us_cat (a ++ (S ++ (32 :: (D ++ (32 :: (O ++ [32])))))) R (by (try simp only [List.length_append, List.length_cons, List.length_nil]); omega)
    try simp at c6
    simp [h1, h2, h3, h4, h5, h6, h7, h8, trd, trs, to, mk_us, nil_us, joinS, c0, c1, c2, c3, c4, c5, c6]
  refine C_no (by simp [h8]) ?_
  simp
  by_cases h9 : x.src = 1
  · refine C_yes (by simp [h9]) ?_
    have c0 := us_cat [109, 97, 112, 32] D (by (try simp only [List.length_append, List.length_cons, List.length_nil]); omega)
    try simp at c0
    have c1 := us_cat (109 :: (97 :: (112 :: (32 :: D)))) [32] (by (try simp only [List.length_append, List.length_cons, List.length_nil]); omega)
    try simp at c1
    have c2 := us_cat (109 :: (97 :: (112 :: (32 :: (D ++ [32]))))) I (by (try simp only [List.length_append, List.length_cons, List.length_nil]); omega)
    try simp at c2
    simp [h1, h2, h3, h4, h5, h6, h7, h8, h9, trd, trs, to, tI, ei, mk_us, nil_us, joinS, c0, c1, c2]
  refine C_no (by simp [h9, ci_eq]) ?_
  have hyi := hy.imm
  obtain ⟨q, hq⟩ : ∃ q : Nat, x.imm % 4294967296 = q := ⟨(x.imm % 4294967296).toNat, by omega⟩
  obtain ⟨r, hr⟩ : ∃ r : Nat, y.imm % 4294967296 = r := ⟨(y.imm % 4294967296).toNat, by omega⟩
  have w1 : IntKind.u32.wrap x.imm = (q : Int) := by rw [IntKind.wrap_u32]; omega
  have w2 : IntKind.u32.wrap y.imm = (r : Int) := by rw [IntKind.wrap_u32]; omega
  have w3 : IntKind.u64.wrap (q : Int) = (q : Int) := u64w (by omega) (by omega)
  have w4 : IntKind.u64.wrap (r : Int) = (r : Int) := u64w (by omega) (by omega)
  have hwd : wideN x.imm y.imm = q + r * 4294967296 := by unfold wideN; rw [hq, hr, Int.toNat_natCast, Int.toNat_natCast]
  have hmin : min 32 (IntKind.bits .u64) = 32 := rfl
  obtain ⟨X, hX⟩ : ∃ X : Nat, X = r * 4294967296 := ⟨_, rfl⟩
  have hs : IntKind.u64.wrap ((r : Int) * 4294967296) = (X : Int) := by rw [u64w (by omega) (by omega)]; omega
  have ho : IntKind.u64.wrap ((q : Int) + (X : Int)) = (wideN x.imm y.imm : Int) := by
    rw [hwd, u64w (by omega) (by omega)]
    omega
  have hwl : wideN x.imm y.imm < 18446744073709551616 := by omega
  have tW := rDigits_T w0 hwl
  have lW := dec_len hwl
  generalize wideN x.imm y.imm = u at *
  generalize hW : Lib.decDigits u = W at *
  clear hwd hwl hX
  have c0 := us_cat [119, 105, 100, 101, 32] D (by (try simp only [List.length_append, List.length_cons, List.length_nil]); omega)
  try simp at c0
  have c1 := us_cat (119 :: (105 :: (100 :: (101 :: (32 :: D))))) [32] (by (try simp only [List.length_append, List.length_cons, List.length_nil]); omega)
  try simp at c1
  have c2 := us_cat (119 :: (105 :: (100 :: (101 :: (32 :: (D ++ [32])))))) W (by (try simp only [List.length_append, List.length_cons, List.length_nil]); omega)
  try simp at c2
  simp only [C_skip, C_seq, C_draw]
  refine C_chkI (vs := [.int .u8 x.dst]) (by simp) ?_
  simp only [C_seq]
  refine C_setI (v := .int .u64 u) ?_ ?_
  · simp [w1, w2, w3, w4, hmin, hs, ho]
  simp [trd, mk_us, c0, c1]
  rw [tW, if_neg h1, if_neg h2, if_neg h3, if_neg h4, if_neg h5, if_neg h6, if_neg h7, if_neg h8, if_neg h9]
  exact fin_cat c2 (by simp [joinS])
end Go.Proofs.YtpannhipchnhaaaGreatDoor
namespace Go.Proofs.YtpannhipchnhaaaGreatDoor
open Go.Eng

set_option maxHeartbeats 4000000 in
theorem rtext_ret {b o c : Nat} {xs : List Ins} (w : World) (h : CodeAt w b o xs) (hw : AllWf xs) (hs : shapeOk xs = true) (hc : xs.length ≤ c) :
    Ret Tryz.prog 13 [.slice (some ⟨b, o, none⟩) xs.length c] w fun v w' => v = .string (us (textL xs)) ∧ Kept none' w w' := by
  refine ret_of_W Tryz.func13 rfl ok_tipstaffref23_Text ?_
  obtain ⟨_, h256, hall⟩ := (shapeOk_iff xs).1 hs
  have htl := textL_len xs hw
  have htl2 : (textL xs).length ≤ 32000 := Nat.le_trans htl (by omega)
  simp only [c_tipstaffref23_Text, W_seq, W_set]
  refine ok_intro (.string ⟨#[]⟩) (by simp) ?_
  try simp only [W_seq, W_set]
  refine ok_intro (.string ⟨#[]⟩) (by simp) ?_
  try simp only [W_seq, W_set, W_block]
  refine ok_intro (.int .i64 0) (by simp) ?_
  try simp only [W_seq, W_block]
  refine W_loop (fun env w' => ∃ (i : Nat) (s : Str), env = [.slice (some ⟨b, o, none⟩) xs.length c, undef, .string (us s), .int .i64 i, undef, undef, undef, undef] ∧ i ≤ xs.length ∧ textL xs = s ++ textL (xs.drop i) ∧ Kept none' w w') (fun env _ => xs.length - natAt env 3) ?_ ?_
  · exact ⟨0, [], by simp; rfl, by omega, by simp, Kept.refl _ _⟩
  rintro env w3 ⟨i, s, rfl, hi, htx, hk3⟩
  by_cases hgo : i < xs.length
  · have hgi : xs[i]? = some xs[i] := List.getElem?_eq_getElem hgo
    have hd : xs.drop i = xs[i] :: xs.drop (i + 1) := List.drop_eq_getElem_cons hgo
    have hsh := hall i _ hgi
    have hxw := hw _ (List.mem_of_getElem? hgi)
    have hx := wrow_calm hk3 (h i _ hgi)
    rw [hd, textL_cons] at htx
    have hal : kindOf xs[i] ≠ 10 → aloneOk (xs[i] :: xs.drop (i + 1)) = true := by
      intro h10
      unfold shapeAt at hsh
      rw [if_neg h10, hd] at hsh
      exact hsh
    have hnx : ∀ y, (xs.drop (i + 1)).head? = some y → xs[i + 1]? = some y := by
      intro y hy
      rw [List.head?_drop] at hy
      exact hy
    generalize xs[i] = x at *
    have hgo' : (i : Int) < xs.length := by omega
    have e1 : IntKind.i64.wrap ((i : Int) + 1) = ((i + 1 : Nat) : Int) := i64w (by omega) (by omega)
    have hx0 : wcell w3 b (o + i * 5) = some (.int .u8 x.op) := row_cell hx 0 (by omega)
    simp only [W_seq]
    refine W_yes (by simp [hgo']) ?_
    simp only [W_skip, W_seq, W_block]
    refine W_calm (by simp [hgo', hx0]) (ret_of_T (rOf_T w3 hxw.op)) ?_
    intro w4 hk4
    have hk34 : Kept none' w3 w4 := hk4
    try simp only [W_seq, W_set]
    refine ok_intro (.int .i64 (kindOf x)) (by simp [Parts.arr]; rfl) ?_
    try simp only [W_seq]
    by_cases h10 : kindOf x = 10
    · refine W_yes (by simp [h10]) ?_
      rw [if_pos h10] at htx
      simp [e1, -Int.natCast_add]
      refine ⟨⟨i + 1, s, ⟨rfl, rfl⟩, by omega, by simpa using htx, hk3.trans hk34⟩, by simp [natAt]; omega⟩
    rw [if_neg h10] at htx
    have hal := hal h10
    refine W_no (by simp [h10]) ?_
    simp only [W_skip, W_seq]
    refine W_new' (cs := Ins.zero.arr) (by simp; rfl) rfl ?_
    have hbn := hp_new w4 (.cells Ins.zero.arr 39)
    have hk7 : Kept none' w4 (w4.alloc (.cells Ins.zero.arr 39)) := (Kept.refl _ _).alloc _
    generalize hw7 : w4.alloc (.cells Ins.zero.arr 39) = w7 at hbn hk7
    generalize hbn0 : w4.heap.size = bn at hbn
    obtain ⟨w8, hst8, hbn8, hk8⟩ := ins_box (x := Ins.zero) hbn
    refine W_store (by simp) (vv := Ins.zero.val) (by simp) hst8 (stab_nil _ _ _) ?_
    have hk48 : Kept none' w4 w8 := kept_new hk7 hk8 fun i hi => by omega
    have hk38 : Kept none' w3 w8 := hk34.trans hk48
    try simp only [W_seq]
    have hnwf : (nextOf x (xs.drop (i + 1))).wf := by
      unfold nextOf
      split
      · cases hq : xs.drop (i + 1) with
        | nil => exact ⟨by decide, by decide, by decide, ⟨by decide, by decide⟩, ⟨by decide, by decide⟩⟩
        | cons y r' => exact hw y (List.mem_of_mem_drop (by rw [hq]; simp))
      · exact ⟨by decide, by decide, by decide, ⟨by decide, by decide⟩, ⟨by decide, by decide⟩⟩
    refine W_cut (fun env w' => Kept none' w3 w' ∧ w'.heap[bn]? = some (.cells (nextOf x (xs.drop (i + 1))).arr 39 (0, 0)) ∧ ∃ (x4 x5 : Value), env = [.slice (some ⟨b, o, none⟩) xs.length c, undef, .string (us s), .int .i64 i, x4, x5, .pointer (some ⟨bn, 0, none⟩), undef]) ?_ ?_
    · refine W_cond (t := decide (kindOf x = 9)) (by simp) ?_ ?_
      · intro h9
        have h9 : kindOf x = 9 := of_decide_eq_true h9
        obtain ⟨y, r', hr', _⟩ := alone_wide hal h9
        have hy1 := hnx y (by rw [hr']; rfl)
        have hil1 := (List.getElem?_eq_some_iff.1 hy1).1
        have hy9 := wrow_calm (hk3.trans hk38) (h (i + 1) y hy1)
        obtain ⟨w10, hst10, hbn10, hk10⟩ := ins_box (x := y) hbn8
        have hil2 : (((i + 1 : Nat) : Int)) < xs.length := by omega
        refine W_store (by simp) (vv := y.val) (by simp [e1, hil2, hy9, -Int.natCast_add]) hst10 (stab_nil _ _ _) ?_
        have hno : nextOf x (xs.drop (i + 1)) = y := by unfold nextOf; rw [if_pos h9, hr']; rfl
        simp [hno]
        exact ⟨kept_new hk38 hk10 fun j hj => by have := hk34.size; omega, hbn10⟩
      · intro h9
        have h9 : ¬ kindOf x = 9 := of_decide_eq_false h9
        have hno : nextOf x (xs.drop (i + 1)) = Ins.zero := by unfold nextOf; rw [if_neg h9]
        simp [hno]
        exact ⟨hk38, hbn8⟩
    rintro env w10 ⟨hk310, hbn10, x4, x5, rfl⟩
    generalize nextOf x (xs.drop (i + 1)) = y at *
    have hrx10 := wrow_calm hk310 hx
    have hrn10 := wrow_box hbn10 (n := 5) (by simp)
    simp only [W_seq, W_draw]
    refine W_chkIn [.string (us s)] (by simp) ?_
    try simp only [W_seq]
    refine W_calm (by simp [hgo', hrx10, hrn10]) (ret_of_T (rline_T _ hxw hnwf (fun h8 => alone_atom hal h8))) ?_
    intro w12 hk12
    obtain ⟨hjl, hll⟩ := lineT_len (y := y) hxw
    have hlen : s.length + (lineT x y).length ≤ 1000000 := by
      have := congrArg List.length htx
      simp at this
      omega
    have hcat1 : strBin .add (us s) (us (joinS (lineW x y))) = some (.string (us (s ++ joinS (lineW x y)))) := us_cat _ _ (by omega)
    have hcat : strBin .add (us (s ++ joinS (lineW x y))) (us [10]) = some (.string (us (s ++ lineT x y))) := by
      rw [us_cat _ _ (by simp; omega)]; unfold lineT; rw [List.append_assoc]
    try simp only [W_seq]
    refine W_chkIn [.string (us (s ++ lineT x y))] (by simp [hcat1, mk_us, hcat]) ?_
    try simp only [W_set]
    refine ok_intro (.string (us (s ++ lineT x y))) (by simp [hcat1, mk_us, hcat]) ?_
    simp [e1, -Int.natCast_add]
    refine ⟨⟨i + 1, s ++ lineT x y, ⟨rfl, rfl⟩, by omega, by rw [htx, List.append_assoc], (hk3.trans hk310).drew.trans hk12⟩, by simp [natAt]; omega⟩
  · have hil : i = xs.length := by omega
    subst hil
    have htx : textL xs = s := by rw [htx]; simp [textL]
    simp only [W_seq]
    refine W_no (by simp) ?_
    simp [htx]
    exact hk3
theorem rtext_T {w0 : World} {b o c : Nat} {xs : List Ins} (h : CodeAt w0 b o xs) (hw : AllWf xs) (hs : shapeOk xs = true) (hc : xs.length ≤ c) (h0 : 0 < xs.length) :
    T Tryz.prog w0 13 [.slice (some ⟨b, o, none⟩) xs.length c] = some (.string (us (textL xs))) :=
  T_of_ret (by kernel_rfl) (by simp [h.lt h0]) (by simp) fun w hk => rtext_ret w (h.calm hk) hw hs hc
end Go.Proofs.YtpannhipchnhaaaGreatDoor
namespace Go.Proofs.YtpannhipchnhaaaGreatDoor
open Go.Eng

def numIns (n off lo hi : Int) : List Ins := [⟨183, 3, 0, 0, n⟩, ⟨121, 4, 5, off, 0⟩, ⟨24, 6, 0, 0, lo⟩, ⟨0, 0, 0, 0, hi⟩, ⟨5, 0, 0, off, 0⟩]
theorem num_good (n off lo hi : Int) : GoodP (numIns n off lo hi) := by
  refine .one _ _ ?_ ?_ ?_ (.one _ _ ?_ ?_ ?_ (.two _ _ _ ?_ ?_ ?_ (.one _ _ ?_ ?_ ?_ .nil)))
  · show (partsOf 183).kind ≠ 10
    decide +kernel
  · show (partsOf 183).kind ≠ 9
    decide +kernel
  · kernel_rfl
  · show (partsOf 121).kind ≠ 10
    decide +kernel
  · show (partsOf 121).kind ≠ 9
    decide +kernel
  · kernel_rfl
  · show (partsOf 24).kind = 9
    decide +kernel
  · show (partsOf 0).kind = 10
    decide +kernel
  · kernel_rfl
  · show (partsOf 5).kind ≠ 10
    decide +kernel
  · show (partsOf 5).kind ≠ 9
    decide +kernel
  · kernel_rfl
theorem num_shape (n off lo hi : Int) : shapeOk (numIns n off lo hi) = true := shape_of_good (num_good n off lo hi) (by simp [numIns]) (by simp [numIns])
theorem num_wf {n off lo hi : Int} (h1 : -2147483648 ≤ n ∧ n ≤ 2147483647) (h2 : -32768 ≤ off ∧ off ≤ 32767) (h3 : -2147483648 ≤ lo ∧ lo ≤ 2147483647) (h4 : -2147483648 ≤ hi ∧ hi ≤ 2147483647) : AllWf (numIns n off lo hi) := by
  intro y hy
  simp [numIns] at hy
  rcases hy with rfl | rfl | rfl | rfl | rfl
  · exact ⟨by show 183 < 256; decide, by show 3 < 256; decide, by show 0 < 256; decide, ⟨by show (-32768 : Int) ≤ 0; decide, by show (0 : Int) ≤ 32767; decide⟩, h1⟩
  · exact ⟨by show 121 < 256; decide, by show 4 < 256; decide, by show 5 < 256; decide, h2, ⟨by show (-2147483648 : Int) ≤ 0; decide, by show (0 : Int) ≤ 2147483647; decide⟩⟩
  · exact ⟨by show 24 < 256; decide, by show 6 < 256; decide, by show 0 < 256; decide, ⟨by show (-32768 : Int) ≤ 0; decide, by show (0 : Int) ≤ 32767; decide⟩, h3⟩
  · exact ⟨by show 0 < 256; decide, by show 0 < 256; decide, by show 0 < 256; decide, ⟨by show (-32768 : Int) ≤ 0; decide, by show (0 : Int) ≤ 32767; decide⟩, h4⟩
  · exact ⟨by show 5 < 256; decide, by show 0 < 256; decide, by show 0 < 256; decide, h2, ⟨by show (-2147483648 : Int) ≤ 0; decide, by show (0 : Int) ≤ 2147483647; decide⟩⟩
end Go.Proofs.YtpannhipchnhaaaGreatDoor
namespace Go.Proofs.YtpannhipchnhaaaGreatDoor
open Go.Eng

attribute [local irreducible] Go.Eng.W
set_option maxHeartbeats 400000 in
theorem numbers_ret {n off W : Int} (w : World) (hg : GlobA w) (h1 : -2147483648 ≤ n ∧ n ≤ 2147483647) (h2 : -32768 ≤ off ∧ off ≤ 32767) (h3 : 0 ≤ W ∧ W ≤ 18446744073709551615) :
    Ret Tryz.prog 6 [.int .i32 n, .int .i16 off, .int .u64 W] w fun v w' => v = .bool true ∧ Kept none' w w' := by
  refine ret_of_W Tryz.func6 rfl ok_tipstafflaw23_AsmNumbers ?_
  simp [c_tipstafflaw23_AsmNumbers, -W_chk]
  obtain ⟨lo, hlo⟩ : ∃ lo, lo = IntKind.i32.wrap (IntKind.u32.wrap W) := ⟨_, rfl⟩
  obtain ⟨hi, hhi⟩ : ∃ hi, hi = IntKind.i32.wrap (IntKind.u32.wrap (W.fdiv (2 ^ min 32 IntKind.u64.bits))) := ⟨_, rfl⟩
  have hl : -2147483648 ≤ lo ∧ lo ≤ 2147483647 := by rw [hlo, IntKind.wrap_i32]; omega
  have hh : -2147483648 ≤ hi ∧ hi ≤ 2147483647 := by rw [hhi, IntKind.wrap_i32]; omega
  refine W_chkIn [(⟨5, 0, 0, off, 0⟩ : Ins).val, (⟨0, 0, 0, 0, hi⟩ : Ins).val, (⟨24, 6, 0, 0, lo⟩ : Ins).val, (⟨121, 4, 5, off, 0⟩ : Ins).val, (⟨183, 3, 0, 0, n⟩ : Ins).val] (by simp; exact ⟨rfl, by rw [hhi]; rfl, by rw [hlo]; rfl, rfl, rfl⟩) ?_
  simp only [W_seq]
  refine W_row' (v := .agg (insCells (numIns n off lo hi)).toArray) (cs := (insCells (numIns n off lo hi)).toArray) (by subst hlo; subst hhi; kernel_rfl) rfl ?_
  have hshape := num_shape n off lo hi
  have hwf := num_wf h1 h2 hl hh
  have h5 : (numIns n off lo hi).length = 5 := rfl
  have hcode : CodeAt (w.alloc (.cells (insCells (numIns n off lo hi)).toArray 39)) w.heap.size 0 (numIns n off lo hi) := code_list (hp_new w _)
  have hk1 : Kept none' w (w.alloc (.cells (insCells (numIns n off lo hi)).toArray 39)) := (Kept.refl _ _).alloc _
  generalize w.alloc (.cells (insCells (numIns n off lo hi)).toArray 39) = w1 at hcode hk1
  generalize w.heap.size = q at hcode
  generalize numIns n off lo hi = xs at *
  have ht := text_T (c := 5) (hg.calm hk1) hcode hwf (by omega) (by omega) (by omega)
  rw [if_pos hshape, h5] at ht
  have hpt := parse_text hshape hwf
  have htl : (textL xs).length ≤ 400000 := by have := textL_len xs hwf; rw [h5] at this; omega
  simp
  refine W_calm (by simp) (ret_of_T ht) ?_
  intro w2 hk2
  have hk02 := hk1.trans hk2
  simp
  refine W_calmP (by simp) (parse_ret (t := textL xs) w2 (hg.calm hk02) htl) ?_
  rw [hpt]
  rintro v w3 hk3 ⟨lv, rfl, hrow, _⟩
  have hrow : InsRow w3 lv xs := hrow
  obtain ⟨g, c, rfl, hc, hcd⟩ := row_code hrow (by omega)
  have hk03 := hk02.trans hk3
  have hcode3 := (hcode.calm hk2).calm hk3
  simp
  refine W_calm (by simp) (ret_of_T (words_T (hg.calm hk03))) ?_
  intro w4 hk4
  have hk04 := hk03.trans hk4
  have hs := same_T (c := c) (c' := 5) (hcd.calm hk4) (hcode3.calm hk4) (by omega) (by omega)
  rw [h5] at hs hc
  have hq := us_eql (textL xs) (textL xs)
  rw [h5]
  simp
  refine W_yes (by simp) ?_
  refine W_calm (by simp) (ret_of_T hs) ?_
  intro w5 hk5
  have hr := rtext_T (c := 5) ((hcode3.calm hk4).calm hk5) hwf hshape (by omega) (by omega)
  rw [h5] at hr
  simp
  refine W_yes (by simp) ?_
  refine W_calm (by simp) (ret_of_T hr) ?_
  intro w6 hk6
  simp [hq]
  exact (hk04.trans hk5).trans hk6
end Go.Proofs.YtpannhipchnhaaaGreatDoor
