/- Layer 5's reference: which fields may be something; helpers. -/
import Derived.Test.YtpannhipchnhaaaGreatDoorAs9
set_option linter.unusedSimpArgs false
set_option linter.unusedVariables false
set_option maxRecDepth 8000
namespace Go.Proofs.YtpannhipchnhaaaGreatDoor
open Go.Eng

def argsOf (n : Int) : Int := if n = 1 ∨ n = 3 ∨ n = 88 ∨ n = 89 then 2 else if n = 2 then 4 else if n = 5 ∨ n = 7 then 0 else if n = 87 then 3 else -1
theorem argsOf_ok (n : Int) : decide (0 ≤ argsOf n) = helperOk n := by
  unfold argsOf helperOk
  by_cases h : n = 1 ∨ n = 2 ∨ n = 3 ∨ n = 5 ∨ n = 7 ∨ n = 87 ∨ n = 88 ∨ n = 89
  · rcases h with rfl | rfl | rfl | rfl | rfl | rfl | rfl | rfl <;> decide
  · rw [decide_eq_false h]
    simp only [not_or] at h
    obtain ⟨h1, h2, h3, h4, h5, h6, h7, h8⟩ := h
    simp [h1, h2, h3, h4, h5, h6, h7, h8]
theorem rargs_T (w0 : World) (n : Int) : T Tryz.prog w0 70 [.int .i32 n] = some (.int .i64 (argsOf n)) := by
  refine T_of (by kernel_rfl) Tryz.func70 rfl ok_tipstaffref05_Args (by simp) (by simp) fun B hB => ?_
  unfold argsOf
  by_cases h : n = 1 ∨ n = 2 ∨ n = 3 ∨ n = 5 ∨ n = 7 ∨ n = 87 ∨ n = 88 ∨ n = 89
  · rcases h with rfl | rfl | rfl | rfl | rfl | rfl | rfl | rfl <;> simp [c_tipstaffref05_Args, C_cond_eq]
  · simp only [not_or] at h
    obtain ⟨h1, h2, h3, h4, h5, h6, h7, h8⟩ := h
    simp [c_tipstaffref05_Args, C_cond_eq, h1, h2, h3, h4, h5, h6, h7, h8]
theorem rmay_T (w0 : World) (p : Parts) : T Tryz.prog w0 69 [p.val] = some (namedOf p).val :=
  T_of (by kernel_rfl) Tryz.func69 rfl ok_tipstaffref05_may (by simp) (by simp) fun B hB => by
    obtain ⟨k, op, sz, lg, rg⟩ := p
    unfold namedOf
    by_cases h1 : k = 1
    · subst h1; cases rg <;> by_cases h8 : op = 8 <;> simp [c_tipstaffref05_may, C_cond_eq, h8, ci_eq] <;> rfl
    by_cases h2 : k = 2
    · subst h2; cases rg <;> simp [c_tipstaffref05_may, C_cond_eq] <;> rfl
    by_cases h7 : k = 7
    · subst h7; cases rg <;> simp [c_tipstaffref05_may, C_cond_eq] <;> rfl
    by_cases h3 : k = 3
    · subst h3; simp [c_tipstaffref05_may, C_cond_eq] <;> rfl
    by_cases h4 : k = 4
    · subst h4; simp [c_tipstaffref05_may, C_cond_eq] <;> rfl
    by_cases h10 : k = 10
    · subst h10; simp [c_tipstaffref05_may, C_cond_eq] <;> rfl
    by_cases h6 : k = 6
    · subst h6; simp [c_tipstaffref05_may, C_cond_eq] <;> rfl
    by_cases h8 : k = 8
    · subst h8; simp [c_tipstaffref05_may, C_cond_eq] <;> rfl
    by_cases h9 : k = 9
    · subst h9; simp [c_tipstaffref05_may, C_cond_eq] <;> rfl
    simp [c_tipstaffref05_may, C_cond_eq, h1, h2, h3, h4, h6, h7, h8, h9, h10] <;> rfl
end Go.Proofs.YtpannhipchnhaaaGreatDoor
namespace Go.Proofs.YtpannhipchnhaaaGreatDoor
open Go.Eng

set_option maxHeartbeats 2000000 in
theorem rone_T {w0 : World} {b o c : Nat} {xs : List Ins} (h : CodeAt w0 b o xs) (hw0 : AllWf xs) (hn : xs.length ≤ 1000000) {i : Nat} {x : Ins} (hi : xs[i]? = some x) :
    T Tryz.prog w0 48 [.slice (some ⟨b, o, none⟩) xs.length c, .int .i64 i] = some (.bool (oneOk xs i x)) := by
  have hil := (List.getElem?_eq_some_iff.1 hi).1
  have hb := h.lt (by omega)
  refine T_of (by kernel_rfl) Tryz.func48 rfl ok_tipstaffref05_one (by simp [hb]) (by simp) fun B hB => ?_
  have hx := fun l => own_extR (l := l) hB (h i x hi)
  have hxw := hw0 x (List.mem_of_getElem? hi)
  have e1 : IntKind.i64.wrap ((i : Int) + 1) = ((i + 1 : Nat) : Int) := i64w (by omega) (by omega)
  have hii : (i : Int) < xs.length := by omega
  have t1 := rOf_T w0 hxw.op
  have t2 := rmay_T w0 (partsOf x.op)
  have t6 := rargs_T w0 x.imm
  simp at t1 t2 t6
  unfold oneOk
  generalize hp : partsOf x.op = p at *
  generalize hf : namedOf p = f at *
  unfold c_tipstaffref05_one
  simp [hx, hii, t1, t2]
  have hd : decide ((10 : Int) < x.dst) = !decide (x.dst < 11) := by by_cases h : x.dst < 11 <;> simp [h] <;> omega
  have hr : decide ((10 : Int) < x.src) = !decide (x.src < 11) := by by_cases h : x.src < 11 <;> simp [h] <;> omega
  refine C_cond (t := decide (p.kind = 0) || !plainOk x f) ?_ ?_ ?_
  · obtain ⟨f1, f2, f3, f4⟩ := f
    simp [pickV_bool, Fl.arr, hd, hr, ci_eq, plainOk, Bool.or_assoc]
  · intro ht
    simp [ht]
    intro g1 g2
    simp [g1, g2] at ht
  intro ht
  have hk0 : ¬ p.kind = 0 := by intro e; simp [e] at ht
  have hpl : plainOk x f = true := by simpa [hk0] using ht
  simp [hk0, hpl]
  refine C_cond (t := decide ((p.kind = 1 ∨ p.kind = 6 ∨ p.kind = 9) ∧ x.dst = 10)) ?_ ?_ ?_
  · simp [pickV_bool, ci_eq, Bool.or_assoc]
  · intro hw
    have hw := of_decide_eq_true hw
    simp [hw]
    intro g1 g6 g9
    exact absurd hw.1 (by simp [g1, g6, g9])
  intro hw
  have hw := of_decide_eq_false hw
  have hnot : ((!decide (p.kind = 1) && (!decide (p.kind = 6) && !decide (p.kind = 9)) || !decide (x.dst = 10))) = true := by
    by_cases g : x.dst = 10
    · have : ¬ (p.kind = 1 ∨ p.kind = 6 ∨ p.kind = 9) := fun e => hw ⟨e, g⟩
      simp only [not_or] at this
      simp [this]
    · simp [g]
  simp only [hnot, Bool.true_and]
  simp
  by_cases h1 : p.kind = 1
  · refine C_yes (by simp [h1]) ?_
    simp [h1]
    refine C_cond (t := !p.reg && (decide (p.op = 3) || decide (p.op = 9)) && decide (x.imm = 0)) (by simp [pickV_bool, ci_eq]) ?_ ?_
    · intro hc
      simp only [Bool.and_eq_true, Bool.or_eq_true, Bool.not_eq_true', decide_eq_true_eq] at hc
      simp [constOk, hc]
    intro hc
    simp
    refine C_cond (t := !p.reg && (decide (p.op = 6) || decide (p.op = 7) || decide (p.op = 12)) && (decide (x.imm < 0) || decide (63 < x.imm) || !p.long && decide (31 < x.imm))) (by simp [pickV_bool, ci_eq]) ?_ ?_
    · intro hd
      simp
      unfold constOk
      simp only [Bool.and_eq_true, Bool.or_eq_true, Bool.not_eq_true', decide_eq_true_eq] at hd
      obtain ⟨⟨g1, g2⟩, g3⟩ := hd
      have n3 : ¬ (p.op = 3 ∨ p.op = 9) := by omega
      have n6 : p.op = 6 ∨ p.op = 7 ∨ p.op = 12 := by omega
      rw [if_neg (by simp [g1]), if_neg n3, if_pos n6]
      cases hlg : p.long <;> simp [hlg] at g3 ⊢ <;> omega
    · intro hd
      simp
      unfold constOk
      cases hrg : p.reg
      · by_cases n3 : p.op = 3 ∨ p.op = 9
        · rcases n3 with n3 | n3 <;> simp [n3, hrg] at hc ⊢ <;> exact hc
        · rw [if_neg (by simp), if_neg n3]
          by_cases n6 : p.op = 6 ∨ p.op = 7 ∨ p.op = 12
          · rw [if_pos n6]
            have g3 : (decide (x.imm < 0) || decide (63 < x.imm) || !p.long && decide (31 < x.imm)) = false := by
              rcases n6 with n6 | n6 | n6 <;> simpa [n6, hrg] using hd
            cases hlg : p.long <;> simp [hlg] at g3 ⊢ <;> omega
          · rw [if_neg n6]
      · simp
  refine C_no (by simp [h1]) ?_
  simp [h1]
  by_cases h4 : p.kind = 4
  · refine C_yes (by simp [h4]) ?_
    simp [h4, t6, argsOf_ok]
  refine C_no (by simp [h4]) ?_
  simp [h4]
  by_cases h8 : p.kind = 8
  · refine C_yes (by simp [h8]) ?_
    simp [h8, pickV_bool, atomOk, Bool.or_assoc]
  refine C_no (by simp [h8]) ?_
  simp [h8]
  by_cases h9 : p.kind = 9
  · refine C_yes (by simp [h9]) ?_
    unfold wideOk
    cases hy : xs[i + 1]? with
    | none =>
      have hlen : xs.length ≤ i + 1 := by simpa using hy
      have hl2 : ¬ i + 1 < xs.length := by omega
      have hlz : (xs.length : Int) ≤ ((i + 1 : Nat) : Int) := by omega
      simp [h9, C_cond_eq, e1, hlen, hl2, hlz, pickV_t, -Int.natCast_add]
    | some y =>
      have hyl := (List.getElem?_eq_some_iff.1 hy).1
      have hy' := fun l => own_extR (l := l) hB (h (i + 1) y hy)
      have hy0 : ∀ l, wcell (ownW B l) b (o + (i + 1) * 5) = some (.int .u8 y.op) := fun l => row_cell (hy' l) 0 (by omega)
      have hy4 := fun l => row_cell (hy' l) 4 (by omega)
      have hlen : ¬ xs.length ≤ i + 1 := by omega
      have hyz : (((i + 1 : Nat) : Int)) < xs.length := by omega
      have hlz : ¬ (xs.length : Int) ≤ ((i + 1 : Nat) : Int) := by omega
      have ek := rOf_T w0 (hw0 y (List.mem_of_getElem? hy)).op
      have ekk : kindOf y = (partsOf y.op).kind := rfl
      simp [Parts.arr] at ek
      simp [h9, C_cond_eq, pickV_bool, e1, hlen, hyl, hyz, hlz, hy', hy0, hy4, pickV_f, ek, ← ekk, ci_eq, ci_lt, -Int.natCast_add]
      have e34 : decide (x.imm ≤ 3) = decide (x.imm < 4) := by by_cases g : x.imm < 4 <;> simp [g] <;> omega
      split
      · rename_i g
        intro g1 g2
        rcases g with g | g
        · exact absurd g1 g
        · omega
      · rename_i g
        simp only [not_or, Classical.not_not] at g
        rw [e34, decide_eq_true g.1, decide_eq_true (show x.src ≤ 1 by omega)]
        rfl
  refine C_no (by simp [h9]) ?_
  simp [h9]
  by_cases h10 : p.kind = 10
  · refine C_yes (by simp [h10]) ?_
    cases i with
    | zero => simp [h10, C_cond_eq, pickV_bool, pickV_t, pickV_f]
    | succ j =>
      have hj : j < xs.length := by omega
      have hjj : (j : Int) < xs.length := by omega
      have hgy : xs[j]? = some xs[j] := List.getElem?_eq_getElem hj
      have hy := fun l => own_extR (l := l) hB (h j _ hgy)
      have hy0 : ∀ l, wcell (ownW B l) b (o + j * 5) = some (.int .u8 (xs[j]).op) := fun l => row_cell (hy l) 0 (by omega)
      have ek := rOf_T w0 (hw0 _ (List.mem_of_getElem? hgy)).op
      have e0 : IntKind.i64.wrap (((j + 1 : Nat) : Int) - 1) = (j : Int) := by rw [i64w (by omega) (by omega)]; omega
      have hpos : (0 : Int) < ((j + 1 : Nat) : Int) := by omega
      simp [Parts.arr] at ek
      simp only [hgy]
      generalize xs[j] = y at hgy hy hy0 ek
      have ekk : kindOf y = (partsOf y.op).kind := rfl
      simp [h10, C_cond_eq, pickV_bool, e0, hpos, hj, hjj, hy, hy0, ek, ← ekk, pickV_t, pickV_f, ci_eq, -Int.natCast_add]
  refine C_no (by simp [h10]) ?_
  simp [h10]
end Go.Proofs.YtpannhipchnhaaaGreatDoor
namespace Go.Proofs.YtpannhipchnhaaaGreatDoor
open Go.Eng

set_option maxHeartbeats 2000000 in
theorem rcheck_T {w0 : World} {b o c : Nat} {xs : List Ins} (h : CodeAt w0 b o xs) (hw : AllWf xs) (hn : xs.length ≤ 1000000) (h0 : 0 < xs.length) :
    T Tryz.prog w0 28 [.slice (some ⟨b, o, none⟩) xs.length c] = some (.tuple #[.int .i64 (checkOf xs).1, .int .i64 (checkOf xs).2]) := by
  have hb := h.lt (by omega)
  refine T_of (by kernel_rfl) Tryz.func28 rfl ok_tipstaffref05_Check (by simp [hb]) (by simp) fun B hB => ?_
  by_cases h256 : 256 < xs.length
  · have h1 : (256 : Int) < xs.length := by omega
    simp [c_tipstaffref05_Check, C_cond_eq, h1, checkOf, h256]
  have h1 : ¬ (256 : Int) < xs.length := by omega
  have h2 : ¬ xs = [] := by intro e; subst e; simp at h0
  simp [c_tipstaffref05_Check, h1, C_cond_eq, h2]
  refine C_loop (fun env l => l = [] ∧ ∃ i : Nat, i ≤ xs.length ∧ env = [.slice (some ⟨b, o, none⟩) xs.length c, undef, undef, .int .i64 i, undef, undef, undef, undef, undef, undef, undef, undef] ∧ firstBad (oneOk xs) 0 xs = firstBad (oneOk xs) i (xs.drop i)) (fun env _ => xs.length - natAt env 3) ?_ ?_
  · exact ⟨rfl, 0, by omega, by simp, by simp⟩
  rintro env l ⟨rfl, i, hi, rfl, hf⟩
  by_cases hgo : i < xs.length
  · have hgo' : (i : Int) < xs.length := by omega
    have hgi : xs[i]? = some xs[i] := List.getElem?_eq_getElem hgo
    have t := rone_T h hw hn (c := c) hgi
    have e1 : IntKind.i64.wrap ((i : Int) + 1) = ((i + 1 : Nat) : Int) := i64w (by omega) (by omega)
    rw [firstBad_at _ _ 0, hgi] at hf
    simp only at hf
    cases hb1 : oneOk xs i xs[i] with
    | false =>
      rw [hb1] at t hf
      simp [C_cond_eq, hgo', t, checkOf, h256, h2, hf]
    | true =>
      rw [hb1] at t hf
      simp [C_cond_eq, hgo', t]
      refine ⟨⟨i + 1, by omega, e1, ?_⟩, ?_⟩
      · simpa using hf
      · simp [natAt, e1]; omega
  have hil : i = xs.length := by omega
  subst hil
  have hf1 : firstBad (oneOk xs) 0 xs = none := by rw [hf]; simp [firstBad]
  clear hf hgo hi
  simp [C_cond_eq]
  refine C_loop (fun env l => l = [] ∧ ∃ i : Nat, i ≤ xs.length ∧ env = [.slice (some ⟨b, o, none⟩) xs.length c, undef, undef, undef, undef, .int .i64 i, undef, undef, undef, undef, undef, undef] ∧ firstBad (landsOk xs) 0 xs = firstBad (landsOk xs) i (xs.drop i)) (fun env _ => xs.length - natAt env 5) ?_ ?_
  · exact ⟨rfl, 0, by omega, by simp, by simp⟩
  rintro env l ⟨rfl, i, hi, rfl, hf⟩
  by_cases hgo : i < xs.length
  · have hgo' : (i : Int) < xs.length := by omega
    have hgi : xs[i]? = some xs[i] := List.getElem?_eq_getElem hgo
    have hx := fun l => own_extR (l := l) hB (h i _ hgi)
    have hxw := hw _ (List.mem_of_getElem? hgi)
    have hx0 : ∀ l, wcell (ownW B l) b (o + i * 5) = some (.int .u8 (xs[i]).op) := fun l => row_cell (hx l) 0 (by omega)
    have hx3 : ∀ l, wcell (ownW B l) b (o + i * 5 + 3) = some (.int .i16 (xs[i]).off) := fun l => row_cell (hx l) 3 (by omega)
    have ek := rOf_T w0 hxw.op
    have e1 : IntKind.i64.wrap ((i : Int) + 1) = ((i + 1 : Nat) : Int) := i64w (by omega) (by omega)
    rw [firstBad_at _ _ 0, hgi] at hf
    simp only at hf
    generalize xs[i] = x at *
    have ekk : kindOf x = (partsOf x.op).kind := rfl
    simp [Parts.arr] at ek
    have hof := hxw.off
    have e2 : IntKind.i64.wrap x.off = x.off := i64w (by omega) (by omega)
    have e3 : IntKind.i64.wrap ((i : Int) + x.off) = (i : Int) + x.off := i64w (by omega) (by omega)
    have e4 : IntKind.i64.wrap ((i : Int) + x.off + 1) = (i : Int) + x.off + 1 := i64w (by omega) (by omega)
    simp
    refine C_yes (by simp [hgo']) ?_
    simp [hgo', hx0, ek, ← ekk]
    refine C_cond (t := !(decide (kindOf x = 2) || decide (kindOf x = 3))) (by simp [pickV_bool, ci_eq]) ?_ ?_
    · intro hk
      have hl : landsOk xs i x = true := by
        simp at hk
        unfold landsOk
        rw [if_neg (by omega)]
      rw [hl] at hf
      simp [e1]
      refine ⟨⟨i + 1, by omega, rfl, ?_⟩, ?_⟩
      · simpa using hf
      · simp [natAt]; omega
    intro hk
    have hk2 : kindOf x = 2 ∨ kindOf x = 3 := by
      by_cases g : kindOf x = 2
      · exact .inl g
      · exact .inr (by simpa [g] using hk)
    have hland : landsOk xs i x = if 0 ≤ (i : Int) + x.off + 1 then (match xs[((i : Int) + x.off + 1).toNat]? with
        | some y => decide (kindOf y ≠ 10)
        | none => false) else false := by unfold landsOk; rw [if_pos hk2]; rfl
    have hret : landsOk xs i x = false → checkOf xs = ((i : Int), 22) := by
      intro g
      rw [g] at hf
      unfold checkOf
      rw [if_neg h256, if_neg (by omega), hf1]
      simp [hf]
    generalize hz : (i : Int) + x.off + 1 = z at *
    by_cases z0 : z < 0
    · have hc := hret (by rw [hland, if_neg (by omega)])
      simp [hgo, hx3, e2, e3, e4, hz, z0, C_cond_eq, pickV_t, pickV_f, pickV_bool, hc]
    by_cases zl : (xs.length : Int) ≤ z
    · have hnone : xs[z.toNat]? = none := List.getElem?_eq_none (by omega)
      have hc := hret (by rw [hland, if_pos (by omega), hnone])
      simp [hgo, hx3, e2, e3, e4, hz, z0, zl, C_cond_eq, pickV_t, pickV_f, pickV_bool, hc]
    obtain ⟨m, rfl⟩ : ∃ m : Nat, z = m := ⟨z.toNat, by omega⟩
    have hm : m < xs.length := by omega
    have hgm : xs[m]? = some xs[m] := List.getElem?_eq_getElem hm
    have hy := fun l => own_extR (l := l) hB (h m _ hgm)
    have hy0 : ∀ l, wcell (ownW B l) b (o + m * 5) = some (.int .u8 (xs[m]).op) := fun l => row_cell (hy l) 0 (by omega)
    have eky := rOf_T w0 (hw _ (List.mem_of_getElem? hgm)).op
    rw [if_pos (by omega), Int.toNat_natCast, hgm] at hland
    simp only at hland
    generalize xs[m] = y at *
    have ekky : kindOf y = (partsOf y.op).kind := rfl
    simp [Parts.arr] at eky
    have zl' : ¬ xs.length ≤ m := by omega
    by_cases h10 : kindOf y = 10
    · have hc := hret (by rw [hland]; simp [h10])
      simp [hgo, hx3, e2, e3, e4, hz, hm, zl', z0, C_cond_eq, pickV_t, pickV_f, pickV_bool, hy0, eky, ← ekky, h10, hc]
    · rw [hland, decide_eq_true h10] at hf
      simp [hgo, hx3, e2, e3, e4, hz, hm, zl', z0, C_cond_eq, pickV_t, pickV_f, pickV_bool, hy0, eky, ← ekky, h10, e1]
      refine ⟨⟨i + 1, by omega, rfl, ?_⟩, ?_⟩
      · simpa using hf
      · simp [natAt]; omega
  have hil : i = xs.length := by omega
  subst hil
  have hf2 : firstBad (landsOk xs) 0 xs = none := by rw [hf]; simp [firstBad]
  clear hf hgo hi
  have e1 : IntKind.i64.wrap ((xs.length : Int) - 1) = ((xs.length - 1 : Nat) : Int) := by rw [i64w (by omega) (by omega)]; omega
  have hgi : xs[xs.length - 1]? = some xs[xs.length - 1] := List.getElem?_eq_getElem (by omega)
  have hx := fun l => own_extR (l := l) hB (h (xs.length - 1) _ hgi)
  have hx0 : ∀ l, wcell (ownW B l) b (o + (xs.length - 1) * 5) = some (.int .u8 (xs[xs.length - 1]).op) := fun l => row_cell (hx l) 0 (by omega)
  have ek := rOf_T w0 (hw _ (List.mem_of_getElem? hgi)).op
  have hlt : ((xs.length - 1 : Nat) : Int) < xs.length := by omega
  have hlast : lastOk xs = decide (kindOf xs[xs.length - 1] = 5 ∨ kindOf xs[xs.length - 1] = 3) := by unfold lastOk; rw [hgi]
  generalize xs[xs.length - 1] = y at *
  have ekk : kindOf y = (partsOf y.op).kind := rfl
  simp [Parts.arr] at ek
  have hco : checkOf xs = if lastOk xs then (0, 0) else (((xs.length - 1 : Nat) : Int), 22) := by
    unfold checkOf
    rw [if_neg h256, if_neg (by omega), hf1, hf2]
  rw [hco, hlast]
  by_cases h5 : kindOf y = 5
  · simp [C_cond_eq, e1, hlt, hx0, ek, ← ekk, h5, pickV_t, pickV_f, pickV_bool]
  · by_cases h3 : kindOf y = 3
    · simp [C_cond_eq, e1, hlt, hx0, ek, ← ekk, h3, pickV_t, pickV_f, pickV_bool]
    · simp [C_cond_eq, e1, hlt, hx0, ek, ← ekk, h3, h5, ci_eq, pickV_t, pickV_f, pickV_bool]
end Go.Proofs.YtpannhipchnhaaaGreatDoor
namespace Go.Proofs.YtpannhipchnhaaaGreatDoor
open Go.Eng

def rstill (x : Ins) : Ins := if kindOf x = 2 ∨ kindOf x = 3 then { x with off := -1 } else x
def rOwnL (xs : List Ins) : List Ins := xs.map rstill ++ (if lastOk xs = true then [] else [exitI])
theorem kind_rstill (x : Ins) : kindOf (rstill x) = kindOf x := by unfold rstill; split <;> rfl
theorem all_one {P : Nat → Ins → Prop} {a : Ins} : (∀ (j : Nat) (z : Ins), [a][j]? = some z → P j z) ↔ P 0 a :=
  ⟨fun h => h 0 a rfl, fun h j z hz => by
    cases j with
    | zero => simp at hz; subst hz; exact h
    | succ j => simp at hz⟩
theorem all_two {P : Nat → Ins → Prop} {a b : Ins} : (∀ (j : Nat) (z : Ins), [a, b][j]? = some z → P j z) ↔ P 0 a ∧ P 1 b :=
  ⟨fun h => ⟨h 0 a rfl, h 1 b rfl⟩, fun h j z hz => by
    match j, hz with
    | 0, hz => simp at hz; subst hz; exact h.1
    | 1, hz => simp at hz; subst hz; exact h.2
    | j + 2, hz => simp at hz⟩
theorem one_list {xs ys : List Ins} {z : Ins} (h9 : kindOf z ≠ 9) : oneOk xs 0 z = oneOk ys 0 z := by
  have h : ¬ (partsOf z.op).kind = 9 := h9
  unfold oneOk
  simp [h]
theorem one_off {xs : List Ins} {x : Ins} (hk : kindOf x = 2 ∨ kindOf x = 3) (a b : Int) : oneOk xs 0 { x with off := a } = oneOk xs 0 { x with off := b } := by
  have h : (partsOf x.op).kind = 2 ∨ (partsOf x.op).kind = 3 := hk
  unfold oneOk plainOk namedOf
  rcases h with h | h <;> simp [h]
theorem exit_one (xs : List Ins) (i : Nat) : oneOk xs i exitI = true := by kernel_rfl
theorem exit_lands (xs : List Ins) (i : Nat) : landsOk xs i exitI = true := by kernel_rfl
theorem lands_no {xs : List Ins} {i : Nat} {x : Ins} (h2 : kindOf x ≠ 2) (h3 : kindOf x ≠ 3) : landsOk xs i x = true := by unfold landsOk; simp [h2, h3]
theorem rown_one (x : Ins) : decide ((checkOf (rOwnL [x])).2 = 0) = aloneOk [x] := by
  unfold aloneOk
  by_cases h235 : kindOf x = 2 ∨ kindOf x = 3 ∨ kindOf x = 5
  · congr 1
    rw [checkOf_ok, checkOf_ok]
    have h9 : kindOf x ≠ 9 := by omega
    have h10 : kindOf x ≠ 10 := by omega
    have hs9 : kindOf (still x) ≠ 9 := by rw [kind_still]; exact h9
    have hr9 : kindOf (rstill x) ≠ 9 := by rw [kind_rstill]; exact h9
    have eo : ownOf [x] ++ [exitI] = [still x, exitI] := by simp [ownOf]
    have hone : oneOk [] 0 (rstill x) = oneOk [] 0 (still x) := by
      by_cases h : kindOf x = 2 ∨ kindOf x = 3
      · have e1 : rstill x = { x with off := -1 } := by unfold rstill; rw [if_pos h]
        have e2 : still x = { x with off := 0 } := by unfold still; rw [if_pos h]
        rw [e1, e2]
        exact one_off h _ _
      · have e1 : rstill x = x := by unfold rstill; rw [if_neg h]
        have e2 : still x = x := by unfold still; rw [if_neg h]
        rw [e1, e2]
    have hls : landsOk [still x, exitI] 0 (still x) = true := by
      by_cases h : kindOf x = 2 ∨ kindOf x = 3
      · have e2 : still x = { x with off := 0 } := by unfold still; rw [if_pos h]
        unfold landsOk
        rw [if_pos (by rw [kind_still]; exact h), e2]
        simp [kind_exit]
      · simp only [not_or] at h
        exact lands_no (by rw [kind_still]; exact h.1) (by rw [kind_still]; exact h.2)
    have hlr : ∀ r, landsOk (rstill x :: r) 0 (rstill x) = true := by
      intro r
      by_cases h : kindOf x = 2 ∨ kindOf x = 3
      · have e1 : rstill x = { x with off := -1 } := by unfold rstill; rw [if_pos h]
        have e3 : (rstill x).off = -1 := by rw [e1]
        unfold landsOk
        rw [if_pos (by rw [kind_rstill]; exact h), e3]
        simp [kind_rstill, h10]
      · simp only [not_or] at h
        exact lands_no (by rw [kind_rstill]; exact h.1) (by rw [kind_rstill]; exact h.2)
    have hL1 : lastOk [still x, exitI] = true := by unfold lastOk; simp [kind_exit]
    rw [eo, all_two, all_two]
    by_cases hl : kindOf x = 5 ∨ kindOf x = 3
    · have el : lastOk [x] = true := by unfold lastOk; simp [hl]
      have el' : lastOk [rstill x] = true := by unfold lastOk; simp [kind_rstill, hl]
      have er : rOwnL [x] = [rstill x] := by unfold rOwnL; rw [el]; simp
      rw [er, all_one, all_one, one_list (ys := []) hr9, one_list (ys := []) hs9, hone, hls, hlr, hL1, exit_one, exit_lands, el']
      simp
    · have el : lastOk [x] = false := by unfold lastOk; simpa using hl
      have er : rOwnL [x] = [rstill x, exitI] := by unfold rOwnL; rw [el]; simp
      have el' : lastOk [rstill x, exitI] = true := by unfold lastOk; simp [kind_exit]
      rw [er, all_two, all_two, one_list (ys := []) hr9, one_list (ys := []) hs9, hone, hls, hlr, hL1, exit_one, exit_one, exit_lands, exit_lands, el']
      simp
  · simp only [not_or] at h235
    obtain ⟨h2, h3, h5⟩ := h235
    have e : rOwnL [x] = ownOf [x] ++ [exitI] := by
      unfold rOwnL
      have hl : lastOk [x] = false := by unfold lastOk; simp [h3, h5]
      rw [hl]
      simp [rstill, h2, h3, ownOf, still]
    rw [e]
theorem rown_two {x y : Ins} (h9 : kindOf x = 9) (h10 : kindOf y = 10) : decide ((checkOf (rOwnL [x, y])).2 = 0) = aloneOk [x, y] := by
  unfold aloneOk
  have e : rOwnL [x, y] = ownOf [x, y] ++ [exitI] := by
    unfold rOwnL
    have hl : lastOk [x, y] = false := by unfold lastOk; simp [h10]
    rw [hl]
    simp [rstill, h9, h10, ownOf, still]
  rw [e]
end Go.Proofs.YtpannhipchnhaaaGreatDoor
namespace Go.Proofs.YtpannhipchnhaaaGreatDoor
open Go.Eng

def rOwnB (xs : List Ins) : Bool := decide ((checkOf (rOwnL xs)).2 = 0)
theorem set_cells (A : List Ins) (x : Ins) (B : List Ins) (n : Nat) (hn : A.length = n) : (insCells (A ++ x :: B)).set (n * 5 + 3) (.int .i16 (-1)) = insCells (A ++ { x with off := -1 } :: B) := by
  rw [insCells_append, insCells_append, insCells_cons, insCells_cons]
  rw [List.set_append_right _ _ (by rw [insCells_len]; omega), insCells_len, hn, Nat.add_sub_cancel_left]
  rfl
set_option maxHeartbeats 1000000 in
theorem rown_ret {b o c : Nat} {xs : List Ins} (w : World) (h : CodeAt w b o xs) (hw : AllWf xs) (h0 : 0 < xs.length) (hn : xs.length ≤ 200) (hc : xs.length ≤ c) :
    Ret Tryz.prog 17 [.slice (some ⟨b, o, none⟩) xs.length c] w fun v w' => v = .bool (rOwnB xs) ∧ Kept none' w w' := by
  refine ret_of_W Tryz.func17 rfl ok_tipstaffref23_Own ?_
  have hz : ¬ xs = [] := by intro e; subst e; simp at h0
  have hb : ¬ (256 : Int) < xs.length := by omega
  simp only [c_tipstaffref23_Own, W_seq, W_set]
  refine ok_intro (.bool false) (by simp) ?_
  try simp only [W_seq]
  refine W_no (by simp [hz, hb]) ?_
  simp only [W_skip, W_seq]
  refine W_row' (v := .agg #[]) (cs := #[]) (by simp) rfl ?_
  have hk1 : Kept none' w (w.alloc (.cells #[] 39)) := (Kept.refl _ _).alloc _
  have hr1 : InsRow (w.alloc (.cells #[] 39)) (.slice (some ⟨w.heap.size, 0, none⟩) 0 0) [] := ⟨by simp [insCells], .inr ⟨w.heap.size, 0, #[], rfl, by omega, hp_new w _, by simp, by unfold maxLen; omega, by simp, by simp [insCells]⟩⟩
  obtain ⟨v', w5, hrun, hrow, hk5, hat⟩ := ins_append (c := c) hr1 (by simp; omega) (h.calm hk1)
  simp only [W_seq]
  refine W_bi (by simp) hrun (stab_nil _ _ _) ?_
  have hown5 : ∀ j, v'.ownBlock = some j → w.heap.size ≤ j := by
    intro j hj
    rcases hat with e | e <;> rw [e] at hj
    · simp [Value.ownBlock] at hj; omega
    · simp at hj; omega
  have hk05 : Kept none' w w5 := hk1.then hk5 fun i hi h => by simp [Value.ownBlock] at h; omega
  rw [List.nil_append] at hrow
  obtain ⟨g, c5, rfl, hc5, hog, hcode5⟩ := InsRow.code hrow (by omega)
  have hg := hown5 g hog
  simp only [W_set]
  refine ok_intro (.slice (some ⟨g, 0, none⟩) xs.length c5) (by simp) ?_
  try simp only [W_seq, W_set, W_block]
  refine ok_intro (.int .i64 0) (by simp) ?_
  try simp only [W_seq, W_block]
  refine W_loop (fun env w' => Kept none' w w' ∧ ∃ i : Nat, i ≤ xs.length ∧ env = [undef, undef, undef, undef, .slice (some ⟨g, 0, none⟩) xs.length c5, .int .i64 i, undef, undef, undef, undef, undef, undef, undef, undef, undef, undef, undef, undef, undef, undef, undef] ∧ InsRow w' (.slice (some ⟨g, 0, none⟩) xs.length c5) ((xs.take i).map rstill ++ xs.drop i)) (fun env _ => xs.length - natAt env 5) ?_ ?_
  · refine ⟨hk05, 0, by omega, by simp, by simpa using hrow⟩
  rintro env w6 ⟨hk6, i, hi, rfl, hrow6⟩
  have hlen : ((xs.take i).map rstill ++ xs.drop i).length = xs.length := by rw [List.length_append, List.length_map, List.length_take, List.length_drop]; omega
  obtain ⟨g', c', he, hc', _, hcode6⟩ := InsRow.code hrow6 (by omega)
  rw [hlen] at he
  simp at he
  obtain ⟨rfl, _, rfl⟩ := he
  by_cases hgo : i < xs.length
  · have hgo' : (i : Int) < xs.length := by omega
    have hgi : xs[i]? = some xs[i] := List.getElem?_eq_getElem hgo
    have hd : xs.drop i = xs[i] :: xs.drop (i + 1) := List.drop_eq_getElem_cons hgo
    have hml : ((xs.take i).map rstill).length = i := by rw [List.length_map, List.length_take]; omega
    have hx := hcode6 i xs[i] (by rw [List.getElem?_append_right (by omega), hml, Nat.sub_self, hd]; rfl)
    have hx0 : wcell w6 g (i * 5) = some (.int .u8 (xs[i]).op) := by have := row_cell hx 0 (by omega); rw [Nat.zero_add, Nat.add_zero] at this; exact this
    have ek := rOf_T w6 (hw _ (List.mem_of_getElem? hgi)).op
    have e1 : IntKind.i64.wrap ((i : Int) + 1) = ((i + 1 : Nat) : Int) := i64w (by omega) (by omega)
    rw [hd] at hrow6
    generalize hxi : xs[i] = x at *
    simp only [W_seq]
    refine W_yes (by simp [hgo']) ?_
    simp only [W_skip, W_seq, W_block]
    refine W_calm (by simp [hgo', hgo, hx0]) (ret_of_T ek) ?_
    intro w7 hk7
    have hrow7 := rowCalm hrow6 hk7
    have hk07 := hk6.trans hk7
    have hnext : (xs.take (i + 1)).map rstill ++ xs.drop (i + 1) = (xs.take i).map rstill ++ rstill x :: xs.drop (i + 1) := by
      rw [List.take_add_one, hgi, List.map_append]; simp [hxi]
    simp only [W_set, W_seq]
    refine ok_intro (.int .i64 (kindOf x)) (by simp [Parts.arr]; rfl) ?_
    refine W_cond (t := decide (kindOf x = 2) || decide (kindOf x = 3)) (by simp [pickV_bool]) ?_ ?_
    · intro hj
      have hj2 : kindOf x = 2 ∨ kindOf x = 3 := by simpa using hj
      have hlen' : ((xs.take i).map rstill ++ x :: xs.drop (i + 1)).length = xs.length := by rw [← hd]; exact hlen
      have hrow7' : Row 39 5 w7 (.slice (some ⟨g, 0, none⟩) xs.length c5) xs.length (insCells ((xs.take i).map rstill ++ x :: xs.drop (i + 1))) := by
        have := hrow7
        unfold InsRow at this
        rw [hlen'] at this
        exact this
      obtain ⟨w8, hst, hrow8, hk8⟩ := row_store (j := i * 5 + 3) (x := .int .i16 (-1)) hrow7' (by omega) rfl rfl
      have hrs : rstill x = { x with off := -1 } := by unfold rstill; rw [if_pos hj2]
      rw [set_cells _ _ _ _ hml, ← hrs, ← hnext] at hrow8
      refine W_store (by simp [hgo', hgo]) (by simp) hst (stab_nil _ _ _) ?_
      have hk08 : Kept none' w w8 := hk07.then hk8 fun i hi h => by omega
      have hlen2 : ((xs.take (i + 1)).map rstill ++ xs.drop (i + 1)).length = xs.length := by rw [List.length_append, List.length_map, List.length_take, List.length_drop]; omega
      have hrow8' : InsRow w8 (.slice (some ⟨g, 0, none⟩) xs.length c5) ((xs.take (i + 1)).map rstill ++ xs.drop (i + 1)) := by
        unfold InsRow
        rw [hlen2]
        exact hrow8
      simp [e1, -Int.natCast_add, -List.map_take]
      exact ⟨⟨hk08, i + 1, by omega, rfl, hrow8'⟩, by simp [natAt]; omega⟩
    · intro hj
      have hrs : rstill x = x := by simp at hj; unfold rstill; rw [if_neg (by omega)]
      rw [hrs] at hnext
      rw [← hnext] at hrow7
      simp [e1, -Int.natCast_add, -List.map_take]
      exact ⟨⟨hk07, i + 1, by omega, rfl, hrow7⟩, by simp [natAt]; omega⟩
  have hil : i = xs.length := by omega
  subst hil
  rw [List.take_length, List.drop_length, List.append_nil] at hrow6 hcode6 hlen
  simp only [W_seq]
  refine W_no (by simp) ?_
  have hlast : (xs.map rstill)[xs.length - 1]? = some (rstill xs[xs.length - 1]) := by rw [List.getElem?_map, List.getElem?_eq_getElem (by omega)]; rfl
  have hx := hcode6 (xs.length - 1) _ hlast
  have hx0 : wcell w6 g ((xs.length - 1) * 5) = some (.int .u8 (rstill xs[xs.length - 1]).op) := by have := row_cell hx 0 (by omega); rw [Nat.zero_add, Nat.add_zero] at this; exact this
  have e1 : IntKind.i64.wrap ((xs.length : Int) - 1) = ((xs.length - 1 : Nat) : Int) := by rw [i64w (by omega) (by omega)]; omega
  have hyw := hw xs[xs.length - 1] (List.getElem_mem _)
  have hlo : lastOk xs = decide (kindOf xs[xs.length - 1] = 5 ∨ kindOf xs[xs.length - 1] = 3) := by unfold lastOk; rw [List.getElem?_eq_getElem (by omega)]
  generalize xs[xs.length - 1] = y at *
  have hop : (rstill y).op = y.op := by unfold rstill; split <;> rfl
  rw [hop] at hx0
  have ek := rOf_T w6 hyw.op
  have hlt : ((xs.length - 1 : Nat) : Int) < xs.length := by omega
  have hlt' : xs.length - 1 < xs.length := by omega
  have hm : (xs.map rstill).length = xs.length := by simp
  have hrow6' : InsRow w6 (.slice (some ⟨g, 0, none⟩) xs.length c5) (xs.map rstill) := hrow6
  simp
  refine W_calm (by simp [e1, hlt, hlt', hx0]) (ret_of_T ek) ?_
  intro w7 hk7
  have hk07 := hk6.trans hk7
  have hrow7 := rowCalm hrow6' hk7
  simp only [W_set, W_seq]
  refine ok_intro (.int .i64 (kindOf y)) (by simp [Parts.arr]; rfl) ?_
  refine W_cut (fun env w' => Kept none' w w' ∧ ∃ (v4 x5 x6 x7 x8 x9 x10 x11 : Value), env = [undef, undef, undef, undef, v4, x5, x6, x7, x8, x9, x10, x11, undef, undef, undef, undef, undef, undef, undef, undef, undef] ∧ InsRow w' v4 (rOwnL xs)) ?_ ?_
  · refine W_cond (t := !(decide (kindOf y = 3) || decide (kindOf y = 5))) (by simp [pickV_bool, ci_eq]) ?_ ?_
    · intro hj
      have hl0 : lastOk xs = false := by rw [hlo]; simp at hj; simp [hj]
      have er : rOwnL xs = xs.map rstill ++ [exitI] := by unfold rOwnL; rw [hl0]; simp
      simp only [W_seq]
      refine W_chkIn [.agg exitI.arr, .slice (some ⟨g, 0, none⟩) xs.length c5] (by simp; rfl) ?_
      simp only [W_seq]
      refine W_row' (v := .agg exitI.arr) (cs := exitI.arr) (by simp; rfl) rfl ?_
      have hcode : CodeAt (w7.alloc (.cells exitI.arr 39)) w7.heap.size 0 [exitI] := by
        intro i y hy
        cases i with
        | zero => simp at hy; subst hy; simp
        | succ i => simp at hy
      have hka : Kept none' w7 (w7.alloc (.cells exitI.arr 39)) := (Kept.refl _ _).alloc _
      obtain ⟨v8, w8, hrun, hrow8, hk8, hat8⟩ := ins_append (c := 1) (rowCalm hrow7 hka) (by simp; omega) hcode
      simp only [W_seq]
      refine W_bi (by simp) hrun (stab_nil _ _ _) ?_
      have hv8 := rowVar hrow8
      simp [hv8]
      exact ⟨(hk07.trans hka).then hk8 fun i hi h => by simp [Value.ownBlock] at h; omega, by rw [er]; exact hrow8⟩
    · intro hj
      have hl0 : lastOk xs = true := by rw [hlo]; simp at hj ⊢; omega
      have er : rOwnL xs = xs.map rstill := by unfold rOwnL; rw [hl0]; simp
      simp
      exact ⟨hk07, by rw [er]; exact hrow7⟩
  rintro env w8 ⟨hk8, v4, x5, x6, x7, x8, x9, x10, x11, rfl, hrow8⟩
  have hol : (rOwnL xs).length ≤ 201 ∧ 0 < (rOwnL xs).length := by
    unfold rOwnL
    split <;> simp <;> omega
  have how : AllWf (rOwnL xs) := by
    intro z hz
    unfold rOwnL at hz
    rw [List.mem_append, List.mem_map] at hz
    rcases hz with ⟨a, ha, rfl⟩ | hz
    · have := hw a ha
      unfold rstill
      split
      · exact ⟨this.op, this.dst, this.src, ⟨by show (-32768 : Int) ≤ -1; decide, by show (-1 : Int) ≤ 32767; decide⟩, this.imm⟩
      · exact this
    · split at hz
      · simp at hz
      · simp at hz; subst hz; exact exit_wf
  obtain ⟨g8, c8, rfl, hc8, _, hcode8⟩ := InsRow.code hrow8 hol.2
  have hch := rcheck_T (c := c8) hcode8 how (by omega) hol.2
  unfold rOwnB
  generalize (rOwnL xs).length = m at *
  generalize checkOf (rOwnL xs) = r at *
  have hm8 : ¬ (256 : Int) < m := by omega
  simp only [W_seq]
  refine W_no (by simp [hm8]) ?_
  simp only [W_skip, W_seq]
  refine W_calm (by simp) (ret_of_T hch) ?_
  intro w9 hk9
  simp
  exact hk8.trans hk9
theorem rown_T {w0 : World} {b o c : Nat} {xs : List Ins} (h : CodeAt w0 b o xs) (hw : AllWf xs) (h0 : 0 < xs.length) (hn : xs.length ≤ 200) (hc : xs.length ≤ c) :
    T Tryz.prog w0 17 [.slice (some ⟨b, o, none⟩) xs.length c] = some (.bool (rOwnB xs)) :=
  T_of_ret (by kernel_rfl) (by simp [h.lt h0]) (by simp) fun w hk => rown_ret w (h.calm hk) hw h0 hn hc
end Go.Proofs.YtpannhipchnhaaaGreatDoor
