/- BmapPrefix: the walk. -/
import Derived.Test.YtihaopoehhnbkaaBmR
import Derived.Test.YtihaopoehhnbkaaFlagsW
import Derived.Test.YtihaopoehhnbkaaCmdsPfx
set_option linter.unusedSimpArgs false
set_option linter.unusedVariables false
set_option maxRecDepth 8000
namespace Go.Proofs.Ytihaopoehhnbkaa
open Go.Eng

def pk (n c : Nat) : List Nat := [n, 0, 0, 0, c]
theorem pk_le {n c : Nat} (hn : n ≤ 255) (hc : c ≤ 255) : ∀ x ∈ pk n c, x ≤ 255 := by
  intro x hx
  simp [pk] at hx
  omega
theorem cnt_pk {n c : Nat} (hn : n ≤ 255) (hc : c ≤ 255) : cnt (bs (pk n c)) = n := by
  have h := nb_bs (pk_le hn hc)
  unfold cnt
  simp only [leN, nbk, h]
  simp [pk]
theorem left8_small {n : Nat} (hn : n ≤ 8) : left8 n 0 = n := by unfold left8; omega
theorem maskl_pk {n c : Nat} (hn : n ≤ 8) (m : Nat) : maskl (pk m c) n = pk m (maskb c n) := by
  simp [maskl, pk, maskI, left8_small hn]
theorem name_pk {M : BMap} (h5 : M.ty = 5) {n c : Nat} (hn : n ≤ 8) (hc : c ≤ 255) : name M (bs (pk n c)) = bs (pk n (maskb c n)) := by
  simp only [name, h5, if_true, maskk, cnt_pk (n := n) (c := c) (by omega) hc, nb_bs (pk_le (n := n) (c := c) (by omega) hc), maskl_pk hn]
theorem pk_inj {n c m d : Nat} (hn : n ≤ 255) (hc : c ≤ 255) (hm : m ≤ 255) (hd : d ≤ 255) (h : bs (pk n c) = bs (pk m d)) : n = m ∧ c = d := by
  have := bs_inj (pk_le hn hc) (pk_le hm hd) h
  simpa [pk] using this
theorem maskb_inj (c d l : Nat) : maskb c l = maskb d l ↔ c / 2 ^ (8 - l) = d / 2 ^ (8 - l) := by
  unfold maskb
  have hp : 0 < 2 ^ (8 - l) := Nat.pow_pos (by omega)
  constructor
  · intro h; exact Nat.eq_of_mul_eq_mul_right hp h
  · intro h; rw [h]
theorem maskb_le' {c l : Nat} (hc : c ≤ 255) : maskb c l ≤ 255 := Nat.le_trans (maskb_le c l) hc

structure PfSt (w0 w : World) (b p : Nat) (c : Nat) (t : Nat → Bool) (M : BMap) (k : Nat) : Prop where
  mp : Mp w0 w b M
  ty : M.ty = 5
  ks : M.ks = 5
  vs : M.vs = 1
  cap : M.cap = 9
  fr : M.frozen = false
  blk : w.heap[p]? = some (.cells (bools 9 t) 71 (0, 0))
  low : w0.heap.size ≤ p
  is : ∀ e ∈ M.l, ∃ n : Nat, n ≤ 8 ∧ t n = true ∧ e.key = bs (pk n (maskb c n)) ∧ e.val 0 = n
  has : ∀ n : Nat, n ≤ 8 → t n = true → ∃ e ∈ M.l, e.key = bs (pk n (maskb c n))
  clock : M.clock ≤ k
  few : M.l.length ≤ k

theorem PfSt.calm {w0 w w' : World} {b p c : Nat} {t : Nat → Bool} {M : BMap} {k : Nat} (h : PfSt w0 w b p c t M k) (hk : Kept none' w w') : PfSt w0 w' b p c t M k :=
  ⟨h.mp.calm hk, h.ty, h.ks, h.vs, h.cap, h.fr, hk.has h.blk (fun h => h), h.low, h.is, h.has, h.clock, h.few⟩

theorem PfSt.out {w0 w : World} {b p c : Nat} {t : Nat → Bool} {M : BMap} {k : Nat} (h : PfSt w0 w b p c t M k) : ¬ M.own b p := by
  have hm := h.mp.map
  rintro (rfl | ho | ⟨e, he, rfl | rfl | rfl⟩)
  · exact heap_ne h.blk hm.blk (by decide) rfl
  · rcases hm.row with ⟨hL, _⟩ | ⟨g, cap, cur, hL, hg, _⟩
    · rw [hL] at ho; simp [Value.ownBlock] at ho
    · rw [hL] at ho
      simp [Value.ownBlock] at ho
      subst ho
      exact heap_ne h.blk hg (by decide) rfl
  · exact heap_ne h.blk (hm.ents e he).ent (by decide) rfl
  · obtain ⟨c, _, hc⟩ := (hm.ents e he).cell
    exact heap_ne h.blk hc (by decide) rfl
  · obtain ⟨c, hc, _⟩ := (hm.ents e he).val
    exact heap_ne h.blk hc (by decide) rfl

/-- The greatest of the lengths below j that are there and fit; -1. -/
def wantP (t : Nat → Bool) (c d : Nat) : Nat → Int
  | 0 => -1
  | j + 1 => if t j = true ∧ c / 2 ^ (8 - j) = d / 2 ^ (8 - j) then j else wantP t c d j
theorem wantP_lt (t : Nat → Bool) (c d : Nat) : ∀ j, wantP t c d j < j
  | 0 => by simp [wantP]
  | j + 1 => by
    have := wantP_lt t c d j
    unfold wantP
    split <;> omega
theorem wantP_ge (t : Nat → Bool) (c d : Nat) : ∀ j n, n < j → t n = true ∧ c / 2 ^ (8 - n) = d / 2 ^ (8 - n) → (n : Int) ≤ wantP t c d j
  | 0, n, h, _ => by omega
  | j + 1, n, h, hn => by
    unfold wantP
    split
    · omega
    · rename_i hj
      have : n ≠ j := by rintro rfl; exact hj hn
      exact wantP_ge t c d j n (by omega) hn
theorem wantP_is (t : Nat → Bool) (c d : Nat) : ∀ j, wantP t c d j = -1 ∨ ∃ n : Nat, n < j ∧ wantP t c d j = n ∧ t n = true ∧ c / 2 ^ (8 - n) = d / 2 ^ (8 - n)
  | 0 => .inl rfl
  | j + 1 => by
    unfold wantP
    split
    · rename_i h
      exact .inr ⟨j, by omega, rfl, h⟩
    · rcases wantP_is t c d j with h | ⟨n, h1, h2⟩
      · exact .inl h
      · exact .inr ⟨n, by omega, h2⟩

theorem keyP_row {w : World} {g cap : Nat} {m : List Nat} {cs : Array Value} {T : TypeId} (h : w.heap[g]? = some (.cells cs T (0, 0))) (hle : ∀ x ∈ m, x ≤ 255) (hc : m.length ≤ cap) (hcs : cs = (m.map fun (x : Nat) => Value.int .u8 (x : Int)).toArray) :
    KeyP w (.slice (some ⟨g, 0, none⟩) m.length cap) (bs m) :=
  KeyP.of hle hc fun j x hj => by
    rw [wcell_of h, hcs, Nat.zero_add]
    simp [hj]

theorem fits_pk {n d c : Nat} {e : BEnt} {m : Nat} (hn : n ≤ 8) (hm : m ≤ 255) (hc : c ≤ 255) (hd : d ≤ 255) (he : e.key = bs (pk n (maskb c n))) (hnm : n ≤ m) : Fits (bs (pk m d)) e ↔ c / 2 ^ (8 - n) = d / 2 ^ (8 - n) := by
  have h1 : cnt e.key = n := by rw [he]; exact cnt_pk (by omega) (maskb_le' hc)
  unfold Fits
  rw [h1, cnt_pk hm hd, nb_bs (pk_le hm hd), maskl_pk hn, he, nb_bs (pk_le (by omega) (maskb_le' hc))]
  constructor
  · rintro ⟨_, h⟩
    have := bs_inj (m := [maskb d n]) (l := [maskb c n]) (by simpa using maskb_le' hd) (by simpa using maskb_le' hc) (by simpa [pk] using h)
    simp at this
    exact ((maskb_inj _ _ _).1 this).symm
  · intro h
    refine ⟨by omega, ?_⟩
    have := (maskb_inj _ _ _).2 h
    simp [pk, this]

theorem shr_u8 (c j : Nat) (hj : j ≤ 8) : (c : Int).fdiv (2 ^ min ((8 : Int) - j).toNat IntKind.u8.bits) = ((c / 2 ^ (8 - j) : Nat) : Int) := by
  have e1 : min ((8 : Int) - j).toNat IntKind.u8.bits = 8 - j := by
    have : IntKind.u8.bits = 8 := rfl
    omega
  rw [e1, show (2 : Int) ^ (8 - j) = ((2 ^ (8 - j) : Nat) : Int) from by simp]
  exact (Int.ofNat_fdiv c _).symm

theorem W_row' {P : Program} {R : Eng.Env → World → Prop} {k : List It} {env : Eng.Env} {w : World} {dst : Option Nat} {T : TypeId} {n : Nat} {e : Ex} {st : List Ex} {v : Value} {cs : Array Value} (he : e.ev env w = some v) (hc : v.cells = cs)
    (h : W P R k (setO dst env (.slice (some ⟨w.heap.size, 0, none⟩) n n)) (w.alloc (.cells cs T))) : W P R (.c (.row dst T n e st) :: k) env w := by
  rw [W_row, he, Ok_some, hc]
  exact h
theorem row5 (z0 z1 z2 z3 z4 a0 a1 a2 a3 a4 : Value) : (((((#[z0, z1, z2, z3, z4] : Array Value).setIfInBounds 0 a0).setIfInBounds 1 a1).setIfInBounds 2 a2).setIfInBounds 3 a3).setIfInBounds 4 a4 = #[a0, a1, a2, a3, a4] := by simp
theorem rep5 (z : Value) : Array.replicate 5 z = #[z, z, z, z, z] := rfl
def bcells (m : List Nat) : Array Value := (m.map fun (x : Nat) => Value.int .u8 (x : Int)).toArray
theorem keyP_new (w : World) (m : List Nat) (hle : ∀ x ∈ m, x ≤ 255) : KeyP (w.alloc (.cells (bcells m) 5)) (.slice (some ⟨w.heap.size, 0, none⟩) m.length m.length) (bs m) :=
  keyP_row (hp_new w _) hle (Nat.le_refl _) rfl

set_option maxHeartbeats 4000000 in
theorem prefix_ret (v0 : Value) (xs : List Int) (c d : Nat) (w : World) (h0 : Ints w v0 xs) (hc : c ≤ 255) (hd : d ≤ 255) : Ret Try.prog 7 [v0, .int .u8 c, .int .u8 d] w fun v w' => v = .bool true ∧ Kept none' w w' := by
  refine ret_of_W Try.func7 rfl ok_tipstafflaw09_BmapPrefix ?_
  obtain ⟨ra, rn, rc, rfl, hrn, hrmax, hrow⟩ := h0
  simp [c_tipstafflaw09_BmapPrefix, bools_new]
  refine W_call0 (by simp; rfl) (newmap_ret 5 5 1 9 w (by unfold specOk; omega) (by decide)) ?_
  rintro v w1 ⟨b, rfl, hb, hk1, hm1⟩
  simp
  refine W_call0 (by simp) (maps_ret w1) ?_
  rintro v w2 ⟨rfl, hk2⟩
  simp
  refine W_no (by simp) ?_
  simp
  have hMp2 : Mp w w2 b (newM 5 5 1 9) := ⟨hk1.trans hk2, hm1.calm hk2, fun i hi => by
      rcases hi with rfl | hi | ⟨e, he, _⟩
      · exact hb
      · simp [newM, Value.ownBlock] at hi
      · simp [newM] at he⟩
  have hblk := hp_new w2 (.cells (bools 9 (fun _ => false)) 71)
  have hMp3 := hMp2.calm ((Kept.refl none' w2).alloc (.cells (bools 9 (fun _ => false)) 71))
  have hs2 := hMp2.kept.size
  have hSt : PfSt w (w2.alloc (.cells (bools 9 (fun _ => false)) 71)) b w2.heap.size c (fun _ => false) (newM 5 5 1 9) 0 :=
    ⟨hMp3, rfl, rfl, rfl, rfl, rfl, hblk, hs2, fun k hk => by simp [newM] at hk, fun n _ h => by simp at h, by simp [newM], by simp [newM]⟩
  generalize w2.alloc (.cells (bools 9 (fun _ => false)) 71) = w3 at hSt ⊢
  generalize w2.heap.size = p at hSt ⊢
  refine W_loop (fun env w' => ∃ (i : Nat) (t : Nat → Bool) (M : BMap), env = [.slice ra rn rc, .int .u8 c, .int .u8 d, undef, undef, .pointer (some ⟨b, 0, none⟩), undef, undef, .pointer (some ⟨p, 0, none⟩), .int .i64 i, undef, undef, undef, undef, undef, undef, undef, undef, undef, undef, undef, undef, undef, undef] ∧
      i ≤ 9 ∧ PfSt w w' b p c t M i) (fun env _ => 9 - natAt env 9) ?_ ?_
  · exact ⟨0, _, newM 5 5 1 9, by simp, by omega, hSt⟩
  rintro env w4 ⟨i, t, M, rfl, hi, hS⟩
  by_cases hgo : i < rn ∧ i < 9
  · simp
    refine W_yes (by simp; omega) ?_
    obtain ⟨rb, ro, rfl, hcells⟩ := hrow.resolve_left (by omega)
    have hx := wcell_kept hS.mp.kept (fun h => h) (hcells i hgo.1)
    generalize xs.getD i 0 = x at hx
    obtain ⟨k, hk9, hk, hkw⟩ := mod_small x 9 (by omega) (by omega)
    have ek : IntKind.u8.wrap (k : Int) = k := u8w (by omega) (by omega)
    have hk8 : k ≤ 8 := by omega
    simp only [W_skip, W_seq, W_block, W_set]
    refine ok_intro (.int .u8 k) (by simp [hgo.1, hx, hk, ek]) ?_
    simp only [W_chk]
    refine ok_intro [.pointer (some ⟨b, 0, none⟩)] (by simp) ?_
    simp only [W_seq]
    refine W_row' (cs := bcells (pk k c)) (v := .agg (bcells (pk k c))) (by simp [rep5, bcells, pk]) (by simp) ?_
    have hkeyA := keyP_new w4 (pk k c) (pk_le (by omega) hc)
    have hkA : Kept none' w4 (w4.alloc (.cells (bcells (pk k c)) 5)) := (Kept.refl _ _).alloc _
    have hsA : (w4.alloc (.cells (bcells (pk k c)) 5)).heap.size = w4.heap.size + 1 := by simp
    generalize w4.alloc (.cells (bcells (pk k c)) 5) = w5 at hkeyA hkA hsA ⊢
    simp only [W_seq]
    refine W_row' (cs := #[.int .u8 k]) (v := .agg #[.int .u8 k]) (by simp) (by simp) ?_
    have hpB := hp_new w5 (.cells #[.int .u8 k] 5)
    have hkB : Kept none' w5 (w5.alloc (.cells #[.int .u8 k] 5)) := (Kept.refl _ _).alloc _
    have hsB : (w5.alloc (.cells #[.int .u8 k] 5)).heap.size = w5.heap.size + 1 := by simp
    generalize w5.alloc (.cells #[.int .u8 k] 5) = w6 at hpB hkB hsB ⊢
    have hkey := hkeyA.calm hkB
    have hS6 := (hS.calm hkA).calm hkB
    have hown4 : ∀ j, M.own b j → j < w4.heap.size := fun j hj => hS.mp.lt hj
    have hck := hS.clock
    have hfew := hS.few
    have hvs := hS.vs
    have hcapM := hS.cap
    have hnm := name_pk (M := M) hS.ty hk8 hc
    have hup := gupdate_ret b M _ (bs (pk k c)) w5.heap.size 0 1 (fun _ => (k : Int)) w6 hS6.mp.map hkey hS.ty (by rw [hS.ks]; rfl) (by simp [pk]) (by simp [pk]) (by rw [cnt_pk (by omega) hc]; simp [pk]; omega)
      (by omega) hS.fr (by omega) (fun _ => by omega) (by omega) (by omega) (fun j hj => by
        have : j = 0 := by omega
        subst this; rw [wcell_of hpB]; rfl) (fun j => by omega) ⟨by omega, fun ho => by have := hown4 _ ho; omega⟩
    rw [hvs] at hup
    refine W_call0 (by simp [pk]) hup ?_
    clear hup
    have e2 : IntKind.i64.wrap ((i : Int) + 1) = ((i + 1 : Nat) : Int) := i64w (by omega) (by omega)
    have hbk9 : k < 9 := by omega
    have hkI : (k : Int) < 9 := hk9
    have hlow := hS.low
    have hout := hS6.out
    have hcomp : ∀ j : Nat, j = k ∨ ¬ j = k := fun j => by omega
    rintro v w7 ⟨rfl, hk7, hupd⟩
    simp
    refine W_no (by simp) ?_
    simp
    have hblk7 := hk7.has hS6.blk hout
    have hst : stv w7 1 (.pointer (some ⟨p, k, none⟩)) (.bool true) = some (put w7 p (.cells (bools 9 (fset t k true)) 71 (0, 0))) := by
      rw [stv_of (n := 1) (v := .bool true) hblk7 rfl (by rw [bools_size]; omega) (.inl (by simp)) (by simp [Value.oneCell'])]
      simp [bools_set _ _ _ _ hbk9]
    refine W_store (by simp [hbk9, hkI]) (by simp) hst (stab_nil _ _ _) ?_
    have hk10 : Kept (fun j => j = p) w7 (put w7 p (.cells (bools 9 (fset t k true)) 71 (0, 0))) := (Kept.refl (fun j => j = p) w7).put (b := p) (fun _ => rfl) _
    have hblk10 : (put w7 p (.cells (bools 9 (fset t k true)) 71 (0, 0))).heap[p]? = some (.cells (bools 9 (fset t k true)) 71 (0, 0)) := put_same (blk_lt hblk7)
    generalize put w7 p (.cells (bools 9 (fset t k true)) 71 (0, 0)) = w8 at hk10 hblk10 ⊢
    have hgoal : ∃ M', PfSt w w8 b p c (fset t k true) M' (i + 1) := by
      rw [hnm] at hupd
      rcases hupd with ⟨i', e, hi', hek, hm7⟩ | ⟨hno, L', a, hak, hav, hg1, hg2, hg3, hL', hm7⟩
      · have hM7 := hS6.mp.written hi' hk7 hm7
        have hout7 : ¬ BMap.own (writtenM M i' e fun _ => (k : Int)) b p := fun hc => hout (own_set (x := M.clock + 1) (e' := { e with used := M.clock + 1, val := fun _ => (k : Int) }) hi' rfl rfl rfl hc)
        have hM8 := hM7.other hk10 (fun j hj => by subst hj; exact ⟨hout7, hlow⟩)
        have hil : i' < M.l.length := (List.getElem?_eq_some_iff.1 hi').1
        refine ⟨_, hM8, hS.ty, hS.ks, hS.vs, hS.cap, hS.fr, hblk10, hlow, ?_, ?_, by show M.clock + 1 ≤ _; omega, by simp [writtenM]; omega⟩
        · intro q hq
          rcases List.mem_or_eq_of_mem_set hq with hq | rfl
          · obtain ⟨n, h1, h2, h3, h4⟩ := hS.is q hq
            refine ⟨n, h1, ?_, h3, h4⟩
            rcases hcomp n with rfl | hnk
            · exact fset_same _ _ _
            · rw [fset_other _ _ hnk]; exact h2
          · exact ⟨k, hk8, fset_same _ _ _, hek, rfl⟩
        · intro n hn htn
          rcases hcomp n with rfl | hnk
          · exact ⟨_, List.mem_set hil _, hek⟩
          · rw [fset_other _ _ hnk] at htn
            obtain ⟨q, hq, hqk⟩ := hS.has n hn htn
            obtain ⟨u, hu⟩ := List.mem_iff_getElem?.1 hq
            by_cases hui : u = i'
            · subst hui
              rw [hi'] at hu
              simp at hu
              subst hu
              exact absurd (pk_inj (by omega) (maskb_le' hc) (by omega) (maskb_le' hc) (hqk.symm.trans hek)).1 hnk
            · refine ⟨q, List.mem_of_getElem? (i := u) ?_, hqk⟩
              show (M.l.set i' _)[u]? = _
              rw [List.getElem?_set_ne (fun h => hui h.symm)]
              exact hu
      · have hM7 := hS6.mp.pushed hk7 (fun c hc => hc) hg1 hg2 hg3 hL' hm7
        have hp9 : p < w6.heap.size := blk_lt hS6.blk
        have hout7 : ¬ BMap.own { M with clock := M.clock + 1, L := L', l := M.l ++ [a] } b p := fun hc => hout (out_pushed (M := M) (fun c hc => hc) hg1 hg2 hg3 hL' p hp9 hc)
        have hM8 := hM7.other hk10 (fun j hj => by subst hj; exact ⟨hout7, hlow⟩)
        refine ⟨_, hM8, hS.ty, hS.ks, hS.vs, hS.cap, hS.fr, hblk10, hlow, ?_, ?_, by show M.clock + 1 ≤ _; omega, by simp; omega⟩
        · intro q hq
          rcases List.mem_append.1 hq with hq | hq
          · obtain ⟨n, h1, h2, h3, h4⟩ := hS.is q hq
            refine ⟨n, h1, ?_, h3, h4⟩
            rcases hcomp n with rfl | hnk
            · exact fset_same _ _ _
            · rw [fset_other _ _ hnk]; exact h2
          · simp at hq
            subst hq
            exact ⟨k, hk8, fset_same _ _ _, hak, by rw [hav]⟩
        · intro n hn htn
          rcases hcomp n with rfl | hnk
          · exact ⟨a, by simp, hak⟩
          · rw [fset_other _ _ hnk] at htn
            obtain ⟨q, hq, hqk⟩ := hS.has n hn htn
            exact ⟨q, List.mem_append_left _ hq, hqk⟩
    obtain ⟨M', hS8⟩ := hgoal
    simp
    exact ⟨⟨i + 1, e2, by omega, _, _, hS8⟩, by simp [natAt, e2]; omega⟩
  · simp
    refine W_no (by simp; omega) ?_
    simp
    clear hSt hgo hrow
    refine W_loop (fun env w' => Kept none' w4 w' ∧ ∃ (j : Nat), env = [undef, .int .u8 c, .int .u8 d, undef, undef, .pointer (some ⟨b, 0, none⟩), undef, undef, .pointer (some ⟨p, 0, none⟩), undef, undef, undef, undef, undef, .int .i64 (wantP t c d j), .int .i64 j, undef, undef, undef, undef, undef, undef, undef, undef] ∧ j ≤ 9)
      (fun env _ => 9 - natAt env 15) ?_ ?_
    · exact ⟨Kept.refl _ _, 0, by simp [wantP], by omega⟩
    rintro env w5 ⟨hk5, j, rfl, hj⟩
    have hS5 := hS.calm hk5
    by_cases hj8 : j ≤ 8
    · simp
      refine W_yes (by simp; omega) ?_
      have hbt := bools_at 9 t j (by omega)
      have e2 : IntKind.i64.wrap ((j : Int) + 1) = ((j + 1 : Nat) : Int) := i64w (by omega) (by omega)
      have e8 : IntKind.i64.wrap (8 - (j : Int)) = 8 - j := i64w (by omega) (by omega)
      have hj9 : j < 9 := by omega
      have hj9' : (j : Int) < 9 := by omega
      have hs1 : binV .shr (.int .u8 c) (.int .i64 (8 - (j : Int))) = some (.int .u8 ((c / 2 ^ (8 - j) : Nat) : Int)) := by
        show intBin .shr .u8 c .i64 (8 - (j : Int)) = _
        rw [intBin_shr _ _ _ _ (by omega), shr_u8 c j hj8]
      have hs2 : binV .shr (.int .u8 d) (.int .i64 (8 - (j : Int))) = some (.int .u8 ((d / 2 ^ (8 - j) : Nat) : Int)) := by
        show intBin .shr .u8 d .i64 (8 - (j : Int)) = _
        rw [intBin_shr _ _ _ _ (by omega), shr_u8 d j hj8]
      have hwq : wantP t c d (j + 1) = if t j = true ∧ c / 2 ^ (8 - j) = d / 2 ^ (8 - j) then (j : Int) else wantP t c d j := rfl
      generalize c / 2 ^ (8 - j) = cx at hs1 hwq
      generalize d / 2 ^ (8 - j) = dx at hs2 hwq
      simp
      refine W_cond (t := t j && decide (cx = dx)) ?_ ?_ ?_
      · simp [hj9, hj9', wcell_of hS5.blk, hbt, e8, hs1, hs2]
        cases t j <;> simp <;> omega
      · intro ht
        simp at ht
        have hw : wantP t c d (j + 1) = j := by rw [hwq, if_pos ht]
        simp
        exact ⟨⟨hk5.drew, j + 1, ⟨hw.symm, e2⟩, by omega⟩, by simp [natAt, e2]; omega⟩
      · intro ht
        have hw : wantP t c d (j + 1) = wantP t c d j := by rw [hwq, if_neg (by simpa using ht)]
        simp
        exact ⟨⟨hk5.drew, j + 1, ⟨hw.symm, e2⟩, by omega⟩, by simp [natAt, e2]; omega⟩
    · have hj9 : j = 9 := by omega
      subst hj9
      simp
      refine W_no (by simp) ?_
      simp [-W_row]
      have hall : ∀ e ∈ M.l, e.key.size = 5 := fun e he => by
        obtain ⟨n, _, _, h3, _⟩ := hS.is e he
        rw [h3]; simp [pk]
      have hsz8 : (bs (pk 8 d)).size = 5 := by simp [pk]
      have hsz9 : (bs (pk 9 d)).size = 5 := by simp [pk]
      have hc8 : cnt (bs (pk 8 d)) = (8 : Nat) := cnt_pk (by omega) hd
      have hc9 : cnt (bs (pk 9 d)) = (9 : Nat) := cnt_pk (by omega) hd
      have hck := hS.clock
      have hvs := hS.vs
      refine W_row' (cs := bcells (pk 8 d)) (v := .agg (bcells (pk 8 d))) (by simp [rep5, bcells, pk]) (by simp) ?_
      have hkeyA := keyP_new w5 (pk 8 d) (pk_le (by omega) hd)
      have hkA : Kept none' w5 (w5.alloc (.cells (bcells (pk 8 d)) 5)) := (Kept.refl _ _).alloc _
      generalize w5.alloc (.cells (bcells (pk 8 d)) 5) = w6 at hkeyA hkA ⊢
      have hS6 := hS5.calm hkA
      have hlk := glookup_ret b M _ (bs (pk 8 d)) w6 hS6.mp.map hkeyA hS.ty (by rw [hS.ks, hsz8]; rfl) (by omega) (by omega) (fun e he => by rw [hall e he, hsz8]) (by omega) (by omega)
      simp only [W_seq]
      refine W_call0 (by simp [pk]) hlk ?_
      intro v w7 hlook
      obtain ⟨sl, f, M7, rfl, hslv, hcase, hM7, hty7, hks7, hvs7, hall7, hck7⟩ : ∃ (sl : Value) (f : Int) (M7 : BMap), v = .tuple #[sl, .int .i64 f] ∧ varV sl = some sl ∧
          (wantP t c d 9 = -1 ∧ f = 2 ∨ ∃ n nb cc : Nat, wantP t c d 9 = n ∧ f = 0 ∧ sl = .slice (some ⟨nb, 0, none⟩) 1 cc ∧ wcell w7 nb 0 = some (.int .u8 n)) ∧ Mp w w7 b M7 ∧ M7.ty = 5 ∧ M7.ks = 5 ∧ M7.vs = 1 ∧ (∀ e ∈ M7.l, e.key.size = 5) ∧ M7.clock ≤ 20 := by
        rcases hlook with ⟨q, _⟩ | ⟨_, i', e, nb, cc, hi', hfit, hmax, rfl, _, _, hby, hk7, hm7⟩ | ⟨_, hno, rfl, hk7⟩
        · rw [hsz8, hc8] at q; omega
        · obtain ⟨n, hn8, htn, hek, hev⟩ := hS.is e (List.mem_of_getElem? hi')
          have hfn := (fits_pk hn8 (by omega) hc hd hek hn8).1 hfit
          have hce : cnt e.key = n := by rw [hek]; exact cnt_pk (by omega) (maskb_le' hc)
          have hw : wantP t c d 9 = n := by
            have h1 := wantP_ge t c d 9 n (by omega) ⟨htn, hfn⟩
            rcases wantP_is t c d 9 with h2 | ⟨n', hn', h2, htn', hfn'⟩
            · omega
            · obtain ⟨e', he', hek'⟩ := hS.has n' (by omega) htn'
              have h3 := hmax e' he' ((fits_pk (by omega) (by omega) hc hd hek' (by omega)).2 hfn')
              rw [hce, hek', cnt_pk (by omega) (maskb_le' hc)] at h3
              omega
          refine ⟨_, 0, usedM M i' e, rfl, rfl, .inr ⟨n, nb, cc, hw, rfl, by rw [hvs], ?_⟩, hS6.mp.used hi' hk7 hm7, hS.ty, hS.ks, hS.vs, ?_, by show M.clock + 1 ≤ 20; omega⟩
          · rw [hby 0 (by omega), hev]
          · intro q hq
            rcases List.mem_or_eq_of_mem_set hq with hq | rfl
            · exact hall q hq
            · exact hall e (List.mem_of_getElem? hi')
        · have hw : wantP t c d 9 = -1 := by
            rcases wantP_is t c d 9 with h2 | ⟨n', hn', h2, htn', hfn'⟩
            · exact h2
            · obtain ⟨e', he', hek'⟩ := hS.has n' (by omega) htn'
              exact absurd ((fits_pk (by omega) (by omega) hc hd hek' (by omega)).2 hfn') (hno e' he')
          exact ⟨_, 2, M, rfl, rfl, .inl ⟨hw, rfl⟩, hS6.mp.calm hk7, hS.ty, hS.ks, hS.vs, hall, by omega⟩
      simp only [W_seq, W_chk, W_set]
      refine ok_intro [.int .i64 f] (by simp) ?_
      refine ok_intro sl (by simp) ?_
      refine ok_intro (.int .i64 f) (by simp) ?_
      refine ok_intro [.pointer (some ⟨b, 0, none⟩)] (by simp) ?_
      refine W_row' (cs := bcells (pk 9 d)) (v := .agg (bcells (pk 9 d))) (by simp [rep5, bcells, pk]) (by simp) ?_
      have hkeyB := keyP_new w7 (pk 9 d) (pk_le (by omega) hd)
      have hkB : Kept none' w7 (w7.alloc (.cells (bcells (pk 9 d)) 5)) := (Kept.refl _ _).alloc _
      generalize w7.alloc (.cells (bcells (pk 9 d)) 5) = w8 at hkeyB hkB ⊢
      have hM8 := hM7.calm hkB
      have hlk2 := glookup_ret b M7 _ (bs (pk 9 d)) w8 hM8.map hkeyB hty7 (by rw [hks7, hsz9]; rfl) (by omega) (by omega) (fun e he => by rw [hall7 e he, hsz9]) (by omega) (by omega)
      simp only [W_seq]
      refine W_call0 (by simp [pk]) hlk2 ?_
      intro v w9 hlook2
      obtain ⟨rfl, hk9⟩ : v = .tuple #[.slice none 0 0, .int .i64 22] ∧ Kept none' w8 w9 := by
        rcases hlook2 with ⟨_, q⟩ | ⟨q, _⟩ | ⟨q, _⟩
        · exact q
        · rw [hsz9, hc9] at q; omega
        · rw [hsz9, hc9] at q; omega
      have hkF : Kept none' w w9 := hM8.kept.trans hk9
      simp only [W_seq, W_chk, W_set]
      refine ok_intro [.int .i64 22] (by simp) ?_
      refine ok_intro (.slice none 0 0) (by simp) ?_
      refine ok_intro (.int .i64 22) (by simp) ?_
      rcases hcase with ⟨hw, rfl⟩ | ⟨n, nb, cc, hw, rfl, rfl, hcell⟩
      · refine W_yes (by simp [hw]) ?_
        simp [hslv]
        exact hkF
      · refine W_no (by simp [hw]) ?_
        have hcell9 := wcell_kept (hkB.trans hk9) (fun h => h) hcell
        have hwl := wantP_lt t c d 9
        have en : IntKind.i64.wrap (n : Int) = n := i64w (by omega) (by omega)
        simp [hw, hcell9, en]
        exact hkF
end Go.Proofs.Ytihaopoehhnbkaa
