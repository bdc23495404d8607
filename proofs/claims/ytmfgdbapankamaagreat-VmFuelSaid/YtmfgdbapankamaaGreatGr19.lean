/- Layer 20: a machine with maps, apart from where it lies: cells are named by numbers; renaming. -/
import Derived.Test.YtmfgdbapankamaaGreatGr18
import Derived.Test.YtmfgdbapankamaaGreatGr11
set_option linter.unusedSimpArgs false
set_option linter.unusedVariables false
set_option maxRecDepth 8000
namespace Go.Proofs.YtmfgdbapankamaaGreat
open Go.Eng
def RVal.ren (f : Nat → Nat) (v : RVal) : RVal := { v with cell := v.cell.map fun a => { a with block := f a.block } }
section
variable (f : Nat → Nat)
@[simp] theorem ren_tag (v : RVal) : (v.ren f).tag = v.tag := hide rfl
@[simp] theorem ren_n (v : RVal) : (v.ren f).n = v.n := hide rfl
@[simp] theorem ren_slot (v : RVal) : (v.ren f).slot = v.slot := hide rfl
@[simp] theorem ren_num (n : Int) : (num n).ren f = num n := hide rfl
@[simp] theorem ren_zero : RVal.zero.ren f = RVal.zero := hide rfl
@[simp] theorem ren_mk (t n s : Int) : (RVal.mk t n s none).ren f = RVal.mk t n s none := hide rfl
@[simp] theorem ren_furth (v : RVal) (y : Int) : (furth v y).ren f = furth (v.ren f) y := hide rfl
def VSt.ren (s : VSt) : VSt := { s with r := fun i => (s.r i).ren f }
@[simp] theorem vren_pos (s : VSt) : (s.ren f).pos = s.pos := hide rfl
@[simp] theorem vren_done (s : VSt) : (s.ren f).done = s.done := hide rfl
@[simp] theorem vren_luck (s : VSt) : (s.ren f).luck = s.luck := hide rfl
@[simp] theorem vren_r (s : VSt) (i : Nat) : (s.ren f).r i = (s.r i).ren f := hide rfl
theorem ren_fset (g : Nat → RVal) (d : Nat) (v : RVal) : (fun i => (fset g d v i).ren f) = fset (fun i => (g i).ren f) d (v.ren f) := by
  funext i
  unfold fset
  split <;> rfl
theorem setOf_ren (s : VSt) (d : Nat) (v : RVal) : setOf (s.ren f) d (v.ren f) = (setOf s d v).map (·.ren f) := by
  unfold setOf
  split
  · rfl
  · simp only [Option.map_some, VSt.ren, ren_fset]
theorem second_ren (s : VSt) (x : Ins) (reg : Bool) : secondOf (s.ren f) x reg = (secondOf s x reg).ren f := by
  unfold secondOf
  split <;> rfl
theorem onPlace_ren (op : Nat) (a b : RVal) : onPlaceOf op (a.ren f) (b.ren f) = ((onPlaceOf op a b).1.ren f, (onPlaceOf op a b).2) := by
  unfold onPlaceOf
  simp only [ren_tag, ren_n, show placeOf (a.ren f) = placeOf a from rfl, show placeOf (b.ren f) = placeOf b from rfl]
  repeat' split
  all_goals rfl
theorem aluA_ren (p : Parts) (a b : RVal) : aluA p (a.ren f) (b.ren f) = (aluA p a b).ren f := by
  unfold aluA
  simp only [ren_tag]
  by_cases h : p.op = 11 ∧ b.tag = 1
  · rw [if_pos h, if_pos h]; rfl
  · rw [if_neg h, if_neg h]
theorem aluB_ren (p : Parts) (b : RVal) : aluB p (b.ren f) = (aluB p b).ren f := by
  unfold aluB
  simp only [ren_tag]
  by_cases h : p.op = 11 ∧ b.tag = 1
  · rw [if_pos h, if_pos h]
  · rw [if_neg h, if_neg h]
    by_cases h : p.op = 8
    · rw [if_pos h, if_pos h]; rfl
    · rw [if_neg h, if_neg h]
theorem alu_ren (s : VSt) (x : Ins) (p : Parts) : aluOf (s.ren f) x p = (aluOf s x p).map (·.ren f) := by
  unfold aluOf
  simp only [second_ren, vren_r, aluA_ren, aluB_ren, ren_tag, ren_n, onPlace_ren]
  split
  · rw [← setOf_ren]; rfl
  · split
    · rw [← setOf_ren]
    · rfl
theorem jump_ren (s : VSt) (x : Ins) (p : Parts) : jumpOf (s.ren f) x p = (jumpOf s x p).map (·.ren f) := by
  unfold jumpOf
  simp only [second_ren, vren_r, ren_tag, ren_n]
  by_cases h : (s.r x.dst).tag = 1 ∧ (secondOf s x p.reg).tag = 1
  · rw [if_pos h, if_pos h]; rfl
  · rw [if_neg h, if_neg h]
    by_cases h : (s.r x.dst).tag ≠ 0 ∧ (s.r x.dst).tag ≠ 1 ∧ p.reg = false ∧ x.imm = 0 ∧ p.long = true ∧ (p.op = 1 ∨ p.op = 5)
    · rw [if_pos h, if_pos h]; rfl
    · rw [if_neg h, if_neg h]; rfl
def RMem.ren (mv : Value) (m : RMem) : RMem := { m with kept := fun i => (m.kept i).ren f, maps := mv }
theorem loadS_ren (mv : Value) (m : RMem) (s k : Int) : loadS (m.ren f mv) s k = ((loadS m s k).1.ren f, (loadS m s k).2) := by
  unfold loadS
  by_cases h1 : sizeOk k ∧ -64 ≤ s ∧ s + k ≤ 0
  · rw [if_pos h1, if_pos h1]
    by_cases h2 : k = 8 ∧ (s + 64).toNat % 8 = 0 ∧ (m.kept ((s + 64).toNat / 8)).tag ≠ 0
    · rw [if_pos h2, if_pos (show k = 8 ∧ (s + 64).toNat % 8 = 0 ∧ ((m.ren f mv).kept ((s + 64).toNat / 8)).tag ≠ 0 from h2)]
      rfl
    · rw [if_neg h2, if_neg (show ¬ (k = 8 ∧ (s + 64).toNat % 8 = 0 ∧ ((m.ren f mv).kept ((s + 64).toNat / 8)).tag ≠ 0) from h2)]
      by_cases h3 : Ready m (s + 64).toNat k.toNat
      · rw [if_pos h3, if_pos (show Ready (m.ren f mv) (s + 64).toNat k.toNat from h3)]
        rfl
      · rw [if_neg h3, if_neg (show ¬ Ready (m.ren f mv) (s + 64).toNat k.toNat from h3)]
        rfl
  · rw [if_neg h1, if_neg h1]
    rfl
theorem loadC_ren (mv : Value) (m : RMem) (s k : Int) : loadC (m.ren f mv) s k = ((loadC m s k).1.ren f, (loadC m s k).2) := by
  unfold loadC
  split <;> rfl
theorem loadOf_ren (mv : Value) (m : RMem) (a : RVal) (off k : Int) : loadOf (m.ren f mv) (a.ren f) off k = ((loadOf m a off k).1.ren f, (loadOf m a off k).2) := by
  unfold loadOf
  simp only [ren_tag, ren_n, loadC_ren, loadS_ren]
  repeat' split
  all_goals rfl
theorem clear_ren (mv : Value) (m : RMem) (i e : Nat) : clear (m.ren f mv) i e = (clear m i e).ren f mv := by
  refine rmem_ext rfl rfl rfl ?_ rfl
  funext k
  show (if touched i e k ∧ (m.kept k).tag ≠ 0 then RVal.zero else (m.kept k).ren f) = (if touched i e k ∧ (m.kept k).tag ≠ 0 then RVal.zero else m.kept k).ren f
  split <;> rfl
theorem mark_ren (mv : Value) (m : RMem) (i n : Nat) : mark (m.ren f mv) i n = (mark m i n).ren f mv := by
  unfold mark
  rw [clear_ren]
  rfl
theorem saveS_ren (mv : Value) (m : RMem) (s k : Int) (v : RVal) : saveS (m.ren f mv) s k (v.ren f) = ((saveS m s k v).1.ren f mv, (saveS m s k v).2) := by
  unfold saveS
  simp only [ren_tag, ren_n]
  split
  · split
    · have : withBytes (m.ren f mv) (s + 64).toNat ((s + 64).toNat + k.toNat) v.n = (withBytes m (s + 64).toNat ((s + 64).toNat + k.toNat) v.n).ren f mv := rfl
      rw [this, mark_ren]
    · split
      · rw [mark_ren]
        refine Prod.ext (rmem_ext rfl rfl rfl ?_ rfl) rfl
        exact (ren_fset f _ _ _).symm
      · rfl
  · rfl
theorem saveOf_ren (mv : Value) (m : RMem) (a : RVal) (off k : Int) (v : RVal) : saveOf (m.ren f mv) (a.ren f) off k (v.ren f) = ((saveOf m a off k v).1.ren f mv, (saveOf m a off k v).2) := by
  unfold saveOf
  simp only [ren_tag, ren_n, saveS_ren]
  split <;> rfl
end
theorem ren_congr {f g : Nat → Nat} {v : RVal} (h : ∀ a, v.cell = some a → f a.block = g a.block) : v.ren f = v.ren g := by
  unfold RVal.ren
  cases hc : v.cell with
  | none => rfl
  | some a => simp only [Option.map_some]; rw [h a hc]
structure XEnt where
  key : ByteArray
  id : Nat
  used : Int
structure XMap where
  ty : Int
  ks : Int
  vs : Nat
  cap : Int
  l : List XEnt
  frozen : Bool
  clock : Int
structure XCell where
  slot : Nat
  val : Nat → Int
structure GSt where
  s : VSt
  m : RMem
  ms : List XMap
  cs : List XCell
def vsOf (ms : List XMap) (i : Nat) : Nat := (ms[i]?.map (·.vs)).getD 0
structure VOk (cs : List XCell) (v : RVal) : Prop where
  n : 0 ≤ v.n
  five : v.tag = 5 → ∃ id c, v.cell = some ⟨id, 0, none⟩ ∧ cs[id]? = some c ∧ v.slot = (c.slot : Nat)
  none : v.tag ≠ 5 → v.cell = none
  num : v.tag = 1 → v.slot = 0
theorem vok_num (cs : List XCell) {n : Int} (h : 0 ≤ n) : VOk cs (num n) := ⟨h, fun h => by simp [num] at h, fun _ => rfl, fun _ => rfl⟩
theorem vok_zero (cs : List XCell) : VOk cs RVal.zero := ⟨by simp [RVal.zero], fun h => by simp [RVal.zero] at h, fun _ => rfl, fun _ => rfl⟩
theorem VOk.more {cs : List XCell} {v : RVal} (h : VOk cs v) (ds : List XCell) : VOk (cs ++ ds) v :=
  ⟨h.n, fun h5 => by
    obtain ⟨id, c, h1, h2, h3⟩ := h.five h5
    exact ⟨id, c, h1, by rw [List.getElem?_append_left (List.getElem?_eq_some_iff.1 h2).1]; exact h2, h3⟩, h.none, h.num⟩
theorem VOk.cset {cs : List XCell} {v : RVal} (h : VOk cs v) {i : Nat} {c : XCell} (hi : cs[i]? = some c) (x : Nat → Int) : VOk (cs.set i { c with val := x }) v :=
  ⟨h.n, fun h5 => by
    obtain ⟨id, d, h1, h2, h3⟩ := h.five h5
    by_cases he : i = id
    · subst he
      rw [hi] at h2
      cases h2
      exact ⟨i, { c with val := x }, h1, by rw [List.getElem?_set_self (List.getElem?_eq_some_iff.1 hi).1], h3⟩
    · exact ⟨id, d, h1, by rw [List.getElem?_set_ne he]; exact h2, h3⟩, h.none, h.num⟩
def gloadOf (G : GSt) (a : RVal) (off k : Int) : RVal × Int :=
  if a.tag = 5 then
    match a.cell.bind fun p => G.cs[p.block]? with
    | some c => loadV c.val (vsOf G.ms c.slot) (IntKind.i64.wrap a.n + off) k
    | none => (RVal.zero, 14)
  else loadOf G.m a off k
end Go.Proofs.YtmfgdbapankamaaGreat
namespace Go.Proofs.YtmfgdbapankamaaGreat
open Go.Eng
structure Names where
  cb : Nat → Nat
  vb : Nat → Nat
  mm : List (Nat × BMap)
structure Like (cb vb : Nat → Nat) (cs : List XCell) (i : Nat) (A : XMap) (M : BMap) : Prop where
  ty : M.ty = A.ty
  ks : M.ks = A.ks
  vs : M.vs = A.vs
  cap : M.cap = A.cap
  frozen : M.frozen = A.frozen
  clock : M.clock = A.clock
  len : M.l.length = A.l.length
  ent : ∀ (j : Nat) (e : XEnt), A.l[j]? = some e → ∃ q c, M.l[j]? = some q ∧ cs[e.id]? = some c ∧ c.slot = i ∧ q.key = e.key ∧ q.used = e.used ∧ q.cb = cb e.id ∧ q.vb = vb e.id ∧ q.val = c.val
theorem Like.back {cb vb : Nat → Nat} {cs : List XCell} {i : Nat} {A : XMap} {M : BMap} (h : Like cb vb cs i A M) {j : Nat} {q : BEnt} (hq : M.l[j]? = some q) :
    ∃ e c, A.l[j]? = some e ∧ cs[e.id]? = some c ∧ c.slot = i ∧ q.key = e.key ∧ q.used = e.used ∧ q.cb = cb e.id ∧ q.vb = vb e.id ∧ q.val = c.val := by
  have hlt : j < A.l.length := by rw [← h.len]; exact (List.getElem?_eq_some_iff.1 hq).1
  have hx : A.l[j]? = some A.l[j] := List.getElem?_eq_getElem hlt
  obtain ⟨q', c, h1, h2⟩ := h.ent j _ hx
  rw [hq] at h1
  cases h1
  exact ⟨_, c, hx, h2⟩
theorem Like.mem {cb vb : Nat → Nat} {cs : List XCell} {i : Nat} {A : XMap} {M : BMap} (h : Like cb vb cs i A M) {q : BEnt} (hq : q ∈ M.l) :
    ∃ e c, e ∈ A.l ∧ cs[e.id]? = some c ∧ c.slot = i ∧ q.key = e.key ∧ q.used = e.used ∧ q.cb = cb e.id ∧ q.vb = vb e.id ∧ q.val = c.val := by
  obtain ⟨j, hj⟩ := List.mem_iff_getElem?.1 hq
  obtain ⟨e, c, h1, h2⟩ := h.back hj
  exact ⟨e, c, List.mem_of_getElem? h1, h2⟩
structure CellAt (w : World) (cb vb V : Nat) (x : Nat → Int) : Prop where
  box : ∃ k, CellBox w cb vb V k
  val : VBytes w vb V x
  byte : ∀ j, 0 ≤ x j ∧ x j ≤ 255
structure Placed (w : World) (N : Names) (ms : List XMap) (cs : List XCell) : Prop where
  len : N.mm.length = ms.length
  map : ∀ (i : Nat) (A : XMap) (q : Nat × BMap), ms[i]? = some A → N.mm[i]? = some q → MapAt w q.1 q.2 ∧ Like N.cb N.vb cs i A q.2
  cell : ∀ (c : Nat) (x : XCell), cs[c]? = some x → x.slot < ms.length ∧ CellAt w (N.cb c) (N.vb c) (vsOf ms x.slot) x.val
  icb : ∀ c d, c < cs.length → d < cs.length → N.cb c = N.cb d → c = d
  ivb : ∀ c d, c < cs.length → d < cs.length → N.vb c = N.vb d → c = d
  sep : ∀ (i j : Nat) (q r : Nat × BMap), N.mm[i]? = some q → N.mm[j]? = some r → i ≠ j → q.1 ≠ r.1 ∧ (∀ g, q.2.L.ownBlock = some g → r.2.L.ownBlock ≠ some g) ∧ ∀ e ∈ q.2.l, ∀ e' ∈ r.2.l, e.eb ≠ e'.eb
def Names.own (N : Names) (n i : Nat) : Prop := (∃ q ∈ N.mm, i = q.1 ∨ q.2.L.ownBlock = some i ∨ ∃ e ∈ q.2.l, i = e.eb) ∨ ∃ c, c < n ∧ (i = N.cb c ∨ i = N.vb c)
section
variable {w : World} {N : Names} {ms : List XMap} {cs : List XCell}
theorem Placed.get (h : Placed w N ms cs) {i : Nat} {A : XMap} (hA : ms[i]? = some A) : ∃ b M, N.mm[i]? = some (b, M) ∧ MapAt w b M ∧ Like N.cb N.vb cs i A M := by
  have hlt : i < N.mm.length := by rw [h.len]; exact (List.getElem?_eq_some_iff.1 hA).1
  have hq : N.mm[i]? = some N.mm[i] := List.getElem?_eq_getElem hlt
  obtain ⟨h1, h2⟩ := h.map i A _ hA hq
  exact ⟨_, _, hq, h1, h2⟩
theorem Placed.back (h : Placed w N ms cs) {i : Nat} {q : Nat × BMap} (hq : N.mm[i]? = some q) : ∃ A, ms[i]? = some A ∧ MapAt w q.1 q.2 ∧ Like N.cb N.vb cs i A q.2 := by
  have hlt : i < ms.length := by rw [← h.len]; exact (List.getElem?_eq_some_iff.1 hq).1
  have hA : ms[i]? = some ms[i] := List.getElem?_eq_getElem hlt
  exact ⟨_, hA, h.map i _ q hA hq⟩
theorem RowAt.blk {L : Value} {l : List BEnt} (h : RowAt w L l) {g : Nat} (hg : L.ownBlock = some g) : ∃ cur, w.heap[g]? = some (.cells cur 79 (0, 0)) := by
  rcases h with ⟨rfl, _⟩ | ⟨g', cap, cur, rfl, h1, _⟩
  · simp [Value.ownBlock] at hg
  · simp [Value.ownBlock] at hg; subst hg; exact ⟨cur, h1⟩
theorem Placed.own_map (h : Placed w N ms cs) {i : Nat} {q : Nat × BMap} (hq : N.mm[i]? = some q) {j : Nat} (hj : q.2.own q.1 j) : N.own cs.length j := by
  obtain ⟨A, hA, hm, hl⟩ := h.back hq
  have hmem := List.mem_of_getElem? hq
  rcases hj with rfl | hj | ⟨e, he, rfl | rfl | rfl⟩
  · exact .inl ⟨q, hmem, .inl rfl⟩
  · exact .inl ⟨q, hmem, .inr (.inl hj)⟩
  · exact .inl ⟨q, hmem, .inr (.inr ⟨e, he, rfl⟩)⟩
  · obtain ⟨x, c, _, h1, _, _, _, h2, _⟩ := hl.mem he
    exact .inr ⟨x.id, (List.getElem?_eq_some_iff.1 h1).1, .inl h2⟩
  · obtain ⟨x, c, _, h1, _, _, _, _, h2, _⟩ := hl.mem he
    exact .inr ⟨x.id, (List.getElem?_eq_some_iff.1 h1).1, .inr h2⟩
theorem CellAt.keep {w' : World} {S : Nat → Prop} {cb vb V : Nat} {x : Nat → Int} (h : CellAt w cb vb V x) (hk : Kept S w w') (h1 : ¬ S cb) (h2 : ¬ S vb) : CellAt w' cb vb V x := by
  obtain ⟨⟨k, h3, h4⟩, h5, h6⟩ := h
  exact ⟨⟨k, h3, hk.has h4 h1⟩, h5.keep hk h2, h6⟩
theorem Placed.keep (h : Placed w N ms cs) {S : Nat → Prop} {w' : World} (hk : Kept S w w') (hS : ∀ i, N.own cs.length i → ¬ S i) : Placed w' N ms cs where
  len := h.len
  map := fun i A q hA hq => ⟨(h.map i A q hA hq).1.keep hk fun j hj => hS j (h.own_map hq hj), (h.map i A q hA hq).2⟩
  cell := fun c x hx => ⟨(h.cell c x hx).1, (h.cell c x hx).2.keep hk (hS _ (.inr ⟨c, (List.getElem?_eq_some_iff.1 hx).1, .inl rfl⟩)) (hS _ (.inr ⟨c, (List.getElem?_eq_some_iff.1 hx).1, .inr rfl⟩))⟩
  icb := h.icb
  ivb := h.ivb
  sep := h.sep
theorem Placed.calm (h : Placed w N ms cs) {w' : World} (hk : Kept none' w w') : Placed w' N ms cs := h.keep hk fun _ _ h => h
theorem CellAt.cblk {cb vb V : Nat} {x : Nat → Int} (h : CellAt w cb vb V x) : ∃ c, w.heap[cb]? = some (.cells c 82 (0, 0)) := by obtain ⟨⟨k, _, h⟩, _⟩ := h; exact ⟨_, h⟩
theorem CellAt.vblk {cb vb V : Nat} {x : Nat → Int} (h : CellAt w cb vb V x) : ∃ c, w.heap[vb]? = some (.cells c 5 (0, 0)) := by obtain ⟨_, ⟨cs, h, _⟩, _⟩ := h; exact ⟨_, h⟩
theorem Placed.own_lt (h : Placed w N ms cs) {j : Nat} (hj : N.own cs.length j) : j < w.heap.size := by
  rcases hj with ⟨q, hq, hj⟩ | ⟨c, hc, hj⟩
  · obtain ⟨i, hi⟩ := List.mem_iff_getElem?.1 hq
    obtain ⟨A, hA, hm, hl⟩ := h.back hi
    rcases hj with rfl | hj | ⟨e, he, rfl⟩
    · exact blk_lt hm.blk
    · obtain ⟨cur, h1⟩ := hm.row.blk hj; exact blk_lt h1
    · exact blk_lt (hm.ents e he).ent
  · obtain ⟨h1, h2⟩ := h.cell c cs[c] (List.getElem?_eq_getElem hc)
    rcases hj with rfl | rfl
    · obtain ⟨_, h3⟩ := h2.cblk; exact blk_lt h3
    · obtain ⟨_, h3⟩ := h2.vblk; exact blk_lt h3
theorem Placed.own_ty (h : Placed w N ms cs) {j : Nat} (hj : N.own cs.length j) : ∃ cs' T, w.heap[j]? = some (.cells cs' T (0, 0)) ∧ (T = 78 ∨ T = 79 ∨ T = 84 ∨ T = 82 ∨ T = 5) := by
  rcases hj with ⟨q, hq, hj⟩ | ⟨c, hc, hj⟩
  · obtain ⟨i, hi⟩ := List.mem_iff_getElem?.1 hq
    obtain ⟨A, hA, hm, hl⟩ := h.back hi
    rcases hj with rfl | hj | ⟨e, he, rfl⟩
    · exact ⟨_, _, hm.blk, .inl rfl⟩
    · obtain ⟨cur, h1⟩ := hm.row.blk hj; exact ⟨_, _, h1, .inr (.inl rfl)⟩
    · exact ⟨_, _, (hm.ents e he).ent, .inr (.inr (.inl rfl))⟩
  · obtain ⟨h1, h2⟩ := h.cell c cs[c] (List.getElem?_eq_getElem hc)
    rcases hj with rfl | rfl
    · obtain ⟨_, h3⟩ := h2.cblk; exact ⟨_, _, h3, .inr (.inr (.inr (.inl rfl)))⟩
    · obtain ⟨_, h3⟩ := h2.vblk; exact ⟨_, _, h3, .inr (.inr (.inr (.inr rfl)))⟩
theorem vsOf_set {i : Nat} {A A' : XMap} (hA : ms[i]? = some A) (hv : A'.vs = A.vs) (j : Nat) : vsOf (ms.set i A') j = vsOf ms j := by
  unfold vsOf
  rw [List.getElem?_set]
  by_cases h : i = j
  · subst h
    rw [if_pos rfl, if_pos (List.getElem?_eq_some_iff.1 hA).1, hA]
    simp [hv]
  · rw [if_neg h]
def Names.mine (N : Names) (cs : List XCell) (i b : Nat) (M : BMap) (j : Nat) : Prop := j = b ∨ M.L.ownBlock = some j ∨ (∃ e ∈ M.l, j = e.eb) ∨ ∃ c d, cs[c]? = some d ∧ d.slot = i ∧ j = N.vb c
theorem Placed.mine_box (h : Placed w N ms cs) {i b : Nat} {M : BMap} (hq : N.mm[i]? = some (b, M)) {c : Nat} {x : XCell} (hc : cs[c]? = some x) : ¬ N.mine cs i b M (N.cb c) := by
  obtain ⟨A, hA, hm, hl⟩ := h.back hq
  obtain ⟨_, h3⟩ := (h.cell c x hc).2.cblk
  rintro (e | e | ⟨q, hq, e⟩ | ⟨d, y, hd, _, e⟩)
  · exact heap_ne h3 hm.blk (by decide) e
  · obtain ⟨cur, h1⟩ := hm.row.blk e
    exact heap_ne h3 h1 (by decide) rfl
  · exact heap_ne h3 (hm.ents q hq).ent (by decide) e
  · obtain ⟨_, h4⟩ := (h.cell d y hd).2.vblk
    exact heap_ne h3 h4 (by decide) e
theorem Placed.mine_val (h : Placed w N ms cs) {i b : Nat} {M : BMap} (hq : N.mm[i]? = some (b, M)) {c : Nat} {x : XCell} (hc : cs[c]? = some x) (hm : N.mine cs i b M (N.vb c)) : x.slot = i := by
  obtain ⟨A, hA, hM, hl⟩ := h.back hq
  obtain ⟨_, h3⟩ := (h.cell c x hc).2.vblk
  rcases hm with e | e | ⟨q, hq, e⟩ | ⟨d, y, hd, hs, e⟩
  · exact absurd e (heap_ne h3 hM.blk (by decide))
  · obtain ⟨cur, h1⟩ := hM.row.blk e
    exact absurd rfl (heap_ne h3 h1 (by decide))
  · exact absurd e (heap_ne h3 (hM.ents q hq).ent (by decide))
  · have := h.ivb c d (List.getElem?_eq_some_iff.1 hc).1 (List.getElem?_eq_some_iff.1 hd).1 e
    subst this
    rw [hc] at hd
    cases hd
    exact hs
theorem Placed.step (h : Placed w N ms cs) {i b : Nat} {M M' : BMap} {A A' : XMap} {w' : World} (hA : ms[i]? = some A) (hq : N.mm[i]? = some (b, M)) {S : Nat → Prop} (hk : Kept S w w') (hT : ∀ j, N.own cs.length j → S j → N.mine cs i b M j) (hm : MapAt w' b M') {cb' vb' : Nat → Nat} {cs' : List XCell}
    (hl : Like cb' vb' cs' i A' M') (hvs : A'.vs = A.vs) (hcb : ∀ c, c < cs.length → cb' c = N.cb c) (hvb : ∀ c, c < cs.length → vb' c = N.vb c)
    (hcs : ∀ (c : Nat) (x : XCell), cs[c]? = some x → ∃ y, cs'[c]? = some y ∧ y.slot = x.slot ∧ (x.slot ≠ i → y = x))
    (hce : ∀ (c : Nat) (x : XCell), cs'[c]? = some x → x.slot < ms.length ∧ CellAt w' (cb' c) (vb' c) (vsOf ms x.slot) x.val)
    (hicb : ∀ c d, c < cs'.length → d < cs'.length → cb' c = cb' d → c = d) (hivb : ∀ c d, c < cs'.length → d < cs'.length → vb' c = vb' d → c = d)
    (hL : M'.L.ownBlock = M.L.ownBlock ∨ ∃ g, M'.L.ownBlock = some g ∧ w.heap.size ≤ g) (he : ∀ e ∈ M'.l, (∃ e0 ∈ M.l, e0.eb = e.eb) ∨ w.heap.size ≤ e.eb) :
    Placed w' ⟨cb', vb', N.mm.set i (b, M')⟩ (ms.set i A') cs' := by
  have hil : i < ms.length := (List.getElem?_eq_some_iff.1 hA).1
  have hil' : i < N.mm.length := by rw [h.len]; exact hil
  have getm : ∀ (j : Nat) (q : Nat × BMap), (N.mm.set i (b, M'))[j]? = some q → (j = i ∧ q = (b, M')) ∨ (j ≠ i ∧ N.mm[j]? = some q) := by
    intro j q hj
    rw [List.getElem?_set] at hj
    by_cases e : i = j
    · rw [if_pos e, if_pos hil'] at hj
      exact .inl ⟨e.symm, by cases hj; rfl⟩
    · rw [if_neg e] at hj
      exact .inr ⟨fun h => e h.symm, hj⟩
  have geta : ∀ (j : Nat) (B : XMap), (ms.set i A')[j]? = some B → (j = i ∧ B = A') ∨ (j ≠ i ∧ ms[j]? = some B) := by
    intro j q hj
    rw [List.getElem?_set] at hj
    by_cases e : i = j
    · rw [if_pos e, if_pos hil] at hj
      exact .inl ⟨e.symm, by cases hj; rfl⟩
    · rw [if_neg e] at hj
      exact .inr ⟨fun h => e h.symm, hj⟩
  refine ⟨by rw [List.length_set, List.length_set]; exact h.len, ?_, ?_, hicb, hivb, ?_⟩
  · intro j B q hB hqj
    rcases getm j q hqj with ⟨rfl, rfl⟩ | ⟨hne, hq0⟩
    · rcases geta j B hB with ⟨_, rfl⟩ | ⟨hne, _⟩
      · exact ⟨hm, hl⟩
      · exact absurd rfl hne
    · rcases geta j B hB with ⟨rfl, _⟩ | ⟨_, hB0⟩
      · exact absurd rfl hne
      · obtain ⟨hmj, hlj⟩ := h.map j B q hB0 hq0
        obtain ⟨s1, s2, s3⟩ := h.sep j i q (b, M) hq0 hq hne
        obtain ⟨_, _, hM, _⟩ := h.back hq
        have clash : ∀ k, q.2.own q.1 k → ¬ S k := by
          intro k ho hS
          have hmine := hT k (h.own_map hq0 ho) hS
          rcases ho with rfl | ho | ⟨e, hee, ho⟩
          · rcases hmine with e | e | ⟨y, hy, e⟩ | ⟨d, y, hd, _, e⟩
            · exact s1 e
            · obtain ⟨cur, h1⟩ := hM.row.blk e; exact heap_ne hmj.blk h1 (by decide) rfl
            · exact heap_ne hmj.blk (hM.ents y hy).ent (by decide) e
            · obtain ⟨_, h4⟩ := (h.cell d y hd).2.vblk; exact heap_ne hmj.blk h4 (by decide) e
          · obtain ⟨cur, h1⟩ := hmj.row.blk ho
            rcases hmine with e | e | ⟨y, hy, e⟩ | ⟨d, y, hd, _, e⟩
            · exact heap_ne h1 hM.blk (by decide) e
            · exact s2 k ho e
            · exact heap_ne h1 (hM.ents y hy).ent (by decide) e
            · obtain ⟨_, h4⟩ := (h.cell d y hd).2.vblk; exact heap_ne h1 h4 (by decide) e
          · obtain ⟨x, c, _, g1, g2, _, _, g3, g4, _⟩ := hlj.mem hee
            rcases ho with rfl | rfl | rfl
            · have h1 := (hmj.ents e hee).ent
              rcases hmine with e1 | e1 | ⟨y, hy, e1⟩ | ⟨d, y, hd, _, e1⟩
              · exact heap_ne h1 hM.blk (by decide) e1
              · obtain ⟨cur, h2⟩ := hM.row.blk e1; exact heap_ne h1 h2 (by decide) rfl
              · exact s3 e hee y hy e1
              · obtain ⟨_, h4⟩ := (h.cell d y hd).2.vblk; exact heap_ne h1 h4 (by decide) e1
            · rw [g3] at hmine
              exact h.mine_box hq g1 hmine
            · rw [g4] at hmine
              have := h.mine_val hq g1 hmine
              exact hne (by rw [← g2, this])
        refine ⟨hmj.keep hk clash, hlj.ty, hlj.ks, hlj.vs, hlj.cap, hlj.frozen, hlj.clock, hlj.len, fun p e hp => ?_⟩
        obtain ⟨y, c, g1, g2, g3, g4, g5, g6, g7, g8⟩ := hlj.ent p e hp
        obtain ⟨c', k1, k2, k3⟩ := hcs _ _ g2
        have := k3 (by rw [g3]; exact hne)
        subst this
        have hlt := (List.getElem?_eq_some_iff.1 g2).1
        exact ⟨y, c', g1, k1, g3, g4, g5, g6.trans (hcb _ hlt).symm, g7.trans (hvb _ hlt).symm, g8⟩
  · intro c x hx
    obtain ⟨h1, h2⟩ := hce c x hx
    exact ⟨by rw [List.length_set]; exact h1, by rw [vsOf_set hA hvs]; exact h2⟩
  · have mine : ∀ (j : Nat) (r : Nat × BMap), N.mm[j]? = some r → j ≠ i → b ≠ r.1 ∧ (∀ g, M'.L.ownBlock = some g → r.2.L.ownBlock ≠ some g) ∧ ∀ e ∈ M'.l, ∀ e' ∈ r.2.l, e.eb ≠ e'.eb := by
      intro j r hr hne
      obtain ⟨s1, s2, s3⟩ := h.sep i j (b, M) r hq hr (fun e => hne e.symm)
      obtain ⟨_, _, hR, _⟩ := h.back hr
      refine ⟨s1, fun g hg hg2 => ?_, fun e hee e' hee' heq => ?_⟩
      · rcases hL with e | ⟨g', e, hlt⟩
        · rw [e] at hg; exact s2 g hg hg2
        · rw [e] at hg; cases hg
          obtain ⟨cur, h1⟩ := hR.row.blk hg2
          exact absurd (blk_lt h1) (by omega)
      · rcases he e hee with ⟨e0, h0, h1⟩ | hlt
        · exact s3 e0 h0 e' hee' (h1.trans heq)
        · have := blk_lt (hR.ents e' hee').ent
          omega
    intro j k q r hj hk2 hjk
    rcases getm j q hj with ⟨rfl, rfl⟩ | ⟨hne, hj0⟩
    · rcases getm k r hk2 with ⟨rfl, rfl⟩ | ⟨hne, hk0⟩
      · exact absurd rfl hjk
      · exact mine k r hk0 hne
    · rcases getm k r hk2 with ⟨rfl, rfl⟩ | ⟨hne2, hk0⟩
      · obtain ⟨m1, m2, m3⟩ := mine j q hj0 hne
        exact ⟨fun e => m1 e.symm, fun g h1 h2 => m2 g h2 h1, fun e h1 e' h2 h3 => m3 e' h2 e h1 h3.symm⟩
      · exact h.sep j k q r hj0 hk0 hjk
end
end Go.Proofs.YtmfgdbapankamaaGreat
namespace Go.Proofs.YtmfgdbapankamaaGreat
open Go.Eng
theorem wcell_lt {w : World} {b o : Nat} {v : Value} (h : wcell w b o = some v) : b < w.heap.size := by
  unfold wcell at h
  cases hb : w.heap[b]? with
  | none => rw [hb] at h; cases h
  | some ob => exact blk_lt hb
theorem wrow_list {w : World} {b off : Nat} {r : List Value} (hr : 0 < r.length) (h : ∀ j, j < r.length → wcell w b (off + j) = r[j]?) : wrow w b off r.length = some r.toArray := by
  unfold wrow
  have h0 := h (r.length - 1) (by omega)
  unfold wcell at h h0
  cases hb : w.heap[b]? with
  | none =>
    rw [hb] at h0
    have : r[r.length - 1]? = none := by rw [← h0]
    rw [List.getElem?_eq_none_iff] at this
    omega
  | some o =>
    cases o with
    | cells c T fz =>
      rw [hb] at h0
      simp only at h0 ⊢
      have hlt : off + (r.length - 1) < c.size := by
        have : (c[off + (r.length - 1)]?).isSome = true := by
          rw [h0, List.getElem?_eq_getElem (by omega)]; rfl
        simpa using this
      rw [if_pos (by omega)]
      congr 1
      apply Array.ext_getElem?
      intro j
      rw [Array.getElem?_extract]
      by_cases hj : j < r.length
      · rw [if_pos (by omega)]
        have := h j hj
        rw [hb] at this
        simp only at this
        rw [this]
        simp
      · rw [if_neg (by omega)]
        simp
        omega
    | _ =>
      rw [hb] at h0
      have : r[r.length - 1]? = none := by rw [← h0]
      rw [List.getElem?_eq_none_iff] at this
      omega
def key4 (x : Nat → Nat) : ByteArray := ⟨#[UInt8.ofNat (x 0), UInt8.ofNat (x 1), UInt8.ofNat (x 2), UInt8.ofNat (x 3)]⟩
theorem keyAt4 {w : World} {b o c : Nat} {x : Nat → Nat} (hx : ∀ j, x j ≤ 255) (h : ∀ j, j < 4 → wcell w b (o + j) = some (.int .u8 (x j))) : KeyAt w (.slice (some ⟨b, o, none⟩) 4 c) (key4 x) := by
  have hw : wrow w b o 4 = some #[.int .u8 (x 0), .int .u8 (x 1), .int .u8 (x 2), .int .u8 (x 3)] := by
    refine wrow_list (r := [.int .u8 (x 0), .int .u8 (x 1), .int .u8 (x 2), .int .u8 (x 3)]) (by simp) ?_
    intro j hj
    rw [h j hj]
    have : j = 0 ∨ j = 1 ∨ j = 2 ∨ j = 3 := by simp at hj; omega
    rcases this with rfl | rfl | rfl | rfl <;> rfl
  refine ⟨b, o, c, rfl, ?_, ?_⟩
  · simp only [bstrv]
    show (wrow w b o 4).bind _ = _
    rw [hw]
    rfl
  · intro j hj
    have hj4 : j < 4 := hj
    refine ⟨x j, hx j, ?_, h j hj4⟩
    have : j = 0 ∨ j = 1 ∨ j = 2 ∨ j = 3 := by omega
    rcases this with rfl | rfl | rfl | rfl <;> rfl
theorem key4_inj {x y : Nat → Nat} (hx : ∀ j, x j ≤ 255) (hy : ∀ j, y j ≤ 255) (h : key4 x = key4 y) : x 0 = y 0 ∧ x 1 = y 1 ∧ x 2 = y 2 ∧ x 3 = y 3 := by
  have one : ∀ a c : Nat, a ≤ 255 → c ≤ 255 → UInt8.ofNat a = UInt8.ofNat c → a = c := by
    intro a c ha hc h
    have h2 := congrArg UInt8.toNat h
    simp at h2
    omega
  simp [key4] at h
  exact ⟨one _ _ (hx 0) (hy 0) h.1, one _ _ (hx 1) (hy 1) h.2.1, one _ _ (hx 2) (hy 2) h.2.2.1, one _ _ (hx 3) (hy 3) h.2.2.2⟩
end Go.Proofs.YtmfgdbapankamaaGreat
