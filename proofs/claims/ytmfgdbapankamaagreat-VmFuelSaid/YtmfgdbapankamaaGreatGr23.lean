/- Layer 9: maps apart from where they lie: what operations make of them. -/
import Derived.Test.YtmfgdbapankamaaGreatGr22
set_option linter.unusedSimpArgs false
set_option linter.unusedVariables false
set_option maxRecDepth 8000
namespace Go.Proofs.YtmfgdbapankamaaGreat
open Go.Eng
noncomputable def pick (P : Nat → Prop) : Option Nat := open Classical in if h : ∃ i, P i then some h.choose else none
theorem pick_one {P : Nat → Prop} {i : Nat} (h : P i) (hu : ∀ j, P j → j = i) : pick P = some i := by
  unfold pick
  have hx : ∃ i, P i := ⟨i, h⟩
  rw [dif_pos hx, hu _ hx.choose_spec]
theorem pick_none {P : Nat → Prop} (h : ∀ i, ¬ P i) : pick P = none := by
  unfold pick
  rw [dif_neg fun ⟨i, hi⟩ => h i hi]
theorem pick_of {P : Nat → Prop} {i : Nat} (h : pick P = some i) : P i := by
  unfold pick at h
  split at h
  · rename_i hx
    cases h
    exact hx.choose_spec
  · cases h
theorem pick_no {P : Nat → Prop} (h : pick P = none) (i : Nat) : ¬ P i := by
  unfold pick at h
  split at h
  · cases h
  · rename_i hx
    exact fun hi => hx ⟨i, hi⟩
def FitsK (k key : ByteArray) : Prop := cnt key ≤ cnt k ∧ bs ((maskl (nb k) (cnt key)).drop 4) = bs ((nb key).drop 4)
def rightX (A : XMap) (k : ByteArray) : Bool := !decide (A.ty = 3) && !decide (A.ty = 4) && decide ((k.size : Int) = A.ks) && (!decide (A.ty = 5) || decide (cnt k ≤ 8 * ((k.size : Int) - 4)))
def nameX (A : XMap) (k : ByteArray) : ByteArray := if A.ty = 5 then maskk k (cnt k) else k
def exactP (A : XMap) (k : ByteArray) (i : Nat) : Prop := ∃ e, A.l[i]? = some e ∧ e.key = nameX A k
def foundP (A : XMap) (k : ByteArray) (i : Nat) : Prop := ∃ e, A.l[i]? = some e ∧ if A.ty = 5 then FitsK k e.key ∧ ∀ e' ∈ A.l, FitsK k e'.key → cnt e'.key ≤ cnt e.key else e.key = k
def minP (A : XMap) (i : Nat) : Prop := ∃ e, A.l[i]? = some e ∧ ∀ c ∈ A.l, e.used ≤ c.used
def XMap.usedAt (A : XMap) (i : Nat) (e : XEnt) : XMap := { A with clock := A.clock + 1, l := A.l.set i { e with used := A.clock + 1 } }
noncomputable def cellX (A : XMap) (k : ByteArray) : Option (XMap × Nat) :=
  if rightX A k = false then none else
  match pick (foundP A k) with
  | none => none
  | some i => match A.l[i]? with
    | none => none
    | some e => some (A.usedAt i e, e.id)
def setVal (cs : List XCell) (id : Nat) (x : Nat → Int) : List XCell := match cs[id]? with
  | none => cs
  | some c => cs.set id { c with val := x }
def XMap.more (A : XMap) (l : List XEnt) (k : ByteArray) (id : Nat) : XMap := { A with clock := A.clock + 1, l := l ++ [⟨nameX A k, id, A.clock + 1⟩] }
noncomputable def updX (A : XMap) (cs : List XCell) (slot : Nat) (k : ByteArray) (x : Nat → Int) (fl : Int) : Int × XMap × List XCell :=
  if rightX A k = false ∨ 2 < fl then (22, A, cs) else
  match pick (exactP A k) with
  | some i => match A.l[i]? with
    | none => (0, A, cs)
    | some e => if fl = 1 then (17, A, cs) else (0, A.usedAt i e, setVal cs e.id x)
  | none => if A.ty = 0 then (7, A, cs) else if fl = 2 then (2, A, cs) else
    if (A.l.length : Int) < A.cap then (0, A.more A.l k cs.length, cs ++ [⟨slot, x⟩])
    else if A.ty ≠ 2 then (7, A, cs) else
    match pick (minP A) with
    | none => (0, A, cs)
    | some i => (0, A.more (A.l.eraseIdx i) k cs.length, cs ++ [⟨slot, x⟩])
noncomputable def delX (A : XMap) (k : ByteArray) : Int × XMap :=
  if rightX A k = false ∨ A.ty = 0 then (22, A) else
  match pick (exactP A k) with
  | none => (2, A)
  | some i => (0, { A with l := A.l.eraseIdx i })
def linedX (A : XMap) : Bool := decide (A.ty = 3) || decide (A.ty = 4)
def pushX (A : XMap) (cs : List XCell) (slot : Nat) (x : Nat → Int) (fl : Int) : Int × XMap × List XCell :=
  if linedX A = false ∨ fl ≠ 0 then (22, A, cs) else if (A.l.length : Int) = A.cap then (7, A, cs)
  else (0, { A with l := A.l ++ [⟨⟨#[]⟩, cs.length, 0⟩] }, cs ++ [⟨slot, x⟩])
def nextX (A : XMap) : Nat := if A.ty = 4 then A.l.length - 1 else 0
def peekX (A : XMap) : Option Nat := A.l[nextX A]?.map (·.id)
def popX (A : XMap) : XMap := if A.l.length = 0 then A else { A with l := A.l.eraseIdx (nextX A) }
structure AOk (A : XMap) : Prop where
  spec : specOk A.ty A.ks A.vs A.cap
  len : (A.l.length : Int) ≤ A.cap
  keys : linedX A = false → A.l.Pairwise fun a b => a.key ≠ b.key
  used : A.ty = 2 → A.l.Pairwise fun a b => a.used ≠ b.used
  le : ∀ e ∈ A.l, e.used ≤ A.clock
  size : A.ty = 5 → ∀ e ∈ A.l, (e.key.size : Int) = A.ks
  pos : 0 ≤ A.clock
theorem pairwise_get {α : Type} {R : α → α → Prop} (hs : ∀ a b, R a b → R b a) {l : List α} (h : l.Pairwise R) {i j : Nat} {a b : α} (hi : l[i]? = some a) (hj : l[j]? = some b) (hn : ¬ R a b) : i = j := by
  obtain ⟨hi', rfl⟩ := List.getElem?_eq_some_iff.1 hi
  obtain ⟨hj', rfl⟩ := List.getElem?_eq_some_iff.1 hj
  rcases Nat.lt_trichotomy i j with h1 | h1 | h1
  · exact absurd (List.pairwise_iff_getElem.1 h i j hi' hj' h1) hn
  · exact h1
  · exact absurd (hs _ _ (List.pairwise_iff_getElem.1 h j i hj' hi' h1)) hn
theorem right_lined {A : XMap} {k : ByteArray} (h : rightX A k = true) : linedX A = false := by
  simp [rightX, linedX] at h ⊢
  exact h.1.1
theorem exact_one {A : XMap} (h : AOk A) {k : ByteArray} (hr : rightX A k = true) {i : Nat} (hi : exactP A k i) : pick (exactP A k) = some i := by
  refine pick_one hi fun j hj => ?_
  obtain ⟨e, he, hk⟩ := hi
  obtain ⟨e', he', hk'⟩ := hj
  exact pairwise_get (fun _ _ h e => h e.symm) (h.keys (right_lined hr)) he' he (fun hn => hn (hk'.trans hk.symm))
theorem min_one {A : XMap} (h : AOk A) (h2 : A.ty = 2) {i : Nat} (hi : minP A i) : pick (minP A) = some i := by
  refine pick_one hi fun j hj => ?_
  obtain ⟨e, he, hk⟩ := hi
  obtain ⟨e', he', hk'⟩ := hj
  refine pairwise_get (fun _ _ h e => h e.symm) (h.used h2) he' he (fun hn => hn ?_)
  have h1 := hk e' (List.mem_of_getElem? he')
  have h3 := hk' e (List.mem_of_getElem? he)
  omega
theorem cnt_four {a b : ByteArray} (ha : 4 ≤ a.size) (hb : 4 ≤ b.size) (h : cnt a = cnt b) (j : Nat) (hj : j < 4) : (nb a)[j]? = (nb b)[j]? := by
  have b1 := nbk_le a
  have b2 := nbk_le b
  have e : nbk a j = nbk b j := by
    have hcq : ∀ q, cnt q = nbk q 0 + 256 * nbk q 1 + 65536 * nbk q 2 + 16777216 * nbk q 3 := by
      intro q
      simp [cnt, leN]
      omega
    rw [hcq, hcq] at h
    have a0 := b1 0; have a1 := b1 1; have a2 := b1 2; have a3 := b1 3
    have c0 := b2 0; have c1 := b2 1; have c2 := b2 2; have c3 := b2 3
    have hh : nbk a 0 = nbk b 0 ∧ nbk a 1 = nbk b 1 ∧ nbk a 2 = nbk b 2 ∧ nbk a 3 = nbk b 3 := by
      omega
    rcases (by omega : j = 0 ∨ j = 1 ∨ j = 2 ∨ j = 3) with rfl | rfl | rfl | rfl
    · exact hh.1
    · exact hh.2.1
    · exact hh.2.2.1
    · exact hh.2.2.2
  have la : j < (nb a).length := by simpa using (show j < a.size by omega)
  have lb : j < (nb b).length := by simpa using (show j < b.size by omega)
  have ga := List.getElem?_eq_getElem la
  have gb := List.getElem?_eq_getElem lb
  unfold nbk at e
  rw [List.getD_eq_getElem?_getD, List.getD_eq_getElem?_getD, ga, gb, Option.getD_some, Option.getD_some] at e
  rw [ga, gb]
  congr 1
  omega
theorem fits_same {k a b : ByteArray} (h4 : 4 ≤ a.size) (hs : a.size = b.size) (ha : FitsK k a) (hb : FitsK k b) (hc : cnt a = cnt b) : a = b := by
  have h1 : bs ((nb a).drop 4) = bs ((nb b).drop 4) := by rw [← ha.2, ← hb.2, hc]
  have h2 : (nb a).drop 4 = (nb b).drop 4 := bs_inj (fun x hx => nb_le a x (List.mem_of_mem_drop hx)) (fun x hx => nb_le b x (List.mem_of_mem_drop hx)) h1
  have h3 : (nb a).take 4 = (nb b).take 4 := by
    apply List.ext_getElem?
    intro j
    rw [List.getElem?_take, List.getElem?_take]
    by_cases hj : j < 4
    · rw [if_pos hj, if_pos hj]
      exact cnt_four h4 (by omega) hc j hj
    · rw [if_neg hj, if_neg hj]
  have h5 : nb a = nb b := by rw [← List.take_append_drop 4 (nb a), ← List.take_append_drop 4 (nb b), h2, h3]
  rw [← bs_nb a, ← bs_nb b, h5]
theorem found_one {A : XMap} (h : AOk A) {k : ByteArray} (hr : rightX A k = true) {i : Nat} (hi : foundP A k i) : pick (foundP A k) = some i := by
  refine pick_one hi fun j hj => ?_
  obtain ⟨e, he, hk⟩ := hi
  obtain ⟨e', he', hk'⟩ := hj
  refine pairwise_get (fun _ _ h e => h e.symm) (h.keys (right_lined hr)) he' he (fun hn => hn ?_)
  by_cases h5 : A.ty = 5
  · rw [if_pos h5] at hk hk'
    have m1 := List.mem_of_getElem? he
    have m2 := List.mem_of_getElem? he'
    have s1 := h.size h5 e m1
    have s2 := h.size h5 e' m2
    have c1 := hk.2 e' m2 hk'.1
    have c2 := hk'.2 e m1 hk.1
    have hsp := h.spec
    unfold specOk at hsp
    exact fits_same (k := k) (by omega) (by omega) hk'.1 hk.1 (by omega)
  · rw [if_neg h5] at hk hk'
    exact hk'.trans hk.symm
end Go.Proofs.YtmfgdbapankamaaGreat
namespace Go.Proofs.YtmfgdbapankamaaGreat
open Go.Eng
theorem pairwise_put {α : Type} {R : α → α → Prop} (hs : ∀ a b, R a b → R b a) {l : List α} (h : l.Pairwise R) {i : Nat} {a : α} (ha : ∀ (j : Nat) (b : α), l[j]? = some b → j ≠ i → R a b) : (l.set i a).Pairwise R := by
  rw [List.pairwise_iff_getElem]
  intro p q hp hq hpq
  rw [List.length_set] at hp hq
  rw [List.getElem_set, List.getElem_set]
  split
  · rename_i e
    rw [if_neg (by omega)]
    exact ha q _ (List.getElem?_eq_getElem hq) (by omega)
  · split
    · rename_i e
      exact hs _ _ (ha p _ (List.getElem?_eq_getElem hp) (by omega))
    · exact List.pairwise_iff_getElem.1 h p q hp hq hpq
theorem mem_set_or {α : Type} {l : List α} {i : Nat} {a b : α} (h : b ∈ l.set i a) : b = a ∨ b ∈ l := by
  rcases List.mem_or_eq_of_mem_set h with h | h
  · exact .inr h
  · exact .inl h
theorem AOk.usedAt {A : XMap} (h : AOk A) {i : Nat} {e : XEnt} (hi : A.l[i]? = some e) : AOk (A.usedAt i e) where
  spec := h.spec
  len := by show ((A.l.set i _).length : Int) ≤ _; rw [List.length_set]; exact h.len
  keys := fun hl => pairwise_put (fun _ _ h e => h e.symm) (h.keys hl) fun j b hj hn hk => hn (pairwise_get (fun _ _ h e => h e.symm) (h.keys hl) hj hi fun hne => hne hk.symm)
  used := fun hl => pairwise_put (fun _ _ h e => h e.symm) (h.used hl) fun j b hj hn hk => by
    have := h.le b (List.mem_of_getElem? hj)
    have hk : A.clock + 1 = b.used := hk
    omega
  le := fun b hb => by
    rcases mem_set_or hb with rfl | hb
    · exact Int.le_refl _
    · have := h.le b hb; show b.used ≤ A.clock + 1; omega
  size := fun h5 b hb => by
    rcases mem_set_or hb with rfl | hb
    · exact h.size h5 e (List.mem_of_getElem? hi)
    · exact h.size h5 b hb
  pos := by have := h.pos; show 0 ≤ A.clock + 1; omega
theorem AOk.erase {A : XMap} (h : AOk A) (i : Nat) : AOk { A with l := A.l.eraseIdx i } where
  spec := h.spec
  len := by have := List.length_eraseIdx_le A.l i; have := h.len; show ((A.l.eraseIdx i).length : Int) ≤ A.cap; omega
  keys := fun hl => (h.keys hl).sublist (List.eraseIdx_sublist _ _)
  used := fun hl => (h.used hl).sublist (List.eraseIdx_sublist _ _)
  le := fun b hb => h.le b (List.mem_of_mem_eraseIdx hb)
  size := fun h5 b hb => h.size h5 b (List.mem_of_mem_eraseIdx hb)
  pos := h.pos
theorem nameX_size (A : XMap) (k : ByteArray) : (nameX A k).size = k.size := by
  unfold nameX
  split
  · simp
  · rfl
theorem AOk.more {A : XMap} (h : AOk A) {l : List XEnt} {k : ByteArray} {id : Nat} (hl : l.Sublist A.l) (hlen : (l.length : Int) < A.cap) (hno : ∀ e ∈ A.l, e.key ≠ nameX A k) (hk : A.ty = 5 → (k.size : Int) = A.ks) : AOk (A.more l k id) where
  spec := h.spec
  len := by show ((l ++ [_]).length : Int) ≤ _; rw [List.length_append]; show ((l.length + 1 : Nat) : Int) ≤ A.cap; omega
  keys := fun hn => List.pairwise_append.2 ⟨(h.keys hn).sublist hl, List.pairwise_singleton _ _, fun a ha b hb => by
    cases List.mem_singleton.1 hb
    exact hno a (hl.subset ha)⟩
  used := fun hn => List.pairwise_append.2 ⟨(h.used hn).sublist hl, List.pairwise_singleton _ _, fun a ha b hb => by
    cases List.mem_singleton.1 hb
    have := h.le a (hl.subset ha)
    show a.used ≠ A.clock + 1
    omega⟩
  le := fun b hb => by
    rcases List.mem_append.1 hb with hb | hb
    · have := h.le b (hl.subset hb); show b.used ≤ A.clock + 1; omega
    · cases List.mem_singleton.1 hb; exact Int.le_refl _
  size := fun h5 b hb => by
    rcases List.mem_append.1 hb with hb | hb
    · exact h.size h5 b (hl.subset hb)
    · cases List.mem_singleton.1 hb
      show ((nameX A k).size : Int) = A.ks
      rw [nameX_size]
      exact hk h5
  pos := by have := h.pos; show 0 ≤ A.clock + 1; omega
theorem right_size {A : XMap} {k : ByteArray} (h : rightX A k = true) : (k.size : Int) = A.ks := by
  simp [rightX] at h
  exact h.1.2
theorem AOk.upd {A : XMap} (h : AOk A) (cs : List XCell) (slot : Nat) (k : ByteArray) (x : Nat → Int) (fl : Int) : AOk (updX A cs slot k x fl).2.1 := by
  unfold updX
  split
  · exact h
  rename_i hr
  have hr' : rightX A k = true := by
    cases hq : rightX A k with
    | true => rfl
    | false => exact absurd (.inl hq) hr
  split
  · split
    · exact h
    · split
      · exact h
      · rename_i he _; exact h.usedAt he
  · rename_i hp
    have hno : ∀ e ∈ A.l, e.key ≠ nameX A k := fun e he hk => by
      obtain ⟨j, hj⟩ := List.mem_iff_getElem?.1 he
      exact pick_no hp j ⟨e, hj, hk⟩
    split
    · exact h
    split
    · exact h
    split
    · rename_i hlt; exact h.more (List.Sublist.refl _) hlt hno fun _ => right_size hr'
    split
    · exact h
    split
    · exact h
    · rename_i i hm
      obtain ⟨e, he, _⟩ := pick_of hm
      have hlt := (List.getElem?_eq_some_iff.1 he).1
      refine h.more (List.eraseIdx_sublist _ _) ?_ hno fun _ => right_size hr'
      have := h.len
      rw [List.length_eraseIdx_of_lt hlt]
      omega
theorem AOk.del {A : XMap} (h : AOk A) (k : ByteArray) : AOk (delX A k).2 := by
  unfold delX
  split
  · exact h
  split
  · exact h
  · exact h.erase _
theorem AOk.push {A : XMap} (h : AOk A) (cs : List XCell) (slot : Nat) (x : Nat → Int) (fl : Int) : AOk (pushX A cs slot x fl).2.1 := by
  unfold pushX
  split
  · exact h
  rename_i hl
  have hlin : linedX A = true := by
    cases hq : linedX A with
    | true => rfl
    | false => exact absurd (.inl hq) hl
  split
  · exact h
  rename_i hc
  have := h.len
  have hty : A.ty = 3 ∨ A.ty = 4 := by simpa [linedX] using hlin
  have hw : AOk { A with l := A.l ++ [⟨⟨#[]⟩, cs.length, 0⟩] } := {
    spec := h.spec
    len := by show ((A.l ++ [_]).length : Int) ≤ _; rw [List.length_append]; show ((A.l.length + 1 : Nat) : Int) ≤ A.cap; omega
    keys := fun hn => by
      have hn : linedX A = false := hn
      rw [hlin] at hn; cases hn
    used := fun h2 => by
      have h2 : A.ty = 2 := h2
      omega
    le := fun b hb => by
      rcases List.mem_append.1 hb with hb | hb
      · exact h.le b hb
      · cases List.mem_singleton.1 hb; exact h.pos
    size := fun h5 => by
      have h5 : A.ty = 5 := h5
      omega
    pos := h.pos }
  exact hw
theorem AOk.pop {A : XMap} (h : AOk A) : AOk (popX A) := by
  unfold popX
  split
  · exact h
  · exact h.erase _
end Go.Proofs.YtmfgdbapankamaaGreat
namespace Go.Proofs.YtmfgdbapankamaaGreat
open Go.Eng
structure NExt (w : World) (N N' : Names) (n n' : Nat) : Prop where
  cb : ∀ c, c < n → N'.cb c = N.cb c
  vb : ∀ c, c < n → N'.vb c = N.vb c
  mb : N'.mm.map (·.1) = N.mm.map (·.1)
  own : ∀ j, N'.own n' j → N.own n j ∨ w.heap.size ≤ j
  le : n ≤ n'
theorem NExt.refl (w : World) (N : Names) (n : Nat) : NExt w N N n n := ⟨fun _ _ => rfl, fun _ _ => rfl, rfl, fun _ h => .inl h, Nat.le_refl _⟩
theorem NExt.trans {w w' : World} {N N' N2 : Names} {n n' n2 : Nat} (h : NExt w N N' n n') (h2 : NExt w' N' N2 n' n2) (hs : w.heap.size ≤ w'.heap.size) : NExt w N N2 n n2 :=
  ⟨fun c hc => (h2.cb c (by have := h.le; omega)).trans (h.cb c hc), fun c hc => (h2.vb c (by have := h.le; omega)).trans (h.vb c hc), h2.mb.trans h.mb, fun j hj => by
    rcases h2.own j hj with h3 | h3
    · exact h.own j h3
    · exact .inr (Nat.le_trans hs h3), Nat.le_trans h.le h2.le⟩
def OutP (w : World) (N : Names) (cs : List XCell) (ms' : List XMap) (cs' : List XCell) (w' : World) : Prop := ∃ N', Placed w' N' ms' cs' ∧ NExt w N N' cs.length cs'.length ∧ Kept (N.own cs.length) w w'
theorem out_same {w w' : World} {N : Names} {ms : List XMap} {cs : List XCell} (h : Placed w N ms cs) (hk : Kept none' w w') : OutP w N cs ms cs w' := ⟨N, h.calm hk, NExt.refl _ _ _, hk.mono fun _ _ h => h.elim⟩
theorem set_self {α : Type} {l : List α} {i : Nat} {a : α} (h : l[i]? = some a) : l.set i a = l := by
  apply List.ext_getElem?
  intro j
  rw [List.getElem?_set]
  split
  · rename_i e
    subst e
    rw [if_pos (List.getElem?_eq_some_iff.1 h).1, h]
  · rfl
theorem ent_cell {w : World} {V : Nat} {e : BEnt} (h : EntAt w V e) : CellAt w e.cb e.vb V e.val := by
  obtain ⟨c, h1, h2⟩ := h.cell
  exact ⟨⟨c, h1, h2⟩, h.val, h.byte⟩
section
variable {w : World} {N : Names} {ms : List XMap} {cs : List XCell} {cb vb : Nat → Nat} {s : Nat} {A : XMap} {M : BMap}
theorem Like.right (h : Like cb vb cs s A M) (k : ByteArray) : rightB M k = rightX A k := by unfold rightB rightX; rw [h.ty, h.ks]
theorem Like.name (h : Like cb vb cs s A M) (k : ByteArray) : Go.Proofs.YtmfgdbapankamaaGreat.name M k = nameX A k := by unfold Go.Proofs.YtmfgdbapankamaaGreat.name nameX; rw [h.ty]
theorem Like.found (h : Like cb vb cs s A M) {i : Nat} {q : BEnt} {k : ByteArray} (hi : M.l[i]? = some q) (hf : FoundX M k q) : foundP A k i := by
  obtain ⟨e, c, h1, h2, h3, h4, _⟩ := h.back hi
  refine ⟨e, h1, ?_⟩
  unfold FoundX at hf
  rw [h.ty] at hf
  by_cases h5 : A.ty = 5
  · rw [if_pos h5] at hf ⊢
    obtain ⟨f1, f2⟩ := hf
    refine ⟨by unfold FitsK; rw [← h4]; exact f1, fun e' he' hf' => ?_⟩
    obtain ⟨j, hj⟩ := List.mem_iff_getElem?.1 he'
    obtain ⟨q', c', g1, _, _, g4, _⟩ := h.ent j e' hj
    have := f2 q' (List.mem_of_getElem? g1) (by unfold Fits; rw [g4]; exact hf')
    rw [g4, h4] at this
    exact this
  · rw [if_neg h5] at hf ⊢
    rw [← h4]
    exact hf
theorem Like.nofound (h : Like cb vb cs s A M) {k : ByteArray} (hn : NoneX M k) (i : Nat) : ¬ foundP A k i := by
  rintro ⟨e, h1, h2⟩
  obtain ⟨q, c, g1, _, _, g4, _⟩ := h.ent i e h1
  unfold NoneX at hn
  rw [h.ty] at hn
  by_cases h5 : A.ty = 5
  · rw [if_pos h5] at hn h2
    exact hn q (List.mem_of_getElem? g1) (by unfold Fits; rw [g4]; exact h2.1)
  · rw [if_neg h5] at hn h2
    exact hn q (List.mem_of_getElem? g1) (g4.trans h2)
theorem Like.exact (h : Like cb vb cs s A M) {i : Nat} {q : BEnt} {k : ByteArray} (hi : M.l[i]? = some q) (hk : q.key = Go.Proofs.YtmfgdbapankamaaGreat.name M k) : exactP A k i := by
  obtain ⟨e, c, h1, h2, h3, h4, _⟩ := h.back hi
  exact ⟨e, h1, by rw [← h4, hk, h.name]⟩
theorem Like.noexact (h : Like cb vb cs s A M) {k : ByteArray} (hn : ∀ e ∈ M.l, e.key ≠ Go.Proofs.YtmfgdbapankamaaGreat.name M k) (i : Nat) : ¬ exactP A k i := by
  rintro ⟨e, h1, h2⟩
  obtain ⟨q, c, g1, _, _, g4, _⟩ := h.ent i e h1
  exact hn q (List.mem_of_getElem? g1) (by rw [g4, h2, h.name])
theorem Like.min (h : Like cb vb cs s A M) {i : Nat} {q : BEnt} (hi : M.l[i]? = some q) (hm : ∀ c ∈ M.l, q.used ≤ c.used) : minP A i := by
  obtain ⟨e, c, h1, h2, h3, _, h5, _⟩ := h.back hi
  refine ⟨e, h1, fun e' he' => ?_⟩
  obtain ⟨j, hj⟩ := List.mem_iff_getElem?.1 he'
  obtain ⟨q', c', g1, _, _, _, g5, _⟩ := h.ent j e' hj
  have := hm q' (List.mem_of_getElem? g1)
  omega
theorem Like.put (h : Like cb vb cs s A M) {i : Nat} {e' : XEnt} {q' : BEnt} {c' : XCell} {ck : Int} {cs' : List XCell} (hi : i < A.l.length) (hc : cs'[e'.id]? = some c') (hs : c'.slot = s) (h1 : q'.key = e'.key) (h2 : q'.used = e'.used) (h3 : q'.cb = cb e'.id) (h4 : q'.vb = vb e'.id) (h5 : q'.val = c'.val)
    (ho : ∀ (j : Nat) (e : XEnt) (c : XCell), A.l[j]? = some e → j ≠ i → cs[e.id]? = some c → cs'[e.id]? = some c) : Like cb vb cs' s { A with clock := ck, l := A.l.set i e' } { M with clock := ck, l := M.l.set i q' } where
  ty := h.ty
  ks := h.ks
  vs := h.vs
  cap := h.cap
  frozen := h.frozen
  clock := rfl
  len := by show (M.l.set i q').length = (A.l.set i e').length; rw [List.length_set, List.length_set]; exact h.len
  ent := fun j e hj => by
    have hj : (A.l.set i e')[j]? = some e := hj
    show ∃ q c, (M.l.set i q')[j]? = some q ∧ _
    rw [List.getElem?_set] at hj ⊢
    by_cases he : i = j
    · subst he
      rw [if_pos rfl, if_pos hi] at hj
      cases hj
      rw [if_pos rfl, if_pos (by rw [h.len]; exact hi)]
      exact ⟨q', c', rfl, hc, hs, h1, h2, h3, h4, h5⟩
    · rw [if_neg he] at hj
      rw [if_neg he]
      obtain ⟨q, c, g1, g2, g3⟩ := h.ent j e hj
      exact ⟨q, c, g1, ho j e c hj (fun h => he h.symm) g2, g3⟩
theorem Like.erase (h : Like cb vb cs s A M) (i : Nat) (L : Value) : Like cb vb cs s { A with l := A.l.eraseIdx i } { M with L := L, l := M.l.eraseIdx i } where
  ty := h.ty
  ks := h.ks
  vs := h.vs
  cap := h.cap
  frozen := h.frozen
  clock := h.clock
  len := by show (M.l.eraseIdx i).length = (A.l.eraseIdx i).length; rw [List.length_eraseIdx, List.length_eraseIdx, h.len]
  ent := fun j e hj => by
    have hj : (A.l.eraseIdx i)[j]? = some e := hj
    show ∃ q c, (M.l.eraseIdx i)[j]? = some q ∧ _
    rw [List.getElem?_eraseIdx] at hj ⊢
    split at hj
    · rename_i hlt; rw [if_pos hlt]; exact h.ent j e hj
    · rename_i hlt; rw [if_neg hlt]; exact h.ent (j + 1) e hj
theorem Like.snoc (h : Like cb vb cs s A M) {a : BEnt} {e : XEnt} {ck : Int} {L : Value} {cb' vb' : Nat → Nat} {x : XCell} (hid : e.id = cs.length) (hs : x.slot = s) (h1 : a.key = e.key) (h2 : a.used = e.used) (h3 : a.cb = cb' cs.length) (h4 : a.vb = vb' cs.length) (h5 : a.val = x.val)
    (hcb : ∀ c, c < cs.length → cb' c = cb c) (hvb : ∀ c, c < cs.length → vb' c = vb c) : Like cb' vb' (cs ++ [x]) s { A with clock := ck, l := A.l ++ [e] } { M with clock := ck, L := L, l := M.l ++ [a] } where
  ty := h.ty
  ks := h.ks
  vs := h.vs
  cap := h.cap
  frozen := h.frozen
  clock := rfl
  len := by show (M.l ++ [a]).length = (A.l ++ [e]).length; rw [List.length_append, List.length_append, h.len]; rfl
  ent := fun j y hj => by
    have hj : (A.l ++ [e])[j]? = some y := hj
    show ∃ q c, (M.l ++ [a])[j]? = some q ∧ _
    by_cases hlt : j < A.l.length
    · rw [List.getElem?_append_left hlt] at hj
      rw [List.getElem?_append_left (by rw [h.len]; exact hlt)]
      obtain ⟨q, c, g1, g2, g3, g4, g5, g6, g7, g8⟩ := h.ent j y hj
      have hl := (List.getElem?_eq_some_iff.1 g2).1
      exact ⟨q, c, g1, by rw [List.getElem?_append_left hl]; exact g2, g3, g4, g5, by rw [hcb _ hl]; exact g6, by rw [hvb _ hl]; exact g7, g8⟩
    · have hj2 := (List.getElem?_eq_some_iff.1 hj).1
      rw [List.length_append] at hj2
      have hje : j = A.l.length := by simp at hj2; omega
      subst hje
      rw [List.getElem?_append_right (Nat.le_refl _), Nat.sub_self] at hj
      cases hj
      rw [List.getElem?_append_right (by rw [h.len]; exact Nat.le_refl _), h.len, Nat.sub_self]
      exact ⟨a, x, rfl, by rw [hid, List.getElem?_append_right (Nat.le_refl _), Nat.sub_self]; rfl, hs, h1, h2, by rw [hid]; exact h3, by rw [hid]; exact h4, h5⟩
theorem Like.ids (h : Like cb vb cs s A M) (ha : M.l.Pairwise apart) {i j : Nat} {e e' : XEnt} (hi : A.l[i]? = some e) (hj : A.l[j]? = some e') (hne : i ≠ j) : e.id ≠ e'.id := by
  intro he
  obtain ⟨q, c, g1, _, _, _, _, g6, _⟩ := h.ent i e hi
  obtain ⟨q', c', k1, _, _, _, _, k6, _⟩ := h.ent j e' hj
  have := (apart_of ha g1 k1 hne).2.1
  rw [g6, k6, he] at this
  exact this rfl
theorem Placed.cells_keep (h : Placed w N ms cs) {i b : Nat} (hq : N.mm[i]? = some (b, M)) {S : Nat → Prop} {w' : World} (hk : Kept S w w') (hS : ∀ j, S j → j = b ∨ M.L.ownBlock = some j ∨ ∃ e ∈ M.l, j = e.eb) {c : Nat} {x : XCell} (hc : cs[c]? = some x) :
    x.slot < ms.length ∧ CellAt w' (N.cb c) (N.vb c) (vsOf ms x.slot) x.val := by
  obtain ⟨A, hA, hm, hl⟩ := h.back hq
  obtain ⟨h1, h2⟩ := h.cell c x hc
  obtain ⟨_, k1⟩ := h2.cblk
  obtain ⟨_, k2⟩ := h2.vblk
  refine ⟨h1, h2.keep hk (fun hs => ?_) (fun hs => ?_)⟩
  · rcases hS _ hs with e | e | ⟨q, hq, e⟩
    · exact heap_ne k1 hm.blk (by decide) e
    · obtain ⟨_, g⟩ := hm.row.blk e; exact heap_ne k1 g (by decide) rfl
    · exact heap_ne k1 (hm.ents q hq).ent (by decide) e
  · rcases hS _ hs with e | e | ⟨q, hq, e⟩
    · exact heap_ne k2 hm.blk (by decide) e
    · obtain ⟨_, g⟩ := hm.row.blk e; exact heap_ne k2 g (by decide) rfl
    · exact heap_ne k2 (hm.ents q hq).ent (by decide) e
theorem mm_set {l : List (Nat × BMap)} {i b : Nat} {M M' : BMap} (h : l[i]? = some (b, M)) : (l.set i (b, M')).map (·.1) = l.map (·.1) := by
  rw [List.map_set]
  exact set_self (by rw [List.getElem?_map, h]; rfl)
theorem Placed.same (h : Placed w N ms cs) {i b : Nat} {M' : BMap} {A A' : XMap} {w' : World} (hA : ms[i]? = some A) (hq : N.mm[i]? = some (b, M)) {S : Nat → Prop} (hk : Kept S w w') (hS : ∀ j, S j → j = b ∨ M.L.ownBlock = some j ∨ ∃ e ∈ M.l, j = e.eb) (hm : MapAt w' b M')
    (hl : Like N.cb N.vb cs i A' M') (hvs : A'.vs = A.vs) (hL : M'.L.ownBlock = M.L.ownBlock) (he : ∀ e ∈ M'.l, ∃ e0 ∈ M.l, e0.eb = e.eb) : OutP w N cs (ms.set i A') cs w' := by
  have hmem := List.mem_of_getElem? hq
  refine ⟨⟨N.cb, N.vb, N.mm.set i (b, M')⟩, h.step hA hq hk (fun j _ hs => ?_) hm hl hvs (fun _ _ => rfl) (fun _ _ => rfl) (fun c x hx => ⟨x, hx, rfl, fun _ => rfl⟩) (fun c x hx => h.cells_keep hq hk hS hx) h.icb h.ivb (.inl hL) (fun e hee => .inl (he e hee)), ⟨fun _ _ => rfl, fun _ _ => rfl, mm_set hq, fun j hj => .inl ?_, Nat.le_refl _⟩, hk.mono fun j _ hs => ?_⟩
  · rcases hS j hs with h1 | h1 | h1
    · exact .inl h1
    · exact .inr (.inl h1)
    · exact .inr (.inr (.inl h1))
  · rcases hj with ⟨q, hqq, hj⟩ | hj
    · rcases List.mem_or_eq_of_mem_set hqq with h1 | rfl
      · exact .inl ⟨q, h1, hj⟩
      · rcases hj with h1 | h1 | ⟨e, h1, h2⟩
        · exact .inl ⟨_, hmem, .inl h1⟩
        · exact .inl ⟨_, hmem, .inr (.inl (hL ▸ h1))⟩
        · obtain ⟨e0, h3, h4⟩ := he e h1
          exact .inl ⟨_, hmem, .inr (.inr ⟨e0, h3, h2.trans h4.symm⟩)⟩
    · exact .inr hj
  · rcases hS j hs with h1 | h1 | h1
    · exact .inl ⟨_, hmem, .inl h1⟩
    · exact .inl ⟨_, hmem, .inr (.inl h1)⟩
    · exact .inl ⟨_, hmem, .inr (.inr h1)⟩
theorem Placed.grow (h : Placed w N ms cs) {i b : Nat} {M' : BMap} {A A' : XMap} {w' : World} (hA : ms[i]? = some A) (hq : N.mm[i]? = some (b, M)) {S : Nat → Prop} (hk : Kept S w w') (hS : ∀ j, S j → j = b ∨ M.L.ownBlock = some j ∨ ∃ e ∈ M.l, j = e.eb) (hm : MapAt w' b M') {a : BEnt} {x : Nat → Int}
    (hl : Like (fun c => if c = cs.length then a.cb else N.cb c) (fun c => if c = cs.length then a.vb else N.vb c) (cs ++ [⟨i, x⟩]) i A' M') (hvs : A'.vs = A.vs) (hL : M'.L.ownBlock = M.L.ownBlock ∨ ∃ g, M'.L.ownBlock = some g ∧ w.heap.size ≤ g)
    (he : ∀ e ∈ M'.l, e = a ∨ ∃ e0 ∈ M.l, e0.eb = e.eb) (hx : a.val = x) (ham : a ∈ M'.l) (h1 : w.heap.size ≤ a.eb) (h2 : w.heap.size ≤ a.cb) (h3 : w.heap.size ≤ a.vb) : OutP w N cs (ms.set i A') (cs ++ [⟨i, x⟩]) w' := by
  have hmem := List.mem_of_getElem? hq
  have hil : i < ms.length := (List.getElem?_eq_some_iff.1 hA).1
  have hvm : M'.vs = vsOf ms i := by rw [hl.vs, hvs]; unfold vsOf; rw [hA]; rfl
  have low : ∀ c, c < cs.length → N.cb c < w.heap.size ∧ N.vb c < w.heap.size := fun c hc => ⟨h.own_lt (.inr ⟨c, hc, .inl rfl⟩), h.own_lt (.inr ⟨c, hc, .inr rfl⟩)⟩
  refine ⟨⟨_, _, N.mm.set i (b, M')⟩, h.step hA hq hk (fun j _ hs => ?_) hm hl hvs (fun c hc => if_neg (by omega)) (fun c hc => if_neg (by omega)) (fun c y hy => ⟨y, by rw [List.getElem?_append_left (List.getElem?_eq_some_iff.1 hy).1]; exact hy, rfl, fun _ => rfl⟩) (fun c y hy => ?_) ?_ ?_ hL (fun e hee => ?_), ⟨fun c hc => if_neg (by omega), fun c hc => if_neg (by omega), mm_set hq, fun j hj => ?_, by rw [List.length_append]; omega⟩, hk.mono fun j _ hs => ?_⟩
  · rcases hS j hs with h1 | h1 | h1
    · exact .inl h1
    · exact .inr (.inl h1)
    · exact .inr (.inr (.inl h1))
  · by_cases hc : c < cs.length
    · rw [List.getElem?_append_left hc] at hy
      rw [if_neg (by omega), if_neg (by omega)]
      exact h.cells_keep hq hk hS hy
    · have hlt := (List.getElem?_eq_some_iff.1 hy).1
      rw [List.length_append] at hlt
      have : c = cs.length := by simp at hlt; omega
      subst this
      rw [List.getElem?_append_right (Nat.le_refl _), Nat.sub_self] at hy
      cases hy
      rw [if_pos rfl, if_pos rfl]
      refine ⟨hil, ?_⟩
      have := ent_cell (hm.ents a ham)
      rw [hvm, hx] at this
      exact this
  · intro c d hc hd hcd
    rw [List.length_append] at hc hd
    simp at hc hd
    by_cases c1 : c = cs.length <;> by_cases d1 : d = cs.length
    · omega
    · rw [if_pos c1, if_neg d1] at hcd
      have := (low d (by omega)).1; omega
    · rw [if_neg c1, if_pos d1] at hcd
      have := (low c (by omega)).1; omega
    · rw [if_neg c1, if_neg d1] at hcd
      exact h.icb c d (by omega) (by omega) hcd
  · intro c d hc hd hcd
    rw [List.length_append] at hc hd
    simp at hc hd
    by_cases c1 : c = cs.length <;> by_cases d1 : d = cs.length
    · omega
    · rw [if_pos c1, if_neg d1] at hcd
      have := (low d (by omega)).2; omega
    · rw [if_neg c1, if_pos d1] at hcd
      have := (low c (by omega)).2; omega
    · rw [if_neg c1, if_neg d1] at hcd
      exact h.ivb c d (by omega) (by omega) hcd
  · rcases he e hee with rfl | h4
    · exact .inr h1
    · exact .inl h4
  · rcases hj with ⟨q, hqq, hj⟩ | ⟨c, hc, hj⟩
    · rcases List.mem_or_eq_of_mem_set hqq with h4 | rfl
      · exact .inl (.inl ⟨q, h4, hj⟩)
      · rcases hj with h4 | h4 | ⟨e, h4, h5⟩
        · exact .inl (.inl ⟨_, hmem, .inl h4⟩)
        · rcases hL with h5 | ⟨g, h5, h6⟩
          · exact .inl (.inl ⟨_, hmem, .inr (.inl (h5 ▸ h4))⟩)
          · have h4 : M'.L.ownBlock = some j := h4
            rw [h5] at h4; cases h4; exact .inr h6
        · rcases he e h4 with rfl | ⟨e0, h6, h7⟩
          · exact .inr (by omega)
          · exact .inl (.inl ⟨_, hmem, .inr (.inr ⟨e0, h6, h5.trans h7.symm⟩)⟩)
    · rw [List.length_append] at hc
      simp at hc
      by_cases c1 : c = cs.length
      · simp only [c1, if_true] at hj
        exact .inr (by omega)
      · simp only [c1, if_false] at hj
        exact .inl (.inr ⟨c, by omega, hj⟩)
  · rcases hS j hs with h1 | h1 | h1
    · exact .inl ⟨_, hmem, .inl h1⟩
    · exact .inl ⟨_, hmem, .inr (.inl h1)⟩
    · exact .inl ⟨_, hmem, .inr (.inr h1)⟩
end
end Go.Proofs.YtmfgdbapankamaaGreat
namespace Go.Proofs.YtmfgdbapankamaaGreat
open Go.Eng
section
variable {w : World} {N : Names} {ms : List XMap} {cs : List XCell} {i b : Nat} {A : XMap} {M : BMap}
theorem spec_facts {A : XMap} (h : AOk A) : 1 ≤ A.vs ∧ A.vs ≤ 64 ∧ 1 ≤ A.cap ∧ A.cap ≤ 64 ∧ 0 ≤ A.ks ∧ A.ks ≤ 16 ∧ (A.ty = 5 → 5 ≤ A.ks) ∧ (linedX A = false → 1 ≤ A.ks) ∧ (linedX A = true → A.ks = 0) ∧ 0 ≤ A.ty ∧ A.ty ≤ 5 := by
  have h := h.spec
  unfold specOk at h
  simp [linedX]
  omega
theorem Placed.low (h : Placed w N ms cs) (hA : ms[i]? = some A) (hq : N.mm[i]? = some (b, M)) : MapAt w b M ∧ Like N.cb N.vb cs i A M := h.map i A _ hA hq
def CellP (w : World) (N : Names) (ms : List XMap) (cs : List XCell) (i : Nat) (A : XMap) (k : ByteArray) (v : Value) (w' : World) : Prop :=
  match cellX A k with
  | none => (∃ e : Int, e ≠ 0 ∧ v = .tuple #[.pointer none, .int .i64 e]) ∧ Kept none' w w'
  | some (A', id) => v = .tuple #[.pointer (some ⟨N.cb id, 0, none⟩), .int .i64 0] ∧ (∃ c, cs[id]? = some c ∧ c.slot = i) ∧ OutP w N cs (ms.set i A') cs w'
theorem pcell_ret (h : Placed w N ms cs) (hA : ms[i]? = some A) (hq : N.mm[i]? = some (b, M)) (ok : AOk A) {kv : Value} {k : ByteArray} (hk : KeyP w kv k) (hks : (k.size : Int) = A.ks) (hc : A.clock + 1 ≤ 1000000) :
    Ret Tryz.prog 90 [.pointer (some ⟨b, 0, none⟩), kv] w fun v w' => CellP w N ms cs i A k v w' := by
  obtain ⟨hm, hl⟩ := h.low hA hq
  obtain ⟨s1, s2, s3, s4, s5, s6, s7, s8, s9, _⟩ := spec_facts ok
  have hr := hl.right k
  refine (xcell_ret b M kv k w hm hk (by omega) (fun e => by rw [hl.ty] at e; have := s7 e; rw [hl.ks]; omega) (fun e => by rw [hr] at e; have := s8 (right_lined e); omega) (fun e q hq => by
    rw [hl.ty] at e
    obtain ⟨x, c, g1, _, _, g4, _⟩ := hl.mem hq
    rw [g4, hl.ks]
    exact ok.size e x g1) (by rw [hl.clock]; exact hc)).mono fun v w' hv => ?_
  unfold CellP cellX
  unfold CellX at hv
  rw [hr] at hv
  rcases hv with ⟨h1, rfl, hkk⟩ | ⟨h1, j, q, hj, hf, rfl, hkk, hm'⟩ | ⟨h1, hno, rfl, hkk⟩
  · rw [if_pos h1]
    exact ⟨⟨22, by omega, rfl⟩, hkk⟩
  · rw [if_neg (by rw [h1]; simp), found_one ok h1 (hl.found hj hf)]
    obtain ⟨e, c, g1, g2, g3, g4, g5, g6, g7, g8⟩ := hl.back hj
    simp only [g1]
    refine ⟨by rw [g6], ⟨c, g2, g3⟩, h.same hA hq hkk (fun p hp => ?_) hm' ?_ rfl rfl (fun y hy => ?_)⟩
    · rcases hp with hp | hp
      · exact .inl hp
      · exact .inr (.inr ⟨q, List.mem_of_getElem? hj, hp⟩)
    · have := hl.put (i := j) (e' := { e with used := A.clock + 1 }) (q' := { q with used := M.clock + 1 }) (c' := c) (ck := A.clock + 1) (List.getElem?_eq_some_iff.1 g1).1 g2 g3 g4 (by show M.clock + 1 = A.clock + 1; rw [hl.clock]) g6 g7 g8 (fun _ _ _ _ _ h => h)
      unfold usedM XMap.usedAt
      rw [hl.clock] at this ⊢
      exact this
    · rcases mem_set_or hy with rfl | hy
      · exact ⟨q, List.mem_of_getElem? hj, rfl⟩
      · exact ⟨y, hy, rfl⟩
  · rw [if_neg (by rw [h1]; simp), pick_none (hl.nofound hno)]
    exact ⟨⟨2, by omega, rfl⟩, hkk⟩
def DoneP (w : World) (N : Names) (ms : List XMap) (cs : List XCell) (i : Nat) (o : Int × XMap × List XCell) (v : Value) (w' : World) : Prop := v = .int .i64 o.1 ∧ OutP w N cs (ms.set i o.2.1) o.2.2 w'
theorem done_same (h : Placed w N ms cs) (hA : ms[i]? = some A) {w' : World} (hk : Kept none' w w') (e : Int) : DoneP w N ms cs i (e, A, cs) (.int .i64 e) w' := by
  refine ⟨rfl, ?_⟩
  show OutP w N cs (ms.set i A) cs w'
  rw [set_self hA]
  exact out_same h hk
theorem pupdate_ret (h : Placed w N ms cs) (hA : ms[i]? = some A) (hq : N.mm[i]? = some (b, M)) (ok : AOk A) {kv : Value} {k : ByteArray} (hk : KeyP w kv k) (hS : k.size ≤ 1000) (hc : A.clock + 1 ≤ 1000000) (hfz : A.frozen = false) {xb xo xc : Nat} {x : Nat → Int} {fl : Int} (hfl : 0 ≤ fl)
    (hx : ∀ j, j < A.vs → wcell w xb (xo + j) = some (.int .u8 (x j))) (hxb : ∀ j, 0 ≤ x j ∧ x j ≤ 255) (hxo : xb < w.heap.size ∧ ¬ N.own cs.length xb) (hko : ∀ j, kv.ownBlock = some j → ¬ N.own cs.length j) :
    Ret Tryz.prog 11 [.pointer (some ⟨b, 0, none⟩), kv, .slice (some ⟨xb, xo, none⟩) A.vs xc, .int .u64 fl] w fun v w' => DoneP w N ms cs i (updX A cs i k x fl) v w' := by
  obtain ⟨hm, hl⟩ := h.low hA hq
  obtain ⟨s1, s2, s3, s4, s5, s6, s7, s8, s9, _⟩ := spec_facts ok
  have hr := hl.right k
  have hlen := ok.len
  have hll := hl.len
  have hown : ∀ j, M.own b j → N.own cs.length j := fun j hj => h.own_map hq hj
  have hret := xupdate_ret b M kv k xb xo xc x fl w hm hk hS (fun e => by rw [hl.ty] at e; have := s7 e; rw [hl.ks]; omega) (fun e => by rw [hr] at e; have := s8 (right_lined e); have := right_size e; omega)
    (by rw [hl.clock]; exact hc) (by rw [hl.frozen]; exact hfz) (by rw [hl.cap]; omega) (by rw [hl.vs]; omega) (by omega) hfl (by rw [hl.vs]; exact hx) hxb ⟨hxo.1, fun hj => hxo.2 (hown _ hj)⟩ (fun j hj ho => hko j hj (hown _ ho))
  rw [hl.vs] at hret
  refine hret.mono fun v w' hv => ?_
  unfold updX
  unfold UpdX at hv
  rw [hr] at hv
  rcases hv with ⟨h1, rfl, hkk⟩ | ⟨h1, h2, hv⟩
  · rw [if_pos h1]
    exact done_same h hA hkk 22
  rw [if_neg (by rw [h1]; simp; omega)]
  rcases hv with ⟨j, q, hj, hkey, hv⟩ | ⟨hno, hv⟩
  · rw [exact_one ok h1 (hl.exact hj hkey)]
    obtain ⟨e, c, g1, g2, g3, g4, g5, g6, g7, g8⟩ := hl.back hj
    simp only [g1]
    rcases hv with ⟨f1, rfl, hkk⟩ | ⟨f1, rfl, hkk, hm'⟩
    · rw [if_pos f1]
      exact done_same h hA hkk 17
    · rw [if_neg f1]
      refine ⟨rfl, ?_⟩
      show OutP w N cs (ms.set i (A.usedAt j e)) (setVal cs e.id x) w'
      have hsv : setVal cs e.id x = cs.set e.id { c with val := x } := by unfold setVal; rw [g2]
      have hidl := (List.getElem?_eq_some_iff.1 g2).1
      have hget : (cs.set e.id { c with val := x })[e.id]? = some { c with val := x } := by rw [List.getElem?_set_self hidl]
      have hqm := List.mem_of_getElem? hj
      have hmem := List.mem_of_getElem? hq
      rw [hsv]
      refine ⟨⟨N.cb, N.vb, N.mm.set i (b, writtenM M j q x)⟩, h.step hA hq hkk (fun p _ hp => ?_) hm' ?_ rfl (fun _ _ => rfl) (fun _ _ => rfl) (fun d y hd => ?_) (fun d y hd => ?_) (by rw [List.length_set]; exact h.icb) (by rw [List.length_set]; exact h.ivb) (.inl rfl) (fun y hy => .inl ?_), ⟨fun _ _ => rfl, fun _ _ => rfl, mm_set hq, fun p hp => .inl ?_, by rw [List.length_set]; exact Nat.le_refl _⟩, hkk.mono fun p _ hp => ?_⟩
      · rcases hp with hp | hp | hp
        · exact .inl hp
        · exact .inr (.inr (.inl ⟨q, hqm, hp⟩))
        · exact .inr (.inr (.inr ⟨e.id, c, g2, g3, by rw [hp, g7]⟩))
      · have := hl.put (i := j) (e' := { e with used := A.clock + 1 }) (q' := { q with used := M.clock + 1, val := x }) (c' := { c with val := x }) (ck := A.clock + 1) (List.getElem?_eq_some_iff.1 g1).1 hget g3 g4 (by show M.clock + 1 = A.clock + 1; rw [hl.clock]) g6 g7 rfl
          (fun p e' c' hp hne hc' => by rw [List.getElem?_set_ne (fun hid => hl.ids hm.apart g1 hp (fun h => hne h.symm) hid)]; exact hc')
        unfold writtenM XMap.usedAt
        rw [hl.clock] at this ⊢
        exact this
      · by_cases hd2 : e.id = d
        · subst hd2
          rw [g2] at hd; cases hd
          exact ⟨_, hget, rfl, fun hne => absurd g3 hne⟩
        · exact ⟨y, by rw [List.getElem?_set_ne hd2]; exact hd, rfl, fun _ => rfl⟩
      · by_cases hd2 : e.id = d
        · subst hd2
          rw [hget] at hd; cases hd
          have hsl := (h.cell _ c g2).1
          refine ⟨hsl, ?_⟩
          have hE := ent_cell (hm'.ents { q with used := M.clock + 1, val := x } (List.mem_set (List.getElem?_eq_some_iff.1 hj).1 _))
          show CellAt w' (N.cb e.id) (N.vb e.id) (vsOf ms c.slot) x
          have hvs : (writtenM M j q x).vs = vsOf ms c.slot := by
            rw [g3]; unfold vsOf; rw [hA]; exact hl.vs
          rw [hvs] at hE
          rw [← g6, ← g7]
          exact hE
        · rw [List.getElem?_set_ne hd2] at hd
          obtain ⟨d1, d2⟩ := h.cell d y hd
          refine ⟨d1, d2.keep hkk (fun hp => ?_) (fun hp => ?_)⟩
          · obtain ⟨_, k1⟩ := d2.cblk
            rcases hp with hp | hp | hp
            · exact heap_ne k1 hm.blk (by decide) hp
            · exact heap_ne k1 (hm.ents q hqm).ent (by decide) hp
            · obtain ⟨_, k2, _⟩ := (hm.ents q hqm).val; exact heap_ne k1 k2 (by decide) hp
          · obtain ⟨_, k1⟩ := d2.vblk
            rcases hp with hp | hp | hp
            · exact heap_ne k1 hm.blk (by decide) hp
            · exact heap_ne k1 (hm.ents q hqm).ent (by decide) hp
            · rw [g7] at hp
              exact hd2 (h.ivb e.id d hidl (List.getElem?_eq_some_iff.1 hd).1 hp.symm)
      · rcases mem_set_or hy with rfl | hy
        · exact ⟨q, hqm, rfl⟩
        · exact ⟨y, hy, rfl⟩
      · rw [List.length_set] at hp
        rcases hp with ⟨r, hr, hp⟩ | hp
        · rcases List.mem_or_eq_of_mem_set hr with h4 | rfl
          · exact .inl ⟨r, h4, hp⟩
          · rcases hp with h4 | h4 | ⟨y, h4, h5⟩
            · exact .inl ⟨_, hmem, .inl h4⟩
            · exact .inl ⟨_, hmem, .inr (.inl h4)⟩
            · rcases mem_set_or h4 with rfl | h4
              · exact .inl ⟨_, hmem, .inr (.inr ⟨q, hqm, h5⟩)⟩
              · exact .inl ⟨_, hmem, .inr (.inr ⟨y, h4, h5⟩)⟩
        · exact .inr hp
      · rcases hp with hp | hp | hp
        · exact .inl ⟨_, hmem, .inl hp⟩
        · exact .inl ⟨_, hmem, .inr (.inr ⟨q, hqm, hp⟩)⟩
        · exact .inr ⟨e.id, hidl, .inr (by rw [hp, g7])⟩
  · rw [pick_none (hl.noexact hno)]
    simp only
    rcases hv with ⟨f1, rfl, hkk⟩ | ⟨f1, f2, rfl, hkk⟩ | ⟨f1, f2, f3, f4, rfl, hkk⟩ | ⟨f1, f2, rfl, hkk, lo, L', a, hlo, a1, a2, a3, a4, a5, a6, a7, hm'⟩
    · rw [hl.ty] at f1
      rw [if_pos f1]; exact done_same h hA hkk 7
    · rw [hl.ty] at f1
      rw [if_neg f1, if_pos f2]; exact done_same h hA hkk 2
    · rw [hl.ty] at f1 f4
      rw [hl.cap, hll] at f3
      rw [if_neg f1, if_neg f2, if_neg f3, if_pos f4]; exact done_same h hA hkk 7
    · rw [hl.ty] at f1
      rw [if_neg f1, if_neg f2]
      have hS : ∀ p, (p = b ∨ M.L.ownBlock = some p) → p = b ∨ M.L.ownBlock = some p ∨ ∃ e ∈ M.l, p = e.eb := fun p hp => by
        rcases hp with hp | hp
        · exact .inl hp
        · exact .inr (.inl hp)
      have hmem : a ∈ lo ++ [a] := List.mem_append.2 (.inr (List.mem_singleton.2 rfl))
      rcases hlo with ⟨hlt, rfl⟩ | ⟨hge, h2', p, q, hp, hmin, rfl⟩
      · rw [hl.cap, hll] at hlt
        rw [if_pos hlt]
        refine ⟨rfl, h.grow hA hq hkk hS hm' (a := a) (x := x) ?_ rfl a7 (fun e he => ?_) a2 hmem a4 a5 a6⟩
        · have := hl.snoc (a := a) (e := ⟨nameX A k, cs.length, A.clock + 1⟩) (ck := A.clock + 1) (L := L') (cb' := fun c => if c = cs.length then a.cb else N.cb c) (vb' := fun c => if c = cs.length then a.vb else N.vb c) (x := ⟨i, x⟩) rfl rfl (by rw [a1, hl.name]) (by rw [a3, hl.clock]) (by rw [if_pos rfl]) (by rw [if_pos rfl]) a2 (fun c hc => if_neg (by omega)) (fun c hc => if_neg (by omega))
          unfold XMap.more
          rw [hl.clock]
          exact this
        · rcases List.mem_append.1 he with he | he
          · exact .inr ⟨e, he, rfl⟩
          · exact .inl (List.mem_singleton.1 he)
      · rw [hl.cap, hll] at hge
        rw [hl.ty] at h2'
        rw [if_neg hge, if_neg (by rw [h2']; simp), min_one ok h2' (hl.min hp hmin)]
        refine ⟨rfl, h.grow hA hq hkk hS hm' (a := a) (x := x) ?_ rfl a7 (fun e he => ?_) a2 hmem a4 a5 a6⟩
        · have := (hl.erase p M.L).snoc (a := a) (e := ⟨nameX A k, cs.length, A.clock + 1⟩) (ck := A.clock + 1) (L := L') (cb' := fun c => if c = cs.length then a.cb else N.cb c) (vb' := fun c => if c = cs.length then a.vb else N.vb c) (x := ⟨i, x⟩) rfl rfl (by rw [a1, hl.name]) (by rw [a3, hl.clock]) (by rw [if_pos rfl]) (by rw [if_pos rfl]) a2 (fun c hc => if_neg (by omega)) (fun c hc => if_neg (by omega))
          unfold XMap.more
          rw [hl.clock]
          exact this
        · rcases List.mem_append.1 he with he | he
          · exact .inr ⟨e, List.mem_of_mem_eraseIdx he, rfl⟩
          · exact .inl (List.mem_singleton.1 he)
end
end Go.Proofs.YtmfgdbapankamaaGreat
