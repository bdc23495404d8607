/- BmapLru: the order of use (plain laws). -/
import Derived.Test.YtihaopoehhnbkaaBmL
set_option linter.unusedSimpArgs false
set_option linter.unusedVariables false
set_option maxRecDepth 8000
namespace Go.Proofs.Ytihaopoehhnbkaa
open Go.Eng

def Pairs (E : List BEnt) (U : List Nat) : Prop := E.length = U.length ∧ ∀ (i : Nat) (e : BEnt) (u : Nat), E[i]? = some e → U[i]? = some u → e.key = key1 u ∧ e.val 0 = (u : Int) + 1

theorem pairs_nil : Pairs [] [] := ⟨rfl, fun i e u h => by simp at h⟩
theorem pairs_erase {E : List BEnt} {U : List Nat} (h : Pairs E U) (k : Nat) : Pairs (E.eraseIdx k) (U.eraseIdx k) := by
  refine ⟨by simp [List.length_eraseIdx, h.1], fun i e u he hu => ?_⟩
  rw [List.getElem?_eraseIdx] at he hu
  split at he
  · rename_i hik; rw [if_pos hik] at hu; exact h.2 i e u he hu
  · rename_i hik; rw [if_neg hik] at hu; exact h.2 (i + 1) e u he hu
theorem pairs_push {E : List BEnt} {U : List Nat} (h : Pairs E U) {a : BEnt} {k : Nat} (h1 : a.key = key1 k) (h2 : a.val 0 = (k : Int) + 1) : Pairs (E ++ [a]) (U ++ [k]) := by
  refine ⟨by simp [h.1], fun i e u he hu => ?_⟩
  by_cases hi : i < E.length
  · rw [List.getElem?_append_left hi] at he
    rw [List.getElem?_append_left (by rw [← h.1]; exact hi)] at hu
    exact h.2 i e u he hu
  · rw [List.getElem?_append_right (by omega)] at he
    rw [List.getElem?_append_right (by rw [← h.1]; omega), ← h.1] at hu
    have : i - E.length = 0 := by
      have := (List.getElem?_eq_some_iff.1 he).1
      simp at this; omega
    rw [this] at he hu
    simp at he hu
    subst he; subst hu
    exact ⟨h1, h2⟩

/-- U: the keys, the one that was used last behind the others. -/
structure Lru (M : BMap) (U : List Nat) : Prop where
  ex : ∃ E : List BEnt, E.Perm M.l ∧ Pairs E U ∧ E.Pairwise (fun a c => a.used < c.used) ∧ ∀ e ∈ E, e.used ≤ M.clock
  nodup : U.Nodup
  small : ∀ u ∈ U, u ≤ 255

theorem lru_len {M : BMap} {U : List Nat} (h : Lru M U) : M.l.length = U.length := by
  obtain ⟨E, hp, hq, _⟩ := h.ex
  rw [← hp.length_eq, hq.1]

theorem lru_none {M : BMap} {U : List Nat} (h : Lru M U) {k : Nat} (hk : ∀ e ∈ M.l, e.key ≠ key1 k) : k ∉ U := by
  obtain ⟨E, hp, hq, _⟩ := h.ex
  intro hU
  obtain ⟨j, hj⟩ := List.mem_iff_getElem?.1 hU
  have hjl : j < E.length := by rw [hq.1]; exact (List.getElem?_eq_some_iff.1 hj).1
  have he := List.getElem?_eq_getElem hjl
  exact hk _ (hp.mem_iff.1 (List.getElem_mem hjl)) (hq.2 j _ k he hj).1

/-- An entry of a key that is there, and where it stands in the order. -/
theorem lru_find {M : BMap} {U : List Nat} (h : Lru M U) {i k : Nat} {e : BEnt} (hi : M.l[i]? = some e) (hk : e.key = key1 k) (hk2 : k ≤ 255) :
    ∃ (E : List BEnt) (j : Nat), E.Perm M.l ∧ Pairs E U ∧ E.Pairwise (fun a c => a.used < c.used) ∧ (∀ e ∈ E, e.used ≤ M.clock) ∧ E[j]? = some e ∧ U[j]? = some k ∧ e.val 0 = (k : Int) + 1 := by
  obtain ⟨E, hp, hq, hr, hs⟩ := h.ex
  have hE : e ∈ E := hp.mem_iff.2 (List.mem_of_getElem? hi)
  obtain ⟨j, hj⟩ := List.mem_iff_getElem?.1 hE
  have hjl : j < U.length := by rw [← hq.1]; exact (List.getElem?_eq_some_iff.1 hj).1
  have hu := List.getElem?_eq_getElem hjl
  have hkv := hq.2 j e _ hj hu
  have : U[j] = k := key1_inj (h.small _ (List.getElem_mem hjl)) hk2 (by rw [← hkv.1, hk])
  rw [this] at hu hkv
  exact ⟨E, j, hp, hq, hr, hs, hj, hu, hkv.2⟩

theorem cons_erase_perm {α : Type} : ∀ {l : List α} {i : Nat} (h : i < l.length), (l[i] :: l.eraseIdx i).Perm l
  | a :: l, 0, _ => List.Perm.refl _
  | a :: l, i + 1, h => by
    have hl : i < l.length := by simpa using h
    have ih := cons_erase_perm hl
    simp only [List.getElem_cons_succ, List.eraseIdx_cons_succ]
    exact (List.Perm.swap a l[i] (l.eraseIdx i)).trans (ih.cons a)

theorem perm_erase {l : List BEnt} {i : Nat} {e : BEnt} (h : l[i]? = some e) : (e :: l.eraseIdx i).Perm l := by
  obtain ⟨hi, rfl⟩ := List.getElem?_eq_some_iff.1 h
  exact cons_erase_perm hi
theorem perm_set {l : List BEnt} {i : Nat} {e a : BEnt} (h : l[i]? = some e) : (l.set i a).Perm (a :: l.eraseIdx i) := by
  obtain ⟨hi, rfl⟩ := List.getElem?_eq_some_iff.1 h
  have h1 : (l.set i a)[i]? = some a := by simp [hi]
  have h2 := perm_erase h1
  rw [List.eraseIdx_set_eq] at h2
  exact h2.symm

theorem nodup_move {U : List Nat} (h : U.Nodup) {j k : Nat} (hj : U[j]? = some k) : (U.eraseIdx j ++ [k]).Nodup := by
  obtain ⟨hl, rfl⟩ := List.getElem?_eq_some_iff.1 hj
  have hp : (U[j] :: U.eraseIdx j).Perm U := cons_erase_perm hl
  have h1 := hp.symm.nodup h
  rw [List.nodup_cons] at h1
  rw [List.nodup_append]
  exact ⟨h1.2, by simp, fun a ha c hc => by simp at hc; subst hc; rintro rfl; exact h1.1 ha⟩

theorem lru_ordered {E : List BEnt} {c : Int} {a : BEnt} (h1 : E.Pairwise (fun a c => a.used < c.used)) (h2 : ∀ e ∈ E, e.used ≤ c) (ha : a.used = c + 1) :
    (E ++ [a]).Pairwise (fun a c => a.used < c.used) ∧ ∀ e ∈ E ++ [a], e.used ≤ c + 1 := by
  refine ⟨List.pairwise_append.2 ⟨h1, by simp, fun x hx y hy => ?_⟩, fun e he => ?_⟩
  · simp at hy; subst hy
    have := h2 x hx; omega
  · rcases List.mem_append.1 he with he | he
    · have := h2 e he; omega
    · simp at he; subst he; omega

theorem lru_touch {M M' : BMap} {U : List Nat} (h : Lru M U) {i k : Nat} {e e' : BEnt} (hi : M.l[i]? = some e) (hk : e.key = key1 k) (hk2 : k ≤ 255) (h1 : e'.key = e.key) (h2 : e'.val 0 = (k : Int) + 1) (h3 : e'.used = M.clock + 1)
    (hl : M'.l = M.l.set i e') (hc : M'.clock = M.clock + 1) {j : Nat} (hj : U[j]? = some k) : Lru M' (U.eraseIdx j ++ [k]) := by
  obtain ⟨E, j', hp, hq, hr, hs, hej, huj, hv⟩ := lru_find h hi hk hk2
  have hjj : j' = j := by
    obtain ⟨a1, a2⟩ := List.getElem?_eq_some_iff.1 hj
    obtain ⟨b1, b2⟩ := List.getElem?_eq_some_iff.1 huj
    have := List.pairwise_iff_getElem.1 h.nodup
    rcases Nat.lt_trichotomy j' j with hlt | heq | hlt
    · exact absurd (b2.trans a2.symm) (this j' j b1 a1 hlt)
    · exact heq
    · exact absurd (a2.trans b2.symm) (this j j' a1 b1 hlt)
  subst hjj
  have hsub : ∀ x ∈ E.eraseIdx j', x ∈ E := fun x hx => List.mem_of_mem_eraseIdx hx
  obtain ⟨o1, o2⟩ := lru_ordered (hr.sublist (List.eraseIdx_sublist _ j')) (fun x hx => hs x (hsub x hx)) h3
  refine ⟨⟨E.eraseIdx j' ++ [e'], ?_, pairs_push (pairs_erase hq j') (by rw [h1, hk]) h2, o1, fun x hx => by rw [hc]; exact o2 x hx⟩, nodup_move h.nodup hj, ?_⟩
  · have hE : (E.eraseIdx j').Perm (M.l.eraseIdx i) := by
      have : (e :: E.eraseIdx j').Perm (e :: M.l.eraseIdx i) := ((perm_erase hej).trans hp).trans (perm_erase hi).symm
      exact this.cons_inv
    rw [hl]
    refine (List.perm_append_comm.trans ?_).trans (perm_set hi).symm
    exact hE.cons e'
  · intro u hu
    rcases List.mem_append.1 hu with hu | hu
    · exact h.small u (List.mem_of_mem_eraseIdx hu)
    · simp at hu; omega

theorem lru_push {M M' : BMap} {U : List Nat} (h : Lru M U) {k : Nat} {a : BEnt} (hn : k ∉ U) (hk2 : k ≤ 255) (h1 : a.key = key1 k) (h2 : a.val 0 = (k : Int) + 1) (h3 : a.used = M.clock + 1) (hl : M'.l = M.l ++ [a]) (hc : M'.clock = M.clock + 1) :
    Lru M' (U ++ [k]) := by
  obtain ⟨E, hp, hq, hr, hs⟩ := h.ex
  obtain ⟨o1, o2⟩ := lru_ordered hr hs h3
  refine ⟨⟨E ++ [a], by rw [hl]; exact hp.append_right [a], pairs_push hq h1 h2, o1, fun x hx => by rw [hc]; exact o2 x hx⟩, ?_, ?_⟩
  · rw [List.nodup_append]
    exact ⟨h.nodup, by simp, fun x hx y hy => by simp at hy; subst hy; rintro rfl; exact hn hx⟩
  · intro u hu
    rcases List.mem_append.1 hu with hu | hu
    · exact h.small u hu
    · simp at hu; omega

theorem lru_evict {M M' : BMap} {U : List Nat} (h : Lru M U) {i k : Nat} {e a : BEnt} (hi : M.l[i]? = some e) (hmin : ∀ c ∈ M.l, e.used ≤ c.used) (hn : k ∉ U) (hk2 : k ≤ 255) (h1 : a.key = key1 k) (h2 : a.val 0 = (k : Int) + 1) (h3 : a.used = M.clock + 1)
    (hl : M'.l = M.l.eraseIdx i ++ [a]) (hc : M'.clock = M.clock + 1) : Lru M' (U.drop 1 ++ [k]) := by
  obtain ⟨E, hp, hq, hr, hs⟩ := h.ex
  have hE : e ∈ E := hp.mem_iff.2 (List.mem_of_getElem? hi)
  obtain ⟨j, hj⟩ := List.mem_iff_getElem?.1 hE
  obtain ⟨hjl, hje⟩ := List.getElem?_eq_some_iff.1 hj
  have hj0 : j = 0 := by
    by_cases h0 : j = 0
    · exact h0
    · have h00 : 0 < E.length := by omega
      have hlt := List.pairwise_iff_getElem.1 hr 0 j h00 hjl (by omega)
      have := hmin E[0] (hp.mem_iff.1 (List.getElem_mem h00))
      rw [hje] at hlt
      omega
  subst hj0
  have hsub : ∀ x ∈ E.eraseIdx 0, x ∈ E := fun x hx => List.mem_of_mem_eraseIdx hx
  obtain ⟨o1, o2⟩ := lru_ordered (hr.sublist (List.eraseIdx_sublist _ 0)) (fun x hx => hs x (hsub x hx)) h3
  have hd : U.drop 1 = U.eraseIdx 0 := by cases U <;> rfl
  rw [hd]
  refine ⟨⟨E.eraseIdx 0 ++ [a], ?_, pairs_push (pairs_erase hq 0) h1 h2, o1, fun x hx => by rw [hc]; exact o2 x hx⟩, ?_, ?_⟩
  · have hE2 : (E.eraseIdx 0).Perm (M.l.eraseIdx i) := by
      have : (e :: E.eraseIdx 0).Perm (e :: M.l.eraseIdx i) := ((perm_erase hj).trans hp).trans (perm_erase hi).symm
      exact this.cons_inv
    rw [hl]
    exact hE2.append_right [a]
  · rw [List.nodup_append]
    exact ⟨h.nodup.sublist (List.eraseIdx_sublist _ _), by simp, fun x hx y hy => by simp at hy; subst hy; rintro rfl; exact hn (List.mem_of_mem_eraseIdx hx)⟩
  · intro u hu
    rcases List.mem_append.1 hu with hu | hu
    · exact h.small u (List.mem_of_mem_eraseIdx hu)
    · simp at hu; omega

theorem lru_new (ty ks : Int) (vs : Nat) (n : Int) : Lru (newM ty ks vs n) [] := ⟨⟨[], by simp [newM], pairs_nil, by simp, by simp⟩, by simp, by simp⟩
end Go.Proofs.Ytihaopoehhnbkaa
