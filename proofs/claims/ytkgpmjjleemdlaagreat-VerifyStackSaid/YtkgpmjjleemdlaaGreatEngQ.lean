/- Engine, part Q: a calm segment of a walk that writes: what the slots have behind it. -/
import Derived.Test.YtkgpmjjleemdlaaGreatEngO
set_option linter.unusedSimpArgs false
set_option linter.unusedVariables false
namespace Go.Eng

/-- What a slot has behind a calm segment: a value, a pointer to a box of its own, or anything. -/
inductive Sl where
  | v (x : Value)
  | p (T : TypeId) (cs : Array Value)
  | any
def Sl.is (n : Nat) (l : Own) : Sl → Value → Prop
  | .v x, u => u = x
  | .p T cs, u => ∃ j, u = .pointer (some ⟨n + j, 0, none⟩) ∧ l[j]? = some (cs, T)
  | .any, _ => True
def Sl.inn (w w' : World) : Sl → Value → Prop
  | .v x, u => u = x
  | .p T cs, u => ∃ b, u = .pointer (some ⟨b, 0, none⟩) ∧ w.heap.size ≤ b ∧ w'.heap[b]? = some (.cells cs T (0, 0))
  | .any, _ => True
def Sl.ok (n : Nat) : Sl → Prop
  | .v x => Ext n x
  | .p _ cs => ∀ x ∈ cs.toList, Ext n x
  | .any => True
def slsIs (n : Nat) (l : Own) : List Sl → Env → Prop
  | [], [] => True
  | s :: L, u :: e => s.is n l u ∧ slsIs n l L e
  | _, _ => False
def slsIn (w w' : World) : List Sl → Env → Prop
  | [], [] => True
  | s :: L, u :: e => s.inn w w' u ∧ slsIn w w' L e
  | _, _ => False
def slsOk (n : Nat) : List Sl → Prop
  | [] => True
  | s :: L => s.ok n ∧ slsOk n L

theorem slsIn_of {w B w' : World} {l : Own} {σ : Nat → Nat} (hB : Base w B) (hs : Sim w B l w' σ) : ∀ (L : List Sl) (env env' : Env), slsOk w.heap.size L → slsIs B.heap.size l L env → EnvR (B.heap.size + l.length) σ env env' → slsIn w w' L env'
  | [], [], env', _, _, he => by
    cases env' with
    | nil => trivial
    | cons a r => have := he.1; simp at this
  | s :: L, u :: e, env', hk, hi, he => by
    cases env' with
    | nil => have := he.1; simp at this
    | cons u' e' =>
      have hu := he.2 0 u u' rfl rfl
      have hr : EnvR (B.heap.size + l.length) σ e e' := ⟨by have := he.1; simpa using this, fun i a b ha hb => he.2 (i + 1) a b (by simpa using ha) (by simpa using hb)⟩
      refine ⟨?_, slsIn_of hB hs L e e' hk.2 hi.2 hr⟩
      have h1 := hi.1
      have h2 := hk.1
      cases s with
      | v x =>
        obtain rfl : u = x := h1
        exact VR.uniq hu (Ext.vr h2 (by have := hB.le; omega) (fun b hb => hs.fix b (Nat.lt_of_lt_of_le hb hB.le)))
      | p T cs =>
        obtain ⟨j, rfl, hj⟩ := h1
        have hj' : j < l.length := (List.getElem?_eq_some_iff.1 hj).1
        obtain ⟨cs', h3, h4⟩ := hs.own j _ hj
        cases hu
        refine ⟨_, rfl, hs.new j hj', ?_⟩
        rw [h3]
        have : cs' = cs := by
          refine (arr_ext h4.1 fun i a b ha hb => ?_).symm
          have hx : Ext w.heap.size a := h2 a (Array.mem_toList_iff.2 (Array.mem_of_getElem? ha))
          exact (VR.uniq (h4.2 i a b ha hb) (Ext.vr hx (by have := hB.le; omega) (fun b hb => hs.fix b (Nat.lt_of_lt_of_le hb hB.le)))).symm
        rw [this]
      | any => trivial
  | [], _ :: _, _, _, hi, _ => hi.elim
  | _ :: _, [], _, _, hi, _ => hi.elim

section
variable {P : Program} {R : Env → World → Prop} {k : List It} {env : Env} {w : World}
/-- A calm segment. -/
theorem W_seg {a : Cmd} (L : List Sl) (he : ∀ v ∈ env, Ext w.heap.size v) (hL : slsOk w.heap.size L)
    (h : ∀ B, HeapLe w B → C P w B (fun _ _ => False) [.c a, .post (fun env' l => slsIs B.heap.size l L env')] env [])
    (hk : ∀ w', Kept none' w w' → ∀ env', slsIn w w' L env' → W P R k env' w') : W P R (.c a :: k) env w := by
  obtain ⟨n1, hn1⟩ := a.cl_ex
  obtain ⟨B, hB, hnB⟩ := base_ex w n1
  have hs : Sim w B [] w id := ⟨fun b _ => rfl, Kept.refl _ _, fun j x hx => by simp at hx, fun j hj => by simp at hj, fun i j hi => by simp at hi⟩
  have hee : EnvR (B.heap.size + ([] : Own).length) id env env := by
    refine ⟨rfl, fun i u v hu hv => ?_⟩
    rw [hu] at hv
    obtain rfl := Option.some.inj hv
    exact (he u (List.mem_of_getElem? hu)).vr (by have := hB.le; simp; omega) (fun _ _ => rfl)
  show a.wp P (Wx P R k) env w
  refine cwp_wp hB (Kept.refl _ _) a (hn1.mono hnB) (fun y env1 env2 l w' σ hs he hq => ?_) hs hee (h B hB.has)
  cases y with
  | normal => exact hk _ hs.kept _ (slsIn_of hB hs L _ _ hL hq he)
  | _ => exact hq.elim
end

theorem W_assoc {P : Program} {R : Env → World → Prop} {k : List It} {env : Env} {w : World} (a b c : Cmd) : W P R (.c (.seq a (.seq b c)) :: k) env w = W P R (.c (.seq (.seq a b) c) :: k) env w := by
  rw [W_seq, W_seq, W_seq]
  unfold W
  rw [Wx_c, Wx_c a]
  have : Wx P R (.c (.seq b c) :: k) = Wx P R (.c b :: .c c :: k) := by
    funext x env w
    cases x with
    | normal => exact W_seq b c
    | _ => rfl
  rw [this]

/-! The slots, one by one. -/
theorem open_v {w w' : World} {x : Value} {L : List Sl} {Q : Env → Prop} (h : ∀ e, slsIn w w' L e → Q (x :: e)) : ∀ e, slsIn w w' (.v x :: L) e → Q e
  | [], h' => h'.elim
  | u :: e, h' => by have h1 : u = x := h'.1; subst h1; exact h e h'.2
theorem open_p {w w' : World} {T : TypeId} {cs : Array Value} {L : List Sl} {Q : Env → Prop} (h : ∀ b, w.heap.size ≤ b → w'.heap[b]? = some (.cells cs T (0, 0)) → ∀ e, slsIn w w' L e → Q (.pointer (some ⟨b, 0, none⟩) :: e)) : ∀ e, slsIn w w' (.p T cs :: L) e → Q e
  | [], h' => h'.elim
  | u :: e, h' => by obtain ⟨b, rfl, h1, h2⟩ := h'.1; exact h b h1 h2 e h'.2
theorem open_any {w w' : World} {L : List Sl} {Q : Env → Prop} (h : ∀ u e, slsIn w w' L e → Q (u :: e)) : ∀ e, slsIn w w' (.any :: L) e → Q e
  | [], h' => h'.elim
  | u :: e, h' => h u e h'.2
theorem open_nil {w w' : World} {Q : Env → Prop} (h : Q []) : ∀ e, slsIn w w' [] e → Q e
  | [], _ => h
  | _ :: _, h' => h'.elim

@[simp] theorem ext_undef (n : Nat) : Ext n undef = True := eq_true vr_undef
end Go.Eng
