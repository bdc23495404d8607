/- Engine, part XZ: a row of the world is laid into the memory that a run begins in. -/
import Derived.Test.YtipfkfecelkhnaaGreatDoorEngXW
set_option linter.unusedSimpArgs false
set_option linter.unusedVariables false
set_option linter.unusedSectionVars false
namespace Go.Eng
variable [Sy]
theorem vq_aggp {ρ : Rho} {l : List Value} (h : l.all plainV = true) {v : Value} (hv : VQ ρ (.agg ⟨l⟩) v) : v = .agg ⟨l⟩ := by
  cases hv with
  | agg xs ys h1 h2 =>
    congr 1
    apply Array.ext_getElem?
    intro i
    by_cases hi : i < ys.size
    · have hi' : i < (⟨l⟩ : Array Value).size := by rw [h1]; exact hi
      have hu := Array.getElem?_eq_getElem hi'
      have hv := Array.getElem?_eq_getElem hi
      have hp : plainV (⟨l⟩ : Array Value)[i] = true := List.all_eq_true.1 h _ (by simp)
      rw [hu, hv, vq_plain hp (h2 i _ _ hu hv)]
    · rw [Array.getElem?_eq_none (by omega), Array.getElem?_eq_none (by rw [h1]; omega)]
theorem hs_row {G : Nat} {h : HT} {w : World} (hb : Begin G h w) {p : Nat} {cs : Array Value} {T : TypeId} {fz : Nat × Nat} (hp : w.heap[p]? = some (.cells cs T fz)) (hG : G ≤ p) (hpl : cs.toList.all plainV = true) (hK : Sy.K w) :
    ∃ ρ, HS G w ρ (h.set G (some (.cells cs.toList 0 0))) (G + 1) 1 w ∧ ρ.D G ∧ ρ.σ G = p := by
  obtain ⟨ρ, hs⟩ := hb.hs hK
  have hk : ¬ ρ.D G := fun hd => Nat.lt_irrefl _ (hs.dom G hd)
  have le := Rho.le_bind hk p cs.size
  refine ⟨ρ.bind G p cs.size, ?_, Rho.bind_D _ _ _ _, Rho.bind_σ _ _ _ _⟩
  have hlow : ∀ b o, h.get b = some o → b < G := fun b o ho => hs.dom b (hs.live b o ho).1
  have hσ : ∀ b, b < G → (ρ.bind G p cs.size).σ b = b := fun b hb => by
    obtain ⟨h1, h2⟩ := hs.fix b hb
    rw [le.σ b h1, h2]
  have old : ∀ b o, (h.set G (some (.cells cs.toList 0 0))).get b = some o → (b = G ∧ o = .cells cs.toList 0 0) ∨ (b ≠ G ∧ h.get b = some o) := by
    intro b o hb
    by_cases e : b = G
    · subst e; exact .inl ⟨rfl, (Option.some.inj (HT.get_same hb)).symm⟩
    · rw [HT.get_other _ _ e] at hb; exact .inr ⟨e, hb⟩
  refine ⟨hs.kept, fun b hb => ?_, fun b hb => ?_, Nat.one_pos, fun b o ho => ?_, fun b o ho hz => ?_, fun b b' o o' ho ho' e => ?_, hK⟩
  · obtain ⟨h1, h2⟩ := hs.fix b hb
    exact ⟨le.D b h1, hσ b hb⟩
  · rcases hb with hb | hb
    · have := hs.dom b hb; omega
    · omega
  · rcases old b o ho with ⟨e1, e2⟩ | ⟨hne, ho⟩
    · rw [e1, e2]
      refine ⟨Rho.bind_D _ _ _ _, Nat.one_pos, cs, T, fz, by rw [Rho.bind_σ]; exact hp, fun h => absurd rfl h, (Rho.bind_Z _ _ _ _).symm, by simp, fun i u v hu hv => ?_⟩
      rw [Array.getElem?_toList, hv] at hu
      obtain rfl := Option.some.inj hu
      have h1 := List.all_eq_true.1 hpl v (by simpa using Array.mem_of_getElem? hv)
      cases v <;> first | (cases h1; done) | constructor
    · obtain ⟨g1, g2, g3⟩ := hs.live b o ho
      exact ⟨le.D b g1, g2, g3.mono le g1 rfl⟩
  · rcases old b o ho with ⟨e1, e2⟩ | ⟨hne, ho⟩
    · rw [e2] at hz; exact absurd rfl hz
    · rw [hσ b (hlow b o ho)]
      have := hs.own b o ho hz
      rwa [(hs.fix b (hlow b o ho)).2] at this
  · rcases old b o ho with ⟨e1, e2⟩ | ⟨hne, g1⟩
    · rcases old b' o' ho' with ⟨e3, e4⟩ | ⟨hne', g2⟩
      · rw [e1, e3]
      · rw [e1, Rho.bind_σ, hσ b' (hlow b' o' g2)] at e
        have := hlow b' o' g2; omega
    · rcases old b' o' ho' with ⟨e3, e4⟩ | ⟨hne', g2⟩
      · rw [e3, Rho.bind_σ, hσ b (hlow b o g1)] at e
        have := hlow b o g1; omega
      · rw [hσ b (hlow b o g1), hσ b' (hlow b' o' g2)] at e
        exact e
end Go.Eng
