/- Slices of strings, as arguments, opened for a walk. -/
import Derived.Test.YtpannhipchnhaaaGreatDoorAsIns
import Derived.Test.YtpannhipchnhaaaGreatDoorAs12
set_option linter.unusedSimpArgs false
set_option linter.unusedVariables false
set_option maxRecDepth 8000
namespace Go.Proofs.YtpannhipchnhaaaGreatDoor
open Go.ChangeShapes Go.WideShapes Go.ChangeAt Go.RowKit

theorem us_of (s : ByteArray) : us s.data.toList = s := by
  obtain ⟨d⟩ := s
  show ByteArray.mk d.toList.toArray = _
  rw [Array.toArray_toList]
theorem open_strsl {H : Type} {enc : TypeId × Value → H} {W : World} {base b0 : Nat} {held : Bool} {v : Value} {d : DataW H} {ps : List MemPlace} (hval : Value.okWide Tryz.prog W .any b0 22 v)
    (h : DataW.Trod enc Tryz.prog W base (fun _ => true) held 22 v d ps) : ∃ l : List Str, StrSl W v l := by
  obtain ⟨a, n, c, rfl⟩ := okWide_slice Tryz.underlying22 hval
  rcases sl_ok Tryz.underlying22 hval with ⟨rfl, rfl, rfl⟩ | ⟨b, off, rfl, hnc, hb⟩
  · exact ⟨[], .inl ⟨rfl, rfl⟩⟩
  · rcases open_any (k := 1) Tryz.underlying22 (by kernel_rfl) (by omega) h with rfl | ⟨b', off', he, hrow⟩
    · exact ⟨[], .inr ⟨b, off, c, rfl, fun i x hx => by simp at hx, hb⟩⟩
    · cases he
      have each : ∀ i : Nat, ∃ x : Str, i < n → Go.Eng.wcell W b (off + i) = some (.string (us x)) := by
        intro i
        by_cases hi : i < n
        · obtain ⟨r, y, fuel, h1, h2, h3⟩ := hrow i hi
          obtain ⟨s, rfl, _⟩ := DataW.trod_string Tryz.underlying9 h3
          refine ⟨s.data.toList, fun _ => ?_⟩
          rw [us_of]
          have := row_cell h2 0 (by omega)
          rw [Nat.mul_one, Nat.add_zero] at this
          exact this
        · exact ⟨[], fun h => absurd h hi⟩
      obtain ⟨f, hf⟩ := Classical.axiomOfChoice each
      have hlen : ((List.range n).map f).length = n := by simp
      refine ⟨(List.range n).map f, .inr ⟨b, off, c, by rw [hlen], fun i x hx => ?_, hb⟩⟩
      rw [List.getElem?_map] at hx
      by_cases hi : i < n
      · rw [List.getElem?_range hi] at hx
        obtain rfl : f i = x := by simpa using hx
        exact hf i hi
      · rw [List.getElem?_eq_none (by simp; omega)] at hx
        cases hx
end Go.Proofs.YtpannhipchnhaaaGreatDoor
