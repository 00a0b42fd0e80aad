/- A text behind its sign; when a text names no cell. -/
import Derived.Test.YtpljbpndooilgaaDoorAxa
namespace Go.Proofs.YtpljbpndooilgaaDoor
set_option linter.unusedVariables false
set_option linter.unusedSimpArgs false
open Go.RowKit Go.Sort
open Go.ChangeMaps (setBlock)

/-- A text behind its sign of what is fixed: the same bytes, further on. -/
theorem restB_cases (s : ByteArray) : ∃ k : Nat, (k = 0 ∧ fixOn s = false ∧ (∀ h : 0 < s.size, ¬ s[0] = 36) ∨ k = 1 ∧ fixOn s = true ∧ ∃ h : 0 < s.size, s[0] = 36) ∧ k + (restB s).size = s.size ∧ ∀ j (h : j < (restB s).size) (h' : k + j < s.size), s[k + j] = (restB s)[j] := by
  obtain ⟨⟨l⟩⟩ := s
  cases l with
  | nil =>
    refine ⟨0, Or.inl ⟨rfl, rfl, fun h => absurd h (by decide)⟩, rfl, fun j h => absurd h (by show ¬ j < 0; omega)⟩
  | cons b r =>
    by_cases hb : b = 36
    · subst hb
      have e : restB ⟨⟨36 :: r⟩⟩ = ⟨⟨r⟩⟩ := by unfold restB Lib.trimPrefix Lib.hasPrefix; simp
      refine ⟨1, Or.inr ⟨rfl, by unfold fixOn Lib.hasPrefix; simp, by show 0 < (36 :: r).length; simp, rfl⟩, ?_, ?_⟩
      · rw [e]; show 1 + r.length = (36 :: r).length; simp; omega
      · intro j h h'
        have h2 : j < r.length := by rw [e] at h; exact h
        have : (restB ⟨⟨36 :: r⟩⟩)[j] = r[j] := by simp only [e]; rfl
        refine Eq.trans ?_ this.symm
        show (36 :: r)[1 + j]'(by simp; omega) = r[j]
        simp [Nat.add_comm 1 j]
    · have hh : Lib.hasPrefix (b :: r) [36] = false := by
        show ((36 : UInt8) == b && true) = false
        simp; exact fun e => hb e.symm
      have e : restB ⟨⟨b :: r⟩⟩ = ⟨⟨b :: r⟩⟩ := by unfold restB Lib.trimPrefix; simp [hh]
      refine ⟨0, Or.inl ⟨rfl, hh, fun h => hb⟩, by rw [e]; omega, ?_⟩
      intro j h h'
      simp only [e, Nat.zero_add]

theorem refP_no {s : ByteArray} (h : ¬ (1 ≤ pre setLet (restB s) ∧ pre setLet (restB s) ≤ 3)) : refP s = none := by
  unfold refP colOk
  rw [decide_eq_false h]; rfl
theorem refP_short {s : ByteArray} (h : pre setLet (restB s) = (restB s).size) : refP s = none := by
  have e : tailB s = ⟨#[]⟩ := extract_none _ _ (by omega)
  unfold refP
  rw [e]
  have : rowOk (restB ⟨#[]⟩) = false := by decide
  rw [this]; simp

theorem rowOk_short {q : ByteArray} (h : q.size = 0) : rowOk q = false := by
  have := pre_le setDigit q
  unfold rowOk; exact decide_eq_false (fun hh => by omega)
theorem rowOk_long {q : ByteArray} (h : 5 < q.size) : rowOk q = false := by
  unfold rowOk; exact decide_eq_false (fun hh => by omega)
theorem rowOk_zero {q : ByteArray} (h : 0 < q.size) (h0 : q[0] = 48) : rowOk q = false := by
  unfold rowOk
  refine decide_eq_false (fun hh => hh.2.2.2 ?_)
  rw [List.head?_eq_getElem?, List.getElem?_eq_getElem (show 0 < q.data.toList.length by simp; omega)]
  exact congrArg some h0
end Go.Proofs.YtpljbpndooilgaaDoor
