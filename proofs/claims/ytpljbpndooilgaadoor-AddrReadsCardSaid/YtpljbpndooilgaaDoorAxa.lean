/- The document's reading: where a byte stands, the cell that a text names. -/
import Derived.Test.YtpljbpndooilgaaDoorAm
namespace Go.Proofs.YtpljbpndooilgaaDoor
set_option linter.unusedVariables false
set_option linter.unusedSimpArgs false
open Go.RowKit Go.Sort
open Go.ChangeMaps (setBlock)

theorem ixB_before (s : ByteArray) (c : UInt8) (j : Nat) (h : j < s.size) (hj : j < ixB s c) : ¬ s[j] = c := by
  have := takeWhile_at (fun b => !(b == c)) s.data.toList j (by simpa using h) hj
  intro e
  have e2 : s.data.toList[j]'(by simpa using h) = c := e
  rw [e2] at this; simp at this
theorem ixB_here (s : ByteArray) (c : UInt8) (h : ixB s c < s.size) : s[ixB s c] = c := by
  have := takeWhile_end (fun b => !(b == c)) s.data.toList (by simpa [ixB] using h)
  simp only [Bool.not_eq_false', beq_iff_eq] at this
  exact this

theorem find_any (s : ByteArray) (c : UInt8) (w : World) (h1 : s.size ≤ 9223372036854775806) : Calls Tryd.prog 51 #[.string s, .int .u8 c.toNat] w (RetPost w (.int .i64 (if hasB s c then (ixB s c : Int) else -1))) := by
  have hle := ixB_le s c
  have HB := Lib.hid (ixB_before s c)
  have HH := Lib.hid (ixB_here s c)
  have HV : Hid ((if hasB s c then (ixB s c : Int) else -1) = if ixB s c < s.size then (ixB s c : Int) else -1) := by show _ = _; unfold hasB; simp
  obtain ⟨n, hn⟩ : ∃ n, n = ixB s c := ⟨_, rfl⟩
  have HN := Lib.hid hn
  rw [← hn] at hle
  clear hn
  obtain ⟨V, hV⟩ : ∃ V, V = (if hasB s c then (ixB s c : Int) else -1) := ⟨_, rfl⟩
  have HV2 := Lib.hid hV
  rw [← hV]
  clear hV
  go_enter Tryd.func51, Tryd.ntmps51
  go_wp2
  go_loopw [5] (fun v wr => ∃ j : Nat, j ≤ n ∧ v = .int .i64 j ∧ w = wr) (fun v _ => s.size - (intOf v).toNat)
  case atStart => exact ⟨0, Nat.zero_le _, rfl, rfl⟩
  case round =>
    obtain ⟨j, hj, rfl, rfl⟩ := hrel
    by_cases hlt : j < s.size
    · by_cases hjn : j < n
      · have hb := HB.out j hlt (by rw [← HN.out]; exact hjn)
        have z : ((s[j].toNat : Int) == (c.toNat : Int)) = false := by
          simp only [beq_eq_false_iff_ne, ne_eq]; intro e; exact hb (UInt8.toNat_inj.1 (by omega))
        clear hb
        go_wp2
        go_roundw
        case rel => exact ⟨j + 1, by omega, by go_num, trivial⟩
        case measure => simp [intOf]; omega
      · obtain rfl : j = n := by omega
        have hb : s[j] = c := by have := HH.out (by rw [← HN.out]; exact hlt); simpa [← HN.out] using this
        have z : ((s[j].toNat : Int) == (c.toNat : Int)) = true := by rw [hb]; simp
        have HE : Hid (V = (j : Int)) := by show _ = _; rw [HV2.out, HV.out, ← HN.out, if_pos hlt]
        clear hb
        go_wp2
        ((try simp only [Exit.inBlock, Exit.then]); first | (refine bodyPost_ret (results_tmp rfl _ _ _) rfl ?_) | (refine bodyPost_ret (results_none rfl _ _ _) rfl ?_) | go_ret2 | go_ret3 | (refine bodyPost_ret (by simp [results, Tryd.results51, go_sem]; try rfl) rfl ?_))
        exact ⟨ret_int HE.out.symm, by (repeat (first | exact Below.refl _ _ | exact below_box _ _ | refine Below.stepBox ?_ _ | refine Below.stepDrew ?_ | refine Below.stepDrewN ?_ _ | refine Below.step (by assumption) ?_))⟩
    · have HE : Hid (V = (-1 : Int)) := by show _ = _; rw [HV2.out, HV.out, ← HN.out, if_neg (by omega)]
      go_wp2
      ((try simp only [Exit.inBlock, Exit.then]); first | (refine bodyPost_ret (results_tmp rfl _ _ _) rfl ?_) | (refine bodyPost_ret (results_none rfl _ _ _) rfl ?_) | go_ret2 | go_ret3 | (refine bodyPost_ret (by simp [results, Tryd.results51, go_sem]; try rfl) rfl ?_))
      exact ⟨ret_int HE.out.symm, by (repeat (first | exact Below.refl _ _ | exact below_box _ _ | refine Below.stepBox ?_ _ | refine Below.stepDrew ?_ | refine Below.stepDrewN ?_ _ | refine Below.step (by assumption) ?_))⟩
end Go.Proofs.YtpljbpndooilgaaDoor
