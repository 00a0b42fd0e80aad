/- The document's names: which texts are names, by the loop over their bytes. -/
import Derived.Test.YtpljbpndooilgaaDoorAn
import Derived.Deep.DeepCutAuto
namespace Go.Proofs.YtpljbpndooilgaaDoor
set_option linter.unusedVariables false
set_option linter.unusedSimpArgs false
open Go.RowKit
open Go.ChangeMaps (setBlock)

def letterB (b : Int) : Bool := decide (65 ≤ b ∧ b ≤ 90 ∨ 97 ≤ b ∧ b ≤ 122)
def digitB (b : Int) : Bool := decide (48 ≤ b ∧ b ≤ 57)

set_option maxHeartbeats 400000 in
theorem letter_any (b : Int) (w : World) : Calls Tryd.prog 43 #[.int .u8 b] w fun e w' => e = .returned (.bool (letterB b)) ∧ w = w' := by
  have h : b < 65 ∨ (65 ≤ b ∧ b ≤ 90) ∨ (90 < b ∧ b < 97) ∨ (97 ≤ b ∧ b ≤ 122) ∨ 122 < b := by omega
  rcases h with h | ⟨h, h'⟩ | ⟨h, h'⟩ | ⟨h, h'⟩ | h
  · have e : letterB b = false := by unfold letterB; simp; omega
    rw [e]; clear e
    go_enter Tryd.func43, Tryd.ntmps43
    go_wp2
    go_ret
    exact ⟨ret_bool (by first | rfl | (simp <;> omega)), rfl⟩
  · have e : letterB b = true := by unfold letterB; simp; omega
    rw [e]; clear e
    go_enter Tryd.func43, Tryd.ntmps43
    go_wp2
    go_ret
    exact ⟨ret_bool (by first | rfl | (simp <;> omega)), rfl⟩
  · have e : letterB b = false := by unfold letterB; simp; omega
    rw [e]; clear e
    go_enter Tryd.func43, Tryd.ntmps43
    go_wp2
    go_ret
    exact ⟨ret_bool (by first | rfl | (simp <;> omega)), rfl⟩
  · have e : letterB b = true := by unfold letterB; simp; omega
    rw [e]; clear e
    go_enter Tryd.func43, Tryd.ntmps43
    go_wp2
    go_ret
    exact ⟨ret_bool (by first | rfl | (simp <;> omega)), rfl⟩
  · have e : letterB b = false := by unfold letterB; simp; omega
    rw [e]; clear e
    go_enter Tryd.func43, Tryd.ntmps43
    go_wp2
    go_ret
    exact ⟨ret_bool (by first | rfl | (simp <;> omega)), rfl⟩

set_option maxHeartbeats 400000 in
theorem digit_any (b : Int) (w : World) : Calls Tryd.prog 44 #[.int .u8 b] w fun e w' => e = .returned (.bool (digitB b)) ∧ w = w' := by
  have h : b < 48 ∨ (48 ≤ b ∧ b ≤ 57) ∨ 57 < b := by omega
  rcases h with h | ⟨h, h'⟩ | h
  · have e : digitB b = false := by unfold digitB; simp; omega
    rw [e]; clear e
    go_enter Tryd.func44, Tryd.ntmps44
    go_wp2
    go_ret
    exact ⟨ret_bool (by first | rfl | (simp <;> omega)), rfl⟩
  · have e : digitB b = true := by unfold digitB; simp; omega
    rw [e]; clear e
    go_enter Tryd.func44, Tryd.ntmps44
    go_wp2
    go_ret
    exact ⟨ret_bool (by first | rfl | (simp <;> omega)), rfl⟩
  · have e : digitB b = false := by unfold digitB; simp; omega
    rw [e]; clear e
    go_enter Tryd.func44, Tryd.ntmps44
    go_wp2
    go_ret
    exact ⟨ret_bool (by first | rfl | (simp <;> omega)), rfl⟩

/-- May a byte stand at a place of a name? -/
def okN (i : Nat) (b : Int) : Bool := letterB b || b == 95 || (digitB b && !(i == 0))

theorem setName_is (b : UInt8) : inSet setName b = (letterB b.toNat || (b.toNat : Int) == 95 || digitB b.toNat) := by
  have h : ∀ n, n < 256 → inSet setName (UInt8.ofNat n) = (letterB n || (n : Int) == 95 || digitB n) := by decide +kernel
  have := h b.toNat (UInt8.toNat_lt b)
  rwa [UInt8.ofNat_toNat] at this
theorem setDigit_is (b : UInt8) : inSet setDigit b = digitB b.toNat := by
  have h : ∀ n, n < 256 → inSet setDigit (UInt8.ofNat n) = digitB n := by decide +kernel
  have := h b.toNat (UInt8.toNat_lt b)
  rwa [UInt8.ofNat_toNat] at this

theorem pre_all (set s : ByteArray) : pre set s = s.size ↔ ∀ i (h : i < s.size), inSet set s[i] = true := by
  constructor
  · intro h i hi; exact pre_in set s i hi (by omega)
  · intro h
    have hle := pre_le set s
    by_cases hlt : pre set s < s.size
    · have := pre_out set s hlt; rw [h _ hlt] at this; cases this
    · omega
theorem pre_zero (set s : ByteArray) (h0 : 0 < s.size) : pre set s = 0 ↔ inSet set s[0] = false := by
  constructor
  · intro h
    have := pre_out set s (by omega)
    simp only [h] at this; exact this
  · intro h
    by_cases hlt : 0 < pre set s
    · have := pre_in set s 0 h0 hlt; rw [h] at this; cases this
    · omega

theorem nameOk_iff (s : ByteArray) : nameOk s = true ↔ (1 ≤ s.size ∧ s.size ≤ 16) ∧ ∀ i (h : i < s.size), okN i (s[i].toNat) = true := by
  unfold nameOk
  rw [decide_eq_true_iff]
  constructor
  · rintro ⟨h1, h2, h3, h4⟩
    refine ⟨⟨h1, h2⟩, fun i hi => ?_⟩
    have a := (pre_all _ _).1 h3 i hi
    rw [setName_is] at a
    unfold okN
    by_cases e : i = 0
    · subst e
      have b := (pre_zero _ _ hi).1 h4
      rw [setDigit_is] at b
      rw [b] at a ⊢
      simpa using a
    · simpa [e] using a
  · rintro ⟨⟨h1, h2⟩, h3⟩
    refine ⟨h1, h2, (pre_all _ _).2 fun i hi => ?_, (pre_zero _ _ (by omega)).2 ?_⟩
    · rw [setName_is]
      have := h3 i hi
      unfold okN at this
      revert this
      cases letterB s[i].toNat <;> cases ((s[i].toNat : Int) == 95) <;> cases digitB s[i].toNat <;> simp
    · rw [setDigit_is]
      have := h3 0 (by omega)
      unfold okN at this
      cases e : digitB s[0].toNat with
      | false => rfl
      | true =>
        exfalso
        unfold digitB at e; unfold letterB at this
        simp at e this
        omega

set_option maxHeartbeats 1000000 in
set_option maxRecDepth 100000 in
theorem refName_any (s : ByteArray) (w : World) (h1 : s.size ≤ 140737488351232) :
    Calls Tryd.prog 21 #[.string s] w (BoolPost w (nameOk s)) := by
  by_cases h : s.size < 1 ∨ 16 < s.size
  · have hno : nameOk s = false := by
      cases e : nameOk s with
      | false => rfl
      | true => have := ((nameOk_iff s).1 e).1; omega
    rw [hno]
    clear hno
    rcases h with h | h
    · go_enter Tryd.func21, Tryd.ntmps21
      go_wp2_with fail
      go_ret
      exact ⟨rfl, Below.refl _ _⟩
    · go_enter Tryd.func21, Tryd.ntmps21
      go_wp2_with fail
      go_ret
      exact ⟨rfl, Below.refl _ _⟩
  · have ha : 1 ≤ s.size := by omega
    have hb : s.size ≤ 16 := by omega
    clear h
    have HT : Hid ((∀ i (h : i < s.size), okN i (s[i].toNat) = true) → nameOk s = true) := fun h => (nameOk_iff s).2 ⟨⟨ha, hb⟩, h⟩
    have HN : Hid (∀ i (h : i < s.size), okN i (s[i].toNat) = false → nameOk s = false) := by
      intro i hi e
      cases e2 : nameOk s with
      | false => rfl
      | true => have := ((nameOk_iff s).1 e2).2 i hi; rw [e] at this; cases this
    go_enter Tryd.func21, Tryd.ntmps21
    go_wp2_with fail
    go_loopw [3] (fun k wr => ∃ j : Nat, j ≤ s.size ∧ k = .int .i64 j ∧ (∀ i (h : i < s.size), i < j → okN i (s[i].toNat) = true) ∧ Below w.heap.size w wr) (fun k _ => s.size - (intOf k).toNat)
    case atStart => exact ⟨0, by omega, rfl, (fun i _ h => absurd h (by omega)), Below.refl _ _⟩
    case round =>
      obtain ⟨j, hj, rfl, hok, hbl⟩ := hrel
      by_cases hlt : j < s.size
      · have HG : Hid (okN j (s[j].toNat) = true → ∀ i (h : i < s.size), i < j + 1 → okN i (s[i].toNat) = true) := by
          intro e i hi hij
          by_cases h : i < j
          · exact hok i hi h
          · obtain rfl : i = j := by omega
            exact e
        clear hok
        obtain ⟨lb, hlb⟩ : ∃ lb, lb = letterB (s[j].toNat) := ⟨_, rfl⟩
        obtain ⟨db, hdb⟩ : ∃ db, db = digitB (s[j].toNat) := ⟨_, rfl⟩
        obtain ⟨cb, hcb⟩ : ∃ cb, cb = ((s[j].toNat : Int) == 95) := ⟨_, rfl⟩
        obtain ⟨ib, hib⟩ : ∃ ib, ib = (j == 0) := ⟨_, rfl⟩
        have HL : Hid (Calls Tryd.prog 43 #[.int .u8 (s[j].toNat)] wr fun e w' => e = .returned (.bool lb) ∧ wr = w') := by rw [hlb]; exact letter_any _ _
        have HD : Hid (Calls Tryd.prog 44 #[.int .u8 (s[j].toNat)] wr fun e w' => e = .returned (.bool db) ∧ wr = w') := by rw [hdb]; exact digit_any _ _
        have HLE := Lib.hid hlb.symm; have HDE := Lib.hid hdb.symm; have HCE := Lib.hid hcb.symm; have HIE := Lib.hid hib.symm
        have c1 : ((s[j].toNat : Int) != 95) = !cb := by rw [hcb]; rfl
        have i1 : ((j : Int) == 0) = ib := by rw [hib, Bool.eq_iff_iff]; simp
        clear hlb hdb hcb hib
        cases lb with
        | true =>
          have hG := HG.out (by unfold okN; simp only [HLE.out, HDE.out, HCE.out, HIE.out]; rfl)
          go_wp2_with (first | (go_at_call 43; refine HL.out.mono ?_; rintro e w' ⟨rfl, rfl⟩) | (go_at_call 44; refine HD.out.mono ?_; rintro e w' ⟨rfl, rfl⟩))
          go_roundw
          case rel => exact ⟨j + 1, by omega, by go_num, hG, hbl⟩
          case measure => simp [intOf]; omega
        | false =>
        cases cb with
        | true =>
          have hG := HG.out (by unfold okN; simp only [HLE.out, HDE.out, HCE.out, HIE.out]; rfl)
          go_wp2_with (first | (go_at_call 43; refine HL.out.mono ?_; rintro e w' ⟨rfl, rfl⟩) | (go_at_call 44; refine HD.out.mono ?_; rintro e w' ⟨rfl, rfl⟩))
          go_roundw
          case rel => exact ⟨j + 1, by omega, by go_num, hG, hbl⟩
          case measure => simp [intOf]; omega
        | false =>
        cases db with
        | false =>
          have hG := HN.out j hlt (by unfold okN; simp only [HLE.out, HDE.out, HCE.out, HIE.out]; rfl)
          go_wp2_with (first | (go_at_call 43; refine HL.out.mono ?_; rintro e w' ⟨rfl, rfl⟩) | (go_at_call 44; refine HD.out.mono ?_; rintro e w' ⟨rfl, rfl⟩))
          go_ret
          exact ⟨ret_bool hG.symm, hbl⟩
        | true =>
        cases ib with
        | true =>
          have hG := HN.out j hlt (by unfold okN; simp only [HLE.out, HDE.out, HCE.out, HIE.out]; rfl)
          go_wp2_with (first | (go_at_call 43; refine HL.out.mono ?_; rintro e w' ⟨rfl, rfl⟩) | (go_at_call 44; refine HD.out.mono ?_; rintro e w' ⟨rfl, rfl⟩))
          go_ret
          exact ⟨ret_bool hG.symm, hbl⟩
        | false =>
          have hG := HG.out (by unfold okN; simp only [HLE.out, HDE.out, HCE.out, HIE.out]; rfl)
          go_wp2_with (first | (go_at_call 43; refine HL.out.mono ?_; rintro e w' ⟨rfl, rfl⟩) | (go_at_call 44; refine HD.out.mono ?_; rintro e w' ⟨rfl, rfl⟩))
          go_roundw
          case rel => exact ⟨j + 1, by omega, by go_num, hG, hbl⟩
          case measure => simp [intOf]; omega
      · obtain rfl : j = s.size := by omega
        have HO := Lib.hid (HT.out fun i hi => hok i hi hi)
        clear hok
        go_wp2_with fail
        go_ret
        exact ⟨ret_bool HO.out.symm, hbl⟩
end Go.Proofs.YtpljbpndooilgaaDoor
