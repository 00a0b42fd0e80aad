/- AddrReads without memory: the document's reading of a text and the program's are the same. -/
import Derived.Test.YtpljbpndooilgaaDoorPAddrReadsx3
import Derived.Test.YtpljbpndooilgaaDoorAx0
namespace Go.Proofs.YtpljbpndooilgaaDoor.PAddrReads
open Go.RowKit Go.Proofs.YtpljbpndooilgaaDoorW.PrintWords Go.Proofs.YtpljbpndooilgaaDoorW.PrintLast Go.Proofs.YtpljbpndooilgaaDoorW.PrintMore
set_option linter.unusedVariables false
set_option linter.unusedSimpArgs false

theorem bt_nat (s : ByteArray) (n : Nat) (h : n < s.size) : bt s (n : Int) = ((s[n]'h).toNat : Int) := by
  have := bt_at s (n : Int) (by simpa using h)
  rw [← this]; rfl
theorem w64 {a : Int} (h0 : -1000000000000000 ≤ a) (h1 : a ≤ 1000000000000000) : wrap64 a = a := by unfold wrap64; omega
theorem letter_f (b : Int) : latticeref04_letter.f b = some (letterB b) := by
  unfold latticeref04_letter.f letterB
  by_cases h1 : b ≥ 65
  · by_cases h2 : b ≤ 90
    · rw [if_pos h1, if_pos h2]; simp; omega
    · rw [if_pos h1, if_neg h2]
      by_cases h3 : b ≥ 97
      · rw [if_pos h3]; congr 1; rw [Bool.eq_iff_iff]; simp; omega
      · rw [if_neg h3]; simp; omega
  · rw [if_neg h1]
    by_cases h3 : b ≥ 97
    · rw [if_pos h3]; congr 1; rw [Bool.eq_iff_iff]; simp; omega
    · rw [if_neg h3]; simp; omega
theorem digit_f (b : Int) : latticeref04_digit.f b = some (digitB b) := by
  unfold latticeref04_digit.f digitB
  by_cases h1 : b ≥ 48
  · rw [if_pos h1]; simp; intro _; omega
  · rw [if_neg h1]; simp; omega
theorem cell_f (c r : Int) : latticeref04_Cell.f c r = some (goodC c r) := by
  unfold latticeref04_Cell.f goodC
  by_cases h1 : c ≥ 0 <;> by_cases h2 : c < 64 <;> by_cases h3 : r ≥ 0 <;> simp [h1, h2, h3] <;> omega
theorem cellg_f (c r : Int) : addr_Cell_Good.f c r = some (goodC c r) := by
  unfold addr_Cell_Good.f goodC
  by_cases h1 : c ≥ 0 <;> by_cases h2 : c < 64 <;> by_cases h3 : r ≥ 0 <;> simp [h1, h2, h3] <;> omega

theorem rowOk_iff {q : ByteArray} (h1 : 0 < q.size) (h5 : q.size ≤ 5) (h48 : ¬ q[0]'h1 = 48) : rowOk q = decide (pre setDigit q = q.size) := by
  unfold rowOk
  rw [Bool.eq_iff_iff]
  simp only [decide_eq_true_eq]
  constructor
  · exact fun h => h.2.2.1
  · intro h
    refine ⟨by omega, by omega, h, ?_⟩
    rw [List.head?_eq_getElem?, List.getElem?_eq_getElem (show 0 < q.data.toList.length by simp; omega)]
    intro e; exact h48 (Option.some.inj e)

abbrev noT : Int × Int × Bool × Bool × Bool := (0, 0, false, false, false)

/-- The loop over a row's digits. -/
theorem l1_tells (s q : ByteArray) (o : Nat) (hs : o + q.size = s.size) (hl : s.size ≤ LIM) (hq : q.size ≤ 5) (hat : ∀ i (h : i < q.size) (h' : o + i < s.size), s[o + i] = q[i]) (x7 a b : Int) (f g : Bool) : ∀ d i, q.size - i = d → i ≤ pre setDigit q →
    Ev (fun k => latticeref04_Ref1.l1 k s ((o + i : Nat) : Int) x7 (rowF (q.data.toList.take i) : Int) a b f g) (if pre setDigit q = q.size then (wrap64 (x7 - 1), wrap64 ((rowF q.data.toList : Int) - 1), f, g, true) else noT) := by
  intro d
  have hle := pre_le setDigit q
  have hl' : s.size ≤ 140737488351232 := hl
  induction d with
  | zero =>
    intro i hd hi
    have e : i = q.size := by omega
    subst e
    refine Ev.step (f := fun _ => _) (fun k => ?_) (Ev.now _)
    simp only [latticeref04_Ref1.l1]
    rw [if_neg (by omega), if_pos (by omega), List.take_of_length_le (by simp)]
  | succ d ih =>
    intro i hd hi
    have hiq : i < q.size := by omega
    have hlt : o + i < s.size := by omega
    have eb : bt s ((o + i : Nat) : Int) = ((q[i]'hiq).toNat : Int) := by rw [bt_nat s _ hlt, hat i hiq hlt]
    by_cases hp : i < pre setDigit q
    · have hdg : digitB ((q[i]'hiq).toNat) = true := by rw [← setDigit_is]; exact pre_in setDigit q i hiq hp
      have hrt : rowF (q.data.toList.take (i + 1)) = rowF (q.data.toList.take i) * 10 + ((q[i]'hiq).toNat - 48) := by
        have hl2 : i < q.data.toList.length := by simpa using hiq
        unfold rowF
        rw [List.take_succ_eq_append_getElem hl2, List.foldl_append]; rfl
      have hbd : rowF (q.data.toList.take i) < 10 ^ 5 := by
        refine Nat.lt_of_lt_of_le (rowF_bound _ fun b hb => ?_) (Nat.pow_le_pow_right (by decide) (show (q.data.toList.take i).length ≤ 5 by simp; omega))
        obtain ⟨j, hj, rfl⟩ := List.getElem_of_mem hb
        rw [List.length_take] at hj
        rw [List.getElem_take, ← setDigit_is]
        exact pre_in setDigit q j (by omega) (by omega)
      have hb2 : 48 ≤ (q[i]'hiq).toNat ∧ (q[i]'hiq).toNat ≤ 57 := by unfold digitB at hdg; simp at hdg; omega
      refine Ev.step (fun k => ?_) (ih (i + 1) (by omega) (by omega))
      simp only [latticeref04_Ref1.l1]
      rw [if_pos (by omega), if_pos (by omega), eb, digit_f, hdg]
      simp only [Option.bind_some, if_true]
      rw [w64 (a := ((o + i : Nat) : Int) + 1) (by omega) (by omega), w64 (a := 10 * _) (by omega) (by omega), w64 (by omega) (by omega), hrt]
      congr 1
      omega
    · have hdg : digitB ((q[i]'hiq).toNat) = false := by
        have e : i = pre setDigit q := by omega
        rw [← setDigit_is]; subst e; exact pre_out setDigit q hiq
      refine Ev.step (f := fun _ => _) (fun k => ?_) (Ev.now _)
      simp only [latticeref04_Ref1.l1]
      rw [if_pos (by omega), if_pos (by omega), eb, digit_f, hdg, if_neg (by omega)]
      rfl

theorem refT_none {s : ByteArray} (h : refP s = none) : refT s = noT := by unfold refT; rw [h]
theorem bt36 (s : ByteArray) (n : Nat) (h : n < s.size) (b : UInt8) (hb : s[n]'h = b) : ((bt s (n : Int)) == 36) = decide (b = 36) := by
  rw [bt_nat s n h, hb, Bool.eq_iff_iff]
  simp only [beq_iff_eq, decide_eq_true_eq]
  exact ⟨fun e => UInt8.toNat_inj.1 (by show b.toNat = 36; omega), fun e => by rw [e]; rfl⟩
theorem bt48 (s : ByteArray) (n : Nat) (h : n < s.size) (b : UInt8) (hb : s[n]'h = b) : ((bt s (n : Int)) == 48) = decide (b = 48) := by
  rw [bt_nat s n h, hb, Bool.eq_iff_iff]
  simp only [beq_iff_eq, decide_eq_true_eq]
  exact ⟨fun e => UInt8.toNat_inj.1 (by show b.toNat = 48; omega), fun e => by rw [e]; rfl⟩

/-- Behind a column's letters. -/
theorem row_tells (s t : ByteArray) (o : Nat) (hs : o + t.size = s.size) (hl : s.size ≤ LIM) (hat : ∀ i (h : i < t.size) (h' : o + i < s.size), s[o + i] = t[i]) (x7 : Int) (f : Bool) (h0 : 0 ≤ x7) (h1 : x7 ≤ 1000000) :
    Ev (fun k => latticeref04_Ref1.j5 k s (o : Int) x7 false 0 0 f false) (if rowOk (restB t) then (x7 - 1, (rowF (restB t).data.toList : Int) - 1, f, fixOn t, true) else noT) := by
  have hl' : s.size ≤ 140737488351232 := hl
  obtain ⟨k', hk', hks', hkj'⟩ := restB_cases t
  obtain ⟨q, hq⟩ : ∃ q, q = restB t := ⟨_, rfl⟩
  rw [← hq] at hks' ⊢
  have hqj : ∀ i (h : i < q.size) (h' : (o + k') + i < s.size), s[(o + k') + i] = q[i] := by
    intro i h h'
    have e : s[(o + k') + i]'h' = s[o + (k' + i)]'(by omega) := by congr 1; omega
    rw [e, hat (k' + i) (by omega) (by omega)]
    subst hq; exact hkj' i h (by omega)
  have hpd := pre_le setDigit q
  -- the row itself
  have h7 : Ev (fun k => latticeref04_Ref1.j7 k s ((o + k' : Nat) : Int) x7 0 0 f (fixOn t)) (if rowOk q then (x7 - 1, (rowF q.data.toList : Int) - 1, f, fixOn t, true) else noT) := by
    have ed : wrap64 ((s.size : Int) - ((o + k' : Nat) : Int)) = q.size := by rw [w64 (by omega) (by omega)]; omega
    by_cases hz : q.size < 1
    · refine Ev.step (f := fun k => latticeref04_Ref1.j8 k s ((o + k' : Nat) : Int) x7 true 0 0 f (fixOn t)) (fun k => by simp only [latticeref04_Ref1.j7]; rw [ed, if_pos (by omega)]) ?_
      refine Ev.step (f := fun _ => _) (fun k => ?_) (Ev.now _)
      simp only [latticeref04_Ref1.j8]; rw [rowOk_short (by omega)]; rfl
    · by_cases h5 : 5 < q.size
      · refine Ev.step (f := fun k => latticeref04_Ref1.j8 k s ((o + k' : Nat) : Int) x7 true 0 0 f (fixOn t)) (fun k => by simp only [latticeref04_Ref1.j7]; rw [ed, if_neg (by omega), if_pos (by omega)]) ?_
        refine Ev.step (f := fun _ => _) (fun k => ?_) (Ev.now _)
        simp only [latticeref04_Ref1.j8]; rw [rowOk_long h5]; rfl
      · have hq1 : 0 < q.size := by omega
        have hlt : o + k' < s.size := by omega
        have e0 : s[o + k']'hlt = q[0]'hq1 := hqj 0 hq1 (by omega)
        refine Ev.step (f := fun k => latticeref04_Ref1.j8 k s ((o + k' : Nat) : Int) x7 (decide (q[0]'hq1 = 48)) 0 0 f (fixOn t)) (fun k => by simp only [latticeref04_Ref1.j7]; rw [ed, if_neg (by omega), if_neg (by omega), if_pos (by omega), if_pos (by omega), bt48 s _ hlt _ e0]) ?_
        by_cases h48 : q[0]'hq1 = 48
        · refine Ev.step (f := fun _ => _) (fun k => ?_) (Ev.now _)
          simp only [latticeref04_Ref1.j8]; rw [rowOk_zero hq1 h48, decide_eq_true h48]; rfl
        · have hx := l1_tells s q (o + k') (by omega) hl (by omega) hqj x7 0 0 f (fixOn t) (q.size - 0) 0 rfl (by omega)
          rw [rowOk_iff hq1 (by omega) h48]
          have hrb : pre setDigit q = q.size → rowF q.data.toList < 10 ^ 5 := fun e => Nat.lt_of_lt_of_le (rowF_bound _ (inDigit_of_pre q e)) (Nat.pow_le_pow_right (by decide) (show q.data.toList.length ≤ 5 by simp; omega))
          by_cases hp : pre setDigit q = q.size
          · rw [if_pos hp] at hx
            have := hrb hp
            rw [decide_eq_true hp, if_pos rfl, w64 (by omega) (by omega), w64 (by omega) (by omega)] at *
            refine Ev.step (fun k => ?_) hx
            simp only [latticeref04_Ref1.j8]; rw [decide_eq_false h48]; rfl
          · rw [if_neg hp] at hx
            rw [decide_eq_false hp]
            refine Ev.step (fun k => ?_) hx
            simp only [latticeref04_Ref1.j8]; rw [decide_eq_false h48]; rfl
  -- the sign ahead of it
  by_cases ht : 0 < t.size
  · have hlt : o < s.size := by omega
    have e0 : s[o]'hlt = t[0]'ht := hat 0 ht (by omega)
    refine Ev.step (f := fun k => latticeref04_Ref1.j6 k s (o : Int) x7 (decide (t[0]'ht = 36)) 0 0 f false) (fun k => by simp only [latticeref04_Ref1.j5]; rw [if_neg (by decide), if_pos (by omega), if_pos (by omega), bt36 s _ hlt _ e0]) ?_
    rcases hk' with ⟨hk0, hft, h36⟩ | ⟨hk1, hft, hh, h36⟩
    · refine Ev.step (fun k => ?_) h7
      simp only [latticeref04_Ref1.j6]; rw [decide_eq_false (h36 ht), hft, hk0]; rfl
    · refine Ev.step (fun k => ?_) h7
      simp only [latticeref04_Ref1.j6]; rw [decide_eq_true h36, hft, hk1, if_pos rfl, w64 (by omega) (by omega)]; rfl
  · rcases hk' with ⟨hk0, hft, h36⟩ | ⟨hk1, hft, hh, h36⟩
    · refine Ev.step (f := fun k => latticeref04_Ref1.j6 k s (o : Int) x7 false 0 0 f false) (fun k => by simp only [latticeref04_Ref1.j5]; rw [if_neg (by decide), if_neg (by omega)]) ?_
      refine Ev.step (fun k => ?_) h7
      simp only [latticeref04_Ref1.j6]; rw [hft, hk0]; rfl
    · exact absurd hh ht

/-- Behind the letters that were counted. -/
theorem col_tells (s : ByteArray) (o : Nat) (ho : o + (restB s).size = s.size) (hl : s.size ≤ LIM) (hat : ∀ i (h : i < (restB s).size) (h' : o + i < s.size), s[o + i] = (restB s)[i]) (j : Nat) (hj : j = min (pre setLet (restB s)) 4) :
    Ev (fun k => latticeref04_Ref1.j4 k s ((o + j : Nat) : Int) j (numF ((restB s).data.toList.take j) : Int) 0 0 (fixOn s) false) (refT s) := by
  have hpl := pre_le setLet (restB s)
  by_cases h1 : j < 1
  · rw [refT_none (refP_no (by omega))]
    refine Ev.step (f := fun k => latticeref04_Ref1.j5 k s ((o + j : Nat) : Int) (numF ((restB s).data.toList.take j) : Int) true 0 0 (fixOn s) false) (fun k => by simp only [latticeref04_Ref1.j4]; rw [if_pos (by omega)]) ?_
    exact Ev.step (f := fun _ => _) (fun k => by simp only [latticeref04_Ref1.j5]; rfl) (Ev.now _)
  · by_cases h3 : 3 < j
    · rw [refT_none (refP_no (by omega))]
      refine Ev.step (f := fun k => latticeref04_Ref1.j5 k s ((o + j : Nat) : Int) (numF ((restB s).data.toList.take j) : Int) true 0 0 (fixOn s) false) (fun k => by simp only [latticeref04_Ref1.j4]; rw [if_neg (by omega), decide_eq_true (by omega)]) ?_
      exact Ev.step (f := fun _ => _) (fun k => by simp only [latticeref04_Ref1.j5]; rfl) (Ev.now _)
    · have em : j = pre setLet (restB s) := by omega
      obtain ⟨t, ht⟩ : ∃ t, t = tailB s := ⟨_, rfl⟩
      have htp : t = (restB s).extract j (restB s).size := by rw [ht]; unfold tailB; rw [← em]
      have hts : t.size = (restB s).size - j := by rw [htp]; simp
      have hcb : numF ((restB s).data.toList.take j) < 27 ^ 3 := by
        refine Nat.lt_of_lt_of_le (numF_bound _ fun b hb => ?_) (Nat.pow_le_pow_right (by decide) (show ((restB s).data.toList.take j).length ≤ 3 by simp; omega))
        obtain ⟨i, hi, rfl⟩ := List.getElem_of_mem hb
        rw [List.length_take] at hi
        rw [List.getElem_take, ← setLet_is]
        exact pre_in setLet (restB s) i (by omega) (by omega)
      have hr := row_tells s t (o + j) (by omega) hl (by
        intro i h h'
        have e1 : t[i]'h = (restB s)[j + i]'(by omega) := by subst htp; simp [ByteArray.getElem_extract]
        rw [e1, ← hat (j + i) (by omega) (by omega)]
        congr 1; omega) (numF ((restB s).data.toList.take j) : Int) (fixOn s) (by omega) (by omega)
      have eR : refT s = if rowOk (restB t) then ((numF ((restB s).data.toList.take j) : Int) - 1, (rowF (restB t).data.toList : Int) - 1, fixOn s, fixOn t, true) else noT := by
        have ec : colOk (restB s) = true := by unfold colOk; rw [← em]; exact decide_eq_true ⟨by omega, by omega⟩
        have eh : (headB s).data.toList = (restB s).data.toList.take j := by unfold headB; rw [← em, Lib.extract_data]; simp
        unfold refT refP; rw [ec, ← ht, eh]
        cases rowOk (restB t) <;> rfl
      rw [eR]
      refine Ev.step (fun k => ?_) hr
      simp only [latticeref04_Ref1.j4]; rw [if_neg (by omega), decide_eq_false (by omega)]

/-- The loop over a column's letters. -/
theorem l0_tells (s : ByteArray) (o : Nat) (ho : o + (restB s).size = s.size) (hl : s.size ≤ LIM) (hat : ∀ i (h : i < (restB s).size) (h' : o + i < s.size), s[o + i] = (restB s)[i]) : ∀ d j, min (pre setLet (restB s)) 4 - j = d → j ≤ min (pre setLet (restB s)) 4 →
    Ev (fun k => latticeref04_Ref1.l0 k s ((o + j : Nat) : Int) j (numF ((restB s).data.toList.take j) : Int) 0 0 (fixOn s) false) (refT s) := by
  have hpl := pre_le setLet (restB s)
  have hl' : s.size ≤ 140737488351232 := hl
  intro d
  induction d with
  | zero =>
    intro j hd hj
    have hj' : j = min (pre setLet (restB s)) 4 := by omega
    have hc := col_tells s o ho hl hat j hj'
    by_cases hlt : o + j < s.size
    · by_cases h4 : j < 4
      · have em : j = pre setLet (restB s) := by omega
        have hq : j < (restB s).size := by omega
        have hlf : letterB (((restB s)[j]'hq).toNat) = false := by rw [← setLet_is]; have := pre_out setLet (restB s) (by omega); simp only [← em] at this; exact this
        refine Ev.step (f := fun k => latticeref04_Ref1.j3 k s ((o + j : Nat) : Int) j (numF ((restB s).data.toList.take j) : Int) true 0 0 (fixOn s) false) (fun k => by simp only [latticeref04_Ref1.l0]; rw [if_pos (by omega), decide_eq_true (by omega)]) ?_
        refine Ev.step (fun k => ?_) hc
        simp only [latticeref04_Ref1.j3]
        rw [if_pos trivial, if_pos (by omega), if_pos (by omega), bt_nat s _ hlt, hat j hq hlt, letter_f, hlf]
        rfl
      · refine Ev.step (f := fun k => latticeref04_Ref1.j3 k s ((o + j : Nat) : Int) j (numF ((restB s).data.toList.take j) : Int) false 0 0 (fixOn s) false) (fun k => by simp only [latticeref04_Ref1.l0]; rw [if_pos (by omega), decide_eq_false (by omega)]) ?_
        exact Ev.step (fun k => by simp only [latticeref04_Ref1.j3]; rfl) hc
    · refine Ev.step (f := fun k => latticeref04_Ref1.j3 k s ((o + j : Nat) : Int) j (numF ((restB s).data.toList.take j) : Int) false 0 0 (fixOn s) false) (fun k => by simp only [latticeref04_Ref1.l0]; rw [if_neg (by omega)]) ?_
      exact Ev.step (fun k => by simp only [latticeref04_Ref1.j3]; rfl) hc
  | succ d ih =>
    intro j hd hj
    have hq : j < (restB s).size := by omega
    have hlt : o + j < s.size := by omega
    have hlf : letterB (((restB s)[j]'hq).toNat) = true := by rw [← setLet_is]; exact pre_in setLet (restB s) j hq (by omega)
    have hu := upU_let ((restB s)[j]'hq) hlf
    have hnt := numF_take (restB s).data.toList j (by simpa using hq)
    have hgx : (restB s).data.toList[j]'(by simpa using hq) = (restB s)[j]'hq := rfl
    rw [hgx] at hnt
    have hcb : numF ((restB s).data.toList.take j) < 27 ^ 3 := by
      refine Nat.lt_of_lt_of_le (numF_bound _ fun b hb => ?_) (Nat.pow_le_pow_right (by decide) (show ((restB s).data.toList.take j).length ≤ 3 by simp; omega))
      obtain ⟨i, hi, rfl⟩ := List.getElem_of_mem hb
      rw [List.length_take] at hi
      rw [List.getElem_take, ← setLet_is]
      exact pre_in setLet (restB s) i (by omega) (by omega)
    have hi' := ih (j + 1) (by omega) (by omega)
    refine Ev.step (f := fun k => latticeref04_Ref1.j3 k s ((o + j : Nat) : Int) j (numF ((restB s).data.toList.take j) : Int) true 0 0 (fixOn s) false) (fun k => by simp only [latticeref04_Ref1.l0]; rw [if_pos (by omega), decide_eq_true (by omega)]) ?_
    refine Ev.step (fun k => ?_) hi'
    simp only [latticeref04_Ref1.j3]
    rw [if_pos trivial, if_pos (by omega), if_pos (by omega), bt_nat s _ hlt, hat j hq hlt, letter_f, hlf]
    simp only [Option.bind_some, if_true]
    obtain ⟨b, hb⟩ : ∃ b, b = (restB s)[j]'hq := ⟨_, rfl⟩
    rw [← hb] at hu hnt hlf ⊢
    have hn27 : numF ((restB s).data.toList.take j) < 19683 := hcb
    by_cases h97 : 97 ≤ b.toNat
    · have h123 : b.toNat < 123 := by unfold letterB at hlf; simp at hlf; omega
      have e := upU_up b ⟨h97, h123⟩
      rw [if_pos (by omega), w64 (a := ((o + j : Nat) : Int) + 1) (by omega) (by omega), w64 (a := (j : Int) + 1) (by omega) (by omega), w64 (a := 26 * _) (by omega) (by omega), w64 (a := 26 * _ + _) (by omega) (by omega), w64 (by omega) (by omega), hnt]
      congr 1; omega
    · have e := upU_same b (by omega)
      rw [e] at hu hnt
      rw [if_neg (by omega), w64 (a := ((o + j : Nat) : Int) + 1) (by omega) (by omega), w64 (a := (j : Int) + 1) (by omega) (by omega), w64 (a := 26 * _) (by omega) (by omega), w64 (a := 26 * _ + _) (by omega) (by omega), w64 (by omega) (by omega), hnt]
      congr 1; omega

theorem ref1_tells (s : ByteArray) (hl : s.size ≤ LIM) : Ev (fun k => latticeref04_Ref1.f k s) (refT s) := by
  obtain ⟨o, hk, hks, hkj⟩ := restB_cases s
  have h0 := l0_tells s o hks hl hkj _ 0 rfl (by omega)
  have h1 : Ev (fun k => latticeref04_Ref1.j1 k s (o : Int) 0 0 (fixOn s) false) (refT s) := Ev.step (fun k => by simp only [latticeref04_Ref1.j1]; rfl) h0
  rcases hk with ⟨rfl, hon, h36⟩ | ⟨rfl, hon, hh, h36⟩
  · have h2 : Ev (fun k => latticeref04_Ref1.j0 k s 0 false 0 0 false false) (refT s) := Ev.step (fun k => by simp only [latticeref04_Ref1.j0]; rw [hon]; rfl) h1
    refine Ev.congr (fun k => ?_) h2
    unfold latticeref04_Ref1.f
    by_cases hz : 0 < s.size
    · rw [if_pos (by omega), show (bt s 0 == 36) = false from (bt36 s 0 hz _ rfl).trans (decide_eq_false (h36 hz))]
    · rw [if_neg (by omega)]
  · have h2 : Ev (fun k => latticeref04_Ref1.j0 k s 0 true 0 0 false false) (refT s) := Ev.step (fun k => by simp only [latticeref04_Ref1.j0]; rw [if_pos trivial, hon, w64 (by omega) (by omega)]; rfl) h1
    refine Ev.congr (fun k => ?_) h2
    unfold latticeref04_Ref1.f
    rw [if_pos (by omega), show (bt s 0 == 36) = true from (bt36 s 0 hh _ rfl).trans (decide_eq_true h36)]
end Go.Proofs.YtpljbpndooilgaaDoor.PAddrReads
