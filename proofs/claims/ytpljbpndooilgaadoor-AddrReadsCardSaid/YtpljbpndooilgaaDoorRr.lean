/- AddrReads without memory: the document's Parse, and the law itself. -/
import Derived.Test.YtpljbpndooilgaaDoorPAddrReadsx6
import Derived.Test.YtpljbpndooilgaaDoorRq
namespace Go.Proofs.YtpljbpndooilgaaDoor.PAddrReads
open Go.RowKit Go.Proofs.YtpljbpndooilgaaDoorW.PrintWords Go.Proofs.YtpljbpndooilgaaDoorW.PrintLast Go.Proofs.YtpljbpndooilgaaDoorW.PrintMore
set_option linter.unusedVariables false
set_option linter.unusedSimpArgs false

theorem j6_tells (bk sh : ByteArray) (fc fr : Int) (ff fg : Bool) (tc tr : Int) (tf tg : Bool) (a1 a2 : Int) (a3 a4 : Bool) (b1 b2 : Int) (b3 b4 : Bool) :
    Ev (fun k => latticeref04_Parse.j6 k bk sh fc fr ff fg tc tr tf tg true a1 a2 a3 a4 b1 b2 b3 b4)
      (if b2 < a2 then (if areaOk fc b2 tc a2 = true then (bk, sh, fc, b2, ff, b4, tc, a2, tf, a4, true, 0) else errT 7) else (if areaOk fc fr tc tr = true then (bk, sh, fc, fr, ff, fg, tc, tr, tf, tg, true, 0) else errT 7)) := by
  refine Ev.step (f := fun _ => _) (fun k => ?_) (Ev.now _)
  simp only [latticeref04_Parse.j6]
  by_cases h : b2 < a2
  · rw [if_pos h, if_pos h]
    unfold gv_refArea.f
    rw [Option.bind_some]
    generalize areaOk _ _ _ _ = ok
    cases ok <;> rfl
  · rw [if_neg h, if_neg h]
    unfold gv_refArea.f
    rw [Option.bind_some]
    generalize areaOk _ _ _ _ = ok
    cases ok <;> rfl

theorem j5_tells (bk sh : ByteArray) (a1 a2 : Int) (a3 a4 : Bool) (b1 b2 : Int) (b3 b4 : Bool) (ha : goodC a1 a2 = true) (hb : goodC b1 b2 = true) :
    Ev (fun k => latticeref04_Parse.j5 k false bk sh 0 0 false false 0 0 false false false a1 a2 a3 a4 b1 b2 b3 b4) (wideT bk sh (a1, a2, a3, a4, true) (b1, b2, b3, b4, true)) := by
  have e : wideT bk sh (a1, a2, a3, a4, true) (b1, b2, b3, b4, true) = if b1 < a1 then (if b2 < a2 then (if areaOk b1 b2 a1 a2 = true then (bk, sh, b1, b2, b3, b4, a1, a2, a3, a4, true, 0) else errT 7) else (if areaOk b1 a2 a1 b2 = true then (bk, sh, b1, a2, b3, a4, a1, b2, a3, b4, true, 0) else errT 7))
      else (if b2 < a2 then (if areaOk a1 b2 b1 a2 = true then (bk, sh, a1, b2, a3, b4, b1, a2, b3, a4, true, 0) else errT 7) else (if areaOk a1 a2 b1 b2 = true then (bk, sh, a1, a2, a3, a4, b1, b2, b3, b4, true, 0) else errT 7)) := by
    unfold wideT cornT
    simp only [ha, hb, if_true]
    by_cases h1 : b1 < a1 <;> by_cases h2 : b2 < a2 <;> simp only [h1, h2, if_true, if_false]
  rw [e]
  by_cases h1 : b1 < a1
  · rw [if_pos h1]
    refine Ev.step (fun k => ?_) (j6_tells bk sh b1 a2 b3 a4 a1 b2 a3 b4 a1 a2 a3 a4 b1 b2 b3 b4)
    simp only [latticeref04_Parse.j5]
    rw [if_neg (by decide), if_pos h1]
  · rw [if_neg h1]
    refine Ev.step (fun k => ?_) (j6_tells bk sh a1 a2 a3 a4 b1 b2 b3 b4 a1 a2 a3 a4 b1 b2 b3 b4)
    simp only [latticeref04_Parse.j5]
    rw [if_neg (by decide), if_neg h1]

theorem j5_range (bk sh : ByteArray) (a1 a2 : Int) (a3 a4 : Bool) (b1 b2 : Int) (b3 b4 : Bool) :
    Ev (fun k => latticeref04_Parse.j5 k true bk sh 0 0 false false 0 0 false false false a1 a2 a3 a4 b1 b2 b3 b4) (errT 3) :=
  Ev.step (f := fun _ => some (errT 3)) (fun k => by simp only [latticeref04_Parse.j5]; rfl) (Ev.now _)

theorem ok_eta (a : Int × Int × Bool × Bool × Bool) : a = (a.1, a.2.1, a.2.2.1, a.2.2.2.1, a.2.2.2.2) := rfl

/-- A wide reference, its two texts at hand. -/
theorem j4_wide (n : Nat) (one other bk sh : ByteArray) (h1 : one.size ≤ LIM) (h2 : other.size ≤ LIM) :
    Ev (fun k => latticeref04_Parse.j4 k (n : Int) one other bk sh 0 0 false false 0 0 false false false) (wideT bk sh (refT one) (refT other)) := by
  have r1 := ref1_tells one h1
  have r2 := ref1_tells other h2
  obtain ⟨⟨a1, a2, a3, a4, a5⟩, ha⟩ : ∃ a, a = refT one := ⟨_, rfl⟩
  obtain ⟨⟨b1, b2, b3, b4, b5⟩, hb⟩ : ∃ a, a = refT other := ⟨_, rfl⟩
  rw [← ha] at r1 ⊢; rw [← hb] at r2 ⊢
  refine Ev.step (fun k => by simp only [latticeref04_Parse.j4]; rfl) (Ev.bind r1 ?_)
  cases a5 with
  | false => exact Ev.congr (f := fun _ => _) (fun k => rfl) (Ev.now _)
  | true =>
    have hn : ¬ (n : Int) < 0 := by omega
    simp only [if_true, cell_f, Option.bind_some, hn, if_false]
    refine Ev.bind r2 ?_
    cases b5 with
    | false => exact Ev.congr (f := fun _ => _) (fun k => rfl) (Ev.now _)
    | true =>
      simp only [if_true]
      cases hga : goodC a1 a2 with
      | true =>
        cases hgb : goodC b1 b2 with
        | true => exact j5_tells bk sh a1 a2 a3 a4 b1 b2 b3 b4 hga hgb
        | false =>
          have e : wideT bk sh (a1, a2, a3, a4, true) (b1, b2, b3, b4, true) = errT 3 := by unfold wideT; simp [hga, hgb]
          rw [e]; exact j5_range bk sh a1 a2 a3 a4 b1 b2 b3 b4
      | false =>
        have e : wideT bk sh (a1, a2, a3, a4, true) (b1, b2, b3, b4, true) = errT 3 := by unfold wideT; simp [hga]
        rw [e]; exact j5_range bk sh a1 a2 a3 a4 b1 b2 b3 b4

theorem j4_one (one bk sh : ByteArray) (h1 : one.size ≤ LIM) :
    Ev (fun k => latticeref04_Parse.j4 k (-1) one eB bk sh 0 0 false false 0 0 false false false) (oneT bk sh (refT one)) := by
  have r1 := ref1_tells one h1
  obtain ⟨⟨a1, a2, a3, a4, a5⟩, ha⟩ : ∃ a, a = refT one := ⟨_, rfl⟩
  rw [← ha] at r1 ⊢
  refine Ev.step (fun k => by simp only [latticeref04_Parse.j4]; rfl) (Ev.bind r1 ?_)
  cases a5 with
  | false => exact Ev.congr (f := fun _ => _) (fun k => rfl) (Ev.now _)
  | true =>
    simp only [if_true, cell_f, Option.bind_some]
    refine Ev.congr (f := fun _ => _) (fun k => ?_) (Ev.now _)
    rw [if_pos (by decide)]
    unfold oneT
    cases goodC a1 a2 <;> rfl

theorem toNat_ix (s : ByteArray) (c : UInt8) : ((ixB s c : Int)).toNat = ixB s c := rfl
theorem hasB_lt {s : ByteArray} {c : UInt8} (h : hasB s c = true) : ixB s c < s.size := by unfold hasB at h; simpa using h

theorem j3_tells (r bk sh : ByteArray) (hr : r.size ≤ LIM) : Ev (fun k => latticeref04_Parse.j3 k r false bk sh 0 0 false false 0 0 false false false) (tailT bk sh r) := by
  have hr' : r.size ≤ 140737488351232 := hr
  unfold tailT
  by_cases h : hasB r 58 = true
  · have hlt := hasB_lt h
    rw [if_pos h]
    refine Ev.step (fun k => ?_) (j4_wide (ixB r 58) (cutA r 58) (cutB r 58) bk sh (cutA_LIM hr 58) (cutB_LIM hr 58))
    simp only [latticeref04_Parse.j3]
    rw [if_neg (by decide), find_f r hr 58 58 rfl, if_pos h, Option.bind_some, if_pos (by omega), if_pos (by omega), if_pos (by omega), w64 (a := (ixB r 58 : Int) + 1) (by omega) (by omega), if_pos (by omega), if_pos (by omega)]
    rfl
  · rw [if_neg h]
    refine Ev.step (fun k => ?_) (j4_one r bk sh hr)
    simp only [latticeref04_Parse.j3]
    rw [if_neg (by decide), find_f r hr 58 58 rfl, if_neg h, Option.bind_some, if_neg (by decide)]

theorem j3_form (r bk sh : ByteArray) : Ev (fun k => latticeref04_Parse.j3 k r true bk sh 0 0 false false 0 0 false false false) (errT 4) :=
  Ev.step (f := fun _ => some (errT 4)) (fun k => by simp only [latticeref04_Parse.j3]; rfl) (Ev.now _)

def sheetT (bk r : ByteArray) : FT := match sheetP bk r with | none => errT 4 | some (a, b, c) => tailT a b c

theorem nil_of {b : ByteArray} (h : b.toList = []) : b = eB := by
  refine ba_ext ?_
  rw [← Lib.toList_data, h]

theorem j1_tells (r bk : ByteArray) (hr : r.size ≤ LIM) : Ev (fun k => latticeref04_Parse.j1 k r bk eB 0 0 false false 0 0 false false false) (sheetT bk r) := by
  have hr' : r.size ≤ 140737488351232 := hr
  unfold sheetT sheetP
  by_cases h : hasB r 33 = true
  · have hlt := hasB_lt h
    rw [if_pos h]
    by_cases hn : nameOk (cutA r 33) = true
    · rw [if_pos hn]
      have hne := name_ne hn
      have h3 := j3_tells (cutB r 33) bk (cutA r 33) (cutB_LIM hr 33)
      have h2 : Ev (fun k => latticeref04_Parse.j2 k (cutB r 33) bk (cutA r 33) 0 0 false false 0 0 false false false) (tailT bk (cutA r 33) (cutB r 33)) := by
        refine Ev.step (fun k => ?_) h3
        simp only [latticeref04_Parse.j2]
        by_cases hb : bk.toList = []
        · rw [if_pos hb]
        · rw [if_neg hb, show ((cutA r 33).toList == ([] : List UInt8)) = false from beq_eq_false_iff_ne.2 hne]
      refine Ev.step (fun k => ?_) h2
      simp only [latticeref04_Parse.j1]
      rw [find_f r hr 33 33 rfl, if_pos h, Option.bind_some, if_pos (by omega), if_pos (by omega), if_pos (by omega), w64 (a := (ixB r 33 : Int) + 1) (by omega) (by omega), if_pos (by omega), if_pos (by omega)]
      have e : gv_refName.f (r.extract 0 ((ixB r 33 : Int)).toNat) = some true := by rw [← hn]; exact refname_f _ (cutA_LIM hr 33)
      rw [e]; rfl
    · rw [if_neg hn]
      refine Ev.step (f := fun _ => some (errT 4)) (fun k => ?_) (Ev.now _)
      simp only [latticeref04_Parse.j1]
      rw [find_f r hr 33 33 rfl, if_pos h, Option.bind_some, if_pos (by omega), if_pos (by omega), if_pos (by omega), w64 (a := (ixB r 33 : Int) + 1) (by omega) (by omega), if_pos (by omega), if_pos (by omega)]
      have e : gv_refName.f (r.extract 0 ((ixB r 33 : Int)).toNat) = some false := by rw [← Bool.eq_false_iff.2 hn]; exact refname_f _ (cutA_LIM hr 33)
      rw [e]; rfl
  · rw [if_neg h]
    have h2 : Ev (fun k => latticeref04_Parse.j2 k r bk eB 0 0 false false 0 0 false false false) (if bk.toList.isEmpty = true then tailT nilB nilB r else errT 4) := by
      by_cases hb : bk.toList = []
      · rw [if_pos (by rw [hb]; rfl)]
        have eb := nil_of hb
        subst eb
        refine Ev.step (fun k => ?_) (j3_tells r eB eB hr)
        simp only [latticeref04_Parse.j2]
        rw [if_pos hb]
      · rw [if_neg (by simpa using hb)]
        refine Ev.step (fun k => ?_) (j3_form r bk eB)
        simp only [latticeref04_Parse.j2]
        rw [if_neg hb, show (eB.toList == ([] : List UInt8)) = true by rw [Lib.toList_data]; rfl]
    have e : (match (if bk.toList.isEmpty = true then some (nilB, nilB, r) else none) with | none => errT 4 | some (a, b, c) => tailT a b c) = (if bk.toList.isEmpty = true then tailT nilB nilB r else errT 4) := by
      by_cases hbe : bk.toList.isEmpty = true
      · rw [if_pos hbe, if_pos hbe]
      · rw [if_neg hbe, if_neg hbe]
    rw [e]
    refine Ev.step (fun k => ?_) h2
    simp only [latticeref04_Parse.j1]
    rw [find_f r hr 33 33 rfl, if_neg h, Option.bind_some, if_neg (by decide)]

theorem book_parts (l : List UInt8) : ixB ⟨⟨91 :: l⟩⟩ 93 = ixB ⟨⟨l⟩⟩ 93 + 1 ∧ hasB ⟨⟨91 :: l⟩⟩ 93 = hasB ⟨⟨l⟩⟩ 93 := by
  have e : ixB ⟨⟨91 :: l⟩⟩ 93 = ixB ⟨⟨l⟩⟩ 93 + 1 := by
    show ((91 :: l).takeWhile _).length = (l.takeWhile _).length + 1
    rw [List.takeWhile_cons]; rfl
  refine ⟨e, ?_⟩
  unfold hasB
  rw [e]
  show decide (_ < (91 :: l).length) = decide (_ < l.length)
  simp

theorem refParse_tells (s : ByteArray) (hl : s.size ≤ LIM) : Ev (fun k => latticeref04_Parse.f k s) (parseT s) := by
  have hl' : s.size ≤ 140737488351232 := hl
  obtain ⟨⟨l⟩⟩ := s
  -- no book
  have plain : brOn ⟨⟨l⟩⟩ = false → Ev (fun k => latticeref04_Parse.j0 k ⟨⟨l⟩⟩ false eB eB 0 0 false false 0 0 false false false) (parseT ⟨⟨l⟩⟩) := by
    intro hb
    have e : parseT ⟨⟨l⟩⟩ = sheetT eB ⟨⟨l⟩⟩ := by
      unfold parseT sheetT whereP bookP; rw [hb]; rfl
    rw [e]
    refine Ev.step (fun k => ?_) (j1_tells ⟨⟨l⟩⟩ eB hl)
    simp only [latticeref04_Parse.j0]
    rfl
  cases l with
  | nil =>
    refine Ev.congr (fun k => ?_) (plain rfl)
    unfold latticeref04_Parse.f
    rw [if_neg (by decide)]
  | cons b l =>
    have hsz : (((⟨⟨b :: l⟩⟩ : ByteArray).size : Nat) : Int) > 0 := by show (((b :: l).length : Nat) : Int) > 0; simp
    have eb : bt ⟨⟨b :: l⟩⟩ 0 = (b.toNat : Int) := bt_nat ⟨⟨b :: l⟩⟩ 0 (by show 0 < (b :: l).length; simp)
    by_cases h91 : b = 91
    · subst h91
      obtain ⟨h1, h2⟩ := pre91' l
      obtain ⟨p1, p2⟩ := book_parts l
      have hpl : (⟨⟨l⟩⟩ : ByteArray).size ≤ LIM := Nat.le_trans (by show l.length ≤ (91 :: l).length; simp) hl
      have ex1 : (⟨⟨91 :: l⟩⟩ : ByteArray).extract 1 (ixB ⟨⟨91 :: l⟩⟩ 93) = cutA ⟨⟨l⟩⟩ 93 := by
        refine ba_ext ?_
        unfold cutA
        rw [Lib.extract_data, Lib.extract_data, p1]
        show ((91 :: l).drop 1).take _ = (l.drop 0).take _
        simp
      have ex2 : (⟨⟨91 :: l⟩⟩ : ByteArray).extract (ixB ⟨⟨91 :: l⟩⟩ 93 + 1) (⟨⟨91 :: l⟩⟩ : ByteArray).size = cutB ⟨⟨l⟩⟩ 93 := by
        refine ba_ext ?_
        unfold cutB
        rw [Lib.extract_data, Lib.extract_data, p1]
        show ((91 :: l).drop (ixB ⟨⟨l⟩⟩ 93 + 1 + 1)).take ((91 :: l).length - _) = (l.drop (ixB ⟨⟨l⟩⟩ 93 + 1)).take (l.length - _)
        simp
      have h0 : Ev (fun k => latticeref04_Parse.j0 k ⟨⟨91 :: l⟩⟩ true eB eB 0 0 false false 0 0 false false false) (parseT ⟨⟨91 :: l⟩⟩) := by
        have eP : parseT ⟨⟨91 :: l⟩⟩ = if (hasB ⟨⟨l⟩⟩ 93 && nameOk (cutA ⟨⟨l⟩⟩ 93)) = true then sheetT (cutA ⟨⟨l⟩⟩ 93) (cutB ⟨⟨l⟩⟩ 93) else errT 4 := by
          unfold parseT sheetT whereP bookP
          rw [h1, h2, if_pos rfl]
          by_cases hh : (hasB ⟨⟨l⟩⟩ 93 && nameOk (cutA ⟨⟨l⟩⟩ 93)) = true
          · rw [if_pos hh, if_pos hh, Option.bind_some]
            rfl
          · rw [if_neg hh, if_neg hh]; rfl
        rw [eP]
        by_cases h93 : hasB ⟨⟨l⟩⟩ 93 = true
        · have hlt : ixB ⟨⟨91 :: l⟩⟩ 93 < (⟨⟨91 :: l⟩⟩ : ByteArray).size := hasB_lt (by rw [p2]; exact h93)
          have hge : 1 ≤ ixB ⟨⟨91 :: l⟩⟩ 93 := by omega
          have hf : gv_find.f ⟨⟨91 :: l⟩⟩ 93 = some (ixB ⟨⟨91 :: l⟩⟩ 93 : Int) := by rw [find_f _ hl 93 93 rfl, p2, if_pos h93]
          by_cases hn : nameOk (cutA ⟨⟨l⟩⟩ 93) = true
          · rw [if_pos (by rw [h93, hn]; rfl)]
            refine Ev.step (fun k => ?_) (j1_tells (cutB ⟨⟨l⟩⟩ 93) (cutA ⟨⟨l⟩⟩ 93) (cutB_LIM hpl 93))
            simp only [latticeref04_Parse.j0]
            rw [if_pos trivial, hf, Option.bind_some, if_neg (by omega), if_pos (by omega), if_pos (by omega), w64 (a := (ixB ⟨⟨91 :: l⟩⟩ 93 : Int) + 1) (by omega) (by omega), if_pos (by omega), if_pos (by omega)]
            rw [show ((ixB ⟨⟨91 :: l⟩⟩ 93 : Int)).toNat = ixB ⟨⟨91 :: l⟩⟩ 93 from rfl, show ((ixB ⟨⟨91 :: l⟩⟩ 93 : Int) + 1).toNat = ixB ⟨⟨91 :: l⟩⟩ 93 + 1 by omega, ex1, ex2, refname_f _ (cutA_LIM hpl 93), hn]
            rfl
          · rw [if_neg (by rw [h93]; simpa using hn)]
            refine Ev.step (f := fun _ => some (errT 4)) (fun k => ?_) (Ev.now _)
            simp only [latticeref04_Parse.j0]
            rw [if_pos trivial, hf, Option.bind_some, if_neg (by omega), if_pos (by omega), if_pos (by omega), w64 (a := (ixB ⟨⟨91 :: l⟩⟩ 93 : Int) + 1) (by omega) (by omega), if_pos (by omega), if_pos (by omega)]
            rw [show ((ixB ⟨⟨91 :: l⟩⟩ 93 : Int)).toNat = ixB ⟨⟨91 :: l⟩⟩ 93 from rfl, ex1, refname_f _ (cutA_LIM hpl 93), Bool.eq_false_iff.2 hn]
            rfl
        · rw [if_neg (by rw [Bool.eq_false_iff.2 h93]; simp)]
          refine Ev.step (f := fun _ => some (errT 4)) (fun k => ?_) (Ev.now _)
          simp only [latticeref04_Parse.j0]
          rw [if_pos trivial, find_f _ hl 93 93 rfl, p2, if_neg h93, Option.bind_some, if_pos (by decide)]
      refine Ev.congr (fun k => ?_) h0
      unfold latticeref04_Parse.f
      rw [if_pos hsz, if_pos hsz, eb]; rfl
    · obtain ⟨h1, h2⟩ := pre91 b l h91
      refine Ev.congr (fun k => ?_) (plain h1)
      unfold latticeref04_Parse.f
      rw [if_pos hsz, if_pos hsz, eb, show ((b.toNat : Int) == 91) = false from beq_eq_false_iff_ne.2 (fun e => h91 (UInt8.toNat_inj.1 (by show b.toNat = 91; omega)))]

theorem refParseRef_tells (s : ByteArray) (hl : s.size ≤ LIM) : Ev (fun k => latticeref04_ParseRef.f k s) (parseRefT s) := by
  have r1 := ref1_tells s hl
  refine Ev.congr (fun k => rfl) (Ev.bind r1 ?_)
  unfold refT parseRefT
  cases refP s with
  | none => exact Ev.congr (f := fun _ => _) (fun k => rfl) (Ev.now _)
  | some x =>
    obtain ⟨c, r, f, g⟩ := x
    simp only [if_true, cell_f, Option.bind_some]
    refine Ev.congr (f := fun _ => _) (fun k => ?_) (Ev.now _)
    cases goodC c r <;> rfl

theorem sameRef_self (a b : Int) (c d : Bool) : latticelaw04_sameRef.f a b c d a b c d = some true := by simp [latticelaw04_sameRef.f]
theorem sameFull_self (a b : ByteArray) (c d : Int) (e f : Bool) (g h : Int) (i j k : Bool) : latticelaw04_sameFull.f a b c d e f g h i j k a b c d e f g h i j k = some true := by
  simp [latticelaw04_sameFull.f, sameRef_self]

theorem mn100 (n : Nat) : ∃ m : Nat, mn (n : Int) 100 = (m : Int) ∧ m ≤ n ∧ m ≤ 100 := by
  unfold mn
  by_cases h : (100 : Int) < n
  · exact ⟨100, by rw [if_pos h]; rfl, by omega, by omega⟩
  · exact ⟨n, by rw [if_neg h], by omega, by omega⟩

/-- The law without memory. -/
theorem reads_pure (a0 : ByteArray) : ∃ k, latticelaw04_AddrReads.f k a0 = some true := by
  refine Ev.rounds ?_
  obtain ⟨m, hm, h1, h2⟩ := mn100 a0.size
  obtain ⟨s, hs⟩ : ∃ s, s = a0.extract 0 ((m : Int)).toNat := ⟨_, rfl⟩
  have hz : s.size ≤ LIM := by rw [hs]; unfold LIM; simp; omega
  refine Ev.congr (f := fun k => _) (fun k => by unfold latticelaw04_AddrReads.f; rw [hm, if_pos (by omega), if_pos (by omega), ← hs]) ?_
  have e1 : gv_ParseRef.f s = some (parseRefT s) := by unfold gv_ParseRef.f; rw [if_pos hz]
  refine Ev.congr (f := fun k => _) (fun k => by rw [e1, Option.bind_some]) ?_
  refine Ev.bind (refParseRef_tells s hz) ?_
  refine Ev.bind (parse_tells s hz) ?_
  refine Ev.bind (refParse_tells s hz) ?_
  refine Ev.congr (f := fun _ => _) (fun k => ?_) (Ev.now _)
  obtain ⟨⟨p1, p2, p3, p4, p5⟩, hp⟩ : ∃ p, p = parseRefT s := ⟨_, rfl⟩
  obtain ⟨⟨q1, q2, q3, q4, q5, q6, q7, q8, q9, q10, q11, q12⟩, hq⟩ : ∃ q, q = parseT s := ⟨_, rfl⟩
  rw [← hp, ← hq]
  unfold gv_wakes.f
  simp only [Option.bind_some, if_true, sameRef_self, sameFull_self]
  simp
end Go.Proofs.YtpljbpndooilgaaDoor.PAddrReads
