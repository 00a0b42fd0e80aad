/- AddrReads without memory: what a text names with its sheet and its book; the law. -/
import Derived.Test.YtpljbpndooilgaaDoorPAddrReadsx6
import Derived.Test.YtpljbpndooilgaaDoorRp
namespace Go.Proofs.YtpljbpndooilgaaDoor.PAddrReads
open Go.RowKit Go.Proofs.YtpljbpndooilgaaDoorW.PrintWords Go.Proofs.YtpljbpndooilgaaDoorW.PrintLast Go.Proofs.YtpljbpndooilgaaDoorW.PrintMore
set_option linter.unusedVariables false
set_option linter.unusedSimpArgs false

abbrev eB : ByteArray := ⟨#[]⟩
abbrev FT := ByteArray × ByteArray × Int × Int × Bool × Bool × Int × Int × Bool × Bool × Bool × Int
abbrev errT (n : Int) : FT := (eB, eB, 0, 0, false, false, 0, 0, false, false, false, n)
def oneT (bk sh : ByteArray) (a : Int × Int × Bool × Bool × Bool) : FT :=
  if a.2.2.2.2 = true then (if goodC a.1 a.2.1 = true then (bk, sh, a.1, a.2.1, a.2.2.1, a.2.2.2.1, 0, 0, false, false, false, 0) else errT 3) else errT 4
def cornT (a b : Int × Int × Bool × Bool × Bool) : Int × Int × Bool × Bool × Int × Int × Bool × Bool :=
  (if b.1 < a.1 then b.1 else a.1, if b.2.1 < a.2.1 then b.2.1 else a.2.1, if b.1 < a.1 then b.2.2.1 else a.2.2.1, if b.2.1 < a.2.1 then b.2.2.2.1 else a.2.2.2.1, if b.1 < a.1 then a.1 else b.1, if b.2.1 < a.2.1 then a.2.1 else b.2.1, if b.1 < a.1 then a.2.2.1 else b.2.2.1, if b.2.1 < a.2.1 then a.2.2.2.1 else b.2.2.2.1)
def wideT (bk sh : ByteArray) (a b : Int × Int × Bool × Bool × Bool) : FT :=
  if a.2.2.2.2 = true then (if b.2.2.2.2 = true then (if goodC a.1 a.2.1 = true then (if goodC b.1 b.2.1 = true then
    (if areaOk (cornT a b).1 (cornT a b).2.1 (cornT a b).2.2.2.2.1 (cornT a b).2.2.2.2.2.1 = true then (bk, sh, (cornT a b).1, (cornT a b).2.1, (cornT a b).2.2.1, (cornT a b).2.2.2.1, (cornT a b).2.2.2.2.1, (cornT a b).2.2.2.2.2.1, (cornT a b).2.2.2.2.2.2.1, (cornT a b).2.2.2.2.2.2.2, true, 0) else errT 7)
    else errT 3) else errT 3) else errT 4) else errT 4
def tailT (bk sh r : ByteArray) : FT := if hasB r 58 = true then wideT bk sh (refT (cutA r 58)) (refT (cutB r 58)) else oneT bk sh (refT r)
def parseT (s : ByteArray) : FT := match whereP s with | none => errT 4 | some (bk, sh, r) => tailT bk sh r

theorem ba_ext {a b : ByteArray} (h : a.data.toList = b.data.toList) : a = b := by
  obtain ⟨⟨x⟩⟩ := a; obtain ⟨⟨y⟩⟩ := b
  have : x = y := h
  rw [this]
theorem cut_f (a : ByteArray) (c : UInt8) (h : a.size ≤ LIM) : gv_Cut.f a ⟨#[c]⟩ = some (if hasB a c = true then (cutA a c, cutB a c, true) else (a, eB, false)) := by
  unfold gv_Cut.f; rw [if_pos ⟨h, rfl⟩]; rfl
theorem name_f (a : ByteArray) (h : a.size ≤ LIM) : gv_Name.f a = some (nameOk a) := by unfold gv_Name.f; rw [if_pos h]
theorem refname_f (a : ByteArray) (h : a.size ≤ LIM) : gv_refName.f a = some (nameOk a) := by unfold gv_refName.f; rw [if_pos h]
theorem ref_f (a : ByteArray) (h : a.size ≤ LIM) : gv_ref.f a = some (refT a) := by unfold gv_ref.f; rw [if_pos h]
theorem find_f (s : ByteArray) (h : s.size ≤ LIM) (a : Int) (c : UInt8) (ha : a = c.toNat) : gv_find.f s a = some (if hasB s c = true then (ixB s c : Int) else -1) := by
  subst ha
  have hc : c.toNat < 256 := c.toNat_lt
  unfold gv_find.f
  rw [if_pos ⟨h, by omega, by omega⟩]
  simp

theorem pre91 (b : UInt8) (r : List UInt8) (hb : ¬ b = 91) : brOn ⟨⟨b :: r⟩⟩ = false ∧ brRest ⟨⟨b :: r⟩⟩ = ⟨⟨b :: r⟩⟩ := by
  have hh : Lib.hasPrefix (b :: r) [91] = false := by
    show ((91 : UInt8) == b && true) = false
    simp; exact fun e => hb e.symm
  exact ⟨hh, by unfold brRest Lib.trimPrefix; simp [hh]⟩
theorem pre91' (r : List UInt8) : brOn ⟨⟨91 :: r⟩⟩ = true ∧ brRest ⟨⟨91 :: r⟩⟩ = ⟨⟨r⟩⟩ := by
  constructor
  · unfold brOn Lib.hasPrefix; simp
  · unfold brRest Lib.trimPrefix Lib.hasPrefix; simp

theorem cutpre_f (s : ByteArray) : strings_CutPrefix.f s ⟨#[91]⟩ = some (brRest s, brOn s) := by
  obtain ⟨⟨l⟩⟩ := s
  cases l with
  | nil => rfl
  | cons b r =>
    have hz : ((⟨⟨b :: r⟩⟩ : ByteArray).size : Int) ≥ ((⟨#[91]⟩ : ByteArray).size : Int) := by show (((b :: r).length : Nat) : Int) ≥ 1; simp; omega
    have ez : ((⟨⟨b :: r⟩⟩ : ByteArray).extract 0 (((⟨#[91]⟩ : ByteArray).size : Int) : Int).toNat).toList = [b] := by
      rw [Lib.toList_data, Lib.extract_data]; rfl
    have e1 : (⟨#[91]⟩ : ByteArray).toList = [91] := by rw [Lib.toList_data]
    have eh : stringslite_HasPrefix.f ⟨⟨b :: r⟩⟩ ⟨#[91]⟩ = some (decide (b = 91)) := by
      unfold stringslite_HasPrefix.f
      rw [if_pos hz, if_pos (by decide), if_pos hz, ez, e1]
      congr 1; rw [Bool.eq_iff_iff]; simp
    unfold strings_CutPrefix.f stringslite_CutPrefix.f
    rw [eh]
    by_cases hb : b = 91
    · subst hb
      obtain ⟨h1, h2⟩ := pre91' r
      rw [h1, h2]
      simp only [decide_true, Option.bind_some, if_true]
      rw [if_pos (by decide), if_pos hz]
      simp only [Option.bind_some]
      congr 2
      refine ba_ext ?_
      rw [Lib.extract_data]
      show ((91 :: r).drop 1).take ((91 :: r).length - 1) = r
      simp
    · obtain ⟨h1, h2⟩ := pre91 b r hb
      rw [h1, h2, decide_eq_false hb]
      rfl

theorem cutB_LIM {a : ByteArray} (h : a.size ≤ LIM) (c : UInt8) : (cutB a c).size ≤ LIM := Nat.le_trans (cutB_size a c) h
theorem cutA_LIM {a : ByteArray} (h : a.size ≤ LIM) (c : UInt8) : (cutA a c).size ≤ LIM := Nat.le_trans (cutA_size a c) h

def SaysW (o : Option (ByteArray × ByteArray × ByteArray)) (x : ByteArray × ByteArray × ByteArray × Bool) : Prop :=
  match o with | some (a, b, c) => x = (a, b, c, true) | none => x.2.2.2 = false

theorem w0_tells (r bk : ByteArray) (hr : r.size ≤ LIM) : ∃ x, Ev (fun k => addr_where.j0 k r bk) x ∧ SaysW (sheetP bk r) x := by
  unfold sheetP
  by_cases h33 : hasB r 33 = true
  · rw [if_pos h33]
    by_cases hn : nameOk (cutA r 33) = true
    · refine ⟨(bk, cutA r 33, cutB r 33, true), Ev.step (f := fun _ => _) (fun k => ?_) (Ev.now _), ?_⟩
      · simp only [addr_where.j0]; rw [cut_f r 33 hr, if_pos h33]; simp only [Option.bind_some, if_true]; rw [name_f _ (cutA_LIM hr 33), hn]; rfl
      · rw [if_pos hn]; exact rfl
    · refine ⟨(eB, eB, eB, false), Ev.step (f := fun _ => _) (fun k => ?_) (Ev.now _), ?_⟩
      · simp only [addr_where.j0]; rw [cut_f r 33 hr, if_pos h33]; simp only [Option.bind_some, if_true]; rw [name_f _ (cutA_LIM hr 33), Bool.eq_false_iff.2 hn]; rfl
      · rw [if_neg hn]; exact rfl
  · rw [if_neg h33]
    refine ⟨(eB, eB, r, (bk.toList == ([] : List UInt8))), Ev.step (f := fun _ => _) (fun k => ?_) (Ev.now _), ?_⟩
    · simp only [addr_where.j0]; rw [cut_f r 33 hr, if_neg h33]; rfl
    · cases hb : bk.toList with
      | nil => exact rfl
      | cons x y => exact rfl

theorem where_tells (s : ByteArray) (hl : s.size ≤ LIM) : ∃ x, Ev (fun k => addr_where.f k s) x ∧ SaysW (whereP s) x := by
  have hrl : (brRest s).size ≤ LIM := Nat.le_trans (brRest_size s) hl
  unfold whereP bookP
  by_cases hb : brOn s = true
  · rw [if_pos hb]
    by_cases h93 : hasB (brRest s) 93 = true
    · by_cases hn : nameOk (cutA (brRest s) 93) = true
      · rw [if_pos (by rw [h93, hn]; rfl), Option.bind_some]
        obtain ⟨x, h1, h2⟩ := w0_tells (cutB (brRest s) 93) (cutA (brRest s) 93) (cutB_LIM hrl 93)
        refine ⟨x, Ev.congr (fun k => ?_) h1, h2⟩
        unfold addr_where.f
        rw [cutpre_f, hb]; simp only [Option.bind_some, if_true]; rw [cut_f _ 93 hrl, if_pos h93]; simp only [Option.bind_some, if_true]; rw [name_f _ (cutA_LIM hrl 93), hn]; rfl
      · rw [if_neg (by rw [h93]; simpa using hn)]
        refine ⟨(eB, eB, eB, false), Ev.congr (f := fun _ => _) (fun k => ?_) (Ev.now _), rfl⟩
        unfold addr_where.f
        rw [cutpre_f, hb]; simp only [Option.bind_some, if_true]; rw [cut_f _ 93 hrl, if_pos h93]; simp only [Option.bind_some, if_true]; rw [name_f _ (cutA_LIM hrl 93), Bool.eq_false_iff.2 hn]; rfl
    · rw [if_neg (by rw [Bool.eq_false_iff.2 h93]; simp)]
      refine ⟨(eB, eB, eB, false), Ev.congr (f := fun _ => _) (fun k => ?_) (Ev.now _), rfl⟩
      unfold addr_where.f
      rw [cutpre_f, hb]; simp only [Option.bind_some, if_true]; rw [cut_f _ 93 hrl, if_neg h93]; rfl
  · rw [if_neg hb, Option.bind_some]
    obtain ⟨x, h1, h2⟩ := w0_tells s eB hl
    refine ⟨x, Ev.congr (fun k => ?_) h1, h2⟩
    unfold addr_where.f
    rw [cutpre_f, Bool.eq_false_iff.2 hb]; rfl

theorem whereP_size {s a b c : ByteArray} (h : whereP s = some (a, b, c)) : c.size ≤ s.size := by
  have hrs := brRest_size s
  unfold whereP bookP sheetP at h
  have key : ∀ bk r : ByteArray, r.size ≤ s.size → (if hasB r 33 = true then (if nameOk (cutA r 33) = true then some (bk, cutA r 33, cutB r 33) else none) else if bk.toList.isEmpty = true then some (nilB, nilB, r) else none) = some (a, b, c) → c.size ≤ s.size := by
    intro bk r hr h
    have hc := cutB_size r 33
    split at h
    · split at h
      · cases h; omega
      · cases h
    · split at h
      · cases h; exact hr
      · cases h
  split at h
  · split at h
    · have hc := cutB_size (brRest s) 93
      simp only [Option.bind_some] at h
      exact key _ _ (Nat.le_trans hc hrs) h
    · cases h
  · simp only [Option.bind_some] at h
    exact key _ _ (Nat.le_refl _) h

theorem full_wide {s a b c : ByteArray} (h : whereP s = some (a, b, c)) (hl : s.size ≤ LIM) (x y x' y' : Int) (f g f' g' : Bool) : gv_FullGood.f a b x y f g x' y' f' g' true = some (areaOk x y x' y') := by
  obtain ⟨_, _, h3, h4⟩ := whereP_names h
  unfold gv_FullGood.f LIM
  rw [if_pos ⟨by omega, by omega⟩, fullOk_where h]; rfl
theorem full_one {s a b c : ByteArray} (h : whereP s = some (a, b, c)) (hl : s.size ≤ LIM) (x y : Int) (f g : Bool) : gv_FullGood.f a b x y f g 0 0 false false false = some (goodC x y) := by
  obtain ⟨_, _, h3, h4⟩ := whereP_names h
  unfold gv_FullGood.f LIM
  rw [if_pos ⟨by omega, by omega⟩, fullOk_where h]
  have e : areaOk x y x y = goodC x y := by
    unfold areaOk cellsN
    by_cases hg : goodC x y = true
    · rw [hg]; simp
    · rw [Bool.eq_false_iff.2 hg]; rfl
  rw [if_neg (by decide), e]; simp

theorem parse_tells (s : ByteArray) (hl : s.size ≤ LIM) : Ev (fun k => addr_Parse.f k s) (parseT s) := by
  obtain ⟨x, hx, hw⟩ := where_tells s hl
  refine Ev.congr (fun k => rfl) (Ev.bind hx ?_)
  cases hp : whereP s with
  | none =>
    rw [hp] at hw
    have hw' : x.2.2.2 = false := hw
    have e : parseT s = errT 4 := by unfold parseT; rw [hp]
    rw [e]
    refine Ev.congr (f := fun _ => _) (fun k => ?_) (Ev.now _)
    simp only [hw']; rfl
  | some z =>
    obtain ⟨bk, sh, r⟩ := z
    rw [hp] at hw
    have hw' : x = (bk, sh, r, true) := hw
    have hr : r.size ≤ LIM := Nat.le_trans (whereP_size hp) hl
    have e : parseT s = tailT bk sh r := by unfold parseT; rw [hp]
    rw [e, hw']
    simp only [if_true]
    refine Ev.congr (f := fun k => _) (fun k => by rw [cut_f r 58 hr]) ?_
    unfold tailT
    by_cases h58 : hasB r 58 = true
    · rw [if_pos h58, if_pos h58]
      simp only [Option.bind_some, if_true]
      refine Ev.congr (f := fun k => _) (fun k => by rw [ref_f _ (cutA_LIM hr 58), Option.bind_some, ref_f _ (cutB_LIM hr 58), Option.bind_some]) ?_
      obtain ⟨⟨a1, a2, a3, a4, a5⟩, ha⟩ : ∃ a, a = refT (cutA r 58) := ⟨_, rfl⟩
      obtain ⟨⟨b1, b2, b3, b4, b5⟩, hb⟩ : ∃ a, a = refT (cutB r 58) := ⟨_, rfl⟩
      rw [← ha, ← hb]
      have h1 : Ev (fun k => addr_Parse.j1 k true (!(a5 && b5)) bk sh 0 0 false false 0 0 false false false a1 a2 a3 a4 b1 b2 b3 b4) (wideT bk sh (a1, a2, a3, a4, a5) (b1, b2, b3, b4, b5)) := by
        refine Ev.step (f := fun _ => _) (fun k => ?_) (Ev.now _)
        simp only [addr_Parse.j1]
        unfold wideT
        cases a5 <;> cases b5 <;> simp only [Bool.and_self, Bool.and_false, Bool.and_true, Bool.false_and, Bool.true_and, Bool.not_false, Bool.not_true, if_true, Bool.false_eq_true, if_false]
        rw [cellg_f, Option.bind_some, cellg_f, Option.bind_some]
        cases goodC a1 a2 <;> cases goodC b1 b2 <;> simp only [if_true, Bool.false_eq_true, if_false]
        unfold gv_corners.f
        rw [Option.bind_some]
        rw [full_wide hp hl, Option.bind_some]
        simp only [cornT]
        generalize areaOk _ _ _ _ = ok
        cases ok <;> rfl
      refine Ev.step (f := fun k => addr_Parse.j1 k true (!(a5 && b5)) bk sh 0 0 false false 0 0 false false false a1 a2 a3 a4 b1 b2 b3 b4) (fun k => ?_) h1
      simp only [addr_Parse.j0]
      cases a5 <;> rfl
    · rw [if_neg h58, if_neg h58]
      simp only [Option.bind_some, Bool.false_eq_true, if_false]
      refine Ev.congr (f := fun k => _) (fun k => by rw [ref_f _ hr, Option.bind_some]) ?_
      obtain ⟨⟨a1, a2, a3, a4, a5⟩, ha⟩ : ∃ a, a = refT r := ⟨_, rfl⟩
      rw [← ha]
      have h1 : Ev (fun k => addr_Parse.j1 k false (!a5) bk sh 0 0 false false 0 0 false false false a1 a2 a3 a4 a1 a2 a3 a4) (oneT bk sh (a1, a2, a3, a4, a5)) := by
        refine Ev.step (f := fun _ => _) (fun k => ?_) (Ev.now _)
        simp only [addr_Parse.j1]
        unfold oneT
        cases a5 <;> simp only [Bool.not_false, Bool.not_true, if_true, Bool.false_eq_true, if_false]
        rw [cellg_f, Option.bind_some]
        cases hg : goodC a1 a2 <;> simp only [if_true, Bool.false_eq_true, if_false]
        rw [full_one hp hl, hg]; rfl
      refine Ev.step (f := fun k => addr_Parse.j1 k false (!a5) bk sh 0 0 false false 0 0 false false false a1 a2 a3 a4 a1 a2 a3 a4) (fun k => ?_) h1
      simp only [addr_Parse.j0]
      cases a5 <;> rfl
end Go.Proofs.YtpljbpndooilgaaDoor.PAddrReads
