/- Contracts of leaf functions of package addr, in the form that the printed texts call them by. -/
import Derived.Test.YtpljbpndooilgaaDoorAp
import Derived.Test.YtpljbpndooilgaaDoorAv
import Derived.Test.YtpljbpndooilgaaDoorAg
import Derived.Test.YtpljbpndooilgaaDoorAxa
namespace Go.Proofs.YtpljbpndooilgaaDoor
set_option linter.unusedVariables false
set_option linter.unusedSimpArgs false
open Go.RowKit

/-- The table of the powers of ten lies. -/
def TabA (w : World) : Prop := Tab w
theorem TabA.below {w w' : World} (h : TabA w) (hb : Below w.heap.size w w') : TabA w' := Tab.below h hb

def LIM : Nat := 140737488351232
theorem some_if {α : Type} {p : Prop} [Decidable p] {x r : α} (h : (if p then some x else none) = some r) : p ∧ x = r := by
  by_cases hp : p
  · rw [if_pos hp] at h; exact ⟨hp, Option.some.inj h⟩
  · rw [if_neg hp] at h; cases h

def gv_Cut.f (a0 a1 : ByteArray) : Option (ByteArray × ByteArray × Bool) :=
  if a0.size ≤ LIM ∧ a1.size = 1 then some (if hasB a0 (a1.data.toList.headD 0) then (cutA a0 (a1.data.toList.headD 0), cutB a0 (a1.data.toList.headD 0), true) else (a0, ⟨#[]⟩, false)) else none
theorem gv_Cut.calls (a0 a1 : ByteArray) (r1 r2 : ByteArray) (r3 : Bool) (w : World) (h : gv_Cut.f a0 a1 = some (r1, r2, r3)) :
    Calls Tryd.prog 49 #[.string a0, .string a1] w fun e w' => e = .returned (.tuple #[.string r1, .string r2, .bool r3]) ∧ Below w.heap.size w w' := by
  obtain ⟨⟨h1, h2⟩, h3⟩ := some_if h
  obtain ⟨⟨l⟩⟩ := a1
  match l, h2 with
  | [c], _ =>
    refine (Cut_any a0 c w h1).mono fun e w' hh => ⟨?_, hh.2⟩
    rw [hh.1]
    cases hb : hasB a0 c with
    | true =>
      rw [cut_yes hb]
      have : (cutA a0 c, cutB a0 c, true) = (r1, r2, r3) := by rw [← h3]; show _ = if hasB a0 c = true then _ else _; rw [hb]; rfl
      cases this; rfl
    | false =>
      rw [cut_no hb]
      have : (a0, (⟨#[]⟩ : ByteArray), false) = (r1, r2, r3) := by rw [← h3]; show _ = if hasB a0 c = true then _ else _; rw [hb]; rfl
      cases this; rfl

def gv_Name.f (a0 : ByteArray) : Option Bool := if a0.size ≤ LIM then some (nameOk a0) else none
theorem gv_Name.calls (a0 : ByteArray) (r : Bool) (w : World) (h : gv_Name.f a0 = some r) :
    Calls Tryd.prog 20 #[.string a0] w fun e w' => e = .returned (.bool r) ∧ Below w.heap.size w w' := by
  obtain ⟨h1, rfl⟩ := some_if h
  exact Name_any a0 w h1

def refT (s : ByteArray) : Int × Int × Bool × Bool × Bool := match refP s with | some (c, r, f, g) => (c, r, f, g, true) | none => (0, 0, false, false, false)
def gv_ref.f (a0 : ByteArray) : Option (Int × Int × Bool × Bool × Bool) := if a0.size ≤ LIM then some (refT a0) else none
theorem gv_ref.calls (a0 : ByteArray) (r1 r2 : Int) (r3 r4 r5 : Bool) (w : World) (h : gv_ref.f a0 = some (r1, r2, r3, r4, r5)) :
    Calls Tryd.prog 46 #[.string a0] w fun e w' => e = .returned (.tuple #[.agg #[.int .i64 r1, .int .i64 r2, .bool r3, .bool r4], .bool r5]) ∧ Below w.heap.size w w' := by
  obtain ⟨h1, h2⟩ := some_if h
  refine (ref_any a0 w h1).mono fun e w' hh => ⟨?_, hh.2⟩
  rw [hh.1]
  unfold refT at h2
  cases hr : refP a0 with
  | none => rw [hr] at h2; cases h2; rfl
  | some x => obtain ⟨c, r, f, g⟩ := x; rw [hr] at h2; cases h2; rfl

def parseRefT (s : ByteArray) : Int × Int × Bool × Bool × Int := match refP s with | some (c, r, f, g) => (if goodC c r then (c, r, f, g, 0) else (0, 0, false, false, 3)) | none => (0, 0, false, false, 4)
def gv_ParseRef.f (a0 : ByteArray) : Option (Int × Int × Bool × Bool × Int) := if a0.size ≤ LIM then some (parseRefT a0) else none
theorem gv_ParseRef.calls (a0 : ByteArray) (r1 r2 : Int) (r3 r4 : Bool) (r5 : Int) (w : World) (h : gv_ParseRef.f a0 = some (r1, r2, r3, r4, r5)) :
    Calls Tryd.prog 23 #[.string a0] w fun e w' => e = .returned (.tuple #[.agg #[.int .i64 r1, .int .i64 r2, .bool r3, .bool r4], .int .i64 r5]) ∧ Below w.heap.size w w' := by
  obtain ⟨h1, h2⟩ := some_if h
  refine (ParseRef_any a0 w h1).mono fun e w' hh => ⟨?_, hh.2⟩
  rw [hh.1]
  unfold parseRefT at h2
  unfold parseRefV
  cases hr : refP a0 with
  | none => rw [hr] at h2; cases h2; rfl
  | some x =>
    obtain ⟨c, r, f, g⟩ := x
    rw [hr] at h2
    show Ending.returned (if goodC c r = true then _ else _) = _
    cases hc : goodC c r with
    | true => have h3 : (c, r, f, g, (0 : Int)) = (r1, r2, r3, r4, r5) := by rw [← h2]; show _ = if goodC c r = true then _ else _; rw [hc]; rfl
              cases h3; rfl
    | false => have h3 : ((0 : Int), (0 : Int), false, false, (3 : Int)) = (r1, r2, r3, r4, r5) := by rw [← h2]; show _ = if goodC c r = true then _ else _; rw [hc]; rfl
               cases h3; rfl

def gv_FullGood.f (b s : ByteArray) (c r : Int) (f g : Bool) (c' r' : Int) (f' g' wd : Bool) : Option Bool :=
  if s.size ≤ LIM ∧ b.size ≤ LIM then some (fullOk b s c r c' r' f' g' wd) else none
theorem gv_FullGood.calls (b s : ByteArray) (c r : Int) (f g : Bool) (c' r' : Int) (f' g' wd : Bool) (x : Bool) (w : World) (h : gv_FullGood.f b s c r f g c' r' f' g' wd = some x) :
    Calls Tryd.prog 12 #[.agg #[.string b, .string s, .int .i64 c, .int .i64 r, .bool f, .bool g, .int .i64 c', .int .i64 r', .bool f', .bool g', .bool wd]] w fun e w' => e = .returned (.bool x) ∧ Below w.heap.size w w' := by
  obtain ⟨⟨h1, h2⟩, rfl⟩ := some_if h
  exact Full_Good b s c r f g c' r' f' g' wd w h1 h2

def gv_wakes.f : Option Bool := some true
theorem gv_wakes.calls (r : Bool) (w : World) (hT : TabA w) (h : gv_wakes.f = some r) :
    Calls Tryd.prog 11 #[] w fun e w' => e = .returned (.bool r) ∧ Below w.heap.size w w' := by
  cases h
  exact wakes_any w hT

def gv_FullText.f (b s : ByteArray) (c r : Int) (f g : Bool) (c' r' : Int) (f' g' wd : Bool) : Option ByteArray :=
  if s.size ≤ 100 ∧ b.size ≤ 100 then some (fullB b s c r f g c' r' f' g' wd) else none
theorem gv_FullText.calls (b s : ByteArray) (c r : Int) (f g : Bool) (c' r' : Int) (f' g' wd : Bool) (x : ByteArray) (w : World) (hT : TabA w) (h : gv_FullText.f b s c r f g c' r' f' g' wd = some x) :
    Calls Tryd.prog 14 #[.agg #[.string b, .string s, .int .i64 c, .int .i64 r, .bool f, .bool g, .int .i64 c', .int .i64 r', .bool f', .bool g', .bool wd]] w fun e w' => e = .returned (.string x) ∧ Below w.heap.size w w' := by
  obtain ⟨⟨h1, h2⟩, rfl⟩ := some_if h
  exact Full_Text b s c r f g c' r' f' g' wd w hT h1 h2

def gv_RefText.f (c r : Int) (f g : Bool) : Option ByteArray := some (refB c r f g)
theorem gv_RefText.calls (c r : Int) (f g : Bool) (x : ByteArray) (w : World) (hT : TabA w) (h : gv_RefText.f c r f g = some x) :
    Calls Tryd.prog 16 #[.agg #[.int .i64 c, .int .i64 r, .bool f, .bool g]] w fun e w' => e = .returned (.string x) ∧ Below w.heap.size w w' := by
  cases h
  exact Ref_Text c r f g w hT

def gv_corners.f (c r : Int) (f g : Bool) (c' r' : Int) (f' g' : Bool) : Option (Int × Int × Bool × Bool × Int × Int × Bool × Bool) :=
  some (if c' < c then c' else c, if r' < r then r' else r, if c' < c then f' else f, if r' < r then g' else g, if c' < c then c else c', if r' < r then r else r', if c' < c then f else f', if r' < r then g else g')
theorem gv_corners.calls (c r : Int) (f g : Bool) (c' r' : Int) (f' g' : Bool) (r1 r2 : Int) (r3 r4 : Bool) (r5 r6 : Int) (r7 r8 : Bool) (w : World) (h : gv_corners.f c r f g c' r' f' g' = some (r1, r2, r3, r4, r5, r6, r7, r8)) :
    Calls Tryd.prog 50 #[.agg #[.int .i64 c, .int .i64 r, .bool f, .bool g], .agg #[.int .i64 c', .int .i64 r', .bool f', .bool g']] w fun e w' => e = .returned (.tuple #[.agg #[.int .i64 r1, .int .i64 r2, .bool r3, .bool r4], .agg #[.int .i64 r5, .int .i64 r6, .bool r7, .bool r8]]) ∧ Below w.heap.size w w' := by
  cases h
  exact corners_any c r f g c' r' f' g' w

def gv_refArea.f (c r : Int) (f g : Bool) (c' r' : Int) (f' g' : Bool) : Option (Bool × Int) := some (areaOk c r c' r', areaN c r c' r')
theorem gv_refArea.calls (c r : Int) (f g : Bool) (c' r' : Int) (f' g' : Bool) (r1 : Bool) (r2 : Int) (w : World) (h : gv_refArea.f c r f g c' r' f' g' = some (r1, r2)) :
    Calls Tryd.prog 9 #[.agg #[.int .i64 c, .int .i64 r, .bool f, .bool g], .agg #[.int .i64 c', .int .i64 r', .bool f', .bool g']] w fun e w' => e = .returned (.tuple #[.bool r1, .int .i64 r2]) ∧ Below w.heap.size w w' := by
  cases h
  exact refArea_any c r c' r' f g f' g' w

def gv_refName.f (a0 : ByteArray) : Option Bool := if a0.size ≤ LIM then some (nameOk a0) else none
theorem gv_refName.calls (a0 : ByteArray) (r : Bool) (w : World) (h : gv_refName.f a0 = some r) :
    Calls Tryd.prog 21 #[.string a0] w fun e w' => e = .returned (.bool r) ∧ Below w.heap.size w w' := by
  obtain ⟨h1, rfl⟩ := some_if h
  exact refName_any a0 w h1

def gv_find.f (a0 : ByteArray) (a1 : Int) : Option Int := if a0.size ≤ LIM ∧ 0 ≤ a1 ∧ a1 < 256 then some (if hasB a0 (UInt8.ofNat a1.toNat) then (ixB a0 (UInt8.ofNat a1.toNat) : Int) else -1) else none
theorem gv_find.calls (a0 : ByteArray) (a1 : Int) (r : Int) (w : World) (h : gv_find.f a0 a1 = some r) :
    Calls Tryd.prog 51 #[.string a0, .int .u8 a1] w fun e w' => e = .returned (.int .i64 r) ∧ Below w.heap.size w w' := by
  obtain ⟨⟨h1, h2, h3⟩, rfl⟩ := some_if h
  have e : a1 = ((UInt8.ofNat a1.toNat).toNat : Int) := by simp; omega
  have := find_any a0 (UInt8.ofNat a1.toNat) w (by unfold LIM at h1; omega)
  rw [← e] at this
  exact this
end Go.Proofs.YtpljbpndooilgaaDoor
