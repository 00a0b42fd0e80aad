/- The book and the sheet that a text begins with, as package addr reads them. -/
import Derived.Test.YtpljbpndooilgaaDoorAl
namespace Go.Proofs.YtpljbpndooilgaaDoor
set_option linter.unusedVariables false
set_option linter.unusedSimpArgs false
open Go.RowKit Go.Sort
open Go.ChangeMaps (setBlock)

def nilB : ByteArray := ⟨#[]⟩
def brOn (s : ByteArray) : Bool := Lib.hasPrefix s.data.toList [91]
def brRest (s : ByteArray) : ByteArray := ⟨(Lib.trimPrefix s.data.toList [91]).toArray⟩
def cutA (s : ByteArray) (c : UInt8) : ByteArray := s.extract 0 (ixB s c)
def cutB (s : ByteArray) (c : UInt8) : ByteArray := s.extract (ixB s c + 1) s.size
theorem brRest_size (s : ByteArray) : (brRest s).size ≤ s.size := by
  show (Lib.trimPrefix s.data.toList [91]).toArray.size ≤ s.size
  unfold Lib.trimPrefix
  split <;> simp
theorem cutA_size (s : ByteArray) (c : UInt8) : (cutA s c).size ≤ s.size := by unfold cutA; simp; omega
theorem cutB_size (s : ByteArray) (c : UInt8) : (cutB s c).size ≤ s.size := by unfold cutB; simp
theorem CutBr (s : ByteArray) (w : World) : Calls Tryd.prog 57 #[.string s, .string ⟨#[91]⟩] w fun e w' => e = .returned (.tuple #[.string (brRest s), .bool (brOn s)]) ∧ w = w' := by
  refine (Tryd.strings_CutPrefix s ⟨#[91]⟩ w).mono ?_
  rintro e w' ⟨rfl, rfl⟩
  exact ⟨rfl, rfl⟩
theorem cut_yes {s : ByteArray} {c : UInt8} (h : hasB s c = true) : cutV s c = .tuple #[.string (cutA s c), .string (cutB s c), .bool true] := by unfold cutV; rw [h]; rfl
theorem cut_no {s : ByteArray} {c : UInt8} (h : hasB s c = false) : cutV s c = .tuple #[.string s, .string ⟨#[]⟩, .bool false] := by unfold cutV; rw [h]; rfl
theorem name_ne {s : ByteArray} (h : nameOk s = true) : ¬ s.toList = [] := by
  intro e
  have := ((nameOk_iff s).1 h).1.1
  have e2 := congrArg List.length e
  rw [Lib.toList_data] at e2
  simp at e2
  rw [e2] at this
  exact absurd this (by decide)

/-- The book that a text begins with, and what stands behind it; none: what stands there is no book. -/
def bookP (s : ByteArray) : Option (ByteArray × ByteArray) :=
  if brOn s then (if hasB (brRest s) 93 && nameOk (cutA (brRest s) 93) then some (cutA (brRest s) 93, cutB (brRest s) 93) else none) else some (nilB, s)
def sheetP (bk r : ByteArray) : Option (ByteArray × ByteArray × ByteArray) :=
  if hasB r 33 then (if nameOk (cutA r 33) then some (bk, cutA r 33, cutB r 33) else none) else if bk.toList.isEmpty then some (nilB, nilB, r) else none
def whereP (s : ByteArray) : Option (ByteArray × ByteArray × ByteArray) := (bookP s).bind fun x => sheetP x.1 x.2
/-- What a call of where hands back, as it says yes or no. -/
def WhereSays (s : ByteArray) (v : Value) : Prop :=
  match whereP s with
  | some (a, b, c) => v = .tuple #[.string a, .string b, .string c, .bool true]
  | none => ∃ a b c, v = .tuple #[.string a, .string b, .string c, .bool false]

set_option maxRecDepth 100000 in
set_option maxHeartbeats 1000000 in
theorem where_any (s : ByteArray) (h1 : s.size ≤ 140737488351232) : ∃ v, WhereSays s v ∧ ∀ w, Calls Tryd.prog 48 #[.string s] w (RetPost w v) := by
  have H0 := fun w => CutBr s w
  cases hb : brOn s with
  | false =>
    rw [hb] at H0; have H0' := Lib.hid H0; clear H0
    have hw : whereP s = sheetP ⟨#[]⟩ s := by unfold whereP bookP; rw [hb]; rfl
    clear hb
    have HR := fun w => Cut_any s 33 w (by omega)
    cases hh : hasB s 33 with
    | false =>
      rw [cut_no hh] at HR; have HR' := Lib.hid HR; clear HR
      have hsy : WhereSays s (.tuple #[.string ⟨#[]⟩, .string ⟨#[]⟩, .string s, .bool true]) := by unfold WhereSays; rw [hw]; unfold sheetP; rw [hh, show (⟨#[]⟩ : ByteArray).toList.isEmpty = true from by rw [Lib.toList_data]; rfl]; rfl
      clear hh
      refine ⟨_, hsy, fun w => ?_⟩
      go_enter Tryd.func48, Tryd.ntmps48
      go_wp2_with fail
      refine (H0'.out _).mono ?_; rintro e w1 ⟨rfl, rfl⟩
      go_wp2_with fail
      refine (HR'.out _).mono ?_; rintro e w2 ⟨rfl, hb2⟩
      go_wp2_with fail
      ((try simp only [Exit.inBlock, Exit.then]); first | (refine bodyPost_ret (results_tmp rfl _ _ _) rfl ?_) | (refine bodyPost_ret (results_none rfl _ _ _) rfl ?_) | go_ret2 | go_ret3 | (refine bodyPost_ret (by simp [results, Tryd.results48, go_sem]; try rfl) rfl ?_))
      exact ⟨rfl, by (repeat (first | exact Below.refl _ _ | exact below_box _ _ | refine Below.stepBox ?_ _ | refine Below.stepDrew ?_ | refine Below.stepDrewN ?_ _ | refine Below.step (by assumption) ?_))⟩
    | true =>
      rw [cut_yes hh] at HR
      have za := cutA_size s 33
      have HM := fun w => Name_any (cutA s 33) w (by omega)
      obtain ⟨sh, hsh⟩ : ∃ sh, sh = cutA s 33 := ⟨_, rfl⟩
      obtain ⟨rs, hrs⟩ : ∃ rs, rs = cutB s 33 := ⟨_, rfl⟩
      rw [← hsh, ← hrs] at HR; rw [← hsh] at HM
      have HR' := Lib.hid HR; clear HR
      cases hn : nameOk sh with
      | false =>
        rw [hn] at HM; have HM' := Lib.hid HM; clear HM
        have hsy : WhereSays s (.tuple #[.string ⟨#[]⟩, .string ⟨#[]⟩, .string ⟨#[]⟩, .bool false]) := by unfold WhereSays; rw [hw]; unfold sheetP; rw [hh, ← hsh, hn]; exact ⟨_, _, _, rfl⟩
        clear hh hsh hrs za hn
        refine ⟨_, hsy, fun w => ?_⟩
        go_enter Tryd.func48, Tryd.ntmps48
        go_wp2_with fail
        refine (H0'.out _).mono ?_; rintro e w1 ⟨rfl, rfl⟩
        go_wp2_with fail
        refine (HR'.out _).mono ?_; rintro e w2 ⟨rfl, hb2⟩
        go_wp2_with fail
        refine (HM'.out _).mono ?_; rintro e w3 ⟨rfl, hb3⟩
        go_wp2_with fail
        ((try simp only [Exit.inBlock, Exit.then]); first | (refine bodyPost_ret (results_tmp rfl _ _ _) rfl ?_) | (refine bodyPost_ret (results_none rfl _ _ _) rfl ?_) | go_ret2 | go_ret3 | (refine bodyPost_ret (by simp [results, Tryd.results48, go_sem]; try rfl) rfl ?_))
        exact ⟨rfl, by (repeat (first | exact Below.refl _ _ | exact below_box _ _ | refine Below.stepBox ?_ _ | refine Below.stepDrew ?_ | refine Below.stepDrewN ?_ _ | refine Below.step (by assumption) ?_))⟩
      | true =>
        rw [hn] at HM; have HM' := Lib.hid HM; clear HM
        have hsy : WhereSays s (.tuple #[.string ⟨#[]⟩, .string sh, .string rs, .bool true]) := by unfold WhereSays; rw [hw]; unfold sheetP; rw [hh, ← hsh, ← hrs, hn]; rfl
        clear hh hsh hrs za hn
        refine ⟨_, hsy, fun w => ?_⟩
        go_enter Tryd.func48, Tryd.ntmps48
        go_wp2_with fail
        refine (H0'.out _).mono ?_; rintro e w1 ⟨rfl, rfl⟩
        go_wp2_with fail
        refine (HR'.out _).mono ?_; rintro e w2 ⟨rfl, hb2⟩
        go_wp2_with fail
        refine (HM'.out _).mono ?_; rintro e w3 ⟨rfl, hb3⟩
        go_wp2_with fail
        ((try simp only [Exit.inBlock, Exit.then]); first | (refine bodyPost_ret (results_tmp rfl _ _ _) rfl ?_) | (refine bodyPost_ret (results_none rfl _ _ _) rfl ?_) | go_ret2 | go_ret3 | (refine bodyPost_ret (by simp [results, Tryd.results48, go_sem]; try rfl) rfl ?_))
        exact ⟨rfl, by (repeat (first | exact Below.refl _ _ | exact below_box _ _ | refine Below.stepBox ?_ _ | refine Below.stepDrew ?_ | refine Below.stepDrewN ?_ _ | refine Below.step (by assumption) ?_))⟩
  | true =>
    rw [hb] at H0
    have zi := brRest_size s
    have HI := fun w => Cut_any (brRest s) 93 w (by omega)
    obtain ⟨i, hi⟩ : ∃ i, i = brRest s := ⟨_, rfl⟩
    rw [← hi] at H0 HI zi
    have hw0 : whereP s = (if hasB i 93 && nameOk (cutA i 93) then some (cutA i 93, cutB i 93) else none : Option (ByteArray × ByteArray)).bind fun x => sheetP x.1 x.2 := by unfold whereP bookP; rw [hb, ← hi]; rfl
    have H0' := Lib.hid H0; clear H0 hb hi
    cases hc : hasB i 93 with
    | false =>
      rw [cut_no hc] at HI; have HI' := Lib.hid HI; clear HI
      have hsy : WhereSays s (.tuple #[.string ⟨#[]⟩, .string ⟨#[]⟩, .string ⟨#[]⟩, .bool false]) := by unfold WhereSays; rw [hw0, hc]; exact ⟨_, _, _, rfl⟩
      clear hc hw0
      refine ⟨_, hsy, fun w => ?_⟩
      go_enter Tryd.func48, Tryd.ntmps48
      go_wp2_with fail
      refine (H0'.out _).mono ?_; rintro e w1 ⟨rfl, rfl⟩
      go_wp2_with fail
      refine (HI'.out _).mono ?_; rintro e w2 ⟨rfl, hb2⟩
      go_wp2_with fail
      ((try simp only [Exit.inBlock, Exit.then]); first | (refine bodyPost_ret (results_tmp rfl _ _ _) rfl ?_) | (refine bodyPost_ret (results_none rfl _ _ _) rfl ?_) | go_ret2 | go_ret3 | (refine bodyPost_ret (by simp [results, Tryd.results48, go_sem]; try rfl) rfl ?_))
      exact ⟨rfl, by (repeat (first | exact Below.refl _ _ | exact below_box _ _ | refine Below.stepBox ?_ _ | refine Below.stepDrew ?_ | refine Below.stepDrewN ?_ _ | refine Below.step (by assumption) ?_))⟩
    | true =>
      rw [cut_yes hc] at HI
      have zb := cutA_size i 93
      have zr := cutB_size i 93
      have HN := fun w => Name_any (cutA i 93) w (by omega)
      rw [hc] at hw0
      obtain ⟨bk, hbe⟩ : ∃ bk, bk = cutA i 93 := ⟨_, rfl⟩
      obtain ⟨r, hre⟩ : ∃ r, r = cutB i 93 := ⟨_, rfl⟩
      rw [← hbe, ← hre] at HI hw0; rw [← hbe] at HN; rw [← hre] at zr
      have HI' := Lib.hid HI; clear HI hc hbe hre zb
      cases hn0 : nameOk bk with
      | false =>
        rw [hn0] at HN hw0; have HN' := Lib.hid HN; clear HN
        have hsy : WhereSays s (.tuple #[.string ⟨#[]⟩, .string ⟨#[]⟩, .string ⟨#[]⟩, .bool false]) := by unfold WhereSays; rw [hw0]; exact ⟨_, _, _, rfl⟩
        clear hw0 hn0
        refine ⟨_, hsy, fun w => ?_⟩
        go_enter Tryd.func48, Tryd.ntmps48
        go_wp2_with fail
        refine (H0'.out _).mono ?_; rintro e w1 ⟨rfl, rfl⟩
        go_wp2_with fail
        refine (HI'.out _).mono ?_; rintro e w2 ⟨rfl, hb2⟩
        go_wp2_with fail
        refine (HN'.out _).mono ?_; rintro e w3 ⟨rfl, hb3⟩
        go_wp2_with fail
        ((try simp only [Exit.inBlock, Exit.then]); first | (refine bodyPost_ret (results_tmp rfl _ _ _) rfl ?_) | (refine bodyPost_ret (results_none rfl _ _ _) rfl ?_) | go_ret2 | go_ret3 | (refine bodyPost_ret (by simp [results, Tryd.results48, go_sem]; try rfl) rfl ?_))
        exact ⟨rfl, by (repeat (first | exact Below.refl _ _ | exact below_box _ _ | refine Below.stepBox ?_ _ | refine Below.stepDrew ?_ | refine Below.stepDrewN ?_ _ | refine Below.step (by assumption) ?_))⟩
      | true =>
        rw [hn0] at HN hw0; have HN' := Lib.hid HN; clear HN
        have hw : whereP s = sheetP bk r := hw0
        have hbk := name_ne hn0
        have hbk' : bk.toList.isEmpty = false := by simp [hbk]
        clear hw0 hn0
        have HR := fun w => Cut_any r 33 w (by omega)
        cases hh : hasB r 33 with
        | false =>
          rw [cut_no hh] at HR; have HR' := Lib.hid HR; clear HR
          have hsy : WhereSays s (.tuple #[.string ⟨#[]⟩, .string ⟨#[]⟩, .string r, .bool false]) := by unfold WhereSays; rw [hw]; unfold sheetP; rw [hh]; simp [hbk]
          clear hh
          refine ⟨_, hsy, fun w => ?_⟩
          go_enter Tryd.func48, Tryd.ntmps48
          go_wp2_with fail
          refine (H0'.out _).mono ?_; rintro e w1 ⟨rfl, rfl⟩
          go_wp2_with fail
          refine (HI'.out _).mono ?_; rintro e w2 ⟨rfl, hb2⟩
          go_wp2_with fail
          refine (HN'.out _).mono ?_; rintro e w3 ⟨rfl, hb3⟩
          go_wp2_with fail
          refine (HR'.out _).mono ?_; rintro e w4 ⟨rfl, hb4⟩
          go_wp2_with fail
          ((try simp only [Exit.inBlock, Exit.then]); first | (refine bodyPost_ret (results_tmp rfl _ _ _) rfl ?_) | (refine bodyPost_ret (results_none rfl _ _ _) rfl ?_) | go_ret2 | go_ret3 | (refine bodyPost_ret (by simp [results, Tryd.results48, go_sem]; try rfl) rfl ?_))
          exact ⟨rfl, by (repeat (first | exact Below.refl _ _ | exact below_box _ _ | refine Below.stepBox ?_ _ | refine Below.stepDrew ?_ | refine Below.stepDrewN ?_ _ | refine Below.step (by assumption) ?_))⟩
        | true =>
          rw [cut_yes hh] at HR
          have za := cutA_size r 33
          have HM := fun w => Name_any (cutA r 33) w (by omega)
          obtain ⟨sh, hsh⟩ : ∃ sh, sh = cutA r 33 := ⟨_, rfl⟩
          obtain ⟨rs, hrs⟩ : ∃ rs, rs = cutB r 33 := ⟨_, rfl⟩
          rw [← hsh, ← hrs] at HR; rw [← hsh] at HM
          have HR' := Lib.hid HR; clear HR
          cases hn : nameOk sh with
          | false =>
            rw [hn] at HM; have HM' := Lib.hid HM; clear HM
            have hsy : WhereSays s (.tuple #[.string ⟨#[]⟩, .string ⟨#[]⟩, .string ⟨#[]⟩, .bool false]) := by unfold WhereSays; rw [hw]; unfold sheetP; rw [hh, ← hsh, hn]; exact ⟨_, _, _, rfl⟩
            clear hh hsh hrs za hn
            refine ⟨_, hsy, fun w => ?_⟩
            go_enter Tryd.func48, Tryd.ntmps48
            go_wp2_with fail
            refine (H0'.out _).mono ?_; rintro e w1 ⟨rfl, rfl⟩
            go_wp2_with fail
            refine (HI'.out _).mono ?_; rintro e w2 ⟨rfl, hb2⟩
            go_wp2_with fail
            refine (HN'.out _).mono ?_; rintro e w3 ⟨rfl, hb3⟩
            go_wp2_with fail
            refine (HR'.out _).mono ?_; rintro e w4 ⟨rfl, hb4⟩
            go_wp2_with fail
            refine (HM'.out _).mono ?_; rintro e w5 ⟨rfl, hb5⟩
            go_wp2_with fail
            ((try simp only [Exit.inBlock, Exit.then]); first | (refine bodyPost_ret (results_tmp rfl _ _ _) rfl ?_) | (refine bodyPost_ret (results_none rfl _ _ _) rfl ?_) | go_ret2 | go_ret3 | (refine bodyPost_ret (by simp [results, Tryd.results48, go_sem]; try rfl) rfl ?_))
            exact ⟨rfl, by (repeat (first | exact Below.refl _ _ | exact below_box _ _ | refine Below.stepBox ?_ _ | refine Below.stepDrew ?_ | refine Below.stepDrewN ?_ _ | refine Below.step (by assumption) ?_))⟩
          | true =>
            rw [hn] at HM; have HM' := Lib.hid HM; clear HM
            have hsy : WhereSays s (.tuple #[.string bk, .string sh, .string rs, .bool true]) := by unfold WhereSays; rw [hw]; unfold sheetP; rw [hh, ← hsh, ← hrs, hn]; rfl
            clear hh hsh hrs za hn
            refine ⟨_, hsy, fun w => ?_⟩
            go_enter Tryd.func48, Tryd.ntmps48
            go_wp2_with fail
            refine (H0'.out _).mono ?_; rintro e w1 ⟨rfl, rfl⟩
            go_wp2_with fail
            refine (HI'.out _).mono ?_; rintro e w2 ⟨rfl, hb2⟩
            go_wp2_with fail
            refine (HN'.out _).mono ?_; rintro e w3 ⟨rfl, hb3⟩
            go_wp2_with fail
            refine (HR'.out _).mono ?_; rintro e w4 ⟨rfl, hb4⟩
            go_wp2_with fail
            refine (HM'.out _).mono ?_; rintro e w5 ⟨rfl, hb5⟩
            go_wp2_with fail
            ((try simp only [Exit.inBlock, Exit.then]); first | (refine bodyPost_ret (results_tmp rfl _ _ _) rfl ?_) | (refine bodyPost_ret (results_none rfl _ _ _) rfl ?_) | go_ret2 | go_ret3 | (refine bodyPost_ret (by simp [results, Tryd.results48, go_sem]; try rfl) rfl ?_))
            exact ⟨rfl, by (repeat (first | exact Below.refl _ _ | exact below_box _ _ | refine Below.stepBox ?_ _ | refine Below.stepDrew ?_ | refine Below.stepDrewN ?_ _ | refine Below.step (by assumption) ?_))⟩
end Go.Proofs.YtpljbpndooilgaaDoor

