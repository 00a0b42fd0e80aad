/- How full references are written. -/
import Derived.Test.YtpljbpndooilgaaDoorAe
namespace Go.Proofs.YtpljbpndooilgaaDoor
set_option linter.unusedVariables false
set_option linter.unusedSimpArgs false
open Go.RowKit Go.Sort
open Go.ChangeMaps (setBlock)

def emptyB : ByteArray := ⟨#[]⟩
def bookB (b : ByteArray) : ByteArray := if b.toList.isEmpty then emptyB else ⟨#[91]⟩ ++ b ++ ⟨#[93]⟩
def sheetB (s : ByteArray) : ByteArray := if s.toList.isEmpty then emptyB else s ++ ⟨#[33]⟩
def placeB (b s : ByteArray) : ByteArray := bookB b ++ sheetB s

theorem app_empty (s : ByteArray) : s ++ emptyB = s := by unfold emptyB; apply ByteArray.ext; simp
theorem empty_app (s : ByteArray) : emptyB ++ s = s := by unfold emptyB; apply ByteArray.ext; simp

set_option maxHeartbeats 1000000 in
theorem Full_place (b s : ByteArray) (c r : Int) (f g : Bool) (c' r' : Int) (f' g' wd : Bool) (w : World) (h1 : s.size ≤ 100) (h2 : b.size ≤ 100) :
    Calls Tryd.prog 38 #[fullV b s c r f g c' r' f' g' wd] w (RetPost w (.string (placeB b s))) := by
  by_cases eb : b.toList = []
  · by_cases es : s.toList = []
    · have HE : Hid (placeB b s = emptyB) := by show placeB b s = _; unfold placeB bookB sheetB; simp [eb, es, app_empty]
      go_enter Tryd.func38, Tryd.ntmps38
      go_wp2
      ((try simp only [Exit.inBlock, Exit.then]); first | (refine bodyPost_ret (results_tmp rfl _ _ _) rfl ?_) | (refine bodyPost_ret (results_none rfl _ _ _) rfl ?_) | go_ret2 | go_ret3 | (refine bodyPost_ret (by simp [results, Tryd.results38, go_sem]; try rfl) rfl ?_))
      exact ⟨ret_str HE.out.symm, by (repeat (first | exact Below.refl _ _ | exact below_box _ _ | refine Below.stepBox ?_ _ | refine Below.stepDrew ?_ | refine Below.stepDrewN ?_ _ | refine Below.step (by assumption) ?_))⟩
    · have HE : Hid (placeB b s = emptyB ++ (s ++ ⟨#[33]⟩)) := by show placeB b s = _; unfold placeB bookB sheetB; simp [eb, es]
      have es' : (!s.toList.isEmpty) = true := by simp [es]
      have n1 : ¬ 9223372036854775807 < s.size + 1 := by omega
      go_enter Tryd.func38, Tryd.ntmps38
      go_wp2
      ((try simp only [Exit.inBlock, Exit.then]); first | (refine bodyPost_ret (results_tmp rfl _ _ _) rfl ?_) | (refine bodyPost_ret (results_none rfl _ _ _) rfl ?_) | go_ret2 | go_ret3 | (refine bodyPost_ret (by simp [results, Tryd.results38, go_sem]; try rfl) rfl ?_))
      exact ⟨ret_str HE.out.symm, by (repeat (first | exact Below.refl _ _ | exact below_box _ _ | refine Below.stepBox ?_ _ | refine Below.stepDrew ?_ | refine Below.stepDrewN ?_ _ | refine Below.step (by assumption) ?_))⟩
  · have eb' : (!b.toList.isEmpty) = true := by simp [eb]
    have n1 : ¬ 9223372036854775807 < 1 + b.size := by omega
    have n2 : ¬ 9223372036854775807 < 1 + b.size + 1 := by omega
    by_cases es : s.toList = []
    · have HE : Hid (placeB b s = ⟨#[91]⟩ ++ b ++ ⟨#[93]⟩) := by show placeB b s = _; unfold placeB bookB sheetB; simp [eb, es, app_empty]
      go_enter Tryd.func38, Tryd.ntmps38
      go_wp2
      ((try simp only [Exit.inBlock, Exit.then]); first | (refine bodyPost_ret (results_tmp rfl _ _ _) rfl ?_) | (refine bodyPost_ret (results_none rfl _ _ _) rfl ?_) | go_ret2 | go_ret3 | (refine bodyPost_ret (by simp [results, Tryd.results38, go_sem]; try rfl) rfl ?_))
      exact ⟨ret_str HE.out.symm, by (repeat (first | exact Below.refl _ _ | exact below_box _ _ | refine Below.stepBox ?_ _ | refine Below.stepDrew ?_ | refine Below.stepDrewN ?_ _ | refine Below.step (by assumption) ?_))⟩
    · have HE : Hid (placeB b s = ⟨#[91]⟩ ++ b ++ ⟨#[93]⟩ ++ (s ++ ⟨#[33]⟩)) := by show placeB b s = _; unfold placeB bookB sheetB; simp [eb, es]
      have es' : (!s.toList.isEmpty) = true := by simp [es]
      have n3 : ¬ 9223372036854775807 < s.size + 1 := by omega
      have n4 : ¬ 9223372036854775807 < 1 + b.size + 1 + (s.size + 1) := by omega
      go_enter Tryd.func38, Tryd.ntmps38
      go_wp2
      ((try simp only [Exit.inBlock, Exit.then]); first | (refine bodyPost_ret (results_tmp rfl _ _ _) rfl ?_) | (refine bodyPost_ret (results_none rfl _ _ _) rfl ?_) | go_ret2 | go_ret3 | (refine bodyPost_ret (by simp [results, Tryd.results38, go_sem]; try rfl) rfl ?_))
      exact ⟨ret_str HE.out.symm, by (repeat (first | exact Below.refl _ _ | exact below_box _ _ | refine Below.stepBox ?_ _ | refine Below.stepDrew ?_ | refine Below.stepDrewN ?_ _ | refine Below.step (by assumption) ?_))⟩

theorem refB_size (c r : Int) (f g : Bool) : (refB c r f g).size ≤ 9 := by
  unfold refB
  split
  · rename_i h
    rw [goodC_iff] at h
    have s1 := dollar_size f
    have s2 := colB_size c.toNat (by omega)
    have s3 := dollar_size g
    have s4 : (itoaB (r + 1)).size ≤ 4 := by
      obtain ⟨m, hm⟩ : ∃ m : Nat, r + 1 = m := ⟨(r + 1).toNat, by omega⟩
      rw [hm]; exact itoa_small m (by omega)
    simp; omega
  · decide
theorem placeB_size (b s : ByteArray) (h1 : s.size ≤ 100) (h2 : b.size ≤ 100) : (placeB b s).size ≤ 203 := by
  unfold placeB bookB sheetB
  split <;> split <;> simp [emptyB, show (⟨#[]⟩ : ByteArray).size = 0 from rfl, show (⟨#[91]⟩ : ByteArray).size = 1 from rfl, show (⟨#[93]⟩ : ByteArray).size = 1 from rfl, show (⟨#[33]⟩ : ByteArray).size = 1 from rfl] <;> omega

def fullB (b s : ByteArray) (c r : Int) (f g : Bool) (c' r' : Int) (f' g' wd : Bool) : ByteArray :=
  if fullOk b s c r c' r' f' g' wd then (if wd then placeB b s ++ refB c r f g ++ (⟨#[58]⟩ ++ refB c' r' f' g') else placeB b s ++ refB c r f g) else emptyB

theorem Full_Text (b s : ByteArray) (c r : Int) (f g : Bool) (c' r' : Int) (f' g' wd : Bool) (w : World) (ht : Tab w) (h1 : s.size ≤ 100) (h2 : b.size ≤ 100) :
    Calls Tryd.prog 14 #[fullV b s c r f g c' r' f' g' wd] w (RetPost w (.string (fullB b s c r f g c' r' f' g' wd))) := by
  have HG := fun w => Full_Good b s c r f g c' r' f' g' wd w (by omega) (by omega)
  have HP := fun w => Full_place b s c r f g c' r' f' g' wd w (by omega) (by omega)
  have HR := fun w ht => Ref_Text c r f g w ht
  have HR2 := fun w ht => Ref_Text c' r' f' g' w ht
  have p1 := placeB_size b s h1 h2
  have p2 := refB_size c r f g
  have p3 := refB_size c' r' f' g'
  cases ho : fullOk b s c r c' r' f' g' wd with
  | false =>
    rw [ho] at HG
    have HE : Hid (fullB b s c r f g c' r' f' g' wd = emptyB) := by show fullB b s c r f g c' r' f' g' wd = _; unfold fullB; rw [ho]; simp
    have HG' := Lib.hid HG
    clear HG HP HR HR2 p1 p2 p3 ho
    go_enter Tryd.func14, Tryd.ntmps14
    go_wp2_with (go_at_call 12; refine (HG'.out _).mono ?_; rintro e w1 ⟨rfl, hb1⟩)
    ((try simp only [Exit.inBlock, Exit.then]); first | (refine bodyPost_ret (results_tmp rfl _ _ _) rfl ?_) | (refine bodyPost_ret (results_none rfl _ _ _) rfl ?_) | go_ret2 | go_ret3 | (refine bodyPost_ret (by simp [results, Tryd.results14, go_sem]; try rfl) rfl ?_))
    exact ⟨ret_str HE.out.symm, by (repeat (first | exact Below.refl _ _ | exact below_box _ _ | refine Below.stepBox ?_ _ | refine Below.stepDrew ?_ | refine Below.stepDrewN ?_ _ | refine Below.step (by assumption) ?_))⟩
  | true =>
    rw [ho] at HG
    have HG' := Lib.hid HG; have HP' := Lib.hid HP; have HR' := Lib.hid HR; have HR2' := Lib.hid HR2
    clear HG HP HR HR2
    obtain ⟨sp, hsp⟩ : ∃ sp, sp = placeB b s := ⟨_, rfl⟩
    obtain ⟨sr, hsr⟩ : ∃ sr, sr = refB c r f g := ⟨_, rfl⟩
    obtain ⟨st, hst⟩ : ∃ st, st = refB c' r' f' g' := ⟨_, rfl⟩
    rw [← hsp] at HP' p1; rw [← hsr] at HR' p2; rw [← hst] at HR2' p3
    have n1 : ¬ 9223372036854775807 < sp.size + sr.size := by omega
    have n2 : ¬ 9223372036854775807 < 1 + st.size := by omega
    have n3 : ¬ 9223372036854775807 < sp.size + sr.size + (1 + st.size) := by omega
    cases wd with
    | false =>
      have HE : Hid (fullB b s c r f g c' r' f' g' false = sp ++ sr) := by show fullB b s c r f g c' r' f' g' false = _; unfold fullB; rw [ho, hsp, hsr]; simp
      clear ho hsp hsr hst p1 p2 p3
      go_enter Tryd.func14, Tryd.ntmps14
      go_wp2_with (go_at_call 12; refine (HG'.out _).mono ?_; rintro e w1 ⟨rfl, hb1⟩)
      have k0 := cell_regrown (box_at (v := .string b) hb1 0 rfl); have k1 := cell_regrown (box_at (v := .string s) hb1 1 rfl); have k2 := cell_regrown (box_at (v := .int .i64 c) hb1 2 rfl); have k3 := cell_regrown (box_at (v := .int .i64 r) hb1 3 rfl); have k4 := cell_regrown (box_at (v := .bool f) hb1 4 rfl); have k5 := cell_regrown (box_at (v := .bool g) hb1 5 rfl); have k6 := cell_regrown (box_at (v := .int .i64 c') hb1 6 rfl); have k7 := cell_regrown (box_at (v := .int .i64 r') hb1 7 rfl); have k8 := cell_regrown (box_at (v := .bool f') hb1 8 rfl); have k9 := cell_regrown (box_at (v := .bool g') hb1 9 rfl); have k10 := cell_regrown (box_at (v := .bool false) hb1 10 rfl)
      have ht1 : Tab w1 := (ht.box _).below hb1
      have cP := fun d os => Calls.regrown_of (HP'.out (grow (redrawn w1 d) os))
      have cR := fun d os => Calls.regrown_of (HR'.out (grow (redrawn w1 d) os) (ht1.below (below_regrown _ _ _)))
      refine wp_region_quiet_below (by kernel_rfl) (by kernel_rfl) ?_
      repeat (quiet_step (first | exact cP _ _ | exact cR _ _))
      refine wpQuiet_nil ?_
      intro _ hw'
      obtain ⟨⟨dq, osq⟩, hw''⟩ := hw'
      subst hw''
      have hq := below_regrown w1 dq osq
      go_wp2
      ((try simp only [Exit.inBlock, Exit.then]); first | (refine bodyPost_ret (results_tmp rfl _ _ _) rfl ?_) | (refine bodyPost_ret (results_none rfl _ _ _) rfl ?_) | go_ret2 | go_ret3 | (refine bodyPost_ret (by simp [results, Tryd.results14, go_sem]; try rfl) rfl ?_))
      exact ⟨ret_str HE.out.symm, by (repeat (first | exact Below.refl _ _ | exact below_box _ _ | refine Below.stepBox ?_ _ | refine Below.stepDrew ?_ | refine Below.stepDrewN ?_ _ | refine Below.step (by assumption) ?_))⟩
    | true =>
      have HE : Hid (fullB b s c r f g c' r' f' g' true = sp ++ sr ++ (⟨#[58]⟩ ++ st)) := by show fullB b s c r f g c' r' f' g' true = _; unfold fullB; rw [ho, hsp, hsr, hst]; simp
      clear ho hsp hsr hst p1 p2 p3
      go_enter Tryd.func14, Tryd.ntmps14
      go_wp2_with (go_at_call 12; refine (HG'.out _).mono ?_; rintro e w1 ⟨rfl, hb1⟩)
      have k0 := cell_regrown (box_at (v := .string b) hb1 0 rfl); have k1 := cell_regrown (box_at (v := .string s) hb1 1 rfl); have k2 := cell_regrown (box_at (v := .int .i64 c) hb1 2 rfl); have k3 := cell_regrown (box_at (v := .int .i64 r) hb1 3 rfl); have k4 := cell_regrown (box_at (v := .bool f) hb1 4 rfl); have k5 := cell_regrown (box_at (v := .bool g) hb1 5 rfl); have k6 := cell_regrown (box_at (v := .int .i64 c') hb1 6 rfl); have k7 := cell_regrown (box_at (v := .int .i64 r') hb1 7 rfl); have k8 := cell_regrown (box_at (v := .bool f') hb1 8 rfl); have k9 := cell_regrown (box_at (v := .bool g') hb1 9 rfl); have k10 := cell_regrown (box_at (v := .bool true) hb1 10 rfl)
      have ht1 : Tab w1 := (ht.box _).below hb1
      have cP := fun d os => Calls.regrown_of (HP'.out (grow (redrawn w1 d) os))
      have cR := fun d os => Calls.regrown_of (HR'.out (grow (redrawn w1 d) os) (ht1.below (below_regrown _ _ _)))
      refine wp_region_quiet_below (by kernel_rfl) (by kernel_rfl) ?_
      repeat (quiet_step (first | exact cP _ _ | exact cR _ _))
      refine wpQuiet_nil ?_
      intro _ hw'
      obtain ⟨⟨dq, osq⟩, hw''⟩ := hw'
      subst hw''
      have hq := below_regrown w1 dq osq
      have ht2 := ht1.below hq
      go_wp2_with fail
      refine (HR2'.out _ ht2).mono ?_; rintro e w3 ⟨rfl, hb3⟩
      go_wp2
      ((try simp only [Exit.inBlock, Exit.then]); first | (refine bodyPost_ret (results_tmp rfl _ _ _) rfl ?_) | (refine bodyPost_ret (results_none rfl _ _ _) rfl ?_) | go_ret2 | go_ret3 | (refine bodyPost_ret (by simp [results, Tryd.results14, go_sem]; try rfl) rfl ?_))
      exact ⟨ret_str HE.out.symm, by (repeat (first | exact Below.refl _ _ | exact below_box _ _ | refine Below.stepBox ?_ _ | refine Below.stepDrew ?_ | refine Below.stepDrewN ?_ _ | refine Below.step (by assumption) ?_))⟩

/-- The place's text: that of a reference without its signs. -/
theorem Cell_Text (c r : Int) (w : World) (ht : Tab w) : Calls Tryd.prog 17 #[cellV c r] w (RetPost w (.string (refB c r false false))) := by
  have HR := Lib.hid (fun w ht => Ref_Text c r false false w ht)
  go_enter Tryd.func17, Tryd.ntmps17
  have ht1 := ht
  go_wp2_with fail
  refine (HR.out _ (by first | exact ht.box _ | exact (ht.box _).box _)).mono ?_; rintro e w3 ⟨rfl, hb3⟩
  go_wp2
  ((try simp only [Exit.inBlock, Exit.then]); first | (refine bodyPost_ret (results_tmp rfl _ _ _) rfl ?_) | (refine bodyPost_ret (results_none rfl _ _ _) rfl ?_) | go_ret2 | go_ret3 | (refine bodyPost_ret (by simp [results, Tryd.results17, go_sem]; try rfl) rfl ?_))
  exact ⟨rfl, by (repeat (first | exact Below.refl _ _ | exact below_box _ _ | refine Below.stepBox ?_ _ | refine Below.stepDrew ?_ | refine Below.stepDrewN ?_ _ | refine Below.step (by assumption) ?_))⟩
end Go.Proofs.YtpljbpndooilgaaDoor
