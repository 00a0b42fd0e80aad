/- Full references: which are good, their areas. -/
import Derived.Test.YtpljbpndooilgaaDoorAd
namespace Go.Proofs.YtpljbpndooilgaaDoor
set_option linter.unusedVariables false
set_option linter.unusedSimpArgs false
open Go.RowKit Go.Sort
open Go.ChangeMaps (setBlock)

abbrev fullV (b s : ByteArray) (c r : Int) (f g : Bool) (c' r' : Int) (f' g' wd : Bool) : Value := .agg #[.string b, .string s, .int .i64 c, .int .i64 r, .bool f, .bool g, .int .i64 c', .int .i64 r', .bool f', .bool g', .bool wd]

theorem Full_area (b s : ByteArray) (c r : Int) (f g : Bool) (c' r' : Int) (f' g' wd : Bool) (w : World) :
    Calls Tryd.prog 37 #[fullV b s c r f g c' r' f' g' wd] w (RetPost w (if wd then areaV c r c' r' else areaV c r c r)) := by
  cases wd
  all_goals
    go_enter Tryd.func37, Tryd.ntmps37
    go_wp2
    ((try simp only [Exit.inBlock, Exit.then]); first | (refine bodyPost_ret (results_tmp rfl _ _ _) rfl ?_) | (refine bodyPost_ret (results_none rfl _ _ _) rfl ?_) | go_ret2 | go_ret3 | (refine bodyPost_ret (by simp [results, Tryd.results37, go_sem]; try rfl) rfl ?_))
    exact ⟨by simp, by (repeat (first | exact Below.refl _ _ | exact below_box _ _ | refine Below.stepBox ?_ _ | refine Below.stepDrew ?_ | refine Below.stepDrewN ?_ _ | refine Below.step (by assumption) ?_))⟩

def fullOk (b s : ByteArray) (c r c' r' : Int) (f' g' wd : Bool) : Bool :=
  !(!s.toList.isEmpty && !nameOk s) && !(!b.toList.isEmpty && (!nameOk b || s.toList.isEmpty)) && (if wd then areaOk c r c' r' else areaOk c r c r && (c' == 0 && r' == 0 && !f' && !g'))

set_option maxHeartbeats 4000000 in
set_option maxRecDepth 100000 in
theorem Full_Good (b s : ByteArray) (c r : Int) (f g : Bool) (c' r' : Int) (f' g' wd : Bool) (w : World) (h1 : s.size ≤ 140737488351232) (h2 : b.size ≤ 140737488351232) :
    Calls Tryd.prog 12 #[fullV b s c r f g c' r' f' g' wd] w (RetPost w (.bool (fullOk b s c r c' r' f' g' wd))) := by
  have HS := fun w => Name_any s w h1
  have HB := fun w => Name_any b w h2
  have HA := fun w => Full_area b s c r f g c' r' f' g' wd w
  by_cases es : s.toList = []
  · by_cases eb : b.toList = []
    · clear HS HB
      cases wd with
      | true =>
        have HG := fun w => Area_Good c r c' r' w
        have HA' : Hid (∀ w, Calls Tryd.prog 37 #[fullV b s c r f g c' r' f' g' true] w (RetPost w (areaV c r c' r'))) := HA
        clear HA
        cases ha : areaOk c r c' r' with
        | false =>
          rw [ha] at HG
          have HG' := Lib.hid HG; clear HG
          have HE : Hid (fullOk b s c r c' r' f' g' true = false) := by show fullOk b s c r c' r' f' g' true = _; unfold fullOk; simp [es, eb, ha]
          go_enter Tryd.func12, Tryd.ntmps12
          go_wp2_with fail
          refine (HA'.out _).mono ?_; rintro e wa ⟨rfl, hba⟩
          have hca := hba
          have qa0 := box_at (v := .string b) hca 0 rfl; have qa1 := box_at (v := .string s) hca 1 rfl; have qa2 := box_at (v := .int .i64 c) hca 2 rfl; have qa3 := box_at (v := .int .i64 r) hca 3 rfl; have qa4 := box_at (v := .bool f) hca 4 rfl; have qa5 := box_at (v := .bool g) hca 5 rfl; have qa6 := box_at (v := .int .i64 c') hca 6 rfl; have qa7 := box_at (v := .int .i64 r') hca 7 rfl; have qa8 := box_at (v := .bool f') hca 8 rfl; have qa9 := box_at (v := .bool g') hca 9 rfl; have qa10 := box_at (v := .bool true) hca 10 rfl
          go_wp2_with fail
          refine (HG'.out _).mono ?_; rintro e wg ⟨rfl, hbg⟩
          have hcg := hca.trans (hbg.mono hca.size)
          have qg0 := box_at (v := .string b) hcg 0 rfl; have qg1 := box_at (v := .string s) hcg 1 rfl; have qg2 := box_at (v := .int .i64 c) hcg 2 rfl; have qg3 := box_at (v := .int .i64 r) hcg 3 rfl; have qg4 := box_at (v := .bool f) hcg 4 rfl; have qg5 := box_at (v := .bool g) hcg 5 rfl; have qg6 := box_at (v := .int .i64 c') hcg 6 rfl; have qg7 := box_at (v := .int .i64 r') hcg 7 rfl; have qg8 := box_at (v := .bool f') hcg 8 rfl; have qg9 := box_at (v := .bool g') hcg 9 rfl; have qg10 := box_at (v := .bool true) hcg 10 rfl
          clear hcg hca
          go_wp2_with fail
          ((try simp only [Exit.inBlock, Exit.then]); first | (refine bodyPost_ret (results_tmp rfl _ _ _) rfl ?_) | (refine bodyPost_ret (results_none rfl _ _ _) rfl ?_) | go_ret2 | go_ret3 | (refine bodyPost_ret (by simp [results, Tryd.results12, go_sem]; try rfl) rfl ?_))
          exact ⟨ret_bool HE.out.symm, by (repeat (first | exact Below.refl _ _ | exact below_box _ _ | refine Below.stepBox ?_ _ | refine Below.stepDrew ?_ | refine Below.stepDrewN ?_ _ | refine Below.step (by assumption) ?_))⟩
        | true =>
          rw [ha] at HG
          have HG' := Lib.hid HG; clear HG
          have HE : Hid (fullOk b s c r c' r' f' g' true = true) := by show fullOk b s c r c' r' f' g' true = _; unfold fullOk; simp [es, eb, ha]
          go_enter Tryd.func12, Tryd.ntmps12
          go_wp2_with fail
          refine (HA'.out _).mono ?_; rintro e wa ⟨rfl, hba⟩
          have hca := hba
          have qa0 := box_at (v := .string b) hca 0 rfl; have qa1 := box_at (v := .string s) hca 1 rfl; have qa2 := box_at (v := .int .i64 c) hca 2 rfl; have qa3 := box_at (v := .int .i64 r) hca 3 rfl; have qa4 := box_at (v := .bool f) hca 4 rfl; have qa5 := box_at (v := .bool g) hca 5 rfl; have qa6 := box_at (v := .int .i64 c') hca 6 rfl; have qa7 := box_at (v := .int .i64 r') hca 7 rfl; have qa8 := box_at (v := .bool f') hca 8 rfl; have qa9 := box_at (v := .bool g') hca 9 rfl; have qa10 := box_at (v := .bool true) hca 10 rfl
          go_wp2_with fail
          refine (HG'.out _).mono ?_; rintro e wg ⟨rfl, hbg⟩
          have hcg := hca.trans (hbg.mono hca.size)
          have qg0 := box_at (v := .string b) hcg 0 rfl; have qg1 := box_at (v := .string s) hcg 1 rfl; have qg2 := box_at (v := .int .i64 c) hcg 2 rfl; have qg3 := box_at (v := .int .i64 r) hcg 3 rfl; have qg4 := box_at (v := .bool f) hcg 4 rfl; have qg5 := box_at (v := .bool g) hcg 5 rfl; have qg6 := box_at (v := .int .i64 c') hcg 6 rfl; have qg7 := box_at (v := .int .i64 r') hcg 7 rfl; have qg8 := box_at (v := .bool f') hcg 8 rfl; have qg9 := box_at (v := .bool g') hcg 9 rfl; have qg10 := box_at (v := .bool true) hcg 10 rfl
          clear hcg hca
          go_wp2_with fail
          ((try simp only [Exit.inBlock, Exit.then]); first | (refine bodyPost_ret (results_tmp rfl _ _ _) rfl ?_) | (refine bodyPost_ret (results_none rfl _ _ _) rfl ?_) | go_ret2 | go_ret3 | (refine bodyPost_ret (by simp [results, Tryd.results12, go_sem]; try rfl) rfl ?_))
          exact ⟨ret_bool HE.out.symm, by (repeat (first | exact Below.refl _ _ | exact below_box _ _ | refine Below.stepBox ?_ _ | refine Below.stepDrew ?_ | refine Below.stepDrewN ?_ _ | refine Below.step (by assumption) ?_))⟩
      | false =>
        have HG := fun w => Area_Good c r c r w
        have HA' : Hid (∀ w, Calls Tryd.prog 37 #[fullV b s c r f g c' r' f' g' false] w (RetPost w (areaV c r c r))) := HA
        clear HA
        cases ha : areaOk c r c r with
        | false =>
          rw [ha] at HG
          have HG' := Lib.hid HG; clear HG
          have HE : Hid (fullOk b s c r c' r' f' g' false = false) := by show fullOk b s c r c' r' f' g' false = _; unfold fullOk; simp [es, eb, ha]
          go_enter Tryd.func12, Tryd.ntmps12
          go_wp2_with fail
          refine (HA'.out _).mono ?_; rintro e wa ⟨rfl, hba⟩
          have hca := hba
          have qa0 := box_at (v := .string b) hca 0 rfl; have qa1 := box_at (v := .string s) hca 1 rfl; have qa2 := box_at (v := .int .i64 c) hca 2 rfl; have qa3 := box_at (v := .int .i64 r) hca 3 rfl; have qa4 := box_at (v := .bool f) hca 4 rfl; have qa5 := box_at (v := .bool g) hca 5 rfl; have qa6 := box_at (v := .int .i64 c') hca 6 rfl; have qa7 := box_at (v := .int .i64 r') hca 7 rfl; have qa8 := box_at (v := .bool f') hca 8 rfl; have qa9 := box_at (v := .bool g') hca 9 rfl; have qa10 := box_at (v := .bool false) hca 10 rfl
          go_wp2_with fail
          refine (HG'.out _).mono ?_; rintro e wg ⟨rfl, hbg⟩
          have hcg := hca.trans (hbg.mono hca.size)
          have qg0 := box_at (v := .string b) hcg 0 rfl; have qg1 := box_at (v := .string s) hcg 1 rfl; have qg2 := box_at (v := .int .i64 c) hcg 2 rfl; have qg3 := box_at (v := .int .i64 r) hcg 3 rfl; have qg4 := box_at (v := .bool f) hcg 4 rfl; have qg5 := box_at (v := .bool g) hcg 5 rfl; have qg6 := box_at (v := .int .i64 c') hcg 6 rfl; have qg7 := box_at (v := .int .i64 r') hcg 7 rfl; have qg8 := box_at (v := .bool f') hcg 8 rfl; have qg9 := box_at (v := .bool g') hcg 9 rfl; have qg10 := box_at (v := .bool false) hcg 10 rfl
          clear hcg hca
          go_wp2_with fail
          ((try simp only [Exit.inBlock, Exit.then]); first | (refine bodyPost_ret (results_tmp rfl _ _ _) rfl ?_) | (refine bodyPost_ret (results_none rfl _ _ _) rfl ?_) | go_ret2 | go_ret3 | (refine bodyPost_ret (by simp [results, Tryd.results12, go_sem]; try rfl) rfl ?_))
          exact ⟨ret_bool HE.out.symm, by (repeat (first | exact Below.refl _ _ | exact below_box _ _ | refine Below.stepBox ?_ _ | refine Below.stepDrew ?_ | refine Below.stepDrewN ?_ _ | refine Below.step (by assumption) ?_))⟩
        | true =>
          rw [ha] at HG
          have HG' := Lib.hid HG; clear HG
          have HE : Hid (fullOk b s c r c' r' f' g' false = (c' == 0 && r' == 0 && !f' && !g')) := by show fullOk b s c r c' r' f' g' false = _; unfold fullOk; simp [es, eb, ha]
          go_enter Tryd.func12, Tryd.ntmps12
          go_wp2_with fail
          refine (HA'.out _).mono ?_; rintro e wa ⟨rfl, hba⟩
          have hca := hba
          have qa0 := box_at (v := .string b) hca 0 rfl; have qa1 := box_at (v := .string s) hca 1 rfl; have qa2 := box_at (v := .int .i64 c) hca 2 rfl; have qa3 := box_at (v := .int .i64 r) hca 3 rfl; have qa4 := box_at (v := .bool f) hca 4 rfl; have qa5 := box_at (v := .bool g) hca 5 rfl; have qa6 := box_at (v := .int .i64 c') hca 6 rfl; have qa7 := box_at (v := .int .i64 r') hca 7 rfl; have qa8 := box_at (v := .bool f') hca 8 rfl; have qa9 := box_at (v := .bool g') hca 9 rfl; have qa10 := box_at (v := .bool false) hca 10 rfl
          go_wp2_with fail
          refine (HG'.out _).mono ?_; rintro e wg ⟨rfl, hbg⟩
          have hcg := hca.trans (hbg.mono hca.size)
          have qg0 := box_at (v := .string b) hcg 0 rfl; have qg1 := box_at (v := .string s) hcg 1 rfl; have qg2 := box_at (v := .int .i64 c) hcg 2 rfl; have qg3 := box_at (v := .int .i64 r) hcg 3 rfl; have qg4 := box_at (v := .bool f) hcg 4 rfl; have qg5 := box_at (v := .bool g) hcg 5 rfl; have qg6 := box_at (v := .int .i64 c') hcg 6 rfl; have qg7 := box_at (v := .int .i64 r') hcg 7 rfl; have qg8 := box_at (v := .bool f') hcg 8 rfl; have qg9 := box_at (v := .bool g') hcg 9 rfl; have qg10 := box_at (v := .bool false) hcg 10 rfl
          clear hcg hca
          go_wp2_with fail
          all_goals (((try simp only [Exit.inBlock, Exit.then]); first | (refine bodyPost_ret (results_tmp rfl _ _ _) rfl ?_) | (refine bodyPost_ret (results_none rfl _ _ _) rfl ?_) | go_ret2 | go_ret3 | (refine bodyPost_ret (by simp [results, Tryd.results12, go_sem]; try rfl) rfl ?_)); exact ⟨ret_bool (by rw [HE.out]; simp [*]), by (repeat (first | exact Below.refl _ _ | exact below_box _ _ | refine Below.stepBox ?_ _ | refine Below.stepDrew ?_ | refine Below.stepDrewN ?_ _ | refine Below.step (by assumption) ?_))⟩)
    · have eb' : (!b.toList.isEmpty) = true := by simp [eb]
      cases nb : nameOk b with
      | false =>
        rw [nb] at HB; have HB' := Lib.hid HB; clear HB HS
        have HE : Hid (fullOk b s c r c' r' f' g' wd = false) := by show fullOk b s c r c' r' f' g' wd = false; unfold fullOk; simp [es, eb, nb]
        clear HA
        go_enter Tryd.func12, Tryd.ntmps12
        go_wp2_with fail
        refine (HB'.out _).mono ?_; rintro e w1 ⟨rfl, hb1⟩
        have hc1 := hb1
        have q1_0 := box_at (v := .string b) hc1 0 rfl; have q1_1 := box_at (v := .string s) hc1 1 rfl; have q1_2 := box_at (v := .int .i64 c) hc1 2 rfl; have q1_3 := box_at (v := .int .i64 r) hc1 3 rfl; have q1_4 := box_at (v := .bool f) hc1 4 rfl; have q1_5 := box_at (v := .bool g) hc1 5 rfl; have q1_6 := box_at (v := .int .i64 c') hc1 6 rfl; have q1_7 := box_at (v := .int .i64 r') hc1 7 rfl; have q1_8 := box_at (v := .bool f') hc1 8 rfl; have q1_9 := box_at (v := .bool g') hc1 9 rfl; have q1_10 := box_at (v := .bool wd) hc1 10 rfl
        go_wp2_with fail
        ((try simp only [Exit.inBlock, Exit.then]); first | (refine bodyPost_ret (results_tmp rfl _ _ _) rfl ?_) | (refine bodyPost_ret (results_none rfl _ _ _) rfl ?_) | go_ret2 | go_ret3 | (refine bodyPost_ret (by simp [results, Tryd.results12, go_sem]; try rfl) rfl ?_))
        exact ⟨ret_bool HE.out.symm, by (repeat (first | exact Below.refl _ _ | exact below_box _ _ | refine Below.stepBox ?_ _ | refine Below.stepDrew ?_ | refine Below.stepDrewN ?_ _ | refine Below.step (by assumption) ?_))⟩
      | true =>
        rw [nb] at HB; have HB' := Lib.hid HB; clear HB HS
        have HE : Hid (fullOk b s c r c' r' f' g' wd = false) := by show fullOk b s c r c' r' f' g' wd = false; unfold fullOk; simp [es, eb, nb]
        clear HA
        go_enter Tryd.func12, Tryd.ntmps12
        go_wp2_with fail
        refine (HB'.out _).mono ?_; rintro e w1 ⟨rfl, hb1⟩
        have hc1 := hb1
        have q1_0 := box_at (v := .string b) hc1 0 rfl; have q1_1 := box_at (v := .string s) hc1 1 rfl; have q1_2 := box_at (v := .int .i64 c) hc1 2 rfl; have q1_3 := box_at (v := .int .i64 r) hc1 3 rfl; have q1_4 := box_at (v := .bool f) hc1 4 rfl; have q1_5 := box_at (v := .bool g) hc1 5 rfl; have q1_6 := box_at (v := .int .i64 c') hc1 6 rfl; have q1_7 := box_at (v := .int .i64 r') hc1 7 rfl; have q1_8 := box_at (v := .bool f') hc1 8 rfl; have q1_9 := box_at (v := .bool g') hc1 9 rfl; have q1_10 := box_at (v := .bool wd) hc1 10 rfl
        go_wp2_with fail
        ((try simp only [Exit.inBlock, Exit.then]); first | (refine bodyPost_ret (results_tmp rfl _ _ _) rfl ?_) | (refine bodyPost_ret (results_none rfl _ _ _) rfl ?_) | go_ret2 | go_ret3 | (refine bodyPost_ret (by simp [results, Tryd.results12, go_sem]; try rfl) rfl ?_))
        exact ⟨ret_bool HE.out.symm, by (repeat (first | exact Below.refl _ _ | exact below_box _ _ | refine Below.stepBox ?_ _ | refine Below.stepDrew ?_ | refine Below.stepDrewN ?_ _ | refine Below.step (by assumption) ?_))⟩
  · have es' : (!s.toList.isEmpty) = true := by simp [es]
    have es'' : s.toList.isEmpty = false := by simp [es]
    cases ns : nameOk s with
    | false =>
      rw [ns] at HS; have HS' := Lib.hid HS; clear HB HS
      have HE : Hid (fullOk b s c r c' r' f' g' wd = false) := by show fullOk b s c r c' r' f' g' wd = false; unfold fullOk; simp [es, ns]
      clear HA
      go_enter Tryd.func12, Tryd.ntmps12
      go_wp2_with fail
      refine (HS'.out _).mono ?_; rintro e w1 ⟨rfl, hb1⟩
      have hc1 := hb1
      have q1_0 := box_at (v := .string b) hc1 0 rfl; have q1_1 := box_at (v := .string s) hc1 1 rfl; have q1_2 := box_at (v := .int .i64 c) hc1 2 rfl; have q1_3 := box_at (v := .int .i64 r) hc1 3 rfl; have q1_4 := box_at (v := .bool f) hc1 4 rfl; have q1_5 := box_at (v := .bool g) hc1 5 rfl; have q1_6 := box_at (v := .int .i64 c') hc1 6 rfl; have q1_7 := box_at (v := .int .i64 r') hc1 7 rfl; have q1_8 := box_at (v := .bool f') hc1 8 rfl; have q1_9 := box_at (v := .bool g') hc1 9 rfl; have q1_10 := box_at (v := .bool wd) hc1 10 rfl
      go_wp2_with fail
      ((try simp only [Exit.inBlock, Exit.then]); first | (refine bodyPost_ret (results_tmp rfl _ _ _) rfl ?_) | (refine bodyPost_ret (results_none rfl _ _ _) rfl ?_) | go_ret2 | go_ret3 | (refine bodyPost_ret (by simp [results, Tryd.results12, go_sem]; try rfl) rfl ?_))
      exact ⟨ret_bool HE.out.symm, by (repeat (first | exact Below.refl _ _ | exact below_box _ _ | refine Below.stepBox ?_ _ | refine Below.stepDrew ?_ | refine Below.stepDrewN ?_ _ | refine Below.step (by assumption) ?_))⟩
    | true =>
      rw [ns] at HS; have HS' := Lib.hid HS; clear HS
      by_cases eb : b.toList = []
      · clear HB
        cases wd with
        | true =>
          have HG := fun w => Area_Good c r c' r' w
          have HA' : Hid (∀ w, Calls Tryd.prog 37 #[fullV b s c r f g c' r' f' g' true] w (RetPost w (areaV c r c' r'))) := HA
          clear HA
          cases ha : areaOk c r c' r' with
          | false =>
            rw [ha] at HG
            have HG' := Lib.hid HG; clear HG
            have HE : Hid (fullOk b s c r c' r' f' g' true = false) := by show fullOk b s c r c' r' f' g' true = _; unfold fullOk; simp [es, eb, ns, ha]
            go_enter Tryd.func12, Tryd.ntmps12
            go_wp2_with fail
            refine (HS'.out _).mono ?_; rintro e w1 ⟨rfl, hb1⟩
            have hc1 := hb1
            have q1_0 := box_at (v := .string b) hc1 0 rfl; have q1_1 := box_at (v := .string s) hc1 1 rfl; have q1_2 := box_at (v := .int .i64 c) hc1 2 rfl; have q1_3 := box_at (v := .int .i64 r) hc1 3 rfl; have q1_4 := box_at (v := .bool f) hc1 4 rfl; have q1_5 := box_at (v := .bool g) hc1 5 rfl; have q1_6 := box_at (v := .int .i64 c') hc1 6 rfl; have q1_7 := box_at (v := .int .i64 r') hc1 7 rfl; have q1_8 := box_at (v := .bool f') hc1 8 rfl; have q1_9 := box_at (v := .bool g') hc1 9 rfl; have q1_10 := box_at (v := .bool true) hc1 10 rfl
            go_wp2_with fail
            refine (HA'.out _).mono ?_; rintro e wa ⟨rfl, hba⟩
            have hca := hc1.trans (hba.mono hc1.size)
            have qa0 := box_at (v := .string b) hca 0 rfl; have qa1 := box_at (v := .string s) hca 1 rfl; have qa2 := box_at (v := .int .i64 c) hca 2 rfl; have qa3 := box_at (v := .int .i64 r) hca 3 rfl; have qa4 := box_at (v := .bool f) hca 4 rfl; have qa5 := box_at (v := .bool g) hca 5 rfl; have qa6 := box_at (v := .int .i64 c') hca 6 rfl; have qa7 := box_at (v := .int .i64 r') hca 7 rfl; have qa8 := box_at (v := .bool f') hca 8 rfl; have qa9 := box_at (v := .bool g') hca 9 rfl; have qa10 := box_at (v := .bool true) hca 10 rfl
            go_wp2_with fail
            refine (HG'.out _).mono ?_; rintro e wg ⟨rfl, hbg⟩
            have hcg := hca.trans (hbg.mono hca.size)
            have qg0 := box_at (v := .string b) hcg 0 rfl; have qg1 := box_at (v := .string s) hcg 1 rfl; have qg2 := box_at (v := .int .i64 c) hcg 2 rfl; have qg3 := box_at (v := .int .i64 r) hcg 3 rfl; have qg4 := box_at (v := .bool f) hcg 4 rfl; have qg5 := box_at (v := .bool g) hcg 5 rfl; have qg6 := box_at (v := .int .i64 c') hcg 6 rfl; have qg7 := box_at (v := .int .i64 r') hcg 7 rfl; have qg8 := box_at (v := .bool f') hcg 8 rfl; have qg9 := box_at (v := .bool g') hcg 9 rfl; have qg10 := box_at (v := .bool true) hcg 10 rfl
            clear hcg hca hc1
            go_wp2_with fail
            ((try simp only [Exit.inBlock, Exit.then]); first | (refine bodyPost_ret (results_tmp rfl _ _ _) rfl ?_) | (refine bodyPost_ret (results_none rfl _ _ _) rfl ?_) | go_ret2 | go_ret3 | (refine bodyPost_ret (by simp [results, Tryd.results12, go_sem]; try rfl) rfl ?_))
            exact ⟨ret_bool HE.out.symm, by (repeat (first | exact Below.refl _ _ | exact below_box _ _ | refine Below.stepBox ?_ _ | refine Below.stepDrew ?_ | refine Below.stepDrewN ?_ _ | refine Below.step (by assumption) ?_))⟩
          | true =>
            rw [ha] at HG
            have HG' := Lib.hid HG; clear HG
            have HE : Hid (fullOk b s c r c' r' f' g' true = true) := by show fullOk b s c r c' r' f' g' true = _; unfold fullOk; simp [es, eb, ns, ha]
            go_enter Tryd.func12, Tryd.ntmps12
            go_wp2_with fail
            refine (HS'.out _).mono ?_; rintro e w1 ⟨rfl, hb1⟩
            have hc1 := hb1
            have q1_0 := box_at (v := .string b) hc1 0 rfl; have q1_1 := box_at (v := .string s) hc1 1 rfl; have q1_2 := box_at (v := .int .i64 c) hc1 2 rfl; have q1_3 := box_at (v := .int .i64 r) hc1 3 rfl; have q1_4 := box_at (v := .bool f) hc1 4 rfl; have q1_5 := box_at (v := .bool g) hc1 5 rfl; have q1_6 := box_at (v := .int .i64 c') hc1 6 rfl; have q1_7 := box_at (v := .int .i64 r') hc1 7 rfl; have q1_8 := box_at (v := .bool f') hc1 8 rfl; have q1_9 := box_at (v := .bool g') hc1 9 rfl; have q1_10 := box_at (v := .bool true) hc1 10 rfl
            go_wp2_with fail
            refine (HA'.out _).mono ?_; rintro e wa ⟨rfl, hba⟩
            have hca := hc1.trans (hba.mono hc1.size)
            have qa0 := box_at (v := .string b) hca 0 rfl; have qa1 := box_at (v := .string s) hca 1 rfl; have qa2 := box_at (v := .int .i64 c) hca 2 rfl; have qa3 := box_at (v := .int .i64 r) hca 3 rfl; have qa4 := box_at (v := .bool f) hca 4 rfl; have qa5 := box_at (v := .bool g) hca 5 rfl; have qa6 := box_at (v := .int .i64 c') hca 6 rfl; have qa7 := box_at (v := .int .i64 r') hca 7 rfl; have qa8 := box_at (v := .bool f') hca 8 rfl; have qa9 := box_at (v := .bool g') hca 9 rfl; have qa10 := box_at (v := .bool true) hca 10 rfl
            go_wp2_with fail
            refine (HG'.out _).mono ?_; rintro e wg ⟨rfl, hbg⟩
            have hcg := hca.trans (hbg.mono hca.size)
            have qg0 := box_at (v := .string b) hcg 0 rfl; have qg1 := box_at (v := .string s) hcg 1 rfl; have qg2 := box_at (v := .int .i64 c) hcg 2 rfl; have qg3 := box_at (v := .int .i64 r) hcg 3 rfl; have qg4 := box_at (v := .bool f) hcg 4 rfl; have qg5 := box_at (v := .bool g) hcg 5 rfl; have qg6 := box_at (v := .int .i64 c') hcg 6 rfl; have qg7 := box_at (v := .int .i64 r') hcg 7 rfl; have qg8 := box_at (v := .bool f') hcg 8 rfl; have qg9 := box_at (v := .bool g') hcg 9 rfl; have qg10 := box_at (v := .bool true) hcg 10 rfl
            clear hcg hca hc1
            go_wp2_with fail
            ((try simp only [Exit.inBlock, Exit.then]); first | (refine bodyPost_ret (results_tmp rfl _ _ _) rfl ?_) | (refine bodyPost_ret (results_none rfl _ _ _) rfl ?_) | go_ret2 | go_ret3 | (refine bodyPost_ret (by simp [results, Tryd.results12, go_sem]; try rfl) rfl ?_))
            exact ⟨ret_bool HE.out.symm, by (repeat (first | exact Below.refl _ _ | exact below_box _ _ | refine Below.stepBox ?_ _ | refine Below.stepDrew ?_ | refine Below.stepDrewN ?_ _ | refine Below.step (by assumption) ?_))⟩
        | false =>
          have HG := fun w => Area_Good c r c r w
          have HA' : Hid (∀ w, Calls Tryd.prog 37 #[fullV b s c r f g c' r' f' g' false] w (RetPost w (areaV c r c r))) := HA
          clear HA
          cases ha : areaOk c r c r with
          | false =>
            rw [ha] at HG
            have HG' := Lib.hid HG; clear HG
            have HE : Hid (fullOk b s c r c' r' f' g' false = false) := by show fullOk b s c r c' r' f' g' false = _; unfold fullOk; simp [es, eb, ns, ha]
            go_enter Tryd.func12, Tryd.ntmps12
            go_wp2_with fail
            refine (HS'.out _).mono ?_; rintro e w1 ⟨rfl, hb1⟩
            have hc1 := hb1
            have q1_0 := box_at (v := .string b) hc1 0 rfl; have q1_1 := box_at (v := .string s) hc1 1 rfl; have q1_2 := box_at (v := .int .i64 c) hc1 2 rfl; have q1_3 := box_at (v := .int .i64 r) hc1 3 rfl; have q1_4 := box_at (v := .bool f) hc1 4 rfl; have q1_5 := box_at (v := .bool g) hc1 5 rfl; have q1_6 := box_at (v := .int .i64 c') hc1 6 rfl; have q1_7 := box_at (v := .int .i64 r') hc1 7 rfl; have q1_8 := box_at (v := .bool f') hc1 8 rfl; have q1_9 := box_at (v := .bool g') hc1 9 rfl; have q1_10 := box_at (v := .bool false) hc1 10 rfl
            go_wp2_with fail
            refine (HA'.out _).mono ?_; rintro e wa ⟨rfl, hba⟩
            have hca := hc1.trans (hba.mono hc1.size)
            have qa0 := box_at (v := .string b) hca 0 rfl; have qa1 := box_at (v := .string s) hca 1 rfl; have qa2 := box_at (v := .int .i64 c) hca 2 rfl; have qa3 := box_at (v := .int .i64 r) hca 3 rfl; have qa4 := box_at (v := .bool f) hca 4 rfl; have qa5 := box_at (v := .bool g) hca 5 rfl; have qa6 := box_at (v := .int .i64 c') hca 6 rfl; have qa7 := box_at (v := .int .i64 r') hca 7 rfl; have qa8 := box_at (v := .bool f') hca 8 rfl; have qa9 := box_at (v := .bool g') hca 9 rfl; have qa10 := box_at (v := .bool false) hca 10 rfl
            go_wp2_with fail
            refine (HG'.out _).mono ?_; rintro e wg ⟨rfl, hbg⟩
            have hcg := hca.trans (hbg.mono hca.size)
            have qg0 := box_at (v := .string b) hcg 0 rfl; have qg1 := box_at (v := .string s) hcg 1 rfl; have qg2 := box_at (v := .int .i64 c) hcg 2 rfl; have qg3 := box_at (v := .int .i64 r) hcg 3 rfl; have qg4 := box_at (v := .bool f) hcg 4 rfl; have qg5 := box_at (v := .bool g) hcg 5 rfl; have qg6 := box_at (v := .int .i64 c') hcg 6 rfl; have qg7 := box_at (v := .int .i64 r') hcg 7 rfl; have qg8 := box_at (v := .bool f') hcg 8 rfl; have qg9 := box_at (v := .bool g') hcg 9 rfl; have qg10 := box_at (v := .bool false) hcg 10 rfl
            clear hcg hca hc1
            go_wp2_with fail
            ((try simp only [Exit.inBlock, Exit.then]); first | (refine bodyPost_ret (results_tmp rfl _ _ _) rfl ?_) | (refine bodyPost_ret (results_none rfl _ _ _) rfl ?_) | go_ret2 | go_ret3 | (refine bodyPost_ret (by simp [results, Tryd.results12, go_sem]; try rfl) rfl ?_))
            exact ⟨ret_bool HE.out.symm, by (repeat (first | exact Below.refl _ _ | exact below_box _ _ | refine Below.stepBox ?_ _ | refine Below.stepDrew ?_ | refine Below.stepDrewN ?_ _ | refine Below.step (by assumption) ?_))⟩
          | true =>
            rw [ha] at HG
            have HG' := Lib.hid HG; clear HG
            have HE : Hid (fullOk b s c r c' r' f' g' false = (c' == 0 && r' == 0 && !f' && !g')) := by show fullOk b s c r c' r' f' g' false = _; unfold fullOk; simp [es, eb, ns, ha]
            go_enter Tryd.func12, Tryd.ntmps12
            go_wp2_with fail
            refine (HS'.out _).mono ?_; rintro e w1 ⟨rfl, hb1⟩
            have hc1 := hb1
            have q1_0 := box_at (v := .string b) hc1 0 rfl; have q1_1 := box_at (v := .string s) hc1 1 rfl; have q1_2 := box_at (v := .int .i64 c) hc1 2 rfl; have q1_3 := box_at (v := .int .i64 r) hc1 3 rfl; have q1_4 := box_at (v := .bool f) hc1 4 rfl; have q1_5 := box_at (v := .bool g) hc1 5 rfl; have q1_6 := box_at (v := .int .i64 c') hc1 6 rfl; have q1_7 := box_at (v := .int .i64 r') hc1 7 rfl; have q1_8 := box_at (v := .bool f') hc1 8 rfl; have q1_9 := box_at (v := .bool g') hc1 9 rfl; have q1_10 := box_at (v := .bool false) hc1 10 rfl
            go_wp2_with fail
            refine (HA'.out _).mono ?_; rintro e wa ⟨rfl, hba⟩
            have hca := hc1.trans (hba.mono hc1.size)
            have qa0 := box_at (v := .string b) hca 0 rfl; have qa1 := box_at (v := .string s) hca 1 rfl; have qa2 := box_at (v := .int .i64 c) hca 2 rfl; have qa3 := box_at (v := .int .i64 r) hca 3 rfl; have qa4 := box_at (v := .bool f) hca 4 rfl; have qa5 := box_at (v := .bool g) hca 5 rfl; have qa6 := box_at (v := .int .i64 c') hca 6 rfl; have qa7 := box_at (v := .int .i64 r') hca 7 rfl; have qa8 := box_at (v := .bool f') hca 8 rfl; have qa9 := box_at (v := .bool g') hca 9 rfl; have qa10 := box_at (v := .bool false) hca 10 rfl
            go_wp2_with fail
            refine (HG'.out _).mono ?_; rintro e wg ⟨rfl, hbg⟩
            have hcg := hca.trans (hbg.mono hca.size)
            have qg0 := box_at (v := .string b) hcg 0 rfl; have qg1 := box_at (v := .string s) hcg 1 rfl; have qg2 := box_at (v := .int .i64 c) hcg 2 rfl; have qg3 := box_at (v := .int .i64 r) hcg 3 rfl; have qg4 := box_at (v := .bool f) hcg 4 rfl; have qg5 := box_at (v := .bool g) hcg 5 rfl; have qg6 := box_at (v := .int .i64 c') hcg 6 rfl; have qg7 := box_at (v := .int .i64 r') hcg 7 rfl; have qg8 := box_at (v := .bool f') hcg 8 rfl; have qg9 := box_at (v := .bool g') hcg 9 rfl; have qg10 := box_at (v := .bool false) hcg 10 rfl
            clear hcg hca hc1
            go_wp2_with fail
            all_goals (((try simp only [Exit.inBlock, Exit.then]); first | (refine bodyPost_ret (results_tmp rfl _ _ _) rfl ?_) | (refine bodyPost_ret (results_none rfl _ _ _) rfl ?_) | go_ret2 | go_ret3 | (refine bodyPost_ret (by simp [results, Tryd.results12, go_sem]; try rfl) rfl ?_)); exact ⟨ret_bool (by rw [HE.out]; simp [*]), by (repeat (first | exact Below.refl _ _ | exact below_box _ _ | refine Below.stepBox ?_ _ | refine Below.stepDrew ?_ | refine Below.stepDrewN ?_ _ | refine Below.step (by assumption) ?_))⟩)
      · have eb' : (!b.toList.isEmpty) = true := by simp [eb]
        cases nb : nameOk b with
        | false =>
          rw [nb] at HB; have HB' := Lib.hid HB; clear HB
          have HE : Hid (fullOk b s c r c' r' f' g' wd = false) := by show fullOk b s c r c' r' f' g' wd = false; unfold fullOk; simp [es, eb, ns, nb]
          clear HA
          go_enter Tryd.func12, Tryd.ntmps12
          go_wp2_with fail
          refine (HS'.out _).mono ?_; rintro e w1 ⟨rfl, hb1⟩
          have hc1 := hb1
          have q1_0 := box_at (v := .string b) hc1 0 rfl; have q1_1 := box_at (v := .string s) hc1 1 rfl; have q1_2 := box_at (v := .int .i64 c) hc1 2 rfl; have q1_3 := box_at (v := .int .i64 r) hc1 3 rfl; have q1_4 := box_at (v := .bool f) hc1 4 rfl; have q1_5 := box_at (v := .bool g) hc1 5 rfl; have q1_6 := box_at (v := .int .i64 c') hc1 6 rfl; have q1_7 := box_at (v := .int .i64 r') hc1 7 rfl; have q1_8 := box_at (v := .bool f') hc1 8 rfl; have q1_9 := box_at (v := .bool g') hc1 9 rfl; have q1_10 := box_at (v := .bool wd) hc1 10 rfl
          go_wp2_with fail
          refine (HB'.out _).mono ?_; rintro e w2 ⟨rfl, hb2⟩
          have hc2 := hc1.trans (hb2.mono hc1.size)
          have q2_0 := box_at (v := .string b) hc2 0 rfl; have q2_1 := box_at (v := .string s) hc2 1 rfl; have q2_2 := box_at (v := .int .i64 c) hc2 2 rfl; have q2_3 := box_at (v := .int .i64 r) hc2 3 rfl; have q2_4 := box_at (v := .bool f) hc2 4 rfl; have q2_5 := box_at (v := .bool g) hc2 5 rfl; have q2_6 := box_at (v := .int .i64 c') hc2 6 rfl; have q2_7 := box_at (v := .int .i64 r') hc2 7 rfl; have q2_8 := box_at (v := .bool f') hc2 8 rfl; have q2_9 := box_at (v := .bool g') hc2 9 rfl; have q2_10 := box_at (v := .bool wd) hc2 10 rfl
          clear hc1
          go_wp2_with fail
          ((try simp only [Exit.inBlock, Exit.then]); first | (refine bodyPost_ret (results_tmp rfl _ _ _) rfl ?_) | (refine bodyPost_ret (results_none rfl _ _ _) rfl ?_) | go_ret2 | go_ret3 | (refine bodyPost_ret (by simp [results, Tryd.results12, go_sem]; try rfl) rfl ?_))
          exact ⟨ret_bool HE.out.symm, by (repeat (first | exact Below.refl _ _ | exact below_box _ _ | refine Below.stepBox ?_ _ | refine Below.stepDrew ?_ | refine Below.stepDrewN ?_ _ | refine Below.step (by assumption) ?_))⟩
        | true =>
          rw [nb] at HB; have HB' := Lib.hid HB; clear HB
          cases wd with
          | true =>
            have HG := fun w => Area_Good c r c' r' w
            have HA' : Hid (∀ w, Calls Tryd.prog 37 #[fullV b s c r f g c' r' f' g' true] w (RetPost w (areaV c r c' r'))) := HA
            clear HA
            cases ha : areaOk c r c' r' with
            | false =>
              rw [ha] at HG
              have HG' := Lib.hid HG; clear HG
              have HE : Hid (fullOk b s c r c' r' f' g' true = false) := by show fullOk b s c r c' r' f' g' true = _; unfold fullOk; simp [es, eb, ns, nb, ha]
              go_enter Tryd.func12, Tryd.ntmps12
              go_wp2_with fail
              refine (HS'.out _).mono ?_; rintro e w1 ⟨rfl, hb1⟩
              have hc1 := hb1
              have q1_0 := box_at (v := .string b) hc1 0 rfl; have q1_1 := box_at (v := .string s) hc1 1 rfl; have q1_2 := box_at (v := .int .i64 c) hc1 2 rfl; have q1_3 := box_at (v := .int .i64 r) hc1 3 rfl; have q1_4 := box_at (v := .bool f) hc1 4 rfl; have q1_5 := box_at (v := .bool g) hc1 5 rfl; have q1_6 := box_at (v := .int .i64 c') hc1 6 rfl; have q1_7 := box_at (v := .int .i64 r') hc1 7 rfl; have q1_8 := box_at (v := .bool f') hc1 8 rfl; have q1_9 := box_at (v := .bool g') hc1 9 rfl; have q1_10 := box_at (v := .bool true) hc1 10 rfl
              go_wp2_with fail
              refine (HB'.out _).mono ?_; rintro e w2 ⟨rfl, hb2⟩
              have hc2 := hc1.trans (hb2.mono hc1.size)
              have q2_0 := box_at (v := .string b) hc2 0 rfl; have q2_1 := box_at (v := .string s) hc2 1 rfl; have q2_2 := box_at (v := .int .i64 c) hc2 2 rfl; have q2_3 := box_at (v := .int .i64 r) hc2 3 rfl; have q2_4 := box_at (v := .bool f) hc2 4 rfl; have q2_5 := box_at (v := .bool g) hc2 5 rfl; have q2_6 := box_at (v := .int .i64 c') hc2 6 rfl; have q2_7 := box_at (v := .int .i64 r') hc2 7 rfl; have q2_8 := box_at (v := .bool f') hc2 8 rfl; have q2_9 := box_at (v := .bool g') hc2 9 rfl; have q2_10 := box_at (v := .bool true) hc2 10 rfl
              clear hc1
              go_wp2_with fail
              refine (HA'.out _).mono ?_; rintro e wa ⟨rfl, hba⟩
              have hca := hc2.trans (hba.mono hc2.size)
              have qa0 := box_at (v := .string b) hca 0 rfl; have qa1 := box_at (v := .string s) hca 1 rfl; have qa2 := box_at (v := .int .i64 c) hca 2 rfl; have qa3 := box_at (v := .int .i64 r) hca 3 rfl; have qa4 := box_at (v := .bool f) hca 4 rfl; have qa5 := box_at (v := .bool g) hca 5 rfl; have qa6 := box_at (v := .int .i64 c') hca 6 rfl; have qa7 := box_at (v := .int .i64 r') hca 7 rfl; have qa8 := box_at (v := .bool f') hca 8 rfl; have qa9 := box_at (v := .bool g') hca 9 rfl; have qa10 := box_at (v := .bool true) hca 10 rfl
              go_wp2_with fail
              refine (HG'.out _).mono ?_; rintro e wg ⟨rfl, hbg⟩
              have hcg := hca.trans (hbg.mono hca.size)
              have qg0 := box_at (v := .string b) hcg 0 rfl; have qg1 := box_at (v := .string s) hcg 1 rfl; have qg2 := box_at (v := .int .i64 c) hcg 2 rfl; have qg3 := box_at (v := .int .i64 r) hcg 3 rfl; have qg4 := box_at (v := .bool f) hcg 4 rfl; have qg5 := box_at (v := .bool g) hcg 5 rfl; have qg6 := box_at (v := .int .i64 c') hcg 6 rfl; have qg7 := box_at (v := .int .i64 r') hcg 7 rfl; have qg8 := box_at (v := .bool f') hcg 8 rfl; have qg9 := box_at (v := .bool g') hcg 9 rfl; have qg10 := box_at (v := .bool true) hcg 10 rfl
              clear hcg hca hc2
              go_wp2_with fail
              ((try simp only [Exit.inBlock, Exit.then]); first | (refine bodyPost_ret (results_tmp rfl _ _ _) rfl ?_) | (refine bodyPost_ret (results_none rfl _ _ _) rfl ?_) | go_ret2 | go_ret3 | (refine bodyPost_ret (by simp [results, Tryd.results12, go_sem]; try rfl) rfl ?_))
              exact ⟨ret_bool HE.out.symm, by (repeat (first | exact Below.refl _ _ | exact below_box _ _ | refine Below.stepBox ?_ _ | refine Below.stepDrew ?_ | refine Below.stepDrewN ?_ _ | refine Below.step (by assumption) ?_))⟩
            | true =>
              rw [ha] at HG
              have HG' := Lib.hid HG; clear HG
              have HE : Hid (fullOk b s c r c' r' f' g' true = true) := by show fullOk b s c r c' r' f' g' true = _; unfold fullOk; simp [es, eb, ns, nb, ha]
              go_enter Tryd.func12, Tryd.ntmps12
              go_wp2_with fail
              refine (HS'.out _).mono ?_; rintro e w1 ⟨rfl, hb1⟩
              have hc1 := hb1
              have q1_0 := box_at (v := .string b) hc1 0 rfl; have q1_1 := box_at (v := .string s) hc1 1 rfl; have q1_2 := box_at (v := .int .i64 c) hc1 2 rfl; have q1_3 := box_at (v := .int .i64 r) hc1 3 rfl; have q1_4 := box_at (v := .bool f) hc1 4 rfl; have q1_5 := box_at (v := .bool g) hc1 5 rfl; have q1_6 := box_at (v := .int .i64 c') hc1 6 rfl; have q1_7 := box_at (v := .int .i64 r') hc1 7 rfl; have q1_8 := box_at (v := .bool f') hc1 8 rfl; have q1_9 := box_at (v := .bool g') hc1 9 rfl; have q1_10 := box_at (v := .bool true) hc1 10 rfl
              go_wp2_with fail
              refine (HB'.out _).mono ?_; rintro e w2 ⟨rfl, hb2⟩
              have hc2 := hc1.trans (hb2.mono hc1.size)
              have q2_0 := box_at (v := .string b) hc2 0 rfl; have q2_1 := box_at (v := .string s) hc2 1 rfl; have q2_2 := box_at (v := .int .i64 c) hc2 2 rfl; have q2_3 := box_at (v := .int .i64 r) hc2 3 rfl; have q2_4 := box_at (v := .bool f) hc2 4 rfl; have q2_5 := box_at (v := .bool g) hc2 5 rfl; have q2_6 := box_at (v := .int .i64 c') hc2 6 rfl; have q2_7 := box_at (v := .int .i64 r') hc2 7 rfl; have q2_8 := box_at (v := .bool f') hc2 8 rfl; have q2_9 := box_at (v := .bool g') hc2 9 rfl; have q2_10 := box_at (v := .bool true) hc2 10 rfl
              clear hc1
              go_wp2_with fail
              refine (HA'.out _).mono ?_; rintro e wa ⟨rfl, hba⟩
              have hca := hc2.trans (hba.mono hc2.size)
              have qa0 := box_at (v := .string b) hca 0 rfl; have qa1 := box_at (v := .string s) hca 1 rfl; have qa2 := box_at (v := .int .i64 c) hca 2 rfl; have qa3 := box_at (v := .int .i64 r) hca 3 rfl; have qa4 := box_at (v := .bool f) hca 4 rfl; have qa5 := box_at (v := .bool g) hca 5 rfl; have qa6 := box_at (v := .int .i64 c') hca 6 rfl; have qa7 := box_at (v := .int .i64 r') hca 7 rfl; have qa8 := box_at (v := .bool f') hca 8 rfl; have qa9 := box_at (v := .bool g') hca 9 rfl; have qa10 := box_at (v := .bool true) hca 10 rfl
              go_wp2_with fail
              refine (HG'.out _).mono ?_; rintro e wg ⟨rfl, hbg⟩
              have hcg := hca.trans (hbg.mono hca.size)
              have qg0 := box_at (v := .string b) hcg 0 rfl; have qg1 := box_at (v := .string s) hcg 1 rfl; have qg2 := box_at (v := .int .i64 c) hcg 2 rfl; have qg3 := box_at (v := .int .i64 r) hcg 3 rfl; have qg4 := box_at (v := .bool f) hcg 4 rfl; have qg5 := box_at (v := .bool g) hcg 5 rfl; have qg6 := box_at (v := .int .i64 c') hcg 6 rfl; have qg7 := box_at (v := .int .i64 r') hcg 7 rfl; have qg8 := box_at (v := .bool f') hcg 8 rfl; have qg9 := box_at (v := .bool g') hcg 9 rfl; have qg10 := box_at (v := .bool true) hcg 10 rfl
              clear hcg hca hc2
              go_wp2_with fail
              ((try simp only [Exit.inBlock, Exit.then]); first | (refine bodyPost_ret (results_tmp rfl _ _ _) rfl ?_) | (refine bodyPost_ret (results_none rfl _ _ _) rfl ?_) | go_ret2 | go_ret3 | (refine bodyPost_ret (by simp [results, Tryd.results12, go_sem]; try rfl) rfl ?_))
              exact ⟨ret_bool HE.out.symm, by (repeat (first | exact Below.refl _ _ | exact below_box _ _ | refine Below.stepBox ?_ _ | refine Below.stepDrew ?_ | refine Below.stepDrewN ?_ _ | refine Below.step (by assumption) ?_))⟩
          | false =>
            have HG := fun w => Area_Good c r c r w
            have HA' : Hid (∀ w, Calls Tryd.prog 37 #[fullV b s c r f g c' r' f' g' false] w (RetPost w (areaV c r c r))) := HA
            clear HA
            cases ha : areaOk c r c r with
            | false =>
              rw [ha] at HG
              have HG' := Lib.hid HG; clear HG
              have HE : Hid (fullOk b s c r c' r' f' g' false = false) := by show fullOk b s c r c' r' f' g' false = _; unfold fullOk; simp [es, eb, ns, nb, ha]
              go_enter Tryd.func12, Tryd.ntmps12
              go_wp2_with fail
              refine (HS'.out _).mono ?_; rintro e w1 ⟨rfl, hb1⟩
              have hc1 := hb1
              have q1_0 := box_at (v := .string b) hc1 0 rfl; have q1_1 := box_at (v := .string s) hc1 1 rfl; have q1_2 := box_at (v := .int .i64 c) hc1 2 rfl; have q1_3 := box_at (v := .int .i64 r) hc1 3 rfl; have q1_4 := box_at (v := .bool f) hc1 4 rfl; have q1_5 := box_at (v := .bool g) hc1 5 rfl; have q1_6 := box_at (v := .int .i64 c') hc1 6 rfl; have q1_7 := box_at (v := .int .i64 r') hc1 7 rfl; have q1_8 := box_at (v := .bool f') hc1 8 rfl; have q1_9 := box_at (v := .bool g') hc1 9 rfl; have q1_10 := box_at (v := .bool false) hc1 10 rfl
              go_wp2_with fail
              refine (HB'.out _).mono ?_; rintro e w2 ⟨rfl, hb2⟩
              have hc2 := hc1.trans (hb2.mono hc1.size)
              have q2_0 := box_at (v := .string b) hc2 0 rfl; have q2_1 := box_at (v := .string s) hc2 1 rfl; have q2_2 := box_at (v := .int .i64 c) hc2 2 rfl; have q2_3 := box_at (v := .int .i64 r) hc2 3 rfl; have q2_4 := box_at (v := .bool f) hc2 4 rfl; have q2_5 := box_at (v := .bool g) hc2 5 rfl; have q2_6 := box_at (v := .int .i64 c') hc2 6 rfl; have q2_7 := box_at (v := .int .i64 r') hc2 7 rfl; have q2_8 := box_at (v := .bool f') hc2 8 rfl; have q2_9 := box_at (v := .bool g') hc2 9 rfl; have q2_10 := box_at (v := .bool false) hc2 10 rfl
              clear hc1
              go_wp2_with fail
              refine (HA'.out _).mono ?_; rintro e wa ⟨rfl, hba⟩
              have hca := hc2.trans (hba.mono hc2.size)
              have qa0 := box_at (v := .string b) hca 0 rfl; have qa1 := box_at (v := .string s) hca 1 rfl; have qa2 := box_at (v := .int .i64 c) hca 2 rfl; have qa3 := box_at (v := .int .i64 r) hca 3 rfl; have qa4 := box_at (v := .bool f) hca 4 rfl; have qa5 := box_at (v := .bool g) hca 5 rfl; have qa6 := box_at (v := .int .i64 c') hca 6 rfl; have qa7 := box_at (v := .int .i64 r') hca 7 rfl; have qa8 := box_at (v := .bool f') hca 8 rfl; have qa9 := box_at (v := .bool g') hca 9 rfl; have qa10 := box_at (v := .bool false) hca 10 rfl
              go_wp2_with fail
              refine (HG'.out _).mono ?_; rintro e wg ⟨rfl, hbg⟩
              have hcg := hca.trans (hbg.mono hca.size)
              have qg0 := box_at (v := .string b) hcg 0 rfl; have qg1 := box_at (v := .string s) hcg 1 rfl; have qg2 := box_at (v := .int .i64 c) hcg 2 rfl; have qg3 := box_at (v := .int .i64 r) hcg 3 rfl; have qg4 := box_at (v := .bool f) hcg 4 rfl; have qg5 := box_at (v := .bool g) hcg 5 rfl; have qg6 := box_at (v := .int .i64 c') hcg 6 rfl; have qg7 := box_at (v := .int .i64 r') hcg 7 rfl; have qg8 := box_at (v := .bool f') hcg 8 rfl; have qg9 := box_at (v := .bool g') hcg 9 rfl; have qg10 := box_at (v := .bool false) hcg 10 rfl
              clear hcg hca hc2
              go_wp2_with fail
              ((try simp only [Exit.inBlock, Exit.then]); first | (refine bodyPost_ret (results_tmp rfl _ _ _) rfl ?_) | (refine bodyPost_ret (results_none rfl _ _ _) rfl ?_) | go_ret2 | go_ret3 | (refine bodyPost_ret (by simp [results, Tryd.results12, go_sem]; try rfl) rfl ?_))
              exact ⟨ret_bool HE.out.symm, by (repeat (first | exact Below.refl _ _ | exact below_box _ _ | refine Below.stepBox ?_ _ | refine Below.stepDrew ?_ | refine Below.stepDrewN ?_ _ | refine Below.step (by assumption) ?_))⟩
            | true =>
              rw [ha] at HG
              have HG' := Lib.hid HG; clear HG
              have HE : Hid (fullOk b s c r c' r' f' g' false = (c' == 0 && r' == 0 && !f' && !g')) := by show fullOk b s c r c' r' f' g' false = _; unfold fullOk; simp [es, eb, ns, nb, ha]
              go_enter Tryd.func12, Tryd.ntmps12
              go_wp2_with fail
              refine (HS'.out _).mono ?_; rintro e w1 ⟨rfl, hb1⟩
              have hc1 := hb1
              have q1_0 := box_at (v := .string b) hc1 0 rfl; have q1_1 := box_at (v := .string s) hc1 1 rfl; have q1_2 := box_at (v := .int .i64 c) hc1 2 rfl; have q1_3 := box_at (v := .int .i64 r) hc1 3 rfl; have q1_4 := box_at (v := .bool f) hc1 4 rfl; have q1_5 := box_at (v := .bool g) hc1 5 rfl; have q1_6 := box_at (v := .int .i64 c') hc1 6 rfl; have q1_7 := box_at (v := .int .i64 r') hc1 7 rfl; have q1_8 := box_at (v := .bool f') hc1 8 rfl; have q1_9 := box_at (v := .bool g') hc1 9 rfl; have q1_10 := box_at (v := .bool false) hc1 10 rfl
              go_wp2_with fail
              refine (HB'.out _).mono ?_; rintro e w2 ⟨rfl, hb2⟩
              have hc2 := hc1.trans (hb2.mono hc1.size)
              have q2_0 := box_at (v := .string b) hc2 0 rfl; have q2_1 := box_at (v := .string s) hc2 1 rfl; have q2_2 := box_at (v := .int .i64 c) hc2 2 rfl; have q2_3 := box_at (v := .int .i64 r) hc2 3 rfl; have q2_4 := box_at (v := .bool f) hc2 4 rfl; have q2_5 := box_at (v := .bool g) hc2 5 rfl; have q2_6 := box_at (v := .int .i64 c') hc2 6 rfl; have q2_7 := box_at (v := .int .i64 r') hc2 7 rfl; have q2_8 := box_at (v := .bool f') hc2 8 rfl; have q2_9 := box_at (v := .bool g') hc2 9 rfl; have q2_10 := box_at (v := .bool false) hc2 10 rfl
              clear hc1
              go_wp2_with fail
              refine (HA'.out _).mono ?_; rintro e wa ⟨rfl, hba⟩
              have hca := hc2.trans (hba.mono hc2.size)
              have qa0 := box_at (v := .string b) hca 0 rfl; have qa1 := box_at (v := .string s) hca 1 rfl; have qa2 := box_at (v := .int .i64 c) hca 2 rfl; have qa3 := box_at (v := .int .i64 r) hca 3 rfl; have qa4 := box_at (v := .bool f) hca 4 rfl; have qa5 := box_at (v := .bool g) hca 5 rfl; have qa6 := box_at (v := .int .i64 c') hca 6 rfl; have qa7 := box_at (v := .int .i64 r') hca 7 rfl; have qa8 := box_at (v := .bool f') hca 8 rfl; have qa9 := box_at (v := .bool g') hca 9 rfl; have qa10 := box_at (v := .bool false) hca 10 rfl
              go_wp2_with fail
              refine (HG'.out _).mono ?_; rintro e wg ⟨rfl, hbg⟩
              have hcg := hca.trans (hbg.mono hca.size)
              have qg0 := box_at (v := .string b) hcg 0 rfl; have qg1 := box_at (v := .string s) hcg 1 rfl; have qg2 := box_at (v := .int .i64 c) hcg 2 rfl; have qg3 := box_at (v := .int .i64 r) hcg 3 rfl; have qg4 := box_at (v := .bool f) hcg 4 rfl; have qg5 := box_at (v := .bool g) hcg 5 rfl; have qg6 := box_at (v := .int .i64 c') hcg 6 rfl; have qg7 := box_at (v := .int .i64 r') hcg 7 rfl; have qg8 := box_at (v := .bool f') hcg 8 rfl; have qg9 := box_at (v := .bool g') hcg 9 rfl; have qg10 := box_at (v := .bool false) hcg 10 rfl
              clear hcg hca hc2
              go_wp2_with fail
              all_goals (((try simp only [Exit.inBlock, Exit.then]); first | (refine bodyPost_ret (results_tmp rfl _ _ _) rfl ?_) | (refine bodyPost_ret (results_none rfl _ _ _) rfl ?_) | go_ret2 | go_ret3 | (refine bodyPost_ret (by simp [results, Tryd.results12, go_sem]; try rfl) rfl ?_)); exact ⟨ret_bool (by rw [HE.out]; simp [*]), by (repeat (first | exact Below.refl _ _ | exact below_box _ _ | refine Below.stepBox ?_ _ | refine Below.stepDrew ?_ | refine Below.stepDrewN ?_ _ | refine Below.step (by assumption) ?_))⟩)
end Go.Proofs.YtpljbpndooilgaaDoor

