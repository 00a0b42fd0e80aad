/- Contracts of functions that the law comes to, written by a program (wip/hp of the repo) out of the translation; Lean checks them. -/
import Derived.Test.YtpljbpndooilgaaDoorPAddrReadsx0
import Derived.Test.YtpljbpndooilgaaDoorPAddrReadsx1
import Derived.Test.YtpljbpndooilgaaDoorPAddrReadsx2
namespace Go.Proofs.YtpljbpndooilgaaDoor.PAddrReads
open Go.RowKit Go.Proofs.YtpljbpndooilgaaDoorW.PrintWords Go.Proofs.YtpljbpndooilgaaDoorW.PrintLast Go.Proofs.YtpljbpndooilgaaDoorW.PrintMore
attribute [local go_sem] max2_int min2_int max_two min_two max_three min_three max_four min_four   -- for this text's walks alone
set_option linter.unusedVariables false
set_option linter.unusedSimpArgs false

/-! ### latticeref04_ParseRef: function 24 -/
def latticeref04_ParseRef.f (k : Nat) (a0 : ByteArray) : Option (Int × Int × Bool × Bool × Int) := (latticeref04_Ref1.f k a0).bind fun bt107 => (if bt107.2.2.2.2 = true then ((latticeref04_Cell.f bt107.1 bt107.2.1).bind fun t113 => (if t113 = true then (some (bt107.1, bt107.2.1, bt107.2.2.1, bt107.2.2.2.1, 0)) else (some (0, 0, false, false, 3)))) else (some (0, 0, false, false, 4)))
theorem latticeref04_ParseRef.mono : ∀ a0 k, LeO (latticeref04_ParseRef.f k a0) (latticeref04_ParseRef.f (k + 1) a0) := by
  intro a0 k
  unfold latticeref04_ParseRef.f
  repeat' first
      | (with_reducible exact latticeref04_Ref1.mono _ _)
      | (with_reducible exact LeO.refl _)
      | (with_reducible exact LeO.none _)
      | (with_reducible refine LeO.ite ?_ ?_)
      | (with_reducible refine LeO.bind ?_ (fun _ => ?_))
      | exact latticeref04_Ref1.mono _ _
      | exact LeO.none _
      | refine LeO.ite ?_ ?_
      | refine LeO.bind ?_ (fun _ => ?_)
set_option maxHeartbeats 8000000 in
set_option maxRecDepth 100000 in
theorem latticeref04_ParseRef.calls (k : Nat) (a0 : ByteArray) (r1 : Int) (r2 : Int) (r3 : Bool) (r4 : Bool) (r5 : Int) (w : World) (h : latticeref04_ParseRef.f k a0 = some (r1, r2, r3, r4, r5)) :
    Calls Tryd.prog 24 #[.string a0] w fun e w' => e = .returned (.tuple #[.agg #[.int .i64 r1, .int .i64 r2, .bool r3, .bool r4], .int .i64 r5]) ∧ Below w.heap.size w w' := by
  have hu33 := Tryd.underlying33
  have HB := aM (Below.refl w.heap.size w)
  have H : ((latticeref04_Ref1.f k a0).bind fun bt107 => (if bt107.2.2.2.2 = true then ((latticeref04_Cell.f bt107.1 bt107.2.1).bind fun t113 => (if t113 = true then (some (bt107.1, bt107.2.1, bt107.2.2.1, bt107.2.2.2.1, 0)) else (some (0, 0, false, false, 3)))) else (some (0, 0, false, false, 4)))) = some (r1, r2, r3, r4, r5) := h
  clear h
  replace H := Option.bind_eq_some_iff.mp H
  obtain ⟨⟨t107, t108, t109, t110, t111⟩, A20, H⟩ := H
  replace H : (if t111 = true then ((latticeref04_Cell.f t107 t108).bind fun t113 => (if t113 = true then (some (t107, t108, t109, t110, 0)) else (some (0, 0, false, false, 3)))) else (some (0, 0, false, false, 4))) = some (r1, r2, r3, r4, r5) := H
  have A2 := aM A20; clear A20
  by_cases c3 : t111 = true
  · subst c3
    have H1 : ((latticeref04_Cell.f t107 t108).bind fun t113 => (if t113 = true then (some (t107, t108, t109, t110, 0)) else (some (0, 0, false, false, 3)))) = some (r1, r2, r3, r4, r5) := by rw [if_pos rfl] at H; exact H
    clear H; have H := H1; clear H1
    replace H := Option.bind_eq_some_iff.mp H
    obtain ⟨t113, A40, H⟩ := H
    replace H : (if t113 = true then (some (t107, t108, t109, t110, 0)) else (some (0, 0, false, false, 3))) = some (r1, r2, r3, r4, r5) := H
    have A4 := aM A40; clear A40
    by_cases c5 : t113 = true
    · subst c5
      have H1 : (some (t107, t108, t109, t110, 0)) = some (r1, r2, r3, r4, r5) := by rw [if_pos rfl] at H; exact H
      clear H; have H := H1; clear H1
      simp only [Option.some.injEq, Prod.mk.injEq] at H
      obtain ⟨rfl, rfl, rfl, rfl, rfl⟩ := H
      go_enter Tryd.func24, Tryd.ntmps24
      go_wp2_with (first | ((with_reducible refine gate_dst (N := 2) rfl ?_); refine box_event ?hg (N := 2) ?hd (cs := #[.int .i64 0, .int .i64 0, .bool false, .bool false]) (t := 33) ?hr ?_; (case hd => rfl); (case hg => rfl); (case hr => go_simp; try rfl); intro gb106 hg w6 hbox hb; have n0_ := aM (below_step hbA hb); have n1_ := aM (hbox); have n2_ := szA hg; have n3_ := szA hg; clear HB; have HB := n0_; have BK106 := n1_; have GW106 := n2_; have GE106 := n3_; clear n0_ n1_ n2_ n3_; clear hb hbox hg) | ((with_reducible refine gate_callee (f := 47) rfl ?_); refine goesL_ (some 8) rfl rfl Tryd.func47 (by kernel_rfl) rfl #[.string a0] rfl rfA ?_; (with_reducible refine (latticeref04_Ref1.calls k a0 t107 t108 t109 t110 true _ A2.out).mono ?_); rintro e w7 ⟨rfl, hb⟩; refine ⟨_, rfl, ?_⟩; have n0_ := aM (bbA BK106 hb); have n1_ := aM (below_step hbA hb); clear BK106; clear HB; have BK106 := n0_; have HB := n1_; clear n0_ n1_; (try clear hb); (try clear hb2); (try clear hk); (try clear hi)) | ((with_reducible refine gate_dst (N := 4) rfl ?_); refine box_event ?hg (N := 4) ?hd (cs := #[.int .i64 0, .int .i64 0, .bool false, .bool false]) (t := 33) ?hr ?_; (case hd => rfl); (case hg => rfl); (case hr => go_simp; try rfl); intro gb112 hg w8 hbox hb; have n0_ := aM (bbA BK106 hb); have n1_ := aM (below_step hbA hb); have n2_ := aM (hbox); have n3_ := szA hg; have n4_ := szA hg; have n5_ := neA BK106 hg; have n6_ := neB BK106 hg; clear BK106; clear HB; have BK106 := n0_; have HB := n1_; have BK112 := n2_; have GW112 := n3_; have GE112 := n4_; have NB106_112 := n5_; have NB112_106 := n6_; clear n0_ n1_ n2_ n3_ n4_ n5_ n6_; clear hb hbox hg; have hnb9 := NB112_106.out; have hnc9 := NB106_112.out; have hcz10_0 := hzA BK112 0; have hcz10_1 := hzA BK112 1; have hcz10_2 := hzA BK112 2; have hcz10_3 := hzA BK112 3; have hfz10_0 := fzA BK112 0; have hfz10_1 := fzA BK112 1; have hfz10_2 := fzA BK112 2; have hfz10_3 := fzA BK112 3) | ((with_reducible refine gate_callee (f := 19) rfl ?_); refine goesL_ (some 18) rfl rfl Tryd.func19 (by kernel_rfl) rfl #[.int .i64 t107, .int .i64 t108] rfl rfA ?_; (with_reducible refine (latticeref04_Cell.calls t107 t108 true _ A4.out).mono ?_); rintro e w' ⟨rfl, ⟨nd, rfl⟩⟩; refine ⟨_, rfl, ?_⟩; have hcz11_0 := hzA BK106 0; have hcz11_1 := hzA BK106 1; have hcz11_2 := hzA BK106 2; have hcz11_3 := hzA BK106 3; have hfz11_0 := fzA BK106 0; have hfz11_1 := fzA BK106 1; have hfz11_2 := fzA BK106 2; have hfz11_3 := fzA BK106 3))
      refine bodyPost_ret (results_ct rfl _ _ gb106 33 #[.int .i64 t107, .int .i64 t108, .bool t109, .bool t110] (0, 0) _ rfl (by (with_reducible repeat (first | apply bN | apply bD | apply bA)); refine blk_put (cs := #[.int .i64 t107, .int .i64 t108, .bool t109, .bool false]) ?_ 3 _ rfl; (with_reducible repeat (first | apply bN | apply bD | apply bA)); refine blk_put (cs := #[.int .i64 t107, .int .i64 t108, .bool false, .bool false]) ?_ 2 _ rfl; (with_reducible repeat (first | apply bN | apply bD | apply bA)); refine blk_put (cs := #[.int .i64 t107, .int .i64 0, .bool false, .bool false]) ?_ 1 _ rfl; (with_reducible repeat (first | apply bN | apply bD | apply bA)); refine blk_put (cs := #[.int .i64 0, .int .i64 0, .bool false, .bool false]) ?_ 0 _ rfl; (with_reducible repeat (first | apply bN | apply bD | apply bA)); refine blk_far ?_ NB106_112.out _; (with_reducible repeat (first | apply bN | apply bD | apply bA)); refine blk_far ?_ NB106_112.out _; (with_reducible repeat (first | apply bN | apply bD | apply bA)); refine blk_far ?_ NB106_112.out _; (with_reducible repeat (first | apply bN | apply bD | apply bA)); refine blk_far ?_ NB106_112.out _; (with_reducible repeat (first | apply bN | apply bD | apply bA)); exact BK106.out) Tryd.underlying33 rfl (by kernel_rfl)) rfl ?_
      exact ⟨by first | rfl | (simp [errW_none, errW_some] <;> rfl) | (simp [*, errW_none, errW_some] <;> rfl), hbA⟩
    · replace c5 := Bool.eq_false_iff.mpr c5
      subst c5
      have H1 : (some (0, 0, false, false, 3)) = some (r1, r2, r3, r4, r5) := by rw [if_neg (show ¬ (false = true) by decide)] at H; exact H
      clear H; have H := H1; clear H1
      simp only [Option.some.injEq, Prod.mk.injEq] at H
      obtain ⟨rfl, rfl, rfl, rfl, rfl⟩ := H
      go_enter Tryd.func24, Tryd.ntmps24
      go_wp2_with (first | ((with_reducible refine gate_dst (N := 2) rfl ?_); refine box_event ?hg (N := 2) ?hd (cs := #[.int .i64 0, .int .i64 0, .bool false, .bool false]) (t := 33) ?hr ?_; (case hd => rfl); (case hg => rfl); (case hr => go_simp; try rfl); intro gb106 hg w12 hbox hb; have n0_ := aM (below_step hbA hb); have n1_ := aM (hbox); have n2_ := szA hg; have n3_ := szA hg; clear HB; have HB := n0_; have BK106 := n1_; have GW106 := n2_; have GE106 := n3_; clear n0_ n1_ n2_ n3_; clear hb hbox hg) | ((with_reducible refine gate_callee (f := 47) rfl ?_); refine goesL_ (some 8) rfl rfl Tryd.func47 (by kernel_rfl) rfl #[.string a0] rfl rfA ?_; (with_reducible refine (latticeref04_Ref1.calls k a0 t107 t108 t109 t110 true _ A2.out).mono ?_); rintro e w13 ⟨rfl, hb⟩; refine ⟨_, rfl, ?_⟩; have n0_ := aM (bbA BK106 hb); have n1_ := aM (below_step hbA hb); clear BK106; clear HB; have BK106 := n0_; have HB := n1_; clear n0_ n1_; (try clear hb); (try clear hb2); (try clear hk); (try clear hi)) | ((with_reducible refine gate_dst (N := 4) rfl ?_); refine box_event ?hg (N := 4) ?hd (cs := #[.int .i64 0, .int .i64 0, .bool false, .bool false]) (t := 33) ?hr ?_; (case hd => rfl); (case hg => rfl); (case hr => go_simp; try rfl); intro gb112 hg w14 hbox hb; have n0_ := aM (bbA BK106 hb); have n1_ := aM (below_step hbA hb); have n2_ := aM (hbox); have n3_ := szA hg; have n4_ := szA hg; have n5_ := neA BK106 hg; have n6_ := neB BK106 hg; clear BK106; clear HB; have BK106 := n0_; have HB := n1_; have BK112 := n2_; have GW112 := n3_; have GE112 := n4_; have NB106_112 := n5_; have NB112_106 := n6_; clear n0_ n1_ n2_ n3_ n4_ n5_ n6_; clear hb hbox hg; have hnb15 := NB112_106.out; have hnc15 := NB106_112.out; have hcz16_0 := hzA BK112 0; have hcz16_1 := hzA BK112 1; have hcz16_2 := hzA BK112 2; have hcz16_3 := hzA BK112 3; have hfz16_0 := fzA BK112 0; have hfz16_1 := fzA BK112 1; have hfz16_2 := fzA BK112 2; have hfz16_3 := fzA BK112 3) | ((with_reducible refine gate_callee (f := 19) rfl ?_); refine goesL_ (some 18) rfl rfl Tryd.func19 (by kernel_rfl) rfl #[.int .i64 t107, .int .i64 t108] rfl rfA ?_; (with_reducible refine (latticeref04_Cell.calls t107 t108 false _ A4.out).mono ?_); rintro e w' ⟨rfl, ⟨nd, rfl⟩⟩; refine ⟨_, rfl, ?_⟩; have hcz17_0 := hzA BK106 0; have hcz17_1 := hzA BK106 1; have hcz17_2 := hzA BK106 2; have hcz17_3 := hzA BK106 3; have hfz17_0 := fzA BK106 0; have hfz17_1 := fzA BK106 1; have hfz17_2 := fzA BK106 2; have hfz17_3 := fzA BK106 3))
      refine bodyPost_ret (results_ct rfl _ _ gb106 33 #[.int .i64 0, .int .i64 0, .bool false, .bool false] (0, 0) _ rfl (by (with_reducible repeat (first | apply bN | apply bD | apply bA)); refine blk_put (cs := #[.int .i64 0, .int .i64 0, .bool false, .bool false]) ?_ 3 _ rfl; (with_reducible repeat (first | apply bN | apply bD | apply bA)); refine blk_put (cs := #[.int .i64 0, .int .i64 0, .bool false, .bool false]) ?_ 2 _ rfl; (with_reducible repeat (first | apply bN | apply bD | apply bA)); refine blk_put (cs := #[.int .i64 0, .int .i64 0, .bool false, .bool false]) ?_ 1 _ rfl; (with_reducible repeat (first | apply bN | apply bD | apply bA)); refine blk_put (cs := #[.int .i64 0, .int .i64 0, .bool false, .bool false]) ?_ 0 _ rfl; (with_reducible repeat (first | apply bN | apply bD | apply bA)); refine blk_far ?_ NB106_112.out _; (with_reducible repeat (first | apply bN | apply bD | apply bA)); refine blk_far ?_ NB106_112.out _; (with_reducible repeat (first | apply bN | apply bD | apply bA)); refine blk_far ?_ NB106_112.out _; (with_reducible repeat (first | apply bN | apply bD | apply bA)); refine blk_far ?_ NB106_112.out _; (with_reducible repeat (first | apply bN | apply bD | apply bA)); exact BK106.out) Tryd.underlying33 rfl (by kernel_rfl)) rfl ?_
      exact ⟨by first | rfl | (simp [errW_none, errW_some] <;> rfl) | (simp [*, errW_none, errW_some] <;> rfl), hbA⟩
  · replace c3 := Bool.eq_false_iff.mpr c3
    subst c3
    have H1 : (some (0, 0, false, false, 4)) = some (r1, r2, r3, r4, r5) := by rw [if_neg (show ¬ (false = true) by decide)] at H; exact H
    clear H; have H := H1; clear H1
    simp only [Option.some.injEq, Prod.mk.injEq] at H
    obtain ⟨rfl, rfl, rfl, rfl, rfl⟩ := H
    go_enter Tryd.func24, Tryd.ntmps24
    go_wp2_with (first | ((with_reducible refine gate_dst (N := 2) rfl ?_); refine box_event ?hg (N := 2) ?hd (cs := #[.int .i64 0, .int .i64 0, .bool false, .bool false]) (t := 33) ?hr ?_; (case hd => rfl); (case hg => rfl); (case hr => go_simp; try rfl); intro gb106 hg w18 hbox hb; have n0_ := aM (below_step hbA hb); have n1_ := aM (hbox); have n2_ := szA hg; have n3_ := szA hg; clear HB; have HB := n0_; have BK106 := n1_; have GW106 := n2_; have GE106 := n3_; clear n0_ n1_ n2_ n3_; clear hb hbox hg) | ((with_reducible refine gate_callee (f := 47) rfl ?_); refine goesL_ (some 8) rfl rfl Tryd.func47 (by kernel_rfl) rfl #[.string a0] rfl rfA ?_; (with_reducible refine (latticeref04_Ref1.calls k a0 t107 t108 t109 t110 false _ A2.out).mono ?_); rintro e w19 ⟨rfl, hb⟩; refine ⟨_, rfl, ?_⟩; have n0_ := aM (bbA BK106 hb); have n1_ := aM (below_step hbA hb); clear BK106; clear HB; have BK106 := n0_; have HB := n1_; clear n0_ n1_; (try clear hb); (try clear hb2); (try clear hk); (try clear hi)) | ((with_reducible refine gate_dst (N := 4) rfl ?_); refine box_event ?hg (N := 4) ?hd (cs := #[.int .i64 0, .int .i64 0, .bool false, .bool false]) (t := 33) ?hr ?_; (case hd => rfl); (case hg => rfl); (case hr => go_simp; try rfl); intro gb112 hg w20 hbox hb; have n0_ := aM (bbA BK106 hb); have n1_ := aM (below_step hbA hb); have n2_ := aM (hbox); have n3_ := szA hg; have n4_ := szA hg; have n5_ := neA BK106 hg; have n6_ := neB BK106 hg; clear BK106; clear HB; have BK106 := n0_; have HB := n1_; have BK112 := n2_; have GW112 := n3_; have GE112 := n4_; have NB106_112 := n5_; have NB112_106 := n6_; clear n0_ n1_ n2_ n3_ n4_ n5_ n6_; clear hb hbox hg; have hnb21 := NB112_106.out; have hnc21 := NB106_112.out; have hcz22_0 := hzA BK112 0; have hcz22_1 := hzA BK112 1; have hcz22_2 := hzA BK112 2; have hcz22_3 := hzA BK112 3; have hfz22_0 := fzA BK112 0; have hfz22_1 := fzA BK112 1; have hfz22_2 := fzA BK112 2; have hfz22_3 := fzA BK112 3; have hcz23_0 := hzA BK106 0; have hcz23_1 := hzA BK106 1; have hcz23_2 := hzA BK106 2; have hcz23_3 := hzA BK106 3; have hfz23_0 := fzA BK106 0; have hfz23_1 := fzA BK106 1; have hfz23_2 := fzA BK106 2; have hfz23_3 := fzA BK106 3))
    refine bodyPost_ret (results_ct rfl _ _ gb106 33 #[.int .i64 0, .int .i64 0, .bool false, .bool false] (0, 0) _ rfl (by (with_reducible repeat (first | apply bN | apply bD | apply bA)); refine blk_put (cs := #[.int .i64 0, .int .i64 0, .bool false, .bool false]) ?_ 3 _ rfl; (with_reducible repeat (first | apply bN | apply bD | apply bA)); refine blk_put (cs := #[.int .i64 0, .int .i64 0, .bool false, .bool false]) ?_ 2 _ rfl; (with_reducible repeat (first | apply bN | apply bD | apply bA)); refine blk_put (cs := #[.int .i64 0, .int .i64 0, .bool false, .bool false]) ?_ 1 _ rfl; (with_reducible repeat (first | apply bN | apply bD | apply bA)); refine blk_put (cs := #[.int .i64 0, .int .i64 0, .bool false, .bool false]) ?_ 0 _ rfl; (with_reducible repeat (first | apply bN | apply bD | apply bA)); refine blk_far ?_ NB106_112.out _; (with_reducible repeat (first | apply bN | apply bD | apply bA)); refine blk_far ?_ NB106_112.out _; (with_reducible repeat (first | apply bN | apply bD | apply bA)); refine blk_far ?_ NB106_112.out _; (with_reducible repeat (first | apply bN | apply bD | apply bA)); refine blk_far ?_ NB106_112.out _; (with_reducible repeat (first | apply bN | apply bD | apply bA)); exact BK106.out) Tryd.underlying33 rfl (by kernel_rfl)) rfl ?_
    exact ⟨by first | rfl | (simp [errW_none, errW_some] <;> rfl) | (simp [*, errW_none, errW_some] <;> rfl), hbA⟩

/-! ### stringslite_HasPrefix: function 75 -/
def stringslite_HasPrefix.f (a0 : ByteArray) (a1 : ByteArray) : Option (Bool) := if (a0.size : Int) ≥ (a1.size : Int) then (if 0 ≤ (a1.size : Int) then (if (a1.size : Int) ≤ (a0.size : Int) then (some ((a0.extract 0 ((a1.size : Int) : Int).toNat).toList == a1.toList)) else (none)) else (none)) else (some false)
set_option maxHeartbeats 8000000 in
set_option maxRecDepth 100000 in
theorem stringslite_HasPrefix.calls (a0 : ByteArray) (a1 : ByteArray) (r : Bool) (w : World) (h : stringslite_HasPrefix.f a0 a1 = some r) :
    Calls Tryd.prog 75 #[.string a0, .string a1] w fun e w' => e = .returned (.bool r) ∧ Drawn0 w w' := by
  have H : (if (a0.size : Int) ≥ (a1.size : Int) then (if 0 ≤ (a1.size : Int) then (if (a1.size : Int) ≤ (a0.size : Int) then (some ((a0.extract 0 ((a1.size : Int) : Int).toNat).toList == a1.toList)) else (none)) else (none)) else (some false)) = some r := h
  clear h
  by_cases c3 : (a0.size : Int) ≥ (a1.size : Int)
  · rw [if_pos c3] at H
    have c3b0 : decide ((a1.size : Int) ≤ (a0.size : Int)) = true := decide_eq_true c3
    have c3b1 : decide (a1.size ≤ a0.size) = true := decide_eq_true (Int.ofNat_le.mp c3)
    clear c3
    by_cases c4 : 0 ≤ (a1.size : Int)
    · rw [if_pos c4] at H
      have c4b0 := eq_true c4
      have c4b1 : decide (0 ≤ (a1.size : Int)) = true := decide_eq_true c4
      clear c4
      by_cases c5 : (a1.size : Int) ≤ (a0.size : Int)
      · rw [if_pos c5] at H
        have c5b0 := eq_true c5
        have c5b1 : decide ((a1.size : Int) ≤ (a0.size : Int)) = true := decide_eq_true c5
        clear c5
        obtain rfl := Option.some.inj H
        go_enter Tryd.func75, Tryd.ntmps75
        go_wp2
        go_ret
        exact ⟨by first | rfl | (simp; done) | (simp [*]; done), by repeat (first | exact Drawn0.refl _ | apply Drawn0.step)⟩
      · rw [if_neg c5] at H
        exact absurd H (by simp)
    · rw [if_neg c4] at H
      exact absurd H (by simp)
  · rw [if_neg c3] at H
    have c3b0 : decide ((a1.size : Int) ≤ (a0.size : Int)) = false := decide_eq_false c3
    have c3b1 : decide (a1.size ≤ a0.size) = false := decide_eq_false (fun h => c3 (Int.ofNat_le.mpr h))
    clear c3
    obtain rfl := Option.some.inj H
    go_enter Tryd.func75, Tryd.ntmps75
    go_wp2
    go_ret
    exact ⟨by first | rfl | (simp; done) | (simp [*]; done), by repeat (first | exact Drawn0.refl _ | apply Drawn0.step)⟩

/-! ### stringslite_CutPrefix: function 63 -/
def stringslite_CutPrefix.f (a0 : ByteArray) (a1 : ByteArray) : Option (ByteArray × Bool) := (stringslite_HasPrefix.f a0 a1).bind fun t114 => (if t114 = true then (if 0 ≤ (a1.size : Int) then (if (a1.size : Int) ≤ (a0.size : Int) then (some (a0.extract ((a1.size : Int) : Int).toNat a0.size, true)) else (none)) else (none)) else (some (a0, false)))
set_option maxHeartbeats 8000000 in
set_option maxRecDepth 100000 in
theorem stringslite_CutPrefix.calls (a0 : ByteArray) (a1 : ByteArray) (r1 : ByteArray) (r2 : Bool) (w : World) (h : stringslite_CutPrefix.f a0 a1 = some (r1, r2)) :
    Calls Tryd.prog 63 #[.string a0, .string a1] w fun e w' => e = .returned (.tuple #[.string r1, .bool r2]) ∧ Drawn0 w w' := by
  have H : ((stringslite_HasPrefix.f a0 a1).bind fun t114 => (if t114 = true then (if 0 ≤ (a1.size : Int) then (if (a1.size : Int) ≤ (a0.size : Int) then (some (a0.extract ((a1.size : Int) : Int).toNat a0.size, true)) else (none)) else (none)) else (some (a0, false)))) = some (r1, r2) := h
  clear h
  replace H := Option.bind_eq_some_iff.mp H
  obtain ⟨t114, A30, H⟩ := H
  replace H : (if t114 = true then (if 0 ≤ (a1.size : Int) then (if (a1.size : Int) ≤ (a0.size : Int) then (some (a0.extract ((a1.size : Int) : Int).toNat a0.size, true)) else (none)) else (none)) else (some (a0, false))) = some (r1, r2) := H
  have A3 := aM A30; clear A30
  by_cases c4 : t114 = true
  · subst c4
    have H1 : (if 0 ≤ (a1.size : Int) then (if (a1.size : Int) ≤ (a0.size : Int) then (some (a0.extract ((a1.size : Int) : Int).toNat a0.size, true)) else (none)) else (none)) = some (r1, r2) := by rw [if_pos rfl] at H; exact H
    clear H; have H := H1; clear H1
    by_cases c5 : 0 ≤ (a1.size : Int)
    · rw [if_pos c5] at H
      have c5b0 := eq_true c5
      have c5b1 : decide (0 ≤ (a1.size : Int)) = true := decide_eq_true c5
      clear c5
      by_cases c6 : (a1.size : Int) ≤ (a0.size : Int)
      · rw [if_pos c6] at H
        have c6b0 := eq_true c6
        have c6b1 : decide ((a1.size : Int) ≤ (a0.size : Int)) = true := decide_eq_true c6
        clear c6
        simp only [Option.some.injEq, Prod.mk.injEq] at H
        obtain ⟨rfl, rfl⟩ := H
        go_enter Tryd.func63, Tryd.ntmps63
        go_wp2_with (first | ((with_reducible refine gate_callee (f := 75) rfl ?_); refine goesL_ (some 8) rfl rfl Tryd.func75 (by kernel_rfl) rfl #[.string a0, .string a1] rfl rfA ?_; (with_reducible refine (stringslite_HasPrefix.calls a0 a1 true _ A3.out).mono ?_); rintro e w' ⟨rfl, ⟨nd, rfl⟩⟩; refine ⟨_, rfl, ?_⟩))
        go_ret2
        exact ⟨by first | rfl | (simp; done) | (simp [*]; done), by repeat (first | exact Drawn0.refl _ | apply Drawn0.step)⟩
      · rw [if_neg c6] at H
        exact absurd H (by simp)
    · rw [if_neg c5] at H
      exact absurd H (by simp)
  · replace c4 := Bool.eq_false_iff.mpr c4
    subst c4
    have H1 : (some (a0, false)) = some (r1, r2) := by rw [if_neg (show ¬ (false = true) by decide)] at H; exact H
    clear H; have H := H1; clear H1
    simp only [Option.some.injEq, Prod.mk.injEq] at H
    obtain ⟨rfl, rfl⟩ := H
    go_enter Tryd.func63, Tryd.ntmps63
    go_wp2_with (first | ((with_reducible refine gate_callee (f := 75) rfl ?_); refine goesL_ (some 8) rfl rfl Tryd.func75 (by kernel_rfl) rfl #[.string a0, .string a1] rfl rfA ?_; (with_reducible refine (stringslite_HasPrefix.calls a0 a1 false _ A3.out).mono ?_); rintro e w' ⟨rfl, ⟨nd, rfl⟩⟩; refine ⟨_, rfl, ?_⟩))
    go_ret2
    exact ⟨by first | rfl | (simp; done) | (simp [*]; done), by repeat (first | exact Drawn0.refl _ | apply Drawn0.step)⟩

/-! ### strings_CutPrefix: function 57 -/
def strings_CutPrefix.f (a0 : ByteArray) (a1 : ByteArray) : Option (ByteArray × Bool) := (stringslite_CutPrefix.f a0 a1).bind fun bt115 => (some (bt115.1, bt115.2))
set_option maxHeartbeats 8000000 in
set_option maxRecDepth 100000 in
theorem strings_CutPrefix.calls (a0 : ByteArray) (a1 : ByteArray) (r1 : ByteArray) (r2 : Bool) (w : World) (h : strings_CutPrefix.f a0 a1 = some (r1, r2)) :
    Calls Tryd.prog 57 #[.string a0, .string a1] w fun e w' => e = .returned (.tuple #[.string r1, .bool r2]) ∧ Drawn0 w w' := by
  have H : ((stringslite_CutPrefix.f a0 a1).bind fun bt115 => (some (bt115.1, bt115.2))) = some (r1, r2) := h
  clear h
  replace H := Option.bind_eq_some_iff.mp H
  obtain ⟨⟨t115, t116⟩, A30, H⟩ := H
  replace H : (some (t115, t116)) = some (r1, r2) := H
  have A3 := aM A30; clear A30
  simp only [Option.some.injEq, Prod.mk.injEq] at H
  obtain ⟨rfl, rfl⟩ := H
  go_enter Tryd.func57, Tryd.ntmps57
  go_wp2_with (first | ((with_reducible refine gate_callee (f := 63) rfl ?_); refine goesL_ (some 8) rfl rfl Tryd.func63 (by kernel_rfl) rfl #[.string a0, .string a1] rfl rfA ?_; (with_reducible refine (stringslite_CutPrefix.calls a0 a1 t115 t116 _ A3.out).mono ?_); rintro e w' ⟨rfl, ⟨nd, rfl⟩⟩; refine ⟨_, rfl, ?_⟩))
  go_ret2
  exact ⟨by first | rfl | (simp; done) | (simp [*]; done), by repeat (first | exact Drawn0.refl _ | apply Drawn0.step)⟩

/-! ### addr_where: function 48 -/
def addr_where.j0 : Nat → ByteArray → ByteArray → Option (ByteArray × ByteArray × ByteArray × Bool)
  | 0, _, _ => none
  | k + 1, x0, x2 => (gv_Cut.f x0 (⟨#[33]⟩ : ByteArray)).bind fun bt123 => (if bt123.2.2 = true then ((gv_Name.f bt123.1).bind fun t126 => (if t126 = true then (some (x2, bt123.1, bt123.2.1, true)) else (some ((⟨#[]⟩ : ByteArray), (⟨#[]⟩ : ByteArray), (⟨#[]⟩ : ByteArray), false)))) else (some ((⟨#[]⟩ : ByteArray), (⟨#[]⟩ : ByteArray), x0, (x2.toList == ([] : List UInt8)))))
def addr_where.f (k : Nat) (a0 : ByteArray) : Option (ByteArray × ByteArray × ByteArray × Bool) := (strings_CutPrefix.f a0 (⟨#[91]⟩ : ByteArray)).bind fun bt117 => (if bt117.2 = true then ((gv_Cut.f bt117.1 (⟨#[93]⟩ : ByteArray)).bind fun bt119 => (if bt119.2.2 = true then ((gv_Name.f bt119.1).bind fun t122 => (if t122 = true then (addr_where.j0 k bt119.2.1 bt119.1) else (some ((⟨#[]⟩ : ByteArray), (⟨#[]⟩ : ByteArray), (⟨#[]⟩ : ByteArray), false)))) else (some ((⟨#[]⟩ : ByteArray), (⟨#[]⟩ : ByteArray), (⟨#[]⟩ : ByteArray), false)))) else (addr_where.j0 k a0 (⟨#[]⟩ : ByteArray)))
theorem addr_where.mono_l : ∀ k, (∀ y0 y1, LeO (addr_where.j0 k y0 y1) (addr_where.j0 (k + 1) y0 y1))
  | 0 => fun _ _ r h => by simp [addr_where.j0] at h
  | k + 1 => by
    have ih0 := addr_where.mono_l k
    · intro y0 y1
      unfold addr_where.j0
      repeat' first
      | (with_reducible exact ih0 _ _)
      | (with_reducible exact LeO.refl _)
      | (with_reducible exact LeO.none _)
      | (with_reducible refine LeO.ite ?_ ?_)
      | (with_reducible refine LeO.bind ?_ (fun _ => ?_))
      | exact ih0 _ _
      | exact LeO.none _
      | refine LeO.ite ?_ ?_
      | refine LeO.bind ?_ (fun _ => ?_)
theorem addr_where.mono : ∀ a0 k, LeO (addr_where.f k a0) (addr_where.f (k + 1) a0) := by
  intro a0 k
  have ih0 := addr_where.mono_l k
  unfold addr_where.f
  repeat' first
      | (with_reducible exact ih0 _ _)
      | (with_reducible exact LeO.refl _)
      | (with_reducible exact LeO.none _)
      | (with_reducible refine LeO.ite ?_ ?_)
      | (with_reducible refine LeO.bind ?_ (fun _ => ?_))
      | exact ih0 _ _
      | exact LeO.none _
      | refine LeO.ite ?_ ?_
      | refine LeO.bind ?_ (fun _ => ?_)
set_option maxHeartbeats 8000000 in
set_option maxRecDepth 100000 in
theorem addr_where.calls (k : Nat) (a0 : ByteArray) (r1 : ByteArray) (r2 : ByteArray) (r3 : ByteArray) (r4 : Bool) (w : World) (h : addr_where.f k a0 = some (r1, r2, r3, r4)) :
    Calls Tryd.prog 48 #[.string a0] w fun e w' => e = .returned (.tuple #[.string r1, .string r2, .string r3, .bool r4]) ∧ Below w.heap.size w w' := by
  have HB := aM (Below.refl w.heap.size w)
  have H : ((strings_CutPrefix.f a0 (⟨#[91]⟩ : ByteArray)).bind fun bt117 => (if bt117.2 = true then ((gv_Cut.f bt117.1 (⟨#[93]⟩ : ByteArray)).bind fun bt119 => (if bt119.2.2 = true then ((gv_Name.f bt119.1).bind fun t122 => (if t122 = true then (addr_where.j0 k bt119.2.1 bt119.1) else (some ((⟨#[]⟩ : ByteArray), (⟨#[]⟩ : ByteArray), (⟨#[]⟩ : ByteArray), false)))) else (some ((⟨#[]⟩ : ByteArray), (⟨#[]⟩ : ByteArray), (⟨#[]⟩ : ByteArray), false)))) else (addr_where.j0 k a0 (⟨#[]⟩ : ByteArray)))) = some (r1, r2, r3, r4) := h
  clear h
  replace H := Option.bind_eq_some_iff.mp H
  obtain ⟨⟨t117, t118⟩, A20, H⟩ := H
  replace H : (if t118 = true then ((gv_Cut.f t117 (⟨#[93]⟩ : ByteArray)).bind fun bt119 => (if bt119.2.2 = true then ((gv_Name.f bt119.1).bind fun t122 => (if t122 = true then (addr_where.j0 k bt119.2.1 bt119.1) else (some ((⟨#[]⟩ : ByteArray), (⟨#[]⟩ : ByteArray), (⟨#[]⟩ : ByteArray), false)))) else (some ((⟨#[]⟩ : ByteArray), (⟨#[]⟩ : ByteArray), (⟨#[]⟩ : ByteArray), false)))) else (addr_where.j0 k a0 (⟨#[]⟩ : ByteArray))) = some (r1, r2, r3, r4) := H
  have A2 := aM A20; clear A20; have HC3 := aM H; clear H
  go_enter Tryd.func48, Tryd.ntmps48
  go_upto_if 13 with (first | ((with_reducible refine gate_callee (f := 57) rfl ?_); refine goesL_ (some 10) rfl rfl Tryd.func57 (by kernel_rfl) rfl #[.string a0, .string (⟨#[91]⟩ : ByteArray)] rfl rfA ?_; (with_reducible refine (strings_CutPrefix.calls a0 (⟨#[91]⟩ : ByteArray) t117 t118 _ A2.out).mono ?_); rintro e w' ⟨rfl, ⟨nd, rfl⟩⟩; refine ⟨_, rfl, ?_⟩))
  (try simp only [Act.put, List.setIfInBounds_toArray, List.set_cons_zero, List.set_cons_succ])
  go_cut [0, 2] (fun v0 v2 wc => ∃ (kq : Nat) (x0_2 : ByteArray) (x2_2 : ByteArray), v0 = .string x0_2 ∧ v2 = .string x2_2 ∧ Aside0 (addr_where.j0 kq x0_2 x2_2 = some (r1, r2, r3, r4)) ∧ Aside0 (kq ≤ k) ∧ Aside0 (Below w.heap.size w wc))
  case first =>
    have H := HC3.out; clear HC3
    by_cases c4 : t118 = true
    · subst c4
      have H1 : ((gv_Cut.f t117 (⟨#[93]⟩ : ByteArray)).bind fun bt119 => (if bt119.2.2 = true then ((gv_Name.f bt119.1).bind fun t122 => (if t122 = true then (addr_where.j0 k bt119.2.1 bt119.1) else (some ((⟨#[]⟩ : ByteArray), (⟨#[]⟩ : ByteArray), (⟨#[]⟩ : ByteArray), false)))) else (some ((⟨#[]⟩ : ByteArray), (⟨#[]⟩ : ByteArray), (⟨#[]⟩ : ByteArray), false)))) = some (r1, r2, r3, r4) := by rw [if_pos rfl] at H; exact H
      clear H; have H := H1; clear H1
      replace H := Option.bind_eq_some_iff.mp H
      obtain ⟨⟨t119, t120, t121⟩, A50, H⟩ := H
      replace H : (if t121 = true then ((gv_Name.f t119).bind fun t122 => (if t122 = true then (addr_where.j0 k t120 t119) else (some ((⟨#[]⟩ : ByteArray), (⟨#[]⟩ : ByteArray), (⟨#[]⟩ : ByteArray), false)))) else (some ((⟨#[]⟩ : ByteArray), (⟨#[]⟩ : ByteArray), (⟨#[]⟩ : ByteArray), false))) = some (r1, r2, r3, r4) := H
      have A5 := aM A50; clear A50
      by_cases c6 : t121 = true
      · subst c6
        have H1 : ((gv_Name.f t119).bind fun t122 => (if t122 = true then (addr_where.j0 k t120 t119) else (some ((⟨#[]⟩ : ByteArray), (⟨#[]⟩ : ByteArray), (⟨#[]⟩ : ByteArray), false)))) = some (r1, r2, r3, r4) := by rw [if_pos rfl] at H; exact H
        clear H; have H := H1; clear H1
        replace H := Option.bind_eq_some_iff.mp H
        obtain ⟨t122, A70, H⟩ := H
        replace H : (if t122 = true then (addr_where.j0 k t120 t119) else (some ((⟨#[]⟩ : ByteArray), (⟨#[]⟩ : ByteArray), (⟨#[]⟩ : ByteArray), false))) = some (r1, r2, r3, r4) := H
        have A7 := aM A70; clear A70
        by_cases c8 : t122 = true
        · subst c8
          have H1 : (addr_where.j0 k t120 t119) = some (r1, r2, r3, r4) := by rw [if_pos rfl] at H; exact H
          clear H; have H := H1; clear H1
          have H' := aM H
          clear H
          go_wp2_with (first | ((with_reducible refine gate_callee (f := 49) rfl ?_); refine goesL_ (some 16) rfl rfl Tryd.func49 (by kernel_rfl) rfl #[.string t117, .string (⟨#[93]⟩ : ByteArray)] rfl rfA ?_; (with_reducible refine (gv_Cut.calls t117 (⟨#[93]⟩ : ByteArray) t119 t120 true _ A5.out).mono ?_); rintro e w9 ⟨rfl, hb⟩; refine ⟨_, rfl, ?_⟩; have n0_ := aM (below_step hbA hb); clear HB; have HB := n0_; clear n0_; (try clear hb); (try clear hb2); (try clear hk); (try clear hi)) | (go_at_call 20; (with_reducible refine (gv_Name.calls t119 true _ A7.out).mono ?_); rintro e w10 ⟨rfl, hb⟩; have n0_ := aM (below_step hbA hb); clear HB; have HB := n0_; clear n0_; (try clear hb); (try clear hb2); (try clear hk); (try clear hi)))
          go_meet
          case rel => exact ⟨_, (t120), (t119), (by first | rfl | (unfold wrap64; rfl) | (simp; done) | (simp [*]; done)), (by first | rfl | (unfold wrap64; rfl) | (simp; done) | (simp [*]; done)), H', ⟨by first | omega | exact Nat.le_refl _⟩, ⟨hbA⟩⟩
        · replace c8 := Bool.eq_false_iff.mpr c8
          subst c8
          have H1 : (some ((⟨#[]⟩ : ByteArray), (⟨#[]⟩ : ByteArray), (⟨#[]⟩ : ByteArray), false)) = some (r1, r2, r3, r4) := by rw [if_neg (show ¬ (false = true) by decide)] at H; exact H
          clear H; have H := H1; clear H1
          simp only [Option.some.injEq, Prod.mk.injEq] at H
          obtain ⟨rfl, rfl, rfl, rfl⟩ := H
          go_wp2_with (first | ((with_reducible refine gate_callee (f := 49) rfl ?_); refine goesL_ (some 16) rfl rfl Tryd.func49 (by kernel_rfl) rfl #[.string t117, .string (⟨#[93]⟩ : ByteArray)] rfl rfA ?_; (with_reducible refine (gv_Cut.calls t117 (⟨#[93]⟩ : ByteArray) t119 t120 true _ A5.out).mono ?_); rintro e w11 ⟨rfl, hb⟩; refine ⟨_, rfl, ?_⟩; have n0_ := aM (below_step hbA hb); clear HB; have HB := n0_; clear n0_; (try clear hb); (try clear hb2); (try clear hk); (try clear hi)) | (go_at_call 20; (with_reducible refine (gv_Name.calls t119 false _ A7.out).mono ?_); rintro e w12 ⟨rfl, hb⟩; have n0_ := aM (below_step hbA hb); clear HB; have HB := n0_; clear n0_; (try clear hb); (try clear hb2); (try clear hk); (try clear hi)))
          refine bodyPost_ret (results_list (rs := [.tmp 2, .tmp 3, .tmp 4, .tmp 5]) rfl (by simp) (.tmp (.tmp (.tmp (.tmp .nil))))) rfl ?_
          exact ⟨by first | rfl | (simp [errW_none, errW_some] <;> rfl) | (simp [*, errW_none, errW_some] <;> rfl), hbA⟩
      · replace c6 := Bool.eq_false_iff.mpr c6
        subst c6
        have H1 : (some ((⟨#[]⟩ : ByteArray), (⟨#[]⟩ : ByteArray), (⟨#[]⟩ : ByteArray), false)) = some (r1, r2, r3, r4) := by rw [if_neg (show ¬ (false = true) by decide)] at H; exact H
        clear H; have H := H1; clear H1
        simp only [Option.some.injEq, Prod.mk.injEq] at H
        obtain ⟨rfl, rfl, rfl, rfl⟩ := H
        go_wp2_with (first | ((with_reducible refine gate_callee (f := 49) rfl ?_); refine goesL_ (some 16) rfl rfl Tryd.func49 (by kernel_rfl) rfl #[.string t117, .string (⟨#[93]⟩ : ByteArray)] rfl rfA ?_; (with_reducible refine (gv_Cut.calls t117 (⟨#[93]⟩ : ByteArray) t119 t120 false _ A5.out).mono ?_); rintro e w13 ⟨rfl, hb⟩; refine ⟨_, rfl, ?_⟩; have n0_ := aM (below_step hbA hb); clear HB; have HB := n0_; clear n0_; (try clear hb); (try clear hb2); (try clear hk); (try clear hi)))
        refine bodyPost_ret (results_list (rs := [.tmp 2, .tmp 3, .tmp 4, .tmp 5]) rfl (by simp) (.tmp (.tmp (.tmp (.tmp .nil))))) rfl ?_
        exact ⟨by first | rfl | (simp [errW_none, errW_some] <;> rfl) | (simp [*, errW_none, errW_some] <;> rfl), hbA⟩
    · replace c4 := Bool.eq_false_iff.mpr c4
      subst c4
      have H1 : (addr_where.j0 k a0 (⟨#[]⟩ : ByteArray)) = some (r1, r2, r3, r4) := by rw [if_neg (show ¬ (false = true) by decide)] at H; exact H
      clear H; have H := H1; clear H1
      have H' := aM H
      clear H
      go_wp2
      go_meet
      case rel => exact ⟨_, (a0), ((⟨#[]⟩ : ByteArray)), (by first | rfl | (unfold wrap64; rfl) | (simp; done) | (simp [*]; done)), (by first | rfl | (unfold wrap64; rfl) | (simp; done) | (simp [*]; done)), H', ⟨by first | omega | exact Nat.le_refl _⟩, ⟨hbA⟩⟩
  case rest =>
    clear HC3; (try clear p2); (try clear c4); (try clear c5); (try clear c6); (try clear c8)
    obtain ⟨kq, x0_2, x2_2, rfl, rfl, HA, HJ2, HB⟩ := hcut
    cases kq with
    | zero => exact absurd HA.out (by simp [addr_where.j0])
    | succ kj2 =>
      have H := HA.out; clear HA
      simp only [addr_where.j0] at H
      replace H := Option.bind_eq_some_iff.mp H
      obtain ⟨⟨t123, t124, t125⟩, A140, H⟩ := H
      replace H : (if t125 = true then ((gv_Name.f t123).bind fun t126 => (if t126 = true then (some (x2_2, t123, t124, true)) else (some ((⟨#[]⟩ : ByteArray), (⟨#[]⟩ : ByteArray), (⟨#[]⟩ : ByteArray), false)))) else (some ((⟨#[]⟩ : ByteArray), (⟨#[]⟩ : ByteArray), x0_2, (x2_2.toList == ([] : List UInt8))))) = some (r1, r2, r3, r4) := H
      have A14 := aM A140; clear A140
      by_cases c15 : t125 = true
      · subst c15
        have H1 : ((gv_Name.f t123).bind fun t126 => (if t126 = true then (some (x2_2, t123, t124, true)) else (some ((⟨#[]⟩ : ByteArray), (⟨#[]⟩ : ByteArray), (⟨#[]⟩ : ByteArray), false)))) = some (r1, r2, r3, r4) := by rw [if_pos rfl] at H; exact H
        clear H; have H := H1; clear H1
        replace H := Option.bind_eq_some_iff.mp H
        obtain ⟨t126, A160, H⟩ := H
        replace H : (if t126 = true then (some (x2_2, t123, t124, true)) else (some ((⟨#[]⟩ : ByteArray), (⟨#[]⟩ : ByteArray), (⟨#[]⟩ : ByteArray), false))) = some (r1, r2, r3, r4) := H
        have A16 := aM A160; clear A160
        by_cases c17 : t126 = true
        · subst c17
          have H1 : (some (x2_2, t123, t124, true)) = some (r1, r2, r3, r4) := by rw [if_pos rfl] at H; exact H
          clear H; have H := H1; clear H1
          simp only [Option.some.injEq, Prod.mk.injEq] at H
          obtain ⟨rfl, rfl, rfl, rfl⟩ := H
          go_wp2_with (first | ((with_reducible refine gate_callee (f := 49) rfl ?_); refine goesL_ (some 29) rfl rfl Tryd.func49 (by kernel_rfl) rfl #[.string x0_2, .string (⟨#[33]⟩ : ByteArray)] rfl rfA ?_; (with_reducible refine (gv_Cut.calls x0_2 (⟨#[33]⟩ : ByteArray) t123 t124 true _ A14.out).mono ?_); rintro e w18 ⟨rfl, hb⟩; refine ⟨_, rfl, ?_⟩; have n0_ := aM (below_step hbA hb); clear HB; have HB := n0_; clear n0_; (try clear hb); (try clear hb2); (try clear hk); (try clear hi)) | ((with_reducible refine gate_callee (f := 20) rfl ?_); refine goesL_ (some 41) rfl rfl Tryd.func20 (by kernel_rfl) rfl #[.string t123] rfl rfA ?_; (with_reducible refine (gv_Name.calls t123 true _ A16.out).mono ?_); rintro e w19 ⟨rfl, hb⟩; refine ⟨_, rfl, ?_⟩; have n0_ := aM (below_step hbA hb); clear HB; have HB := n0_; clear n0_; (try clear hb); (try clear hb2); (try clear hk); (try clear hi)))
          refine bodyPost_ret (results_list (rs := [.tmp 2, .tmp 3, .tmp 4, .tmp 5]) rfl (by simp) (.tmp (.tmp (.tmp (.tmp .nil))))) rfl ?_
          exact ⟨by first | rfl | (simp [errW_none, errW_some] <;> rfl) | (simp [*, errW_none, errW_some] <;> rfl), hbA⟩
        · replace c17 := Bool.eq_false_iff.mpr c17
          subst c17
          have H1 : (some ((⟨#[]⟩ : ByteArray), (⟨#[]⟩ : ByteArray), (⟨#[]⟩ : ByteArray), false)) = some (r1, r2, r3, r4) := by rw [if_neg (show ¬ (false = true) by decide)] at H; exact H
          clear H; have H := H1; clear H1
          simp only [Option.some.injEq, Prod.mk.injEq] at H
          obtain ⟨rfl, rfl, rfl, rfl⟩ := H
          go_wp2_with (first | ((with_reducible refine gate_callee (f := 49) rfl ?_); refine goesL_ (some 29) rfl rfl Tryd.func49 (by kernel_rfl) rfl #[.string x0_2, .string (⟨#[33]⟩ : ByteArray)] rfl rfA ?_; (with_reducible refine (gv_Cut.calls x0_2 (⟨#[33]⟩ : ByteArray) t123 t124 true _ A14.out).mono ?_); rintro e w20 ⟨rfl, hb⟩; refine ⟨_, rfl, ?_⟩; have n0_ := aM (below_step hbA hb); clear HB; have HB := n0_; clear n0_; (try clear hb); (try clear hb2); (try clear hk); (try clear hi)) | ((with_reducible refine gate_callee (f := 20) rfl ?_); refine goesL_ (some 41) rfl rfl Tryd.func20 (by kernel_rfl) rfl #[.string t123] rfl rfA ?_; (with_reducible refine (gv_Name.calls t123 false _ A16.out).mono ?_); rintro e w21 ⟨rfl, hb⟩; refine ⟨_, rfl, ?_⟩; have n0_ := aM (below_step hbA hb); clear HB; have HB := n0_; clear n0_; (try clear hb); (try clear hb2); (try clear hk); (try clear hi)))
          refine bodyPost_ret (results_list (rs := [.tmp 2, .tmp 3, .tmp 4, .tmp 5]) rfl (by simp) (.tmp (.tmp (.tmp (.tmp .nil))))) rfl ?_
          exact ⟨by first | rfl | (simp [errW_none, errW_some] <;> rfl) | (simp [*, errW_none, errW_some] <;> rfl), hbA⟩
      · replace c15 := Bool.eq_false_iff.mpr c15
        subst c15
        have H1 : (some ((⟨#[]⟩ : ByteArray), (⟨#[]⟩ : ByteArray), x0_2, (x2_2.toList == ([] : List UInt8)))) = some (r1, r2, r3, r4) := by rw [if_neg (show ¬ (false = true) by decide)] at H; exact H
        clear H; have H := H1; clear H1
        simp only [Option.some.injEq, Prod.mk.injEq] at H
        obtain ⟨rfl, rfl, rfl, rfl⟩ := H
        go_wp2_with (first | ((with_reducible refine gate_callee (f := 49) rfl ?_); refine goesL_ (some 29) rfl rfl Tryd.func49 (by kernel_rfl) rfl #[.string x0_2, .string (⟨#[33]⟩ : ByteArray)] rfl rfA ?_; (with_reducible refine (gv_Cut.calls x0_2 (⟨#[33]⟩ : ByteArray) t123 t124 false _ A14.out).mono ?_); rintro e w22 ⟨rfl, hb⟩; refine ⟨_, rfl, ?_⟩; have n0_ := aM (below_step hbA hb); clear HB; have HB := n0_; clear n0_; (try clear hb); (try clear hb2); (try clear hk); (try clear hi)))
        refine bodyPost_ret (results_list (rs := [.tmp 2, .tmp 3, .tmp 4, .tmp 5]) rfl (by simp) (.tmp (.tmp (.tmp (.tmp .nil))))) rfl ?_
        exact ⟨by first | rfl | (simp [errW_none, errW_some] <;> rfl) | (simp [*, errW_none, errW_some] <;> rfl), hbA⟩

end Go.Proofs.YtpljbpndooilgaaDoor.PAddrReads
