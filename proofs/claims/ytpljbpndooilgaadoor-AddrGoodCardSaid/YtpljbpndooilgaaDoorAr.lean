/- The law AddrGood: the walk. -/
import Derived.Test.YtpljbpndooilgaaDoorAu
import Derived.Test.YtpljbpndooilgaaDoorAp
import Derived.Test.YtpljbpndooilgaaDoorAh
namespace Go.Proofs.YtpljbpndooilgaaDoor
set_option linter.unusedVariables false
set_option linter.unusedSimpArgs false
open Go.RowKit Go.Sort
open Go.ChangeMaps (setBlock)

theorem refCell_ret (c r : Int) (w : World) : Calls Tryd.prog 19 #[.int .i64 c, .int .i64 r] w (RetPost w (.bool (goodC c r))) :=
  (ref_Cell c r w).mono fun _ _ h => ⟨h.1, h.2 ▸ Below.refl _ _⟩

set_option maxRecDepth 100000 in
set_option maxHeartbeats 4000000 in
theorem AddrGood_any (b s : ByteArray) (c r c' r' : Int) (f g f' g' wd : Bool) (t : ByteArray) (w : World) (ht : Tab w) (h1 : s.size ≤ 9223372036854775807) (h2 : b.size ≤ 9223372036854775807) (h3 : t.size ≤ 9223372036854775807) :
    Calls Tryd.prog 3 #[lawV b s c r c' r' f g f' g' wd, .string t] w (RetPost w (.bool true)) := by
  have HF := Lib.hid (fun w => fulls_any b s c r c' r' f g f' g' wd w h1 h2)
  have zb := upto_size 20 b
  have zs := upto_size 20 s
  obtain ⟨B, hB⟩ : ∃ B, B = upto 20 b := ⟨_, rfl⟩
  obtain ⟨S, hS⟩ : ∃ S, S = upto 20 s := ⟨_, rfl⟩
  rw [← hB, ← hS] at HF
  rw [← hB] at zb; rw [← hS] at zs
  clear hB hS
  have HA := Lib.hid (fun w => refArea_any c r c' r' f g f' g' w)
  have HP := Lib.hid (fun w => RefText_any c r false false w)
  have BX := Box.new w [.string b, .string s, .int .i64 c, .int .i64 r, .int .i64 c', .int .i64 r', .bool f, .bool g, .bool f', .bool g', .bool wd] 25
  have m1 : (if (30 : Int) < (t.size : Int) then (30 : Int) else (t.size : Int)) = ((if 30 < t.size then 30 else t.size : Nat) : Int) := by split <;> split <;> omega
  go_enter Tryd.func3, Tryd.ntmps3
  go_wp2_with fail
  refine (HF.out _).mono ?_; rintro e w1 ⟨rfl, hb1⟩
  have BX1 := ((BX.below hb1).alloc (.cells #[.string B, .string S, .int .i64 c, .int .i64 r, .bool f, .bool g, .int .i64 c', .int .i64 r', .bool f', .bool g', .bool wd] 31)).alloc (.cells #[.string B, .string S, .int .i64 c, .int .i64 r, .bool f, .bool g, .int .i64 c', .int .i64 r', .bool f', .bool g', .bool wd] 35)
  have BA1 := (Box.new w1 [.string B, .string S, .int .i64 c, .int .i64 r, .bool f, .bool g, .int .i64 c', .int .i64 r', .bool f', .bool g', .bool wd] 31).alloc (.cells #[.string B, .string S, .int .i64 c, .int .i64 r, .bool f, .bool g, .int .i64 c', .int .i64 r', .bool f', .bool g', .bool wd] 35)
  have BB1 := Box.new (w1.alloc (.cells #[.string B, .string S, .int .i64 c, .int .i64 r, .bool f, .bool g, .int .i64 c', .int .i64 r', .bool f', .bool g', .bool wd] 31)) [.string B, .string S, .int .i64 c, .int .i64 r, .bool f, .bool g, .int .i64 c', .int .i64 r', .bool f', .bool g', .bool wd] 35
  have hc1 := Below.stepBox (Below.stepBox (Below.step hb1 (below_box _ _)) (.cells #[.string B, .string S, .int .i64 c, .int .i64 r, .bool f, .bool g, .int .i64 c', .int .i64 r', .bool f', .bool g', .bool wd] 31)) (.cells #[.string B, .string S, .int .i64 c, .int .i64 r, .bool f, .bool g, .int .i64 c', .int .i64 r', .bool f', .bool g', .bool wd] 35)
  have esz : (w1.alloc (.cells #[.string B, .string S, .int .i64 c, .int .i64 r, .bool f, .bool g, .int .i64 c', .int .i64 r', .bool f', .bool g', .bool wd] 31)).heap.size = w1.heap.size + 1 := by simp
  rw [esz] at BB1
  clear esz BX hb1
  obtain ⟨nt, hnt⟩ : ∃ nt : Nat, nt = (if 30 < t.size then 30 else t.size) := ⟨_, rfl⟩
  rw [← hnt] at m1
  have m2 : min (t.size : Int) 30 = nt := by rw [hnt]; split <;> omega
  have lt : nt ≤ t.size := by rw [hnt]; split <;> omega
  have lt30 : nt ≤ 30 := by rw [hnt]; split <;> omega
  clear hnt
  go_wp2_with fail
  refine (HA.out _).mono ?_; rintro e w2 ⟨rfl, hb2⟩
  have BX2 := BX1.below hb2; have BA2 := BA1.below hb2; have BB2 := BB1.below hb2
  have hc2 := Below.step hb2 hc1
  clear BX1 BA1 BB1 hb2 hc1
  have x0 := BX2.at 0 rfl; have xf0 := BX2.free 0 rfl; have x1 := BX2.at 1 rfl; have xf1 := BX2.free 1 rfl; have x2 := BX2.at 2 rfl; have xf2 := BX2.free 2 rfl; have x3 := BX2.at 3 rfl; have xf3 := BX2.free 3 rfl; have x4 := BX2.at 4 rfl; have xf4 := BX2.free 4 rfl; have x5 := BX2.at 5 rfl; have xf5 := BX2.free 5 rfl; have x6 := BX2.at 6 rfl; have xf6 := BX2.free 6 rfl; have x7 := BX2.at 7 rfl; have xf7 := BX2.free 7 rfl; have x8 := BX2.at 8 rfl; have xf8 := BX2.free 8 rfl; have x9 := BX2.at 9 rfl; have xf9 := BX2.free 9 rfl; have x10 := BX2.at 10 rfl; have xf10 := BX2.free 10 rfl
  go_wp2_with fail
  refine (HP.out _).mono ?_; rintro e w3 ⟨rfl, hb3⟩
  have BX3 := BX2.below hb3; have BA3 := BA2.below hb3; have BB3 := BB2.below hb3
  have hc3 := Below.step hb3 hc2
  clear BX2 BA2 BB2 hb3 hc2 x0 xf0 x1 xf1 x2 xf2 x3 xf3 x4 xf4 x5 xf5 x6 xf6 x7 xf7 x8 xf8 x9 xf9 x10 xf10
  go_wp2_with fail
  have ht3 : Tab w3 := ht.below hc3
  have cW := fun d os => Calls.regrown_of (wakes_any (grow (redrawn w3 d) os) (ht3.below (below_regrown _ _ _)))
  have cG := fun d os => Calls.regrown_of (Full_Good B S c r f g c' r' f' g' wd (grow (redrawn w3 d) os) (by omega) (by omega))
  have cH := fun d os => Calls.regrown_of (refGood_any B S c r f g c' r' f' g' wd (grow (redrawn w3 d) os) (by omega) (by omega))
  have cT := fun d os => Calls.regrown_of (Full_Text B S c r f g c' r' f' g' wd (grow (redrawn w3 d) os) (ht3.below (below_regrown _ _ _)) (by omega) (by omega))
  have cU := fun d os => Calls.regrown_of (refText_any B S c r f g c' r' f' g' wd (grow (redrawn w3 d) os) (by omega) (by omega))
  have cR := fun d os => Calls.regrown_of (Ref_Text c r f g (grow (redrawn w3 d) os) (ht3.below (below_regrown _ _ _)))
  have cQ := fun d os => Calls.regrown_of (RefText_any c r f g (grow (redrawn w3 d) os))
  have cC := fun d os => Calls.regrown_of (Cell_Text c r (grow (redrawn w3 d) os) (ht3.below (below_regrown _ _ _)))
  have cO := fun d os => Calls.regrown_of (Cell_Good c r (grow (redrawn w3 d) os))
  have cP := fun d os => Calls.regrown_of (refCell_ret c r (grow (redrawn w3 d) os))
  obtain ⟨st, hst⟩ : ∃ st, st = t.extract 0 nt := ⟨_, rfl⟩
  have zst : st.size ≤ 30 := by rw [hst]; simp; omega
  have cN := fun d os => Calls.regrown_of (Name_any st (grow (redrawn w3 d) os) (by omega))
  have cM := fun d os => Calls.regrown_of (refName_any st (grow (redrawn w3 d) os) (by omega))
  have cA := fun d os => Calls.regrown_of (Area_Good c r c' r' (grow (redrawn w3 d) os))
  have x0 := cell_regrown (BX3.at 0 rfl); have x1 := cell_regrown (BX3.at 1 rfl); have x2 := cell_regrown (BX3.at 2 rfl); have x3 := cell_regrown (BX3.at 3 rfl); have x4 := cell_regrown (BX3.at 4 rfl); have x5 := cell_regrown (BX3.at 5 rfl); have x6 := cell_regrown (BX3.at 6 rfl); have x7 := cell_regrown (BX3.at 7 rfl); have x8 := cell_regrown (BX3.at 8 rfl); have x9 := cell_regrown (BX3.at 9 rfl); have x10 := cell_regrown (BX3.at 10 rfl)
  have y0 := cell_regrown (BA3.at 0 rfl); have y1 := cell_regrown (BA3.at 1 rfl); have y2 := cell_regrown (BA3.at 2 rfl); have y3 := cell_regrown (BA3.at 3 rfl); have y4 := cell_regrown (BA3.at 4 rfl); have y5 := cell_regrown (BA3.at 5 rfl); have y6 := cell_regrown (BA3.at 6 rfl); have y7 := cell_regrown (BA3.at 7 rfl); have y8 := cell_regrown (BA3.at 8 rfl); have y9 := cell_regrown (BA3.at 9 rfl); have y10 := cell_regrown (BA3.at 10 rfl)
  have z0 := cell_regrown (BB3.at 0 rfl); have z1 := cell_regrown (BB3.at 1 rfl); have z2 := cell_regrown (BB3.at 2 rfl); have z3 := cell_regrown (BB3.at 3 rfl); have z4 := cell_regrown (BB3.at 4 rfl); have z5 := cell_regrown (BB3.at 5 rfl); have z6 := cell_regrown (BB3.at 6 rfl); have z7 := cell_regrown (BB3.at 7 rfl); have z8 := cell_regrown (BB3.at 8 rfl); have z9 := cell_regrown (BB3.at 9 rfl); have z10 := cell_regrown (BB3.at 10 rfl)
  clear HF HA HP zb zs BX3 BA3 BB3 m1 m2 lt lt30 zst ht3
  rw [← hst]
  clear hst
  simp only [List.append_eq, List.cons_append, List.nil_append]
  refine wp_region_quiet_below (by kernel_rfl) (by kernel_rfl) ?_
  repeat (quiet_step (first | exact cW _ _ | exact cG _ _ | exact cH _ _ | exact cT _ _ | exact cU _ _ | exact cR _ _ | exact cQ _ _ | exact cC _ _ | exact cO _ _ | exact cP _ _ | exact cN _ _ | exact cM _ _ | exact cA _ _))
  refine wpQuiet_nil ?_
  intro _ hw'
  obtain ⟨⟨dq, osq⟩, hw''⟩ := hw'
  subst hw''
  have hq := below_regrown w3 dq osq
  go_wp2
  go_returns
  exact ⟨rfl, Below.step hq hc3⟩
end Go.Proofs.YtpljbpndooilgaaDoor
