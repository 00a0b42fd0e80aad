/- The corners of an area; a wide reference that is read. -/
import Derived.Test.YtpljbpndooilgaaDoorAm
import Derived.Test.YtpljbpndooilgaaDoorAe
namespace Go.Proofs.YtpljbpndooilgaaDoor
set_option linter.unusedVariables false
set_option linter.unusedSimpArgs false
open Go.RowKit Go.Sort
open Go.ChangeMaps (setBlock)

def cornersV (c r : Int) (f g : Bool) (c' r' : Int) (f' g' : Bool) : Value :=
  .tuple #[refV (if c' < c then c' else c) (if r' < r then r' else r) (if c' < c then f' else f) (if r' < r then g' else g), refV (if c' < c then c else c') (if r' < r then r else r') (if c' < c then f else f') (if r' < r then g else g')]
set_option maxRecDepth 100000 in
set_option maxHeartbeats 1000000 in
theorem corners_any (c r : Int) (f g : Bool) (c' r' : Int) (f' g' : Bool) (w : World) :
    Calls Tryd.prog 50 #[refV c r f g, refV c' r' f' g'] w (RetPost w (cornersV c r f g c' r' f' g')) := by
  by_cases h1 : c' < c <;> by_cases h2 : r' < r
  all_goals
    obtain ⟨V, hV⟩ : ∃ V, V = cornersV c r f g c' r' f' g' := ⟨_, rfl⟩
    have hV2 := hV
    unfold cornersV at hV2
    simp only [h1, h2, if_true, if_false] at hV2
    have HE := Lib.hid (hV2.symm.trans hV)
    clear hV hV2
    go_enter Tryd.func50, Tryd.ntmps50
    go_wp2
    go_region_with (fail)
    all_goals (go_wp2; ((try simp only [Exit.inBlock, Exit.then]); first | (refine bodyPost_ret (results_tmp rfl _ _ _) rfl ?_) | (refine bodyPost_ret (results_none rfl _ _ _) rfl ?_) | go_ret2 | go_ret3 | (refine bodyPost_ret (by simp [results, Tryd.results50, go_sem]; try rfl) rfl ?_)); exact ⟨congrArg Ending.returned HE.out, by (repeat (first | exact Below.refl _ _ | exact below_box _ _ | refine Below.stepBox ?_ _ | refine Below.stepDrew ?_ | refine Below.stepDrewN ?_ _ | refine Below.step (by assumption) ?_))⟩)

theorem whereP_names {s a b c : ByteArray} (h : whereP s = some (a, b, c)) : (a.toList = [] ∨ (nameOk a = true ∧ ¬ b.toList = [])) ∧ (b.toList = [] ∨ nameOk b = true) ∧ a.size ≤ 16 ∧ b.size ≤ 16 := by
  have e0 : nilB.toList = [] := by rw [Lib.toList_data]; rfl
  have hs : ∀ r bk, (bk.toList = [] ∧ bk.size ≤ 16 ∨ nameOk bk = true) → sheetP bk r = some (a, b, c) → (a.toList = [] ∨ (nameOk a = true ∧ ¬ b.toList = [])) ∧ (b.toList = [] ∨ nameOk b = true) ∧ a.size ≤ 16 ∧ b.size ≤ 16 := by
    intro r bk hbk hr
    unfold sheetP at hr
    split at hr
    · split at hr
      · rename_i hn
        simp only [Option.some.injEq, Prod.mk.injEq] at hr
        obtain ⟨rfl, rfl, _⟩ := hr
        have hz := ((nameOk_iff _).1 hn).1.2
        refine ⟨?_, Or.inr hn, ?_, hz⟩
        · rcases hbk with ⟨h, _⟩ | h
          · exact Or.inl h
          · exact Or.inr ⟨h, name_ne hn⟩
        · rcases hbk with ⟨_, h⟩ | h
          · exact h
          · exact ((nameOk_iff _).1 h).1.2
      · cases hr
    · split at hr
      · simp only [Option.some.injEq, Prod.mk.injEq] at hr
        obtain ⟨rfl, rfl, _⟩ := hr
        exact ⟨Or.inl e0, Or.inl e0, by decide, by decide⟩
      · cases hr
  unfold whereP bookP at h
  split at h
  · split at h
    · rename_i hn
      simp only [Bool.and_eq_true] at hn
      exact hs _ _ (Or.inr hn.2) h
    · cases h
  · exact hs _ _ (Or.inl ⟨e0, by decide⟩) h

theorem fullOk_where {s a b c : ByteArray} (h : whereP s = some (a, b, c)) (x y x' y' : Int) (f' g' wd : Bool) : fullOk a b x y x' y' f' g' wd = (if wd then areaOk x y x' y' else areaOk x y x y && (x' == 0 && y' == 0 && !f' && !g')) := by
  obtain ⟨h1, h2, _, _⟩ := whereP_names h
  unfold fullOk
  rcases h1 with h1 | ⟨h1, h1'⟩ <;> rcases h2 with h2 | h2 <;> simp [h1, h2]
  all_goals (first | exact absurd h2 h1' | simp [h1'])

theorem finish11 {w w1 : World} (hb : Below w.heap.size w w1) (v0 v1 v2 v3 v4 v5 v6 v7 v8 v9 v10 : Value) {vs : List Value} (c : Box w1 w.heap.size vs) (hl : vs.length = 11) :
    ∃ W, ((((((((((w1.setCell ⟨w.heap.size, 0, none⟩ v0).setCell ⟨w.heap.size, 1, none⟩ v1).setCell ⟨w.heap.size, 2, none⟩ v2).setCell ⟨w.heap.size, 3, none⟩ v3).setCell ⟨w.heap.size, 4, none⟩ v4).setCell ⟨w.heap.size, 5, none⟩ v5).setCell ⟨w.heap.size, 6, none⟩ v6).setCell ⟨w.heap.size, 7, none⟩ v7).setCell ⟨w.heap.size, 8, none⟩ v8).setCell ⟨w.heap.size, 9, none⟩ v9).setCell ⟨w.heap.size, 10, none⟩ v10 = W ∧
    W.cell? ⟨w.heap.size, 0, none⟩ = some v0 ∧ W.cell? ⟨w.heap.size, 1, none⟩ = some v1 ∧ W.cell? ⟨w.heap.size, 2, none⟩ = some v2 ∧ W.cell? ⟨w.heap.size, 3, none⟩ = some v3 ∧ W.cell? ⟨w.heap.size, 4, none⟩ = some v4 ∧ W.cell? ⟨w.heap.size, 5, none⟩ = some v5 ∧ W.cell? ⟨w.heap.size, 6, none⟩ = some v6 ∧ W.cell? ⟨w.heap.size, 7, none⟩ = some v7 ∧ W.cell? ⟨w.heap.size, 8, none⟩ = some v8 ∧ W.cell? ⟨w.heap.size, 9, none⟩ = some v9 ∧ W.cell? ⟨w.heap.size, 10, none⟩ = some v10 ∧ Below w.heap.size w W := by
  have k := World.cell?_setCells_in w.heap.size [v0, v1, v2, v3, v4, v5, v6, v7, v8, v9, v10] 0 w1 (fun j hj => by
    have hv := c.at j (List.getElem?_eq_getElem (show j < vs.length by rw [hl]; exact hj))
    rw [show 0 + j = j by omega, hv]; rfl)
  refine ⟨_, rfl, k 0 (by simp), k 1 (by simp), k 2 (by simp), k 3 (by simp), k 4 (by simp), k 5 (by simp), k 6 (by simp), k 7 (by simp), k 8 (by simp), k 9 (by simp), k 10 (by simp), ?_⟩
  exact ((((((((((hb.setCell (Nat.le_refl _) _).setCell (Nat.le_refl _) _).setCell (Nat.le_refl _) _).setCell (Nat.le_refl _) _).setCell (Nat.le_refl _) _).setCell (Nat.le_refl _) _).setCell (Nat.le_refl _) _).setCell (Nat.le_refl _) _).setCell (Nat.le_refl _) _).setCell (Nat.le_refl _) _).setCell (Nat.le_refl _) _

set_option maxRecDepth 100000 in
set_option maxHeartbeats 4000000 in
theorem Parse_wide (s : ByteArray) (w : World) (h1 : s.size ≤ 140737488351232) (a b c : ByteArray) (hw : whereP s = some (a, b, c)) (hh : hasB c 58 = true) (hcs : c.size ≤ 140737488351232)
    (x y : Int) (f g : Bool) (x' y' : Int) (f' g' : Bool) (hx : refP (cutA c 58) = some (x, y, f, g)) (hy : refP (cutB c 58) = some (x', y', f', g')) (gx : goodC x y = true) (gy : goodC x' y' = true)
    (X Y : Int) (F G : Bool) (X' Y' : Int) (F' G' : Bool) (hc : cornersV x y f g x' y' f' g' = .tuple #[refV X Y F G, refV X' Y' F' G']) (hf : areaOk X Y X' Y' = true) :
    Calls Tryd.prog 25 #[.string s] w (RetPost w (.tuple #[fullV a b X Y F G X' Y' F' G' true, .int .i64 0])) := by
  obtain ⟨v, hs, hv⟩ := where_any s h1
  unfold WhereSays at hs
  rw [hw] at hs
  subst hs
  have HC := fun w => Cut_any c 58 w hcs
  rw [cut_yes hh] at HC
  have zA := cutA_size c 58
  have zB := cutB_size c 58
  have HR1 := fun w => ref_any (cutA c 58) w (by omega)
  have HR2 := fun w => ref_any (cutB c 58) w (by omega)
  rw [hx] at HR1; rw [hy] at HR2
  obtain ⟨one, ho⟩ : ∃ one, one = cutA c 58 := ⟨_, rfl⟩
  obtain ⟨two, ht⟩ : ∃ two, two = cutB c 58 := ⟨_, rfl⟩
  rw [← ho] at HC HR1; rw [← ht] at HC HR2
  have HC' := Lib.hid HC
  have HR1' : Hid (∀ w, Calls Tryd.prog 46 #[.string one] w (RetPost w (.tuple #[refV x y f g, .bool true]))) := HR1
  have HR2' : Hid (∀ w, Calls Tryd.prog 46 #[.string two] w (RetPost w (.tuple #[refV x' y' f' g', .bool true]))) := HR2
  have HK := fun w => corners_any x y f g x' y' f' g' w
  rw [hc] at HK
  have HK' := Lib.hid HK
  have HGx := fun w => Cell_Good x y w
  have HGy := fun w => Cell_Good x' y' w
  rw [gx] at HGx; rw [gy] at HGy
  have HGx' := Lib.hid HGx; have HGy' := Lib.hid HGy
  obtain ⟨_, _, n1, n2⟩ := whereP_names hw
  have HG := fun w => Full_Good a b X Y F G X' Y' F' G' true w (by omega) (by omega)
  rw [fullOk_where hw] at HG
  simp only [if_true] at HG
  rw [hf] at HG
  have HG' := Lib.hid HG
  have BR0 := Box.new w [.string ⟨#[]⟩, .string ⟨#[]⟩, .int .i64 0, .int .i64 0, .bool false, .bool false, .int .i64 0, .int .i64 0, .bool false, .bool false, .bool false] 31
  clear HC HR1 HR2 hh hw hx hy ho ht zA zB HK HGx HGy gx gy hc hf HG
  go_enter Tryd.func25, Tryd.ntmps25
  go_wp2_with fail
  refine (hv _).mono ?_; rintro e w1 ⟨rfl, hb1⟩
  have BR1 := (BR0.below hb1).alloc (.cells #[.string a, .string b, .int .i64 0, .int .i64 0, .bool false, .bool false, .int .i64 0, .int .i64 0, .bool false, .bool false, .bool false] 31)
  have BF1 := Box.new w1 [.string a, .string b, .int .i64 0, .int .i64 0, .bool false, .bool false, .int .i64 0, .int .i64 0, .bool false, .bool false, .bool false] 31
  have hc1 := Below.stepBox (Below.step hb1 (below_box _ _)) (.cells #[.string a, .string b, .int .i64 0, .int .i64 0, .bool false, .bool false, .int .i64 0, .int .i64 0, .bool false, .bool false, .bool false] 31)
  go_wp2_with fail
  refine (HC'.out _).mono ?_; rintro e w2 ⟨rfl, hb2⟩
  have BR2 := BR1.below hb2
  have BF2 := BF1.below hb2
  have hc2 := Below.step hb2 hc1
  go_wp2_with fail
  refine (HR1'.out _).mono ?_; rintro e w3 ⟨rfl, hb3⟩
  have BR3 := BR2.below hb3
  have BF3 := BF2.below hb3
  have hc3 := Below.step hb3 hc2
  have hRF : w.heap.size < w1.heap.size := by have := hb1.size; simp at this; omega
  clear BR0 BR1 BR2 BF1 BF2 hc1 hc2 hb1 hb2
  go_wp2_with fail
  refine (HR2'.out _).mono ?_; rintro e w4 ⟨rfl, hb4⟩
  have BA3 := Box.new w3 [.int .i64 x, .int .i64 y, .bool f, .bool g] 29
  have BB3 := Box.new (w3.alloc (.cells #[.int .i64 x, .int .i64 y, .bool f, .bool g] 29)) [.int .i64 x, .int .i64 y, .bool f, .bool g] 29
  have esz : (w3.alloc (.cells #[.int .i64 x, .int .i64 y, .bool f, .bool g] 29)).heap.size = w3.heap.size + 1 := by simp
  have BA4 := (BA3.alloc (.cells #[.int .i64 x, .int .i64 y, .bool f, .bool g] 29)).below hb4
  have BB4 := BB3.below hb4
  rw [esz] at BB4
  have BR4 := ((BR3.alloc (.cells #[.int .i64 x, .int .i64 y, .bool f, .bool g] 29)).alloc (.cells #[.int .i64 x, .int .i64 y, .bool f, .bool g] 29)).below hb4
  have BF4 := ((BF3.alloc (.cells #[.int .i64 x, .int .i64 y, .bool f, .bool g] 29)).alloc (.cells #[.int .i64 x, .int .i64 y, .bool f, .bool g] 29)).below hb4
  have hc4 := Below.step hb4 (Below.stepBox (Below.stepBox hc3 (.cells #[.int .i64 x, .int .i64 y, .bool f, .bool g] 29)) (.cells #[.int .i64 x, .int .i64 y, .bool f, .bool g] 29))
  have ltR := BR3.lt
  have ltF := BF3.lt
  clear BA3 BB3 BR3 BF3 hc3 hb3 hb4 esz
  have ka0 := BA4.at 0 rfl; have kaf0 := BA4.free 0 rfl; have ka1 := BA4.at 1 rfl; have kaf1 := BA4.free 1 rfl; have ka2 := BA4.at 2 rfl; have kaf2 := BA4.free 2 rfl; have ka3 := BA4.at 3 rfl; have kaf3 := BA4.free 3 rfl
  have kb0 := BB4.at 0 rfl; have kbf0 := BB4.free 0 rfl; have kb1 := BB4.at 1 rfl; have kbf1 := BB4.free 1 rfl; have kb2 := BB4.at 2 rfl; have kbf2 := BB4.free 2 rfl; have kb3 := BB4.at 3 rfl; have kbf3 := BB4.free 3 rfl
  go_wp2_with fail
  obtain ⟨W5, hW5⟩ : ∃ W5, (((w4.setCell ⟨w3.heap.size + 1, 0, none⟩ (.int .i64 x')).setCell ⟨w3.heap.size + 1, 1, none⟩ (.int .i64 y')).setCell ⟨w3.heap.size + 1, 2, none⟩ (.bool f')).setCell ⟨w3.heap.size + 1, 3, none⟩ (.bool g') = W5 := ⟨_, rfl⟩
  have BB5 : Box W5 (w3.heap.size + 1) [.int .i64 x', .int .i64 y', .bool f', .bool g'] := by rw [← hW5]; exact (((BB4.set 0 _).set 1 _).set 2 _).set 3 _
  have BA5 : Box W5 w3.heap.size [.int .i64 x, .int .i64 y, .bool f, .bool g] := by
    have ne : w3.heap.size + 1 ≠ w3.heap.size := by omega
    rw [← hW5]; exact (((BA4.other ⟨_, 0, none⟩ ne _).other ⟨_, 1, none⟩ ne _).other ⟨_, 2, none⟩ ne _).other ⟨_, 3, none⟩ ne _
  have BR5 : Box W5 w.heap.size [.string ⟨#[]⟩, .string ⟨#[]⟩, .int .i64 0, .int .i64 0, .bool false, .bool false, .int .i64 0, .int .i64 0, .bool false, .bool false, .bool false] := by
    have ne : w3.heap.size + 1 ≠ w.heap.size := by omega
    rw [← hW5]; exact (((BR4.other ⟨_, 0, none⟩ ne _).other ⟨_, 1, none⟩ ne _).other ⟨_, 2, none⟩ ne _).other ⟨_, 3, none⟩ ne _
  have BF5 : Box W5 w1.heap.size [.string a, .string b, .int .i64 0, .int .i64 0, .bool false, .bool false, .int .i64 0, .int .i64 0, .bool false, .bool false, .bool false] := by
    have ne : w3.heap.size + 1 ≠ w1.heap.size := by omega
    rw [← hW5]; exact (((BF4.other ⟨_, 0, none⟩ ne _).other ⟨_, 1, none⟩ ne _).other ⟨_, 2, none⟩ ne _).other ⟨_, 3, none⟩ ne _
  have hc5 : Below w.heap.size w W5 := by
    have le : w.heap.size ≤ w3.heap.size + 1 := by omega
    rw [← hW5]; exact (((hc4.setCell le _).setCell le _).setCell le _).setCell le _
  rw [hW5]
  clear BA4 BB4 BR4 BF4 hc4 hW5 ka0 kaf0 ka1 kaf1 ka2 kaf2 ka3 kaf3 kb0 kbf0 kb1 kbf1 kb2 kbf2 kb3 kbf3
  refine (HGx'.out _).mono ?_; rintro e w6 ⟨rfl, hb6⟩
  have BA6 := BA5.below hb6; have BB6 := BB5.below hb6; have BR6 := BR5.below hb6; have BF6 := BF5.below hb6
  have hc6 := Below.step hb6 hc5
  clear BA5 BB5 BR5 BF5 hc5 hb6
  have ka0 := BA6.at 0 rfl; have kaf0 := BA6.free 0 rfl; have ka1 := BA6.at 1 rfl; have kaf1 := BA6.free 1 rfl; have ka2 := BA6.at 2 rfl; have kaf2 := BA6.free 2 rfl; have ka3 := BA6.at 3 rfl; have kaf3 := BA6.free 3 rfl
  have kb0 := BB6.at 0 rfl; have kbf0 := BB6.free 0 rfl; have kb1 := BB6.at 1 rfl; have kbf1 := BB6.free 1 rfl; have kb2 := BB6.at 2 rfl; have kbf2 := BB6.free 2 rfl; have kb3 := BB6.at 3 rfl; have kbf3 := BB6.free 3 rfl
  go_wp2_with fail
  refine (HGy'.out _).mono ?_; rintro e w7 ⟨rfl, hb7⟩
  clear ka0 kaf0 ka1 kaf1 ka2 kaf2 ka3 kaf3 kb0 kbf0 kb1 kbf1 kb2 kbf2 kb3 kbf3
  have BA7 := BA6.below hb7; have BB7 := BB6.below hb7; have BR7 := BR6.below hb7; have BF7 := BF6.below hb7
  have hc7 := Below.step hb7 hc6
  clear BA6 BB6 BR6 BF6 hc6 hb7
  have ka0 := BA7.at 0 rfl; have kaf0 := BA7.free 0 rfl; have ka1 := BA7.at 1 rfl; have kaf1 := BA7.free 1 rfl; have ka2 := BA7.at 2 rfl; have kaf2 := BA7.free 2 rfl; have ka3 := BA7.at 3 rfl; have kaf3 := BA7.free 3 rfl
  have kb0 := BB7.at 0 rfl; have kbf0 := BB7.free 0 rfl; have kb1 := BB7.at 1 rfl; have kbf1 := BB7.free 1 rfl; have kb2 := BB7.at 2 rfl; have kbf2 := BB7.free 2 rfl; have kb3 := BB7.at 3 rfl; have kbf3 := BB7.free 3 rfl
  have kf0 := BF7.at 0 rfl; have kff0 := BF7.free 0 rfl; have kf1 := BF7.at 1 rfl; have kff1 := BF7.free 1 rfl; have kf2 := BF7.at 2 rfl; have kff2 := BF7.free 2 rfl; have kf3 := BF7.at 3 rfl; have kff3 := BF7.free 3 rfl; have kf4 := BF7.at 4 rfl; have kff4 := BF7.free 4 rfl; have kf5 := BF7.at 5 rfl; have kff5 := BF7.free 5 rfl; have kf6 := BF7.at 6 rfl; have kff6 := BF7.free 6 rfl; have kf7 := BF7.at 7 rfl; have kff7 := BF7.free 7 rfl; have kf8 := BF7.at 8 rfl; have kff8 := BF7.free 8 rfl; have kf9 := BF7.at 9 rfl; have kff9 := BF7.free 9 rfl; have kf10 := BF7.at 10 rfl; have kff10 := BF7.free 10 rfl
  have s0 := fun x0 => (BF7.set 2 x0).at (v := x0) 2 rfl
  have s1 := fun x0 x1 => ((BF7.set 2 x0).set 3 x1).at (v := x1) 3 rfl
  have s2 := fun x0 x1 x2 => (((BF7.set 2 x0).set 3 x1).set 4 x2).at (v := x2) 4 rfl
  have s3 := fun x0 x1 x2 x3 => ((((BF7.set 2 x0).set 3 x1).set 4 x2).set 5 x3).at (v := x3) 5 rfl
  go_wp2_with fail
  obtain ⟨W8, hW8⟩ : ∃ W8, (((w7.setCell ⟨w1.heap.size, 2, none⟩ (.int .i64 x)).setCell ⟨w1.heap.size, 3, none⟩ (.int .i64 y)).setCell ⟨w1.heap.size, 4, none⟩ (.bool f)).setCell ⟨w1.heap.size, 5, none⟩ (.bool g) = W8 := ⟨_, rfl⟩
  have BF8 : Box W8 w1.heap.size [.string a, .string b, .int .i64 x, .int .i64 y, .bool f, .bool g, .int .i64 0, .int .i64 0, .bool false, .bool false, .bool false] := by rw [← hW8]; exact (((BF7.set 2 _).set 3 _).set 4 _).set 5 _
  have BR8 : Box W8 w.heap.size [.string ⟨#[]⟩, .string ⟨#[]⟩, .int .i64 0, .int .i64 0, .bool false, .bool false, .int .i64 0, .int .i64 0, .bool false, .bool false, .bool false] := by
    have ne : w1.heap.size ≠ w.heap.size := by omega
    rw [← hW8]; exact (((BR7.other ⟨_, 2, none⟩ ne _).other ⟨_, 3, none⟩ ne _).other ⟨_, 4, none⟩ ne _).other ⟨_, 5, none⟩ ne _
  have hc8 : Below w.heap.size w W8 := by
    have le : w.heap.size ≤ w1.heap.size := by omega
    rw [← hW8]; exact (((hc7.setCell le _).setCell le _).setCell le _).setCell le _
  rw [hW8]
  clear s0 s1 s2 s3 BA7 BB7 BR7 BF7 hc7 hW8 ka0 kaf0 ka1 kaf1 ka2 kaf2 ka3 kaf3 kb0 kbf0 kb1 kbf1 kb2 kbf2 kb3 kbf3 kf0 kff0 kf1 kff1 kf2 kff2 kf3 kff3 kf4 kff4 kf5 kff5 kf6 kff6 kf7 kff7 kf8 kff8 kf9 kff9 kf10 kff10
  refine (HK'.out _).mono ?_; rintro e w9 ⟨rfl, hb9⟩
  have BR9 := BR8.below hb9; have BF9 := BF8.below hb9
  have hc9 := Below.step hb9 hc8
  clear BR8 BF8 hc8 hb9
  have kf0 := BF9.at 0 rfl; have kff0 := BF9.free 0 rfl; have kf1 := BF9.at 1 rfl; have kff1 := BF9.free 1 rfl; have kf2 := BF9.at 2 rfl; have kff2 := BF9.free 2 rfl; have kf3 := BF9.at 3 rfl; have kff3 := BF9.free 3 rfl; have kf4 := BF9.at 4 rfl; have kff4 := BF9.free 4 rfl; have kf5 := BF9.at 5 rfl; have kff5 := BF9.free 5 rfl; have kf6 := BF9.at 6 rfl; have kff6 := BF9.free 6 rfl; have kf7 := BF9.at 7 rfl; have kff7 := BF9.free 7 rfl; have kf8 := BF9.at 8 rfl; have kff8 := BF9.free 8 rfl; have kf9 := BF9.at 9 rfl; have kff9 := BF9.free 9 rfl; have kf10 := BF9.at 10 rfl; have kff10 := BF9.free 10 rfl
  have s0 := fun x0 => (BF9.set 2 x0).at (v := x0) 2 rfl
  have s1 := fun x0 x1 => ((BF9.set 2 x0).set 3 x1).at (v := x1) 3 rfl
  have s2 := fun x0 x1 x2 => (((BF9.set 2 x0).set 3 x1).set 4 x2).at (v := x2) 4 rfl
  have s3 := fun x0 x1 x2 x3 => ((((BF9.set 2 x0).set 3 x1).set 4 x2).set 5 x3).at (v := x3) 5 rfl
  have s4 := fun x0 x1 x2 x3 x4 => (((((BF9.set 2 x0).set 3 x1).set 4 x2).set 5 x3).set 6 x4).at (v := x4) 6 rfl
  have s5 := fun x0 x1 x2 x3 x4 x5 => ((((((BF9.set 2 x0).set 3 x1).set 4 x2).set 5 x3).set 6 x4).set 7 x5).at (v := x5) 7 rfl
  have s6 := fun x0 x1 x2 x3 x4 x5 x6 => (((((((BF9.set 2 x0).set 3 x1).set 4 x2).set 5 x3).set 6 x4).set 7 x5).set 8 x6).at (v := x6) 8 rfl
  have s7 := fun x0 x1 x2 x3 x4 x5 x6 x7 => ((((((((BF9.set 2 x0).set 3 x1).set 4 x2).set 5 x3).set 6 x4).set 7 x5).set 8 x6).set 9 x7).at (v := x7) 9 rfl
  have s8 := fun x0 x1 x2 x3 x4 x5 x6 x7 x8 => (((((((((BF9.set 2 x0).set 3 x1).set 4 x2).set 5 x3).set 6 x4).set 7 x5).set 8 x6).set 9 x7).set 10 x8).at (v := x8) 10 rfl
  go_wp2_with fail
  obtain ⟨W10, hW10⟩ : ∃ W10, (((((((((w9.setCell ⟨w1.heap.size, 2, none⟩ (.int .i64 X)).setCell ⟨w1.heap.size, 3, none⟩ (.int .i64 Y)).setCell ⟨w1.heap.size, 4, none⟩ (.bool F)).setCell ⟨w1.heap.size, 5, none⟩ (.bool G)).setCell ⟨w1.heap.size, 6, none⟩ (.int .i64 X')).setCell ⟨w1.heap.size, 7, none⟩ (.int .i64 Y')).setCell ⟨w1.heap.size, 8, none⟩ (.bool F')).setCell ⟨w1.heap.size, 9, none⟩ (.bool G')).setCell ⟨w1.heap.size, 10, none⟩ (.bool true)) = W10 := ⟨_, rfl⟩
  have BF10 : Box W10 w1.heap.size [.string a, .string b, .int .i64 X, .int .i64 Y, .bool F, .bool G, .int .i64 X', .int .i64 Y', .bool F', .bool G', .bool true] := by rw [← hW10]; exact (((((((((BF9.set 2 _).set 3 _).set 4 _).set 5 _).set 6 _).set 7 _).set 8 _).set 9 _).set 10 _)
  have BR10 : Box W10 w.heap.size [.string ⟨#[]⟩, .string ⟨#[]⟩, .int .i64 0, .int .i64 0, .bool false, .bool false, .int .i64 0, .int .i64 0, .bool false, .bool false, .bool false] := by
    have ne : w1.heap.size ≠ w.heap.size := by omega
    rw [← hW10]; exact (((((((((BR9.other ⟨_, 2, none⟩ ne _).other ⟨_, 3, none⟩ ne _).other ⟨_, 4, none⟩ ne _).other ⟨_, 5, none⟩ ne _).other ⟨_, 6, none⟩ ne _).other ⟨_, 7, none⟩ ne _).other ⟨_, 8, none⟩ ne _).other ⟨_, 9, none⟩ ne _).other ⟨_, 10, none⟩ ne _)
  have hc10 : Below w.heap.size w W10 := by
    have le : w.heap.size ≤ w1.heap.size := by omega
    rw [← hW10]; exact (((((((((hc9.setCell le _).setCell le _).setCell le _).setCell le _).setCell le _).setCell le _).setCell le _).setCell le _).setCell le _)
  rw [hW10]
  clear s0 s1 s2 s3 s4 s5 s6 s7 s8 BR9 BF9 hc9 hW10 kf0 kff0 kf1 kff1 kf2 kff2 kf3 kff3 kf4 kff4 kf5 kff5 kf6 kff6 kf7 kff7 kf8 kff8 kf9 kff9 kf10 kff10
  refine (HG'.out _).mono ?_; rintro e w11 ⟨rfl, hb11⟩
  have BR11 := BR10.below hb11; have BF11 := BF10.below hb11
  have hc11 := Below.step hb11 hc10
  clear BR10 BF10 hc10 hb11
  have kf0 := BF11.at 0 rfl; have kff0 := BF11.free 0 rfl; have kf1 := BF11.at 1 rfl; have kff1 := BF11.free 1 rfl; have kf2 := BF11.at 2 rfl; have kff2 := BF11.free 2 rfl; have kf3 := BF11.at 3 rfl; have kff3 := BF11.free 3 rfl; have kf4 := BF11.at 4 rfl; have kff4 := BF11.free 4 rfl; have kf5 := BF11.at 5 rfl; have kff5 := BF11.free 5 rfl; have kf6 := BF11.at 6 rfl; have kff6 := BF11.free 6 rfl; have kf7 := BF11.at 7 rfl; have kff7 := BF11.free 7 rfl; have kf8 := BF11.at 8 rfl; have kff8 := BF11.free 8 rfl; have kf9 := BF11.at 9 rfl; have kff9 := BF11.free 9 rfl; have kf10 := BF11.at 10 rfl; have kff10 := BF11.free 10 rfl
  have kr0 := BR11.at 0 rfl; have krf0 := BR11.free 0 rfl; have kr1 := BR11.at 1 rfl; have krf1 := BR11.free 1 rfl; have kr2 := BR11.at 2 rfl; have krf2 := BR11.free 2 rfl; have kr3 := BR11.at 3 rfl; have krf3 := BR11.free 3 rfl; have kr4 := BR11.at 4 rfl; have krf4 := BR11.free 4 rfl; have kr5 := BR11.at 5 rfl; have krf5 := BR11.free 5 rfl; have kr6 := BR11.at 6 rfl; have krf6 := BR11.free 6 rfl; have kr7 := BR11.at 7 rfl; have krf7 := BR11.free 7 rfl; have kr8 := BR11.at 8 rfl; have krf8 := BR11.free 8 rfl; have kr9 := BR11.at 9 rfl; have krf9 := BR11.free 9 rfl; have kr10 := BR11.at 10 rfl; have krf10 := BR11.free 10 rfl
  go_wp2_with fail
  obtain ⟨W4, hW4, c0, c1, c2, c3, c4, c5, c6, c7, c8, c9, c10, hB⟩ := finish11 hc11 (.string a) (.string b) (.int .i64 X) (.int .i64 Y) (.bool F) (.bool G) (.int .i64 X') (.int .i64 Y') (.bool F') (.bool G') (.bool true) BR11 rfl
  rw [hW4]
  refine bodyPost_ret (v := .tuple #[fullV a b X Y F G X' Y' F' G' true, .int .i64 0]) (by simp [results, Tryd.results25, go_sem, c0, c1, c2, c3, c4, c5, c6, c7, c8, c9, c10]) rfl ?_
  exact ⟨rfl, hB⟩
end Go.Proofs.YtpljbpndooilgaaDoor
