/- The document's cells and areas: how they are written, how many cells an area has. -/
import Derived.Test.YtpljbpndooilgaaDoorAf
import Derived.Laws.IdiomStrings
namespace Go.Proofs.YtpljbpndooilgaaDoor
set_option linter.unusedVariables false
set_option linter.unusedSimpArgs false
open Go.RowKit Go.Sort
open Go.ChangeMaps (setBlock)

theorem byte_of (n : Nat) (h : n < 256) : ∃ u : UInt8, (n : Int) = u.toNat ∧ u = UInt8.ofNat n := ⟨UInt8.ofNat n, by simp; omega, rfl⟩

theorem one_byte (w : World) (x : Int) (u : UInt8) (hx : x = u.toNat) (b : Nat) (hb : b = w.heap.size) :
    (convert 61 9 (.slice (some ⟨b, 0, none⟩) 1 1)).run Tryd.prog (w.alloc (.cells #[.int .u8 x] 5)) = .ok (.string ⟨#[u]⟩) (w.alloc (.cells #[.int .u8 x] 5)) := by
  subst hb hx
  have k : (w.alloc (.cells #[.int .u8 u.toNat] 5)).heap[w.heap.size]? = some (.cells #[.int .u8 u.toNat] 5) := heap_alloc_new w _
  refine run_convert_bytes_back _ _ _ 5 _ 1 [u] Tryd.underlying61 Tryd.underlying5 Tryd.underlying9 fun j hj => ?_
  obtain rfl : j = 0 := by simpa using hj
  have e : (⟨w.heap.size, 0, none⟩ : Addr).add 0 = ⟨w.heap.size, 0, none⟩ := by simp [Addr.add]
  rw [e]
  exact box_at (Below.refl _ _) 0 rfl

theorem colB_is : ∀ n, n < 64 → colB n = (if n / 26 = 0 then ⟨#[UInt8.ofNat (65 + n % 26)]⟩ else ⟨#[UInt8.ofNat (64 + n / 26)]⟩ ++ ⟨#[UInt8.ofNat (65 + n % 26)]⟩) := by decide +kernel

set_option maxRecDepth 100000 in
theorem Columns_any (n : Nat) (hn : n < 64) (w : World) : Calls Tryd.prog 34 #[.int .i64 n] w (RetPost w (.string (colB n))) := by
  go_enter Tryd.func34, Tryd.ntmps34
  go_wp2
  go_loop [3, 4, 5] (fun v3 v4 v5 => ∃ i : Nat, i ≤ n ∧ v3 = .int .i64 (i % 26 : Nat) ∧ v4 = .int .i64 ((i / 26 : Nat) - 1) ∧ v5 = .int .i64 i) (fun _ _ v5 => n - (intOf v5).toNat)
  case atStart => exact ⟨0, by omega, rfl, rfl, rfl⟩
  case round =>
    obtain ⟨i, hi, rfl, rfl, rfl⟩ := hrel
    obtain ⟨j, hj⟩ : ∃ j, j = i % 26 := ⟨_, rfl⟩
    obtain ⟨d, hd⟩ : ∃ d, d = i / 26 := ⟨_, rfl⟩
    have hd3 : d < 3 := by omega
    rw [← hj, ← hd]
    by_cases hlt : i < n
    · by_cases h25 : j = 25
      · have e : (i + 1) % 26 = 0 ∧ (i + 1) / 26 = d + 1 := by omega
        have HE := Lib.hid e
        subst h25
        clear hj hd e
        go_wp2
        go_round
        case rel => exact ⟨i + 1, by omega, by rw [HE.out.1]; rfl, by rw [HE.out.2]; go_num, by go_num⟩
        case measure => simp [intOf]; omega
      · have e : (i + 1) % 26 = j + 1 ∧ (i + 1) / 26 = d := by omega
        have HE := Lib.hid e
        have hj26 : j + 1 < 26 := by omega
        clear hj hd e h25
        go_wp2
        go_round
        case rel => exact ⟨i + 1, by omega, by rw [HE.out.1]; go_num, by rw [HE.out.2], by go_num⟩
        case measure => simp [intOf]; omega
    · obtain rfl : i = n := by omega
      have hj26 : j < 26 := by omega
      have m1 : IntKind.u8.wrap (j : Int) = j := IntWalk.u8_in _ (by omega)
      have m2 : IntKind.u8.wrap (65 + (j : Int)) = 65 + j := IntWalk.u8_in _ (by omega)
      have HJ := Lib.hid hj.symm
      clear hj hi hlt
      by_cases hd0 : d = 0
      · have hd' : Hid (i / 26 = 0) := by show i / 26 = 0; omega
        have e4 : ((d : Int) - 1) = -1 := by omega
        rw [e4]
        clear hd hd0 e4
        obtain ⟨u, hu, hu'⟩ := byte_of (65 + j) (by omega)
        have y := one_byte w (65 + (j : Int)) u (by omega) w.heap.size rfl
        have HF : Hid (colB i = ⟨#[u]⟩) := by
          show colB i = _
          have := colB_is i (by omega)
          rw [hd'.out, if_pos rfl] at this
          rw [this, HJ.out, hu']
        clear hu hu'
        go_wp2
        ((try simp only [Exit.inBlock, Exit.then]); first | (refine bodyPost_ret (results_tmp rfl _ _ _) rfl ?_) | (refine bodyPost_ret (results_none rfl _ _ _) rfl ?_) | go_ret2 | go_ret3 | (refine bodyPost_ret (by simp [results, Tryd.results34, go_sem]; try rfl) rfl ?_))
        exact ⟨ret_str HF.out.symm, by (repeat (first | exact Below.refl _ _ | exact below_box _ _ | refine Below.stepBox ?_ _ | refine Below.stepDrew ?_ | refine Below.stepDrewN ?_ _ | refine Below.step (by assumption) ?_))⟩
      · obtain ⟨q, rfl⟩ : ∃ q, d = q + 1 := ⟨d - 1, by omega⟩
        have e4 : (((q + 1 : Nat) : Int) - 1) = q := by omega
        rw [e4]
        have hd' := Lib.hid hd
        clear hd hd0 e4
        obtain ⟨u, hu, hu'⟩ := byte_of (65 + j) (by omega)
        have y := one_byte w (65 + (j : Int)) u (by omega) w.heap.size rfl
        obtain ⟨v, hv, hv'⟩ := byte_of (65 + q) (by omega)
        have y2 := one_byte (w.alloc (.cells #[.int .u8 (65 + (j : Int))] 5)) (65 + (q : Int)) v (by omega) (w.heap.size + 1) (by simp)
        have m3 : IntKind.u8.wrap (q : Int) = q := IntWalk.u8_in _ (by omega)
        have m4 : IntKind.u8.wrap (65 + (q : Int)) = 65 + q := IntWalk.u8_in _ (by omega)
        have HF : Hid (colB i = ⟨#[v]⟩ ++ ⟨#[u]⟩) := by
          show colB i = _
          have := colB_is i (by omega)
          rw [← hd'.out, if_neg (by omega)] at this
          rw [this, HJ.out, hu', hv', show 64 + (q + 1) = 65 + q by omega]
        clear hu hu' hv hv'
        go_wp2
        ((try simp only [Exit.inBlock, Exit.then]); first | (refine bodyPost_ret (results_tmp rfl _ _ _) rfl ?_) | (refine bodyPost_ret (results_none rfl _ _ _) rfl ?_) | go_ret2 | go_ret3 | (refine bodyPost_ret (by simp [results, Tryd.results34, go_sem]; try rfl) rfl ?_))
        exact ⟨ret_str HF.out.symm, by (repeat (first | exact Below.refl _ _ | exact below_box _ _ | refine Below.stepBox ?_ _ | refine Below.stepDrew ?_ | refine Below.stepDrewN ?_ _ | refine Below.step (by assumption) ?_))⟩

theorem dec_step (k : Nat) (h : ¬ k < 10) : Lib.decDigits k = Lib.decDigits (k / 10) ++ [UInt8.ofNat (48 + k % 10)] := by rw [Lib.decDigits, dif_neg h]
theorem dec_low (k : Nat) (h : k < 10) : Lib.decDigits k = [UInt8.ofNat (48 + k)] := by rw [Lib.decDigits, dif_pos h]
theorem itoaB_nat (n : Nat) : itoaB n = ⟨(Lib.decDigits n).toArray⟩ := by unfold itoaB Lib.itoa; rw [if_neg (by omega)]; simp

set_option maxRecDepth 100000 in
theorem Digits_any (n : Nat) (hn : n < 1025) (w : World) : Calls Tryd.prog 35 #[.int .i64 n] w (RetPost w (.string (itoaB n))) := by
  rw [itoaB_nat]
  go_enter Tryd.func35, Tryd.ntmps35
  go_wp2
  go_loopw [3, 0] (fun v3 v0 wr => ∃ (k : Nat) (t : ByteArray), v3 = .string t ∧ v0 = .int .i64 k ∧ k ≤ n ∧ t.size + k ≤ 2000 ∧ (⟨(Lib.decDigits k).toArray⟩ ++ t : ByteArray) = ⟨(Lib.decDigits n).toArray⟩ ∧ Below w.heap.size w wr) (fun _ v0 _ => (intOf v0).toNat)
  case atStart => exact ⟨n, ⟨#[]⟩, rfl, rfl, Nat.le_refl _, by show 0 + n ≤ 2000; omega, by apply ByteArray.ext; simp, Below.refl _ _⟩
  case round =>
    obtain ⟨k, t, rfl, rfl, hk, ht, he, hbl⟩ := hrel
    by_cases h9 : 9 < k
    · obtain ⟨j, hj⟩ : ∃ j, j = k % 10 := ⟨_, rfl⟩
      obtain ⟨d, hd⟩ : ∃ d, d = k / 10 := ⟨_, rfl⟩
      have hj10 : j < 10 := by omega
      have hdk : d < k := by omega
      have e2 : ((k : Int)).tmod 10 = (j : Int) := by rw [hj, Int.tmod_eq_emod_of_nonneg (by omega)]; omega
      have e3 : ((k : Int)).tdiv 10 = (d : Int) := by rw [hd, Int.tdiv_eq_ediv_of_nonneg (by omega)]; omega
      have hs := dec_step k (by omega)
      rw [← hj, ← hd] at hs
      obtain ⟨u, hu, hu'⟩ := byte_of (48 + j) (by omega)
      have y := one_byte wr (48 + (j : Int)) u (by omega) wr.heap.size rfl
      have HX : Hid (⟨(Lib.decDigits d).toArray⟩ ++ (⟨#[u]⟩ ++ t : ByteArray) = (⟨(Lib.decDigits n).toArray⟩ : ByteArray)) := by
        show _ = _
        rw [← he, hs, ← hu']
        apply ByteArray.ext; simp
      have m1 : IntKind.u8.wrap (j : Int) = j := IntWalk.u8_in _ (by omega)
      have m2 : IntKind.u8.wrap (48 + (j : Int)) = 48 + j := IntWalk.u8_in _ (by omega)
      have n1 : ¬ 9223372036854775807 < 1 + t.size := by omega
      clear hj hd hs hu hu' he
      go_wp2
      go_roundw
      case rel => exact ⟨d, ⟨#[u]⟩ ++ t, rfl, by go_num, by omega, by simp; show 1 + t.size + d ≤ 2000; omega, HX.out, Below.stepBox hbl _⟩
      case measure => simp [intOf]; omega
    · obtain ⟨u, hu, hu'⟩ := byte_of (48 + k) (by omega)
      have y := one_byte wr (48 + (k : Int)) u (by omega) wr.heap.size rfl
      have HX : Hid ((⟨#[u]⟩ ++ t : ByteArray) = (⟨(Lib.decDigits n).toArray⟩ : ByteArray)) := by
        show _ = _
        rw [← he, dec_low k (by omega), ← hu']
      have m1 : IntKind.u8.wrap (k : Int) = k := IntWalk.u8_in _ (by omega)
      have m2 : IntKind.u8.wrap (48 + (k : Int)) = 48 + k := IntWalk.u8_in _ (by omega)
      have n1 : ¬ 9223372036854775807 < 1 + t.size := by omega
      clear hu hu' he
      go_wp2
      ((try simp only [Exit.inBlock, Exit.then]); first | (refine bodyPost_ret (results_tmp rfl _ _ _) rfl ?_) | (refine bodyPost_ret (results_none rfl _ _ _) rfl ?_) | go_ret2 | go_ret3 | (refine bodyPost_ret (by simp [results, Tryd.results35, go_sem]; try rfl) rfl ?_))
      exact ⟨ret_str HX.out, Below.stepBox hbl _⟩

def areaN (a b c d : Int) : Int := if areaOk a b c d then cellsN a b c d else 0

set_option maxRecDepth 100000 in
theorem refArea_any (a b c d : Int) (f g h k : Bool) (w : World) : Calls Tryd.prog 9 #[refV a b f g, refV c d h k] w (RetPost w (.tuple #[.bool (areaOk a b c d), .int .i64 (areaN a b c d)])) := by
  have H1 := fun w => ref_Cell a b w
  have H2 := fun w => ref_Cell c d w
  by_cases hall : goodC a b = true ∧ goodC c d = true ∧ a ≤ c ∧ b ≤ d
  · obtain ⟨g1, g2, h3, h4⟩ := hall
    have hb := cellsN_bound g1 g2 h3 h4
    have hC : Hid (∀ i : Nat, (i : Int) ≤ c - a + 1 → 0 ≤ (i : Int) * (d - b + 1) ∧ (i : Int) * (d - b + 1) ≤ 65536) := by
      intro i hi
      rw [goodC_iff] at g1 g2
      have hx : 0 ≤ d - b + 1 := by omega
      have h64 : (i : Int) ≤ 64 := by omega
      have h1024 : d - b + 1 ≤ 1024 := by omega
      exact ⟨Int.mul_nonneg (by omega) hx, Int.le_trans (Int.mul_le_mul h64 h1024 hx (by decide)) (by decide)⟩
    have HE : Hid (areaOk a b c d = decide (cellsN a b c d ≤ 4096)) := by show areaOk a b c d = _; unfold areaOk; simp [g1, g2, h3, h4]
    rw [g1] at H1; rw [g2] at H2
    have H1' := Lib.hid H1; have H2' := Lib.hid H2
    rw [goodC_iff] at g1 g2
    have HB := Lib.hid hb
    clear H1 H2 hb
    go_enter Tryd.func9, Tryd.ntmps9
    go_wp2_with fail
    refine (H1'.out _).mono ?_; rintro e w1 ⟨rfl, rfl⟩
    go_wp2_with fail
    refine (H2'.out _).mono ?_; rintro e w1 ⟨rfl, rfl⟩
    go_wp2_with fail
    go_loop [8, 9] (fun v8 v9 => ∃ i : Nat, (i : Int) ≤ c - a + 1 ∧ v8 = .int .i64 ((i : Int) * (d - b + 1)) ∧ v9 = .int .i64 (a + i)) (fun _ v9 => (c + 1 - intOf v9).toNat)
    case atStart => exact ⟨0, by omega, by simp, by simp⟩
    case round =>
      obtain ⟨i, hi, rfl, rfl⟩ := hrel
      by_cases hlt : a + i ≤ c
      · obtain ⟨x, hx⟩ : ∃ x, x = (i : Int) * (d - b + 1) := ⟨_, rfl⟩
        have hy : x + d - b + 1 = ((i + 1 : Nat) : Int) * (d - b + 1) := by rw [hx]; simp only [Int.natCast_add, Int.add_mul, Int.natCast_one, Int.one_mul]; omega
        have hx0 := hC.out i hi
        have hx1 := hC.out (i + 1) (by omega)
        rw [← hx] at hx0 ⊢
        rw [← hy] at hx1
        have HY := Lib.hid hy
        clear hx hy
        have m1 : IntKind.i64.wrap (x + d) = x + d := IntWalk.i64_in _ (by omega)
        have m2 : IntKind.i64.wrap (x + d - b) = x + d - b := IntWalk.i64_in _ (by omega)
        have m3 : IntKind.i64.wrap (x + d - b + 1) = x + d - b + 1 := IntWalk.i64_in _ (by omega)
        have m4 : IntKind.i64.wrap (a + i + 1) = a + i + 1 := IntWalk.i64_in _ (by omega)
        go_wp2
        go_round
        case rel => exact ⟨i + 1, by omega, by rw [HY.out], by go_num⟩
        case measure => simp [intOf]; omega
      · obtain ⟨x, hx⟩ : ∃ x, x = (i : Int) * (d - b + 1) := ⟨_, rfl⟩
        have hc : x = cellsN a b c d := by rw [hx]; unfold cellsN; rw [show (i : Int) = c - a + 1 by omega]
        rw [← hc] at HE HB
        have HX := Lib.hid hc
        have hb := HB.out
        rw [← hx]
        clear hx hc HB
        by_cases h4096 : x ≤ 4096
        · have HE' : Hid (areaOk a b c d = true) := by show areaOk a b c d = true; rw [HE.out]; simp [h4096]
          go_wp2
          ((try simp only [Exit.inBlock, Exit.then]); first | (refine bodyPost_ret (results_tmp rfl _ _ _) rfl ?_) | (refine bodyPost_ret (results_none rfl _ _ _) rfl ?_) | go_ret2 | go_ret3 | (refine bodyPost_ret (by simp [results, Tryd.results9, go_sem]; try rfl) rfl ?_))
          exact ⟨by rw [areaN, HE'.out, HX.out]; rfl, by (repeat (first | exact Below.refl _ _ | exact below_box _ _ | refine Below.stepBox ?_ _ | refine Below.stepDrew ?_ | refine Below.stepDrewN ?_ _ | refine Below.step (by assumption) ?_))⟩
        · have HE' : Hid (areaOk a b c d = false) := by show areaOk a b c d = false; rw [HE.out]; simp [h4096]
          go_wp2
          ((try simp only [Exit.inBlock, Exit.then]); first | (refine bodyPost_ret (results_tmp rfl _ _ _) rfl ?_) | (refine bodyPost_ret (results_none rfl _ _ _) rfl ?_) | go_ret2 | go_ret3 | (refine bodyPost_ret (by simp [results, Tryd.results9, go_sem]; try rfl) rfl ?_))
          exact ⟨by rw [areaN, HE'.out]; rfl, by (repeat (first | exact Below.refl _ _ | exact below_box _ _ | refine Below.stepBox ?_ _ | refine Below.stepDrew ?_ | refine Below.stepDrewN ?_ _ | refine Below.step (by assumption) ?_))⟩
  · have HE : Hid (areaOk a b c d = false) := by
      show areaOk a b c d = false
      unfold areaOk
      cases e1 : goodC a b <;> cases e2 : goodC c d <;> simp [e1, e2] at hall ⊢
      intro p q; omega
    cases e1 : goodC a b with
    | false =>
      rw [e1] at H1
      cases e2 : goodC c d
      all_goals
        rw [e2] at H2
        have H1' := Lib.hid H1; have H2' := Lib.hid H2
        clear H1 H2 hall e1 e2
        go_enter Tryd.func9, Tryd.ntmps9
        go_wp2_with fail
        refine (H1'.out _).mono ?_; rintro e w1 ⟨rfl, rfl⟩
        go_wp2_with fail
        refine (H2'.out _).mono ?_; rintro e w1 ⟨rfl, rfl⟩
        go_wp2_with fail
        ((try simp only [Exit.inBlock, Exit.then]); first | (refine bodyPost_ret (results_tmp rfl _ _ _) rfl ?_) | (refine bodyPost_ret (results_none rfl _ _ _) rfl ?_) | go_ret2 | go_ret3 | (refine bodyPost_ret (by simp [results, Tryd.results9, go_sem]; try rfl) rfl ?_))
        exact ⟨by rw [areaN, HE.out]; rfl, by (repeat (first | exact Below.refl _ _ | exact below_box _ _ | refine Below.stepBox ?_ _ | refine Below.stepDrew ?_ | refine Below.stepDrewN ?_ _ | refine Below.step (by assumption) ?_))⟩
    | true =>
      rw [e1] at H1
      cases e2 : goodC c d with
      | false =>
        rw [e2] at H2
        have H1' := Lib.hid H1; have H2' := Lib.hid H2
        clear H1 H2 hall e1 e2
        go_enter Tryd.func9, Tryd.ntmps9
        go_wp2_with fail
        refine (H1'.out _).mono ?_; rintro e w1 ⟨rfl, rfl⟩
        go_wp2_with fail
        refine (H2'.out _).mono ?_; rintro e w1 ⟨rfl, rfl⟩
        go_wp2_with fail
        ((try simp only [Exit.inBlock, Exit.then]); first | (refine bodyPost_ret (results_tmp rfl _ _ _) rfl ?_) | (refine bodyPost_ret (results_none rfl _ _ _) rfl ?_) | go_ret2 | go_ret3 | (refine bodyPost_ret (by simp [results, Tryd.results9, go_sem]; try rfl) rfl ?_))
        exact ⟨by rw [areaN, HE.out]; rfl, by (repeat (first | exact Below.refl _ _ | exact below_box _ _ | refine Below.stepBox ?_ _ | refine Below.stepDrew ?_ | refine Below.stepDrewN ?_ _ | refine Below.step (by assumption) ?_))⟩
      | true =>
        rw [e2] at H2
        have H1' := Lib.hid H1; have H2' := Lib.hid H2
        have hn : c < a ∨ (a ≤ c ∧ d < b) := by
          by_cases h : a ≤ c
          · refine Or.inr ⟨h, ?_⟩
            by_cases h' : b ≤ d
            · exact absurd ⟨e1, e2, h, h'⟩ hall
            · omega
          · exact Or.inl (by omega)
        clear H1 H2 hall e1 e2
        rcases hn with hn | ⟨hn, hn'⟩
        all_goals
          go_enter Tryd.func9, Tryd.ntmps9
          go_wp2_with fail
          refine (H1'.out _).mono ?_; rintro e w1 ⟨rfl, rfl⟩
          go_wp2_with fail
          refine (H2'.out _).mono ?_; rintro e w1 ⟨rfl, rfl⟩
          go_wp2_with fail
          ((try simp only [Exit.inBlock, Exit.then]); first | (refine bodyPost_ret (results_tmp rfl _ _ _) rfl ?_) | (refine bodyPost_ret (results_none rfl _ _ _) rfl ?_) | go_ret2 | go_ret3 | (refine bodyPost_ret (by simp [results, Tryd.results9, go_sem]; try rfl) rfl ?_))
          exact ⟨by rw [areaN, HE.out]; rfl, by (repeat (first | exact Below.refl _ _ | exact below_box _ _ | refine Below.stepBox ?_ _ | refine Below.stepDrew ?_ | refine Below.stepDrewN ?_ _ | refine Below.step (by assumption) ?_))⟩

/-- The document's text of a cell: the program's. -/
theorem RefText_any (c r : Int) (f g : Bool) (w : World) : Calls Tryd.prog 10 #[refV c r f g] w (RetPost w (.string (refB c r f g))) := by
  have H := fun w => ref_Cell c r w
  cases h : goodC c r with
  | false =>
    rw [h] at H
    have HR : Hid (refB c r f g = ⟨#[]⟩) := by show refB c r f g = _; unfold refB; rw [h]; rfl
    have HH := Lib.hid H; clear H h
    go_enter Tryd.func10, Tryd.ntmps10
    go_wp2_with (go_at_call 19; refine (HH.out _).mono ?_; rintro e w1 ⟨rfl, rfl⟩)
    ((try simp only [Exit.inBlock, Exit.then]); first | (refine bodyPost_ret (results_tmp rfl _ _ _) rfl ?_) | (refine bodyPost_ret (results_none rfl _ _ _) rfl ?_) | go_ret2 | go_ret3 | (refine bodyPost_ret (by simp [results, Tryd.results10, go_sem]; try rfl) rfl ?_))
    exact ⟨ret_str HR.out.symm, by (repeat (first | exact Below.refl _ _ | exact below_box _ _ | refine Below.stepBox ?_ _ | refine Below.stepDrew ?_ | refine Below.stepDrewN ?_ _ | refine Below.step (by assumption) ?_))⟩
  | true =>
    rw [h] at H
    have HR : Hid (refB c r f g = dollar f ++ colB c.toNat ++ dollar g ++ itoaB (r + 1)) := by show refB c r f g = _; unfold refB; rw [h]; rfl
    rw [goodC_iff] at h
    have HH := Lib.hid H; clear H
    obtain ⟨n, rfl⟩ : ∃ n : Nat, c = n := ⟨c.toNat, by omega⟩
    rw [Int.toNat_natCast] at HR
    have s2 := colB_size n (by omega)
    obtain ⟨m, hm⟩ : ∃ m : Nat, r + 1 = m := ⟨(r + 1).toNat, by omega⟩
    have s4 := itoa_small m (by omega)
    have HI := Lib.hid (fun w => Digits_any m (by omega) w)
    have HC := Lib.hid (fun w => Columns_any n (by omega) w)
    have er : IntKind.i64.wrap (r + 1) = m := by rw [← hm]; exact IntWalk.i64_in _ (by omega)
    rw [hm] at HR
    obtain ⟨sc, hsc⟩ : ∃ sc, sc = colB n := ⟨_, rfl⟩
    obtain ⟨si, hsi⟩ : ∃ si, si = itoaB m := ⟨_, rfl⟩
    rw [← hsc] at HC s2 HR
    rw [← hsi] at HI s4 HR
    clear hsc hsi hm h
    have n1 : ¬ 9223372036854775807 < 1 + sc.size := by omega
    have n2 : ¬ 9223372036854775807 < sc.size + 1 := by omega
    have n3 : ¬ 9223372036854775807 < 1 + sc.size + 1 := by omega
    have n4 : ¬ 9223372036854775807 < sc.size + si.size := by omega
    have n5 : ¬ 9223372036854775807 < 1 + sc.size + si.size := by omega
    have n6 : ¬ 9223372036854775807 < sc.size + 1 + si.size := by omega
    have n7 : ¬ 9223372036854775807 < 1 + sc.size + 1 + si.size := by omega
    cases f
    all_goals cases g
    all_goals
      go_enter Tryd.func10, Tryd.ntmps10
      go_wp2_with fail
      refine (HH.out _).mono ?_; rintro e w1 ⟨rfl, rfl⟩
      go_wp2_with fail
      refine (HC.out _).mono ?_; rintro e w2 ⟨rfl, hb2⟩
    · have k0 := box_at (v := .int .i64 n) hb2 0 rfl; have k1 := box_at (v := .int .i64 r) hb2 1 rfl; have k2 := box_at (v := .bool false) hb2 2 rfl; have k3 := box_at (v := .bool false) hb2 3 rfl
      go_wp2_with fail
      refine (HI.out _).mono ?_; rintro e w3 ⟨rfl, hb3⟩
      go_wp2
      ((try simp only [Exit.inBlock, Exit.then]); first | (refine bodyPost_ret (results_tmp rfl _ _ _) rfl ?_) | (refine bodyPost_ret (results_none rfl _ _ _) rfl ?_) | go_ret2 | go_ret3 | (refine bodyPost_ret (by simp [results, Tryd.results10, go_sem]; try rfl) rfl ?_))
      exact ⟨ret_str (by rw [HR.out]; apply ByteArray.ext; simp [dollar]), by (repeat (first | exact Below.refl _ _ | exact below_box _ _ | refine Below.stepBox ?_ _ | refine Below.stepDrew ?_ | refine Below.stepDrewN ?_ _ | refine Below.step (by assumption) ?_))⟩
    · have k0 := box_at (v := .int .i64 n) hb2 0 rfl; have k1 := box_at (v := .int .i64 r) hb2 1 rfl; have k2 := box_at (v := .bool false) hb2 2 rfl; have k3 := box_at (v := .bool true) hb2 3 rfl
      go_wp2_with fail
      refine (HI.out _).mono ?_; rintro e w3 ⟨rfl, hb3⟩
      go_wp2
      ((try simp only [Exit.inBlock, Exit.then]); first | (refine bodyPost_ret (results_tmp rfl _ _ _) rfl ?_) | (refine bodyPost_ret (results_none rfl _ _ _) rfl ?_) | go_ret2 | go_ret3 | (refine bodyPost_ret (by simp [results, Tryd.results10, go_sem]; try rfl) rfl ?_))
      exact ⟨ret_str (by rw [HR.out]; apply ByteArray.ext; simp [dollar]), by (repeat (first | exact Below.refl _ _ | exact below_box _ _ | refine Below.stepBox ?_ _ | refine Below.stepDrew ?_ | refine Below.stepDrewN ?_ _ | refine Below.step (by assumption) ?_))⟩
    · have k0 := box_at (v := .int .i64 n) hb2 0 rfl; have k1 := box_at (v := .int .i64 r) hb2 1 rfl; have k2 := box_at (v := .bool true) hb2 2 rfl; have k3 := box_at (v := .bool false) hb2 3 rfl
      go_wp2_with fail
      refine (HI.out _).mono ?_; rintro e w3 ⟨rfl, hb3⟩
      go_wp2
      ((try simp only [Exit.inBlock, Exit.then]); first | (refine bodyPost_ret (results_tmp rfl _ _ _) rfl ?_) | (refine bodyPost_ret (results_none rfl _ _ _) rfl ?_) | go_ret2 | go_ret3 | (refine bodyPost_ret (by simp [results, Tryd.results10, go_sem]; try rfl) rfl ?_))
      exact ⟨ret_str (by rw [HR.out]; apply ByteArray.ext; simp [dollar]), by (repeat (first | exact Below.refl _ _ | exact below_box _ _ | refine Below.stepBox ?_ _ | refine Below.stepDrew ?_ | refine Below.stepDrewN ?_ _ | refine Below.step (by assumption) ?_))⟩
    · have k0 := box_at (v := .int .i64 n) hb2 0 rfl; have k1 := box_at (v := .int .i64 r) hb2 1 rfl; have k2 := box_at (v := .bool true) hb2 2 rfl; have k3 := box_at (v := .bool true) hb2 3 rfl
      go_wp2_with fail
      refine (HI.out _).mono ?_; rintro e w3 ⟨rfl, hb3⟩
      go_wp2
      ((try simp only [Exit.inBlock, Exit.then]); first | (refine bodyPost_ret (results_tmp rfl _ _ _) rfl ?_) | (refine bodyPost_ret (results_none rfl _ _ _) rfl ?_) | go_ret2 | go_ret3 | (refine bodyPost_ret (by simp [results, Tryd.results10, go_sem]; try rfl) rfl ?_))
      exact ⟨ret_str (by rw [HR.out]; apply ByteArray.ext; simp [dollar]), by (repeat (first | exact Below.refl _ _ | exact below_box _ _ | refine Below.stepBox ?_ _ | refine Below.stepDrew ?_ | refine Below.stepDrewN ?_ _ | refine Below.step (by assumption) ?_))⟩
end Go.Proofs.YtpljbpndooilgaaDoor
