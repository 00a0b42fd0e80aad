/- How cells are written: the columns' letters, the text of a reference. -/
import Derived.Test.YtpljbpndooilgaaDoorAc
import Derived.Test.YtpljbpndooilgaaDoorALay
import Derived.Lib.QuietBelow
namespace Go.Proofs.YtpljbpndooilgaaDoor
set_option linter.unusedVariables false
set_option linter.unusedSimpArgs false
open Go.RowKit Go.Sort
open Go.ChangeMaps (setBlock)

def RetPost (w : World) (v : Value) (e : Ending) (w' : World) : Prop := e = .returned v ∧ Below w.heap.size w w'
theorem ret_str {a b : ByteArray} (h : a = b) : Ending.returned (.string a) = Ending.returned (.string b) := by rw [h]
def dollar (b : Bool) : ByteArray := if b then ⟨#[36]⟩ else ⟨#[]⟩
theorem dollar_size (b : Bool) : (dollar b).size ≤ 1 := by cases b <;> decide

theorem fixed_any (b : Bool) (w : World) : Calls Tryd.prog 39 #[.bool b] w (RetPost w (.string (dollar b))) := by
  cases b <;>
  · go_enter Tryd.func39, Tryd.ntmps39
    go_wp2
    go_ret
    exact ⟨rfl, Below.refl _ _⟩

def colL : Nat → Nat → List UInt8
  | 0, _ => []
  | k + 1, m => if m = 0 then [] else colL k ((m - 1) / 26) ++ [UInt8.ofNat (65 + (m - 1) % 26)]
def colB (n : Nat) : ByteArray := ⟨(colL 3 (n + 1)).toArray⟩
theorem colL_step : ∀ k, k < 65 → k ≠ 0 → colL 3 k = colL 3 ((k - 1) / 26) ++ [UInt8.ofNat (65 + (k - 1) % 26)] := by decide
theorem colB_size : ∀ n, n < 64 → (colB n).size ≤ 3 := by decide
def greatB : ByteArray := ⟨#[65, 66, 67, 68, 69, 70, 71, 72, 73, 74, 75, 76, 77, 78, 79, 80, 81, 82, 83, 84, 85, 86, 87, 88, 89, 90]⟩
theorem great_at : ∀ j, j < 26 → (greatB.extract j 26).extract 0 1 = ⟨#[UInt8.ofNat (65 + j)]⟩ := by decide +kernel

theorem col_join (l : List UInt8) (b : UInt8) (t x : ByteArray) (hx : x = ⟨#[b]⟩) : (⟨l.toArray⟩ ++ (x ++ t) : ByteArray) = ⟨(l ++ [b]).toArray⟩ ++ t := by
  rw [hx]; apply ByteArray.ext; simp

theorem column_any (n : Nat) (hn : n < 64) (w : World) : Calls Tryd.prog 40 #[.int .i64 n] w (RetPost w (.string (colB n))) := by
  go_enter Tryd.func40, Tryd.ntmps40
  go_wp2
  go_loopw [0, 3] (fun m s wr => ∃ k : Nat, k ≤ 64 ∧ m = .int .i64 k ∧ w = wr ∧ ∃ t : ByteArray, t.size + k ≤ 64 ∧ s = .string t ∧ ⟨(colL 3 k).toArray⟩ ++ t = colB n) (fun m _ _ => (intOf m).toNat)
  case atStart => exact ⟨n + 1, by omega, by go_num, rfl, ⟨#[]⟩, by show 0 + (n + 1) ≤ 64; omega, rfl, by unfold colB; apply ByteArray.ext; simp⟩
  case round =>
    obtain ⟨k, hk, rfl, rfl, t, ht, rfl, he⟩ := hrel
    by_cases h0 : k = 0
    · subst h0
      have hT : Hid (t = colB n) := by show t = colB n; rw [← he]; apply ByteArray.ext; simp [colL]
      clear he
      go_wp2
      go_ret
      exact ⟨ret_str hT.out, Below.refl _ _⟩
    · obtain ⟨j, hj⟩ : ∃ j, j = (k - 1) % 26 := ⟨_, rfl⟩
      obtain ⟨d, hd⟩ : ∃ d, d = (k - 1) / 26 := ⟨_, rfl⟩
      have e1 : IntKind.i64.wrap ((k : Int) - 1) = (k : Int) - 1 := IntWalk.i64_in _ (by omega)
      have e2 : ((k : Int) - 1).tmod 26 = (j : Int) := by rw [hj, Int.tmod_eq_emod_of_nonneg (by omega)]; omega
      have e3 : ((k : Int) - 1).tdiv 26 = (d : Int) := by rw [hd, Int.tdiv_eq_ediv_of_nonneg (by omega)]; omega
      have hj26 : j < 26 := by omega
      have hdk : d < k := by omega
      have HG := Lib.hid (great_at j hj26)
      have HS := Lib.hid (colL_step k (by omega) h0)
      rw [← hj, ← hd] at HS
      clear hj hd
      have HE := Lib.hid he; clear he
      go_wp2
      go_roundw
      case rel => exact ⟨d, by omega, by go_num, trivial, _, by simp; omega, rfl, (col_join _ _ _ _ HG.out).trans (by rw [← HS.out]; exact HE.out)⟩
      case measure => simp [intOf]; omega

/-- The table of the powers of ten lies where it lay. -/
def Tab (w : World) : Prop := Lib.TabIs Tryd.prog w "internal/strconv.uint64pow10" .u64 Lib.pow10Tab

theorem below_grow (w : World) (k : Nat) (os : Array Obj) : Below w.heap.size w (grow (w.drewN k) os) := below_regrown w (w.drewN k).drawn os

def itoaB (n : Int) : ByteArray := ⟨(Lib.itoa n).toArray⟩
theorem Itoa_any (n : Int) (h0 : 0 ≤ n) (h1 : n ≤ 2000) (w : World) (ht : Tab w) : Calls Tryd.prog 41 #[.int .i64 n] w (RetPost w (.string (itoaB n))) := by
  refine (Tryd.strconv_Itoa n (by omega) (by omega) w ht).mono ?_
  rintro e w' ⟨rfl, k, os, rfl⟩
  exact ⟨rfl, below_grow _ _ _⟩

def refB (c r : Int) (f g : Bool) : ByteArray := if goodC c r then dollar f ++ colB c.toNat ++ dollar g ++ itoaB (r + 1) else ⟨#[]⟩

theorem Tab.below {w w' : World} (h : Tab w) (hb : Below w.heap.size w w') : Tab w' := by
  unfold Tab Lib.TabIs World.var? at *
  cases hg : Tryd.prog.globalNamed "internal/strconv.uint64pow10" with
  | none => rw [hg] at h; exact h
  | some g =>
    rw [hg] at h
    simp only [Option.bind_some] at h ⊢
    have hlt : g < w.heap.size := by
      cases hh : w.heap[g]? with
      | none => rw [hh] at h; cases h
      | some o => exact (Array.getElem?_eq_some_iff.1 hh).1
    rw [hb.block g hlt]; exact h
theorem Tab.box {w : World} (h : Tab w) (o : Obj) : Tab (w.alloc o) := h.below (below_box w o)

theorem itoa_small : ∀ n : Nat, n < 1025 → (itoaB n).size ≤ 4 := by
  intro n hn
  have e : itoaB n = ⟨(Lib.decDigits n).toArray⟩ := by unfold itoaB Lib.itoa; rw [if_neg (by omega)]; simp
  rw [e]
  show (Lib.decDigits n).toArray.size ≤ 4
  rw [Lib.decDigits_eq]
  simp only [List.size_toArray, List.length_map, List.length_range]
  by_cases h : n < 10
  · rw [Lib.nDigits_small h]; omega
  · rw [Lib.nDigits_big h]
    by_cases h : n / 10 < 10
    · rw [Lib.nDigits_small h]; omega
    · rw [Lib.nDigits_big h]
      by_cases h : n / 10 / 10 < 10
      · rw [Lib.nDigits_small h]; omega
      · rw [Lib.nDigits_big h, Lib.nDigits_small (by omega)]; omega

set_option maxHeartbeats 1000000 in
set_option maxRecDepth 100000 in
theorem Ref_Text (c r : Int) (f g : Bool) (w : World) (ht : Tab w) : Calls Tryd.prog 16 #[refV c r f g] w (RetPost w (.string (refB c r f g))) := by
  have H := fun w => Cell_Good c r w
  cases h : goodC c r with
  | false =>
    rw [h] at H
    have HR : Hid (refB c r f g = ⟨#[]⟩) := by show refB c r f g = _; unfold refB; rw [h]; rfl
    have HH := Lib.hid H; clear H h
    go_enter Tryd.func16, Tryd.ntmps16
    go_wp2_with (go_at_call 18; refine (HH.out _).mono ?_; rintro e w1 ⟨rfl, hb1⟩)
    go_ret
    exact ⟨ret_str HR.out.symm, by (repeat (first | exact Below.refl _ _ | exact below_box _ _ | refine Below.stepBox ?_ _ | refine Below.stepDrew ?_ | refine Below.stepDrewN ?_ _ | refine Below.step (by assumption) ?_))⟩
  | true =>
    rw [h] at H
    have HR : Hid (refB c r f g = dollar f ++ colB c.toNat ++ dollar g ++ itoaB (r + 1)) := by show refB c r f g = _; unfold refB; rw [h]; rfl
    rw [goodC_iff] at h
    have HH := Lib.hid H; clear H
    obtain ⟨n, rfl⟩ : ∃ n : Nat, c = n := ⟨c.toNat, by omega⟩
    rw [Int.toNat_natCast] at HR
    have s1 := dollar_size f
    have s2 := colB_size n (by omega)
    have s3 := dollar_size g
    have s4 : (itoaB (r + 1)).size ≤ 4 := by
      obtain ⟨m, hm⟩ : ∃ m : Nat, r + 1 = m := ⟨(r + 1).toNat, by omega⟩
      rw [hm]; exact itoa_small m (by omega)
    have HI := Lib.hid (fun w ht => Itoa_any (r + 1) (by omega) (by omega) w ht)
    obtain ⟨m, hm⟩ : ∃ m, m = r + 1 := ⟨_, rfl⟩
    have er : IntKind.i64.wrap (r + 1) = m := by rw [hm]; exact IntWalk.i64_in _ (by omega)
    rw [← hm] at HI s4 HR
    have HC := Lib.hid (fun w => column_any n (by omega) w)
    obtain ⟨sf, hsf⟩ : ∃ sf, sf = dollar f := ⟨_, rfl⟩
    obtain ⟨sg, hsg⟩ : ∃ sg, sg = dollar g := ⟨_, rfl⟩
    obtain ⟨sc, hsc⟩ : ∃ sc, sc = colB n := ⟨_, rfl⟩
    obtain ⟨si, hsi⟩ : ∃ si, si = itoaB m := ⟨_, rfl⟩
    have HF := Lib.hid (fun w => (hsf ▸ fixed_any f w : Calls Tryd.prog 39 #[.bool f] w (RetPost w (.string sf))))
    have HG := Lib.hid (fun w => (hsg ▸ fixed_any g w : Calls Tryd.prog 39 #[.bool g] w (RetPost w (.string sg))))
    rw [← hsc] at HC s2 HR
    rw [← hsi] at HI s4 HR
    rw [← hsf] at s1 HR
    rw [← hsg] at s3 HR
    clear hsf hsg hsc hsi hm h
    have n1 : ¬ 9223372036854775807 < sf.size + sc.size := by omega
    have n2 : ¬ 9223372036854775807 < sf.size + sc.size + sg.size := by omega
    have n3 : ¬ 9223372036854775807 < sf.size + sc.size + sg.size + si.size := by omega
    go_enter Tryd.func16, Tryd.ntmps16
    go_wp2_with (go_at_call 18; refine (HH.out _).mono ?_; rintro e w1 ⟨rfl, hb1⟩)
    have k0 := cell_regrown (box_at (v := .int .i64 n) hb1 0 rfl)
    have k1 := cell_regrown (box_at (v := .int .i64 r) hb1 1 rfl)
    have k2 := cell_regrown (box_at (v := .bool f) hb1 2 rfl)
    have k3 := cell_regrown (box_at (v := .bool g) hb1 3 rfl)
    have ht1 : Tab w1 := (ht.box _).below hb1
    have cF := fun d os => Calls.regrown_of (HF.out (grow (redrawn w1 d) os))
    have cG := fun d os => Calls.regrown_of (HG.out (grow (redrawn w1 d) os))
    have cC := fun d os => Calls.regrown_of (HC.out (grow (redrawn w1 d) os))
    have cI := fun d os => Calls.regrown_of (HI.out (grow (redrawn w1 d) os) (ht1.below (below_regrown _ _ _)))
    refine wp_region_quiet_below (by kernel_rfl) (by kernel_rfl) ?_
    repeat (quiet_step (first | exact cF _ _ | exact cG _ _ | exact cC _ _ | exact cI _ _))
    refine wpQuiet_nil ?_
    intro _ hw'
    obtain ⟨⟨dq, osq⟩, hw''⟩ := hw'
    subst hw''
    have hq := below_regrown w1 dq osq
    go_wp2
    go_ret
    exact ⟨ret_str HR.out.symm, by (repeat (first | exact Below.refl _ _ | exact below_box _ _ | refine Below.stepBox ?_ _ | refine Below.stepDrew ?_ | refine Below.stepDrewN ?_ _ | refine Below.step (by assumption) ?_))⟩
end Go.Proofs.YtpljbpndooilgaaDoor
