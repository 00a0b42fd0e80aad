/- The laws' own helpers over the package trees: what the document fixes; the books' names. -/
import Derived.Test.YtkjfiofefndgkaaTA
namespace Go.Proofs.Ytkjfiofefndgkaa
set_option linter.unusedVariables false
set_option linter.unusedSimpArgs false
open Go.RowKit
open Go.ChangeMaps (setBlock)

def name1 (k : Nat) : ByteArray := ⟨#[UInt8.ofNat (97 + k)]⟩

def StrPost (w : World) (s : ByteArray) (e : Ending) (w' : World) : Prop := e = .returned (.string s) ∧ Below w.heap.size w w'

set_option maxHeartbeats 400000 in
theorem names_any (k : Nat) (w : World) (hk : k < 5) : Calls Try.prog 27 #[.int .i64 k] w (StrPost w (name1 k)) := by
  have h : k = 0 ∨ k = 1 ∨ k = 2 ∨ k = 3 ∨ k = 4 := by omega
  rcases h with rfl | rfl | rfl | rfl | rfl
  all_goals
    go_enter Try.func27, Try.ntmps27
    go_wp2
    go_ret
    exact ⟨rfl, (Below.refl _ _).alloc (Nat.le_refl _) _⟩

set_option maxHeartbeats 2000000 in
theorem wakes_any (w : World) : Calls Try.prog 8 #[] w (BoolPost w true) := by
  have HN := Lib.hid (New_any w)
  have M1 : Hid (mayB 1 = true) := by show mayB 1 = true; decide
  have HB : Hid (nameOk ⟨#[66]⟩ = true) := by show nameOk ⟨#[66]⟩ = true; decide
  go_enter Try.func8, Try.ntmps8
  go_wp2_with fail
  refine HN.out.mono ?_; rintro e w1 ⟨rfl, h1, t1⟩
  go_wp2_with fail
  refine (Start_ok 1 _ _ _ _ h1 M1.out rfl).mono ?_; rintro e w2 ⟨rfl, h2, t2⟩
  go_wp2_with fail
  refine (Sent_on 1 _ _ _ _ h2 M1.out rfl (by simp) (by simp)).mono ?_; rintro e w3 ⟨rfl, h3, t3⟩
  go_wp2_with fail
  refine (Rest_waits 1 _ _ _ _ h3 M1.out rfl (by simp)).mono ?_; rintro e w4 ⟨rfl, rfl⟩
  go_wp2_with fail
  refine (Busy_any 1 _ _ _ _ h3 (wf_of_may M1.out)).mono ?_; rintro e w4 ⟨rfl, rfl⟩
  go_wp2_with fail
  refine (Signal_on 1 _ _ _ _ h3 M1.out rfl (by simp) (by simp)).mono ?_; rintro e w4 ⟨rfl, h4, t4⟩
  go_wp2_with fail
  refine (Rest_done 1 _ _ _ _ h4 M1.out rfl).mono ?_; rintro e w5 ⟨rfl, h5, t5⟩
  go_wp2_with fail
  refine (Got_new 1 _ _ _ _ _ h5 M1.out (by decide) HB.out rfl).mono ?_; rintro e w6 ⟨rfl, s6, l6, h6, t6⟩
  go_wp2_with fail
  refine (Rest_done 1 _ _ _ _ h6 M1.out rfl).mono ?_; rintro e w7 ⟨rfl, h7, t7⟩
  go_wp2_with fail
  refine (Busy_any 1 _ _ _ _ h7 (wf_of_may M1.out)).mono ?_; rintro e w8 ⟨rfl, rfl⟩
  go_wp2_with fail
  go_ret
  refine ⟨ret_bool rfl, ?_⟩
  have b1 : Below w.heap.size w w1 := Touch.onto (Below.refl _ _) t1 (Nat.le_refl _) (fun _ h => h.elim)
  have b2 := Touch.onto b1 t2 b1.size (fun k h => by subst h; exact Nat.le_refl _)
  have b3 := Touch.onto b2 t3 b2.size (fun k h => by subst h; exact b1.size)
  have b4 := Touch.onto b3 t4 b3.size (fun k h => by subst h; exact b1.size)
  have b5 := Touch.onto b4 t5 b4.size (fun k h => by subst h; exact Nat.le_refl _)
  have b6 := Touch.onto b5 t6 b5.size (fun k h => by subst h; exact Nat.le_refl _)
  exact Touch.onto b6 t7 b6.size (fun k h => by subst h; exact Nat.le_refl _)
end Go.Proofs.Ytkjfiofefndgkaa
