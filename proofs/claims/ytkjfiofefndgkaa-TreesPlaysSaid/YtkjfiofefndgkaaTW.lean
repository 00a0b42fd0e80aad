/- The document's calls of a table of tickets: Start, Got, Sent, Signal. -/
import Derived.Test.YtkjfiofefndgkaaTV
import Derived.Test.YtkjfiofefndgkaaRn
namespace Go.Proofs.Ytkjfiofefndgkaa
set_option linter.unusedVariables false
set_option linter.unusedSimpArgs false
open Go.RowKit
open Go.ChangeMaps (setBlock)

theorem may_out {n : Int} (h : mayB n = false) : n < 1 ∨ 9007199254740992 < n := by unfold mayB at h; simp at h; omega
theorem may_in {n : Int} (h : mayB n = true) : 1 ≤ n ∧ n ≤ 9007199254740992 := by unfold mayB at h; simpa using h

/-- Find in the two cases. -/
theorem find_there {own : Nat → Prop} {w : World} {r : Nat} {R : Tab} (h : RefIn own w r R) (n : Int) (hl : R.length ≤ 1000) (hf : findIx R n < R.length) :
    Calls Try.prog 25 #[.pointer (some ⟨r, 0, none⟩), .int .i64 n] w fun e w' => e = .returned (.int .i64 (findIx R n : Int)) ∧ w = w' := by
  have := Find_any h n (by omega)
  unfold findR at this
  rwa [if_pos hf] at this
theorem find_none {own : Nat → Prop} {w : World} {r : Nat} {R : Tab} (h : RefIn own w r R) (n : Int) (hl : R.length ≤ 1000) (hf : ¬ findIx R n < R.length) :
    Calls Try.prog 25 #[.pointer (some ⟨r, 0, none⟩), .int .i64 n] w fun e w' => e = .returned (.int .i64 (-1)) ∧ w = w' := by
  have := Find_any h n (by omega)
  unfold findR at this
  rwa [if_neg hf] at this

def rstartR (R : Tab) (n : Int) : Int := if mayB n = false then 2 else if findIx R n < R.length then 13 else 0
def rstartA (R : Tab) (n : Int) : Tab := if mayB n = false then R else if findIx R n < R.length then R else putL R (n, ⟨#[]⟩, 0)

set_option maxHeartbeats 1000000 in
theorem rstart_in {own : Nat → Prop} {w : World} {r : Nat} {R : Tab} (h : RefIn own w r R) (n : Int) (hl : R.length ≤ 1000) :
    Calls Try.prog 13 #[.pointer (some ⟨r, 0, none⟩), .int .i64 n] w (RefPost own w r (rstartA R n) (.int .i64 (rstartR R n))) := by
  unfold rstartA rstartR
  cases hm : mayB n with
  | false =>
    have HS := Lib.hid (h.same (.int .i64 2))
    have h' := may_out hm
    clear h hm
    rw [if_pos rfl, if_pos rfl]
    by_cases h1 : n < 1
    · clear h'
      go_enter Try.func13, Try.ntmps13
      go_wp2_with fail
      go_ret
      exact HS.out
    · have h2 : 9007199254740992 < n := by omega
      clear h'
      go_enter Try.func13, Try.ntmps13
      go_wp2_with fail
      go_ret
      exact HS.out
  | true =>
    obtain ⟨h1, h2⟩ := may_in hm
    clear hm
    rw [if_neg (show ¬ (true = false) by decide), if_neg (show ¬ (true = false) by decide)]
    by_cases hf : findIx R n < R.length
    · have HF := Lib.hid (find_there h n hl hf)
      have HS := Lib.hid (h.same (.int .i64 13))
      rw [if_pos hf, if_pos hf]
      obtain ⟨f, hf'⟩ : ∃ f, f = findIx R n := ⟨_, rfl⟩
      rw [← hf'] at HF hf
      clear h hf'
      go_enter Try.func13, Try.ntmps13
      go_wp2_with (go_at_call 25; refine HF.out.mono ?_; rintro e w' ⟨rfl, rfl⟩)
      go_ret
      exact HS.out
    · have HF := Lib.hid (find_none h n hl hf)
      have HP := Lib.hid (put_any h n 0 ⟨#[]⟩ hl)
      rw [if_neg hf, if_neg hf]
      clear h hf
      go_enter Try.func13, Try.ntmps13
      go_wp2_with (first | (go_at_call 25; refine HF.out.mono ?_; rintro e w' ⟨rfl, rfl⟩) | (go_at_call 28; refine HP.out.mono ?_; rintro e w' ⟨rfl, hT, hR⟩))
      go_ret
      exact ⟨rfl, hT, hR⟩

def rgotR (R : Tab) (n : Int) (p : ByteArray) : Value :=
  if mayB n = false then .tuple #[.bool false, .int .i64 2] else if nameOk p = false then .tuple #[.bool false, .int .i64 2] else if findIx R n < R.length then .tuple #[.bool true, .int .i64 0] else .tuple #[.bool false, .int .i64 0]
def rgotA (R : Tab) (n : Int) (p : ByteArray) : Tab := if mayB n = false then R else if nameOk p = false then R else if findIx R n < R.length then R else putL R (n, p, 0)

/-- Behind what writes new blocks alone. -/
theorem RefIn.same' {own : Nat → Prop} {w w' : World} {r : Nat} {R : Tab} (h : RefIn own w r R) (hb : Below w.heap.size w w') (v : Value) : RefPost own w r R v (.returned v) w' :=
  ⟨rfl, Touch.of_below hb, own, h.below hb, fun _ => Or.inl⟩
theorem RefPost.after {own : Nat → Prop} {w w1 w' : World} {r : Nat} {R : Tab} {v v' : Value} {e : Ending} (hb : Below w.heap.size w w1) (h : RefPost own w1 r R v e w') : RefPost own w r R v' (.returned v') w' := by
  obtain ⟨_, hT, own', h1, h2⟩ := h
  refine ⟨rfl, (Touch.of_below hb).trans hT, own', h1, fun k hk => ?_⟩
  rcases h2 k hk with e | e
  · exact Or.inl e
  · exact Or.inr (Nat.le_trans hb.size e)

set_option maxHeartbeats 1000000 in
theorem rgot_in {own : Nat → Prop} {w : World} {r : Nat} {R : Tab} (h : RefIn own w r R) (n : Int) (p : ByteArray) (hp : p.size ≤ 140737488351232) (hl : R.length ≤ 1000) :
    Calls Try.prog 15 #[.pointer (some ⟨r, 0, none⟩), .int .i64 n, .string p] w (RefPost own w r (rgotA R n p) (rgotR R n p)) := by
  have HN := Lib.hid (refName_any p w hp)
  unfold rgotA rgotR
  cases hm : mayB n with
  | false =>
    have HS : Hid (∀ w', Below w.heap.size w w' → RefPost own w r R (.tuple #[.bool false, .int .i64 2]) (.returned (.tuple #[.bool false, .int .i64 2])) w') := fun w' hb => h.same' hb _
    have h' := may_out hm
    clear h hm
    rw [if_pos rfl, if_pos rfl]
    by_cases h1 : n < 1
    · clear h'
      go_enter Try.func15, Try.ntmps15
      go_wp2_with (go_at_call 30; refine HN.out.mono ?_; rintro e w' ⟨rfl, hb⟩)
      go_ret2
      exact HS.out _ hb
    · have h2 : 9007199254740992 < n := by omega
      clear h'
      go_enter Try.func15, Try.ntmps15
      go_wp2_with (go_at_call 30; refine HN.out.mono ?_; rintro e w' ⟨rfl, hb⟩)
      go_ret2
      exact HS.out _ hb
  | true =>
    obtain ⟨h1, h2⟩ := may_in hm
    clear hm
    rw [if_neg (show ¬ (true = false) by decide), if_neg (show ¬ (true = false) by decide)]
    unfold BoolPost at HN
    cases hk : nameOk p with
    | false =>
      rw [if_pos rfl, if_pos rfl]
      rw [hk] at HN
      have HS : Hid (∀ w', Below w.heap.size w w' → RefPost own w r R (.tuple #[.bool false, .int .i64 2]) (.returned (.tuple #[.bool false, .int .i64 2])) w') := fun w' hb => h.same' hb _
      clear h hk
      go_enter Try.func15, Try.ntmps15
      go_wp2_with (go_at_call 30; refine HN.out.mono ?_; rintro e w' ⟨rfl, hb⟩)
      go_ret2
      exact HS.out _ hb
    | true =>
      rw [if_neg (show ¬ (true = false) by decide), if_neg (show ¬ (true = false) by decide)]
      rw [hk] at HN
      clear hk
      by_cases hf : findIx R n < R.length
      · have HF : Hid (∀ w', Below w.heap.size w w' → Calls Try.prog 25 #[.pointer (some ⟨r, 0, none⟩), .int .i64 n] w' fun e w2 => e = .returned (.int .i64 (findIx R n : Int)) ∧ w' = w2) := fun w' hb => find_there (h.below hb) n hl hf
        have HS : Hid (∀ w', Below w.heap.size w w' → RefPost own w r R (.tuple #[.bool true, .int .i64 0]) (.returned (.tuple #[.bool true, .int .i64 0])) w') := fun w' hb => h.same' hb _
        rw [if_pos hf, if_pos hf]
        obtain ⟨f, hf'⟩ : ∃ f, f = findIx R n := ⟨_, rfl⟩
        rw [← hf'] at HF hf
        clear h hf'
        go_enter Try.func15, Try.ntmps15
        go_wp2_with (first | (go_at_call 30; refine HN.out.mono ?_; rintro e w' ⟨rfl, hb⟩) | (go_at_call 25; refine (HF.out _ hb).mono ?_; rintro e w2 ⟨rfl, rfl⟩))
        go_ret2
        exact HS.out _ hb
      · have HF : Hid (∀ w', Below w.heap.size w w' → Calls Try.prog 25 #[.pointer (some ⟨r, 0, none⟩), .int .i64 n] w' fun e w2 => e = .returned (.int .i64 (-1)) ∧ w' = w2) := fun w' hb => find_none (h.below hb) n hl hf
        have HP : Hid (∀ w', Below w.heap.size w w' → Calls Try.prog 28 #[.pointer (some ⟨r, 0, none⟩), .agg #[.int .i64 n, .string p, .int .i64 0]] w' (RefPost own w' r (putL R (n, p, 0)) (.tuple #[]))) := fun w' hb => put_any (h.below hb) n 0 p hl
        rw [if_neg hf, if_neg hf]
        clear h hf
        go_enter Try.func15, Try.ntmps15
        go_wp2_with (first | (go_at_call 30; refine HN.out.mono ?_; rintro e w' ⟨rfl, hb⟩) | (go_at_call 25; refine (HF.out _ hb).mono ?_; rintro e w2 ⟨rfl, rfl⟩) | (go_at_call 28; refine (HP.out _ hb).mono ?_; rintro e w3 ⟨rfl, hT, hR⟩))
        go_ret2
        exact RefPost.after (v := .tuple #[]) (e := .returned (.tuple #[])) hb ⟨rfl, hT, hR⟩
end Go.Proofs.Ytkjfiofefndgkaa
