/- The cell that a text names, as package addr reads it. -/
import Derived.Test.YtpljbpndooilgaaDoorAj
import Derived.Laws.IdiomCopy
namespace Go.Proofs.YtpljbpndooilgaaDoor
set_option linter.unusedVariables false
set_option linter.unusedSimpArgs false
open Go.RowKit Go.Sort
open Go.ChangeMaps (setBlock)

theorem finish4 {w w1 : World} (hb : Below w.heap.size w w1) (v0 v1 v2 v3 : Value) (c : ∀ i, i < 4 → ∃ v, w1.cell? ⟨w.heap.size, i, none⟩ = some v) :
    ∃ W, (((w1.setCell ⟨w.heap.size, 0, none⟩ v0).setCell ⟨w.heap.size, 1, none⟩ v1).setCell ⟨w.heap.size, 2, none⟩ v2).setCell ⟨w.heap.size, 3, none⟩ v3 = W ∧
    W.cell? ⟨w.heap.size, 0, none⟩ = some v0 ∧ W.cell? ⟨w.heap.size, 1, none⟩ = some v1 ∧ W.cell? ⟨w.heap.size, 2, none⟩ = some v2 ∧ W.cell? ⟨w.heap.size, 3, none⟩ = some v3 ∧ Below w.heap.size w W := by
  have k := World.cell?_setCells_in w.heap.size [v0, v1, v2, v3] 0 w1 (fun j hj => by
    obtain ⟨v, hv⟩ := c j hj
    rw [show 0 + j = j by omega, hv]; rfl)
  exact ⟨_, rfl, k 0 (by simp), k 1 (by simp), k 2 (by simp), k 3 (by simp), (((hb.setCell (Nat.le_refl _) _).setCell (Nat.le_refl _) _).setCell (Nat.le_refl _) _).setCell (Nat.le_refl _) _⟩

def colOk (p : ByteArray) : Bool := decide (1 ≤ pre setLet p ∧ pre setLet p ≤ 3)
def rowOk (q : ByteArray) : Bool := decide (1 ≤ pre setDigit q ∧ pre setDigit q ≤ 5 ∧ pre setDigit q = q.size ∧ ¬ q.data.toList.head? = some 48)
def headB (s : ByteArray) : ByteArray := (restB s).extract 0 (pre setLet (restB s))
def tailB (s : ByteArray) : ByteArray := (restB s).extract (pre setLet (restB s)) (restB s).size
/-- The cell that a text names; none: it names none. -/
def refP (s : ByteArray) : Option (Int × Int × Bool × Bool) :=
  if colOk (restB s) && rowOk (restB (tailB s)) then some ((numF (headB s).data.toList : Int) - 1, (rowF (restB (tailB s)).data.toList : Int) - 1, fixOn s, fixOn (tailB s)) else none
def refPV : Option (Int × Int × Bool × Bool) → Value
  | some (c, r, f, g) => .tuple #[refV c r f g, .bool true]
  | none => .tuple #[refV 0 0 false false, .bool false]

theorem Atoi_ret (s : ByteArray) (n : Nat) (hl : s.size ≤ 18) (h : Lib.atoi s.data.toList = some (n : Int)) (w : World) :
    Calls Tryd.prog 55 #[.string s] w (RetPost w (.tuple #[.int .i64 n, .nilIface])) := by
  refine (Tryd.strconv_Atoi s n hl h w).mono ?_
  rintro e w' ⟨rfl, t, rfl⟩
  exact ⟨rfl, below_bytes _ _ _⟩

theorem inDigit_of_pre (q : ByteArray) (h : pre setDigit q = q.size) : ∀ b ∈ q.data.toList, digitB b.toNat = true := by
  intro b hb
  obtain ⟨i, hi, rfl⟩ := List.getElem_of_mem hb
  have := (pre_all setDigit q).1 h i (by simpa using hi)
  rw [← setDigit_is]; exact this
theorem inLet_of_pre (p : ByteArray) : ∀ b ∈ (p.extract 0 (pre setLet p)).data.toList, letterB b.toNat = true := by
  intro b hb
  have e : (p.extract 0 (pre setLet p)).data.toList = p.data.toList.take (pre setLet p) := by rw [Lib.extract_data]; simp
  rw [e] at hb
  obtain ⟨i, hi, rfl⟩ := List.getElem_of_mem hb
  have hi' : i < pre setLet p := by rw [List.length_take] at hi; omega
  rw [List.getElem_take, ← setLet_is]
  exact pre_in setLet p i (by have := pre_le setLet p; omega) hi'

set_option maxHeartbeats 1000000 in
set_option maxRecDepth 100000 in
theorem ref_any (s : ByteArray) (w : World) (h1 : s.size ≤ 140737488351232) :
    Calls Tryd.prog 46 #[.string s] w (RetPost w (refPV (refP s))) := by
  have HP1 := fun w => part_any setLet s 3 w setLet_low (by omega) h1 (by decide)
  by_cases hc : 1 ≤ pre setLet (restB s) ∧ pre setLet (restB s) ≤ 3
  · have HV1 : partV setLet 3 s = .tuple #[.string (headB s), .bool (fixOn s), .string (tailB s), .bool true] := if_pos hc
    have hcO : colOk (restB s) = true := by unfold colOk; simpa using hc
    rw [HV1] at HP1
    have hts : (tailB s).size ≤ 140737488351232 := by
      have := restB_size s
      unfold tailB; simp; omega
    have HP2 := fun w => part_any setDigit (tailB s) 5 w setDigit_low (by omega) hts (by decide)
    have hhs : (headB s).size ≤ 3 := by unfold headB; simp; omega
    have HN := Lib.hid (fun w => number_any (headB s) w hhs (inLet_of_pre (restB s)))
    obtain ⟨hd, hhd⟩ : ∃ hd, hd = headB s := ⟨_, rfl⟩
    obtain ⟨tl, htl⟩ : ∃ tl, tl = tailB s := ⟨_, rfl⟩
    obtain ⟨fo, hfo⟩ : ∃ fo, fo = fixOn s := ⟨_, rfl⟩
    rw [← hhd, ← htl, ← hfo] at HP1
    rw [← htl] at HP2 hts
    rw [← hhd] at HN hhs
    have HP1' := Lib.hid HP1
    have hRP : refP s = if rowOk (restB tl) then some ((numF hd.data.toList : Int) - 1, (rowF (restB tl).data.toList : Int) - 1, fo, fixOn tl) else none := by
      unfold refP; rw [hcO, ← hhd, ← htl, ← hfo]; simp
    obtain ⟨q, hq⟩ : ∃ q, q = restB tl := ⟨_, rfl⟩
    rw [← hq] at hRP
    have hqs := restB_size tl
    rw [← hq] at hqs
    obtain ⟨go, hgo⟩ : ∃ go, go = fixOn tl := ⟨_, rfl⟩
    rw [← hgo] at hRP
    have HV2 : partV setDigit 5 tl = if 1 ≤ pre setDigit q ∧ pre setDigit q ≤ 5 then .tuple #[.string (q.extract 0 (pre setDigit q)), .bool go, .string (q.extract (pre setDigit q) q.size), .bool true] else .tuple #[.string ⟨#[]⟩, .bool false, .string ⟨#[]⟩, .bool false] := by
      unfold partV; rw [← hq, ← hgo]
    rw [HV2] at HP2
    have hpq := pre_le setDigit q
    clear HP1 HV1 HV2 hc hcO hhd htl hfo hq hgo
    by_cases hm : 1 ≤ pre setDigit q ∧ pre setDigit q ≤ 5
    · rw [if_pos hm] at HP2
      by_cases hall : pre setDigit q = q.size
      · have e1 : q.extract 0 (pre setDigit q) = q := by rw [hall]; simp
        have e2 : q.extract (pre setDigit q) q.size = ⟨#[]⟩ := extract_none q _ (by omega)
        rw [e1, e2] at HP2
        have HP2' := Lib.hid HP2
        have hd0 := inDigit_of_pre q hall
        have hm5 := hm
        rw [hall] at hm5
        have hq1 : 1 ≤ q.size := hm5.1
        have hq5 : q.size ≤ 5 := hm5.2
        have hne : q.data.toList ≠ [] := by
          intro e
          have hl : q.data.toList.length = q.size := by simp
          rw [e] at hl
          have : (0 : Nat) = q.size := hl
          omega
        have HA := Lib.hid (fun w => Atoi_ret q (rowF q.data.toList) (by omega) (atoi_digits _ hne hd0) w)
        have hrb : rowF q.data.toList < 10 ^ 5 := Nat.lt_of_lt_of_le (rowF_bound _ hd0) (Nat.pow_le_pow_right (by decide) (by simpa using hq5))
        have h0e : q.data.toList.head? = some q[0] := by
          rw [List.head?_eq_getElem?, List.getElem?_eq_getElem (show 0 < q.data.toList.length by simp; omega)]; rfl
        by_cases hz : q[0] = 48
        · have hro : rowOk q = false := by unfold rowOk; rw [h0e, hz]; simp
          have HE : Hid (refP s = none) := by show refP s = none; rw [hRP, hro]; rfl
          have z1 : ((q[0].toNat : Int) == 48) = true := by rw [hz]; rfl
          clear HP2 hall hm e1 e2 hd0 hne h0e hro hRP hrb hz
          go_enter Tryd.func46, Tryd.ntmps46
          go_wp2_with fail
          refine (HP1'.out _).mono ?_; rintro e w1 ⟨rfl, hb1⟩
          go_wp2_with fail
          refine (HP2'.out _).mono ?_; rintro e w2 ⟨rfl, hb2⟩
          have hc2 := hb1.trans (hb2.mono hb1.size)
          have k0 := box_at (v := .int .i64 0) hc2 0 rfl; have kf0 := box_free hc2 0; have k1 := box_at (v := .int .i64 0) hc2 1 rfl; have kf1 := box_free hc2 1; have k2 := box_at (v := .bool false) hc2 2 rfl; have kf2 := box_free hc2 2; have k3 := box_at (v := .bool false) hc2 3 rfl; have kf3 := box_free hc2 3
          go_wp2_with fail
          obtain ⟨W4, hW4, c0, c1, c2, c3, hB⟩ := finish4 (Below.step hc2 (below_box _ _)) (.int .i64 0) (.int .i64 0) (.bool false) (.bool false) (fun i hi => by
            have : i = 0 ∨ i = 1 ∨ i = 2 ∨ i = 3 := by omega
            rcases this with rfl | rfl | rfl | rfl
            · exact ⟨_, k0⟩
            · exact ⟨_, k1⟩
            · exact ⟨_, k2⟩
            · exact ⟨_, k3⟩)
          rw [hW4]
          clear hW4
          refine bodyPost_ret (v := .tuple #[refV 0 0 false false, .bool false]) (by simp [results, Tryd.results46, go_sem, c0, c1, c2, c3]) rfl ?_
          exact ⟨by rw [HE.out]; rfl, hB⟩
        · have hro : rowOk q = true := by unfold rowOk; rw [h0e]; exact decide_eq_true ⟨hm.1, hm.2, hall, fun e => hz (Option.some.inj e)⟩
          have HE : Hid (refP s = some ((numF hd.data.toList : Int) - 1, (rowF q.data.toList : Int) - 1, fo, go)) := by show refP s = _; rw [hRP, hro]; rfl
          have z1 : ((q[0].toNat : Int) == 48) = false := by
            simp only [beq_eq_false_iff_ne, ne_eq]; intro e; exact hz (UInt8.toNat_inj.1 (by show q[0].toNat = 48; omega))
          obtain ⟨x, hx⟩ : ∃ x, x = (numF hd.data.toList : Int) - 1 := ⟨_, rfl⟩
          obtain ⟨y, hy⟩ : ∃ y, y = rowF q.data.toList := ⟨_, rfl⟩
          rw [← hx] at HN HE
          rw [← hy] at HA HE hrb
          have m1 : IntKind.i64.wrap ((y : Int) - 1) = y - 1 := IntWalk.i64_in _ (by omega)
          clear HP2 hall hm e1 e2 hd0 hne h0e hro hRP hz hx hy
          go_enter Tryd.func46, Tryd.ntmps46
          go_wp2_with fail
          refine (HP1'.out _).mono ?_; rintro e w1 ⟨rfl, hb1⟩
          go_wp2_with fail
          refine (HP2'.out _).mono ?_; rintro e w2 ⟨rfl, hb2⟩
          go_wp2_with fail
          refine (HA.out _).mono ?_; rintro e w3 ⟨rfl, hb3⟩
          go_wp2_with fail
          refine (HN.out _).mono ?_; rintro e w4 ⟨rfl, hb4⟩
          have hc2 := hb1.trans (hb2.mono hb1.size)
          have hc3 := hc2.trans (hb3.mono hc2.size)
          have hc4 := hc3.trans (hb4.mono hc3.size)
          have k0 := box_at (v := .int .i64 0) hc4 0 rfl; have kf0 := box_free hc4 0; have k1 := box_at (v := .int .i64 0) hc4 1 rfl; have kf1 := box_free hc4 1; have k2 := box_at (v := .bool false) hc4 2 rfl; have kf2 := box_free hc4 2; have k3 := box_at (v := .bool false) hc4 3 rfl; have kf3 := box_free hc4 3
          go_wp2_with fail
          obtain ⟨W4, hW4, c0, c1, c2, c3, hB⟩ := finish4 (Below.step hc4 (below_box _ _)) (.int .i64 x) (.int .i64 (y - 1)) (.bool fo) (.bool go) (fun i hi => by
            have : i = 0 ∨ i = 1 ∨ i = 2 ∨ i = 3 := by omega
            rcases this with rfl | rfl | rfl | rfl
            · exact ⟨_, k0⟩
            · exact ⟨_, k1⟩
            · exact ⟨_, k2⟩
            · exact ⟨_, k3⟩)
          rw [hW4]
          clear hW4
          refine bodyPost_ret (v := .tuple #[refV x (y - 1) fo go, .bool true]) (by simp [results, Tryd.results46, go_sem, c0, c1, c2, c3]) rfl ?_
          exact ⟨by rw [HE.out]; rfl, hB⟩
      · have hne : ¬ (q.extract (pre setDigit q) q.size).toList = [] := by
          intro e
          have := congrArg List.length e
          rw [Lib.toList_data] at this
          simp at this; omega
        have hro : rowOk q = false := by unfold rowOk; simp [hall]
        have HE : Hid (refP s = none) := by show refP s = none; rw [hRP, hro]; rfl
        obtain ⟨rw', hrw⟩ : ∃ x, x = q.extract 0 (pre setDigit q) := ⟨_, rfl⟩
        obtain ⟨rs, hrs⟩ : ∃ x, x = q.extract (pre setDigit q) q.size := ⟨_, rfl⟩
        rw [← hrw, ← hrs] at HP2
        rw [← hrs] at hne
        have hne' : (!rs.toList.isEmpty) = true := by simp [hne]
        have HP2' := Lib.hid HP2
        clear HP2 hm hall hro hRP hrw hrs HN
        go_enter Tryd.func46, Tryd.ntmps46
        go_wp2_with fail
        refine (HP1'.out _).mono ?_; rintro e w1 ⟨rfl, hb1⟩
        go_wp2_with fail
        refine (HP2'.out _).mono ?_; rintro e w2 ⟨rfl, hb2⟩
        have hc2 := hb1.trans (hb2.mono hb1.size)
        have k0 := box_at (v := .int .i64 0) hc2 0 rfl; have kf0 := box_free hc2 0; have k1 := box_at (v := .int .i64 0) hc2 1 rfl; have kf1 := box_free hc2 1; have k2 := box_at (v := .bool false) hc2 2 rfl; have kf2 := box_free hc2 2; have k3 := box_at (v := .bool false) hc2 3 rfl; have kf3 := box_free hc2 3
        go_wp2_with fail
        obtain ⟨W4, hW4, c0, c1, c2, c3, hB⟩ := finish4 (Below.step hc2 (below_box _ _)) (.int .i64 0) (.int .i64 0) (.bool false) (.bool false) (fun i hi => by
          have : i = 0 ∨ i = 1 ∨ i = 2 ∨ i = 3 := by omega
          rcases this with rfl | rfl | rfl | rfl
          · exact ⟨_, k0⟩
          · exact ⟨_, k1⟩
          · exact ⟨_, k2⟩
          · exact ⟨_, k3⟩)
        rw [hW4]
        clear hW4
        refine bodyPost_ret (v := .tuple #[refV 0 0 false false, .bool false]) (by simp [results, Tryd.results46, go_sem, c0, c1, c2, c3]) rfl ?_
        exact ⟨by rw [HE.out]; rfl, hB⟩
    · rw [if_neg hm] at HP2
      have hro : rowOk q = false := by unfold rowOk; simp; omega
      have HE : Hid (refP s = none) := by show refP s = none; rw [hRP, hro]; rfl
      have HP2' := Lib.hid HP2
      clear HP2 hm hro hRP HN
      go_enter Tryd.func46, Tryd.ntmps46
      go_wp2_with fail
      refine (HP1'.out _).mono ?_; rintro e w1 ⟨rfl, hb1⟩
      go_wp2_with fail
      refine (HP2'.out _).mono ?_; rintro e w2 ⟨rfl, hb2⟩
      have hc2 := hb1.trans (hb2.mono hb1.size)
      have k0 := box_at (v := .int .i64 0) hc2 0 rfl; have kf0 := box_free hc2 0; have k1 := box_at (v := .int .i64 0) hc2 1 rfl; have kf1 := box_free hc2 1; have k2 := box_at (v := .bool false) hc2 2 rfl; have kf2 := box_free hc2 2; have k3 := box_at (v := .bool false) hc2 3 rfl; have kf3 := box_free hc2 3
      go_wp2_with fail
      obtain ⟨W4, hW4, c0, c1, c2, c3, hB⟩ := finish4 (Below.step hc2 (below_box _ _)) (.int .i64 0) (.int .i64 0) (.bool false) (.bool false) (fun i hi => by
        have : i = 0 ∨ i = 1 ∨ i = 2 ∨ i = 3 := by omega
        rcases this with rfl | rfl | rfl | rfl
        · exact ⟨_, k0⟩
        · exact ⟨_, k1⟩
        · exact ⟨_, k2⟩
        · exact ⟨_, k3⟩)
      rw [hW4]
      clear hW4
      refine bodyPost_ret (v := .tuple #[refV 0 0 false false, .bool false]) (by simp [results, Tryd.results46, go_sem, c0, c1, c2, c3]) rfl ?_
      exact ⟨by rw [HE.out]; rfl, hB⟩
  · have HV1 : partV setLet 3 s = .tuple #[.string ⟨#[]⟩, .bool false, .string ⟨#[]⟩, .bool false] := if_neg hc
    have hcO : colOk (restB s) = false := by unfold colOk; simpa using hc
    rw [HV1] at HP1
    have HE : Hid (refP s = none) := by show refP s = none; unfold refP; rw [hcO]; rfl
    have HP1' := Lib.hid HP1
    clear HP1 HV1 hc hcO
    go_enter Tryd.func46, Tryd.ntmps46
    go_wp2_with fail
    refine (HP1'.out _).mono ?_; rintro e w1 ⟨rfl, hb1⟩
    have k0 := box_at (v := .int .i64 0) hb1 0 rfl; have kf0 := box_free hb1 0; have k1 := box_at (v := .int .i64 0) hb1 1 rfl; have kf1 := box_free hb1 1; have k2 := box_at (v := .bool false) hb1 2 rfl; have kf2 := box_free hb1 2; have k3 := box_at (v := .bool false) hb1 3 rfl; have kf3 := box_free hb1 3
    go_wp2_with fail
    obtain ⟨W4, hW4, c0, c1, c2, c3, hB⟩ := finish4 (Below.step hb1 (below_box _ _)) (.int .i64 0) (.int .i64 0) (.bool false) (.bool false) (fun i hi => by
      have : i = 0 ∨ i = 1 ∨ i = 2 ∨ i = 3 := by omega
      rcases this with rfl | rfl | rfl | rfl
      · exact ⟨_, k0⟩
      · exact ⟨_, k1⟩
      · exact ⟨_, k2⟩
      · exact ⟨_, k3⟩)
    rw [hW4]
    clear hW4
    refine bodyPost_ret (v := .tuple #[refV 0 0 false false, .bool false]) (by simp [results, Tryd.results46, go_sem, c0, c1, c2, c3]) rfl ?_
    exact ⟨by rw [HE.out]; rfl, hB⟩
end Go.Proofs.YtpljbpndooilgaaDoor
