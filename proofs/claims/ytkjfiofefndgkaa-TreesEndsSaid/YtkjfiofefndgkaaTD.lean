/- A step of the books: what is sent, what comes. -/
import Derived.Test.YtkjfiofefndgkaaTC
namespace Go.Proofs.Ytkjfiofefndgkaa
set_option linter.unusedVariables false
set_option linter.unusedSimpArgs false
open Go.RowKit
open Go.ChangeMaps (setBlock)

theorem rest_any (base bp i : Nat) (A : PS) (w : World) (h : PlayIs base bp A w) (hi : i < 5) (hn : A.way.length ≤ 1000000) :
    Calls Try.prog 11 #[.pointer (some ⟨bp, 0, none⟩), .int .i64 i] w (UnitPost base bp (restA i A) w) := by
  unfold restA
  cases hs : A.st i with
  | none => exact rest_none base bp i A w h hi hs
  | some x =>
    obtain ⟨q, d⟩ := x
    cases d with
    | succ d => cases q <;> exact rest_waits base bp i A w h hi hs
    | zero =>
      cases q with
      | none => exact rest_root base bp i A w h hi hs
      | some q => exact rest_answers base bp i q A w h hi hs hn

def StepPost (base bp : Nat) (ok : Bool) (A : PS) (w : World) (e : Ending) (w' : World) : Prop := e = .returned (.bool ok) ∧ PlayIs base bp A w' ∧ Fr base w w'

theorem max_nat (At : Int) : ∃ a : Nat, (if 0 < At then At else 0) = (a : Int) ∧ (a : Int) = max 0 At := by
  by_cases h : 0 < At
  · exact ⟨At.toNat, by rw [if_pos h]; omega, by omega⟩
  · exact ⟨0, by rw [if_neg h]; rfl, by omega⟩

set_option maxHeartbeats 1000000 in
theorem step_idle (base bp i a j : Nat) (A : PS) (w : World) (D At To : Int) (h : PlayIs base bp A w) (h0 : 0 ≤ To) (h1 : To < 256) (hD : (bits BinOp.and IntKind.i64 D 1 == 1) = true)
    (ha : (if 0 < At then At else 0) = (a : Int)) (hi : (a : Int) % 5 = (i : Int)) (hj : To % 5 = (j : Int)) (hs : A.st i = none) :
    Calls Try.prog 10 #[.pointer (some ⟨bp, 0, none⟩), .agg #[.int .i64 D, .int .i64 At, .int .u8 To]] w (StepPost base bp true A w) := by
  have hi5 : i < 5 := by omega
  have h' := h.below ((Below.refl _ w).alloc (Nat.le_refl _) (.cells #[.int .i64 D, .int .i64 At, .int .u8 To] 34))
  have hbl : Fr base w (w.alloc (.cells #[.int .i64 D, .int .i64 At, .int .u8 To] 34)) := (Fr.refl _ _).alloc h.base_le _
  have HP := Lib.hid h'
  obtain ⟨b, v, hp, hst⟩ := h'
  have hc := hp.cell hi5
  have hT := hp.tree i hi5
  rw [Bk.L_none ((hst i hi5).trans hs)] at hT
  have HB := Lib.hid (Busy_any 1 _ _ _ _ hT (wf_of_may may1))
  clear hT hp hst hs h
  go_enter Try.func10, Try.ntmps10
  go_wp2_with (go_at_call 12; refine HB.out.mono ?_; rintro e w' ⟨rfl, rfl⟩)
  go_ret
  exact ⟨rfl, HP.out, hbl⟩
set_option maxHeartbeats 1000000 in
theorem step_self (base bp i a : Nat) (A : PS) (w : World) (D At To : Int) (x : Option Nat × Nat) (h : PlayIs base bp A w) (h0 : 0 ≤ To) (h1 : To < 256) (hD : (bits BinOp.and IntKind.i64 D 1 == 1) = true)
    (ha : (if 0 < At then At else 0) = (a : Int)) (hi : (a : Int) % 5 = (i : Int)) (hj : To % 5 = (i : Int)) (hs : A.st i = some x) :
    Calls Try.prog 10 #[.pointer (some ⟨bp, 0, none⟩), .agg #[.int .i64 D, .int .i64 At, .int .u8 To]] w (StepPost base bp true A w) := by
  have hi5 : i < 5 := by omega
  have h' := h.below ((Below.refl _ w).alloc (Nat.le_refl _) (.cells #[.int .i64 D, .int .i64 At, .int .u8 To] 34))
  have hbl : Fr base w (w.alloc (.cells #[.int .i64 D, .int .i64 At, .int .u8 To] 34)) := (Fr.refl _ _).alloc h.base_le _
  have HP := Lib.hid h'
  obtain ⟨b, v, hp, hst⟩ := h'
  have hc := hp.cell hi5
  have hT := hp.tree i hi5
  obtain ⟨q, d⟩ := x
  rw [Bk.L_some ((hst i hi5).trans hs)] at hT
  have HB := Lib.hid (Busy_any 1 _ _ _ _ hT (wf_of_may may1))
  clear hT hp hst hs h
  go_enter Try.func10, Try.ntmps10
  go_wp2_with (go_at_call 12; refine HB.out.mono ?_; rintro e w' ⟨rfl, rfl⟩)
  go_ret
  exact ⟨rfl, HP.out, hbl⟩

theorem Bk.mine_s {b : Bk} {w w' : World} {x : Option Nat × Nat} (hs : b.st = some x) (h : Touch (fun k => k = b.s) w w') : Touch b.mine w w' := h.mono fun _ _ e => Or.inr ⟨by rw [hs]; rfl, e⟩

/-- Another number of unanswered messages. -/
theorem PlayAt.count {base bp : Nat} {w w' : World} {b : Nat → Bk} {v : Value} {way : List Msg} (h : PlayAt base bp w b v way) {i : Nat} (hi : i < 5) {q : Option Nat} {d d' : Nat} (hs : (b i).st = some (q, d))
    (hT : TreesAt w' (b i).t (b i).m (setD [(1, ⟨(b i).s, pname q, d⟩)] 1 d')) (ht : Touch (fun k => k = (b i).s) w w') :
    PlayAt base bp w' (setB b i ⟨(b i).t, (b i).m, (b i).s, some (q, d')⟩) v way ∧ Fr base w w' := by
  have ht' := Bk.mine_s hs ht
  have hb : base ≤ w.heap.size := by have := lt_of_block h.top; have := h.lo; omega
  refine ⟨h.turn hi ht' (Or.inl rfl) ?_ hb (Nat.lt_of_lt_of_le (h.slt i hi) ht.size) (fun q' d'' e => ?_), h.below hi ht'⟩
  · exact hT
  · simp only [Option.some.injEq, Prod.mk.injEq] at e
    exact h.par i q' d hi (by rw [hs, e.1])

set_option maxHeartbeats 1000000 in
set_option maxRecDepth 100000 in
theorem step_sends (base bp i j a : Nat) (A : PS) (w : World) (D At To : Int) (q : Option Nat) (d : Nat) (h : PlayIs base bp A w) (h0 : 0 ≤ To) (h1 : To < 256) (hD : (bits BinOp.and IntKind.i64 D 1 == 1) = true)
    (ha : (if 0 < At then At else 0) = (a : Int)) (hi : (a : Int) % 5 = (i : Int)) (hj : To % 5 = (j : Int)) (hij : ((i : Int) != (j : Int)) = true) (hs : A.st i = some (q, d)) (hd : d ≤ 1000000) (hn : A.way.length ≤ 1000000) :
    Calls Try.prog 10 #[.pointer (some ⟨bp, 0, none⟩), .agg #[.int .i64 D, .int .i64 At, .int .u8 To]] w (StepPost base bp true { st := setSt A.st i (some (q, d + 1)), way := A.way ++ [⟨i, j, false⟩] } w) := by
  have hi5 : i < 5 := by omega
  have hj5 : j < 5 := by omega
  have h' := h.below ((Below.refl _ w).alloc (Nat.le_refl _) (.cells #[.int .i64 D, .int .i64 At, .int .u8 To] 34))
  have hbl : Fr base w (w.alloc (.cells #[.int .i64 D, .int .i64 At, .int .u8 To] 34)) := (Fr.refl _ _).alloc h.base_le _
  obtain ⟨b, v, hp, hst⟩ := h'
  have hc := hp.cell hi5
  have hT := hp.tree i hi5
  have hs' := (hst i hi5).trans hs
  rw [Bk.L_some hs'] at hT
  have HB := Lib.hid (Busy_any 1 _ _ _ _ hT (wf_of_may may1))
  have HS := Lib.hid (Sent_on 1 _ _ _ _ hT may1 rfl (by simp) (by simp; omega))
  have HP : Hid (∀ w', TreesAt w' (b i).t (b i).m (setD [(1, ⟨(b i).s, pname q, d⟩)] 1 ((d + 1 : Nat) : Int)) → Touch (fun k => k = (b i).s) (w.alloc (.cells #[.int .i64 D, .int .i64 At, .int .u8 To] 34)) w' →
      ∃ A' N' C' w2, (Builtin.append_ #[26, 26] 26 #[v, .slice (some ⟨w'.heap.size, 0, none⟩) 1 1]).run Try.prog (w'.alloc (.cells #[.int .i64 i, .int .i64 j, .bool false] 69)) = .ok (.slice A' N' C') w2 ∧
        w'.cell? ⟨bp, 5, none⟩ = some v ∧ w2.cell? ⟨bp, 5, none⟩ = some v ∧ w2.frozen? ⟨bp, 5, none⟩ = false ∧
        PlayIs base bp { st := setSt A.st i (some (q, d + 1)), way := A.way ++ [⟨i, j, false⟩] } (w2.setCell ⟨bp, 5, none⟩ (.slice A' N' C')) ∧ Fr base w (w2.setCell ⟨bp, 5, none⟩ (.slice A' N' C'))) := by
    intro w' h1 h2
    obtain ⟨g1, g2⟩ := hp.count hi5 hs' h1 h2
    obtain ⟨A', N', C', w2, hrun, hp2, hb2, hcu, hfu⟩ := g1.app ⟨i, j, false⟩ ⟨hi5, hj5⟩ hn
    exact ⟨A', N', C', w2, hrun, g1.way?.1, hcu, hfu, ⟨_, _, hp2, setB_st hst⟩, (hbl.trans g2).trans hb2⟩
  clear hT hp hst hs h hs' hbl
  go_enter Try.func10, Try.ntmps10
  go_wp2_with (first | (go_at_call 12; refine HB.out.mono ?_; rintro e w' ⟨rfl, rfl⟩) | (go_at_call 16; refine HS.out.mono ?_; rintro e w' ⟨rfl, h1, h2⟩; obtain ⟨A', N', C', w2, hrun, c1, c2, c3, hfin, hbf⟩ := HP.out w' h1 h2; clear HP h1 h2; have HR := Lib.hid hrun; clear hrun) | (at_builtin; refine wpList_append_eq rfl _ _ _ rfl _ _ rfl rfl HR.out ?_))
  go_ret
  exact ⟨rfl, hfin, hbf⟩

end Go.Proofs.Ytkjfiofefndgkaa
