/- A step of the books in one word; the five tables are made. -/
import Derived.Test.YtkjfiofefndgkaaTF
import Derived.Test.YtkjfiofefndgkaaTG
import Derived.Test.YtkjfiofefndgkaaTP
namespace Go.Proofs.Ytkjfiofefndgkaa
set_option linter.unusedVariables false
set_option linter.unusedSimpArgs false
open Go.RowKit
open Go.ChangeMaps (setBlock)

/-- What happens. -/
def stepP (D At To : Int) (A : PS) : PS :=
  if (bits BinOp.and IntKind.i64 D 1 == 1) = true then
    match A.st ((max 0 At).toNat % 5) with
    | none => A
    | some (q, d) => if (max 0 At).toNat % 5 = To.toNat % 5 then A else { st := setSt A.st ((max 0 At).toNat % 5) (some (q, d + 1)), way := A.way ++ [⟨(max 0 At).toNat % 5, To.toNat % 5, false⟩] }
  else if A.way = [] then A else comesA ((max 0 At).toNat % A.way.length) A

theorem stepP_inv {A : PS} (h : Inv A) (D At To : Int) : Inv (stepP D At To A) := by
  unfold stepP
  split
  · split
    · exact h
    · rename_i q d hs
      split
      · exact h
      · exact h.send (by omega) (by omega) hs
  · split
    · exact h
    · exact h.comes _

theorem stepP_way (A : PS) (D At To : Int) : (stepP D At To A).way.length ≤ A.way.length + 1 := by
  unfold stepP
  split
  · split
    · omega
    · split
      · omega
      · simp
  · split
    · omega
    · exact comes_way

set_option maxHeartbeats 400000 in
theorem step_any (base bp : Nat) (A : PS) (w : World) (D At To : Int) (h : PlayIs base bp A w) (hI : Inv A) (h0 : 0 ≤ To) (h1 : To < 256) (hl : A.way.length ≤ 900000) :
    Calls Try.prog 10 #[.pointer (some ⟨bp, 0, none⟩), .agg #[.int .i64 D, .int .i64 At, .int .u8 To]] w (StepPost base bp true (stepP D At To A) w) := by
  obtain ⟨a, ha, hm⟩ := max_nat At
  have hma : (max 0 At).toNat = a := by omega
  unfold stepP
  rw [hma]
  have hj : To % 5 = ((To.toNat % 5 : Nat) : Int) := by omega
  have hi : (a : Int) % 5 = ((a % 5 : Nat) : Int) := by omega
  by_cases hD : (bits BinOp.and IntKind.i64 D 1 == 1) = true
  · rw [if_pos hD]
    cases hs : A.st (a % 5) with
    | none => exact step_idle base bp (a % 5) a (To.toNat % 5) A w D At To h h0 h1 hD ha hi hj hs
    | some x =>
      obtain ⟨q, d⟩ := x
      simp only
      have hd := owed_le hI (k := a % 5) (by omega)
      rw [hs] at hd
      simp only [owed] at hd
      by_cases hij : a % 5 = To.toNat % 5
      · rw [if_pos hij]
        exact step_self base bp (a % 5) a A w D At To (q, d) h h0 h1 hD ha hi (by rw [hij]; exact hj) hs
      · rw [if_neg hij]
        exact step_sends base bp (a % 5) (To.toNat % 5) a A w D At To q d h h0 h1 hD ha hi hj (by rw [bne_iff_ne]; omega) hs (by omega) (by omega)
  · rw [if_neg hD]
    have hD' : (bits BinOp.and IntKind.i64 D 1 == 1) = false := by simpa using hD
    by_cases hw : A.way = []
    · rw [if_pos hw]
      exact step_empty base bp A w D At To h h0 h1 hD' hw
    · rw [if_neg hw]
      have hpos : 0 < A.way.length := by
        cases hA : A.way with
        | nil => exact absurd hA hw
        | cons x l => simp
      have hlt : a % A.way.length < A.way.length := Nat.mod_lt _ hpos
      obtain ⟨x, hx⟩ : ∃ x, A.way[a % A.way.length]? = some x := ⟨_, List.getElem?_eq_getElem hlt⟩
      obtain ⟨f, t, an⟩ := x
      have hds : ∀ k q d, k < 5 → A.st k = some (q, d) → d ≤ 1000000 := by
        intro k q d hk e
        have := owed_le hI hk
        rw [e] at this
        simp only [owed] at this; omega
      cases an with
      | true =>
        obtain ⟨q, d, hs⟩ := hI.waited hx
        exact step_answer base bp a _ A w D At To f t q d h h0 h1 hD' ha rfl hx hl hds hs
      | false =>
        cases hs : A.st t with
        | none => exact step_new base bp a _ A w D At To f t none 0 h h0 h1 hD' ha rfl hx hl hds hs
        | some x =>
          obtain ⟨q, d⟩ := x
          exact step_there base bp a _ A w D At To f t q d h h0 h1 hD' ha rfl hx hl hds hs

/-! ### the tables are made -/
def pc (b : Nat → Bk) (k j : Nat) : Value := if j < k then .pointer (some ⟨(b j).t, 0, none⟩) else .pointer none

structure PartAt (base bp : Nat) (w : World) (b : Nat → Bk) (k : Nat) : Prop where
  lo : base ≤ bp
  top : w.heap[bp]? = some (.cells #[pc b k 0, pc b k 1, pc b k 2, pc b k 3, pc b k 4, .slice none 0 0] 28 (0, 0))
  tree : ∀ j, j < k → TreesAt w (b j).t (b j).m []
  lot : ∀ j, j < k → base ≤ (b j).t ∧ base ≤ (b j).m
  lt : ∀ j, j < k → (b j).t < w.heap.size ∧ (b j).m < w.heap.size
  sst : ∀ j, j < k → (b j).s = (b j).t ∧ (b j).st = none
  ne : ∀ i j, i < k → j < k → i ≠ j → (b i).t ≠ (b j).t ∧ (b i).m ≠ (b j).m

theorem PartAt.step {base bp k : Nat} {w w' : World} {b : Nat → Bk} (h : PartAt base bp w b k) (hk : k < 5) (hT : TreesAt w' (w.heap.size + 1) w.heap.size []) (ht : Touch (fun _ => False) w w') :
    PartAt base bp (w'.setCell ⟨bp, k, none⟩ (.pointer (some ⟨w.heap.size + 1, 0, none⟩))) (setB b k ⟨w.heap.size + 1, w.heap.size, w.heap.size + 1, none⟩) (k + 1) ∧
      Below base w (w'.setCell ⟨bp, k, none⟩ (.pointer (some ⟨w.heap.size + 1, 0, none⟩))) ∧ w'.cell? ⟨bp, k, none⟩ = some (.pointer none) ∧ w'.frozen? ⟨bp, k, none⟩ = false := by
  have hbp := lt_of_block h.top
  have htop : w'.heap[bp]? = _ := (ht.block bp hbp id).trans h.top
  have hlo := h.lo
  have hT2 : Touch (fun c => c = bp) w (w'.setCell ⟨bp, k, none⟩ (.pointer (some ⟨w.heap.size + 1, 0, none⟩))) := (ht.mono fun _ _ e => e.elim).setCell _ _ fun _ => rfl
  have hs1 := lt_of_block hT.top
  have hs0 := hT.map.lt
  have hsb : ∀ j, j < k → setB b k ⟨w.heap.size + 1, w.heap.size, w.heap.size + 1, none⟩ j = b j := fun j hj => by simp [setB, Nat.ne_of_lt hj]
  have hsk : setB b k ⟨w.heap.size + 1, w.heap.size, w.heap.size + 1, none⟩ k = ⟨w.heap.size + 1, w.heap.size, w.heap.size + 1, none⟩ := by simp [setB]
  have hold : ∀ j, j < k → TreesAt (w'.setCell ⟨bp, k, none⟩ (.pointer (some ⟨w.heap.size + 1, 0, none⟩))) (b j).t (b j).m [] := by
    intro j hj
    refine (h.tree j hj).keep hT2 (fun e => ?_) (fun e => ?_) (fun q hq => by cases hq)
    · have := (h.tree j hj).top; rw [e, h.top] at this; simp at this
    · obtain ⟨⟨es, c, hm, _⟩, _⟩ := (h.tree j hj).map; rw [e, h.top] at hm; cases hm
  have hnew : TreesAt (w'.setCell ⟨bp, k, none⟩ (.pointer (some ⟨w.heap.size + 1, 0, none⟩))) (w.heap.size + 1) w.heap.size [] := by
    refine hT.keep (S := fun c => c = bp) ((Touch.refl _ w').setCell _ _ fun _ => rfl) (fun e => ?_) (fun e => ?_) (fun q hq => by cases hq)
    · omega
    · omega
  refine ⟨⟨h.lo, ?_, ?_, ?_, ?_, ?_, ?_⟩, ?_, ?_, ?_⟩
  · have := heap_setCell_same w' bp k _ _ (.pointer (some ⟨w.heap.size + 1, 0, none⟩)) htop
    rw [this]
    have h' : k = 0 ∨ k = 1 ∨ k = 2 ∨ k = 3 ∨ k = 4 := by omega
    rcases h' with rfl | rfl | rfl | rfl | rfl <;> simp [pc, setB]
  · intro j hj
    by_cases e : j = k
    · subst e; rw [hsk]; exact hnew
    · rw [hsb j (by omega)]; exact hold j (by omega)
  · intro j hj
    by_cases e : j = k
    · subst e; rw [hsk]; simp only; omega
    · rw [hsb j (by omega)]; exact h.lot j (by omega)
  · intro j hj
    have := hT2.size
    by_cases e : j = k
    · subst e; rw [hsk]; simp only; simp only [World.size_setCell]; omega
    · rw [hsb j (by omega)]; have := h.lt j (by omega); simp only [World.size_setCell] at *; omega
  · intro j hj
    by_cases e : j = k
    · subst e; rw [hsk]; exact ⟨rfl, rfl⟩
    · rw [hsb j (by omega)]; exact h.sst j (by omega)
  · intro i j hi hj hij
    by_cases e : i = k
    · have e' : j ≠ k := fun e' => hij (e.trans e'.symm)
      subst e
      rw [hsk, hsb j (by omega)]
      have := h.lt j (by omega)
      simp only; omega
    · by_cases e' : j = k
      · subst e'
        rw [hsk, hsb i (by omega)]
        have := h.lt i (by omega)
        simp only; omega
      · rw [hsb i (by omega), hsb j (by omega)]; exact h.ne i j (by omega) (by omega) hij
  · exact ⟨hT2.os, hT2.tape, hT2.output, hT2.size, fun c hc => hT2.block c (by omega) (fun e => by omega)⟩
  · have h' : k = 0 ∨ k = 1 ∨ k = 2 ∨ k = 3 ∨ k = 4 := by omega
    rcases h' with rfl | rfl | rfl | rfl | rfl <;> simp [World.cell?, htop, pc]
  · simp [World.frozen?, htop]

/-- All five are made: no book is busy, nothing is on its way. -/
theorem PartAt.play {base bp : Nat} {w : World} {b : Nat → Bk} (h : PartAt base bp w b 5) : PlayIs base bp { st := fun _ => none, way := [] } w := by
  refine ⟨b, .slice none 0 0, ⟨h.lo, h.top, World.ownsRow_nil _ _ _ _, fun k hk => ?_, fun k hk => ?_, fun i j hi hj hij => ?_, fun k q d hk e => ?_, (fun x hx => by cases hx), fun k hk => ?_⟩, fun k hk => (h.sst k hk).2⟩
  · rw [Bk.L_none (h.sst k hk).2]; exact h.tree k hk
  · rw [(h.sst k hk).1]; have := h.lot k hk; exact ⟨this.1, this.2, this.1⟩
  · rw [(h.sst i hi).1, (h.sst j hj).1]; have := h.ne i j hi hj hij; exact ⟨this.1, this.2, this.1⟩
  · rw [(h.sst k hk).2] at e; cases e
  · rw [(h.sst k hk).1]; exact (h.lt k hk).1

theorem part_start {base bp : Nat} {w : World} (hb : base ≤ bp) (h : w.heap[bp]? = some (.cells #[.pointer none, .pointer none, .pointer none, .pointer none, .pointer none, .slice none 0 0] 28 (0, 0))) (b : Nat → Bk) : PartAt base bp w b 0 :=
  ⟨hb, h, fun j hj => absurd hj (by omega), fun j hj => absurd hj (by omega), fun j hj => absurd hj (by omega), fun j hj => absurd hj (by omega), fun i j hi => absurd hi (by omega)⟩

/-- The root is busy, no other book is. -/
def start0 : PS := { st := setSt (fun _ => none) 0 (some (none, 0)), way := [] }

theorem start0_inv : Inv start0 := by
  refine ⟨fun k hk => ?_, ⟨fun _ => 0, fun j q d hj e => ?_⟩, fun j d hj e => ?_, fun j q d hj e => ?_, fun x hx => by cases hx⟩
  · have h' : k = 0 ∨ k = 1 ∨ k = 2 ∨ k = 3 ∨ k = 4 := by omega
    rcases h' with rfl | rfl | rfl | rfl | rfl <;> rfl
  all_goals
    unfold start0 setSt at e
    dsimp only at e
    split at e
    · simp at e <;> assumption
    · cases e

/-- Behind the root's start. -/
theorem PlayIs.start {base bp : Nat} {w w' : World} {b : Nat → Bk} {v : Value} (h : PlayAt base bp w b v []) (hs : ∀ k, k < 5 → (b k).st = none)
    (hT : TreesAt w' (b 0).t (b 0).m ([] ++ [(1, ⟨w.heap.size, ⟨#[]⟩, 0⟩)])) (ht : Touch (fun c => c = (b 0).m) w w') : PlayIs base bp start0 w' ∧ Fr base w w' := by
  have ht' := mine_of_m ht
  have hb : base ≤ w.heap.size := by have := lt_of_block h.top; have := h.lo; omega
  refine ⟨⟨_, v, h.turn (i := 0) (by decide) (s' := w.heap.size) (st' := some (none, 0)) ht' (Or.inr (Nat.le_refl _)) hT hb (lt_of_block (hT.st _ (List.mem_singleton.2 rfl))) (fun q d e => by simp at e), setB_st hs⟩, h.below (by decide) ht'⟩

end Go.Proofs.Ytkjfiofefndgkaa
