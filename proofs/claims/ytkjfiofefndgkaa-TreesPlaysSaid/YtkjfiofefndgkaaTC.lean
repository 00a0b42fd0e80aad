/- Five books with their tables, and what is on its way among them: the memory that they take, and what a book does that has nothing to do. -/
import Derived.Test.YtkjfiofefndgkaaTB
namespace Go.Proofs.Ytkjfiofefndgkaa
set_option linter.unusedVariables false
set_option linter.unusedSimpArgs false
open Go.RowKit
open Go.ChangeMaps (setBlock)

/-- Below block B nothing has turned, nor has any box of a step. -/
structure Fr (B : Nat) (w w' : World) : Prop where
  below : Below B w w'
  box : ∀ (k : Nat) (c : Array Value) (f : Nat × Nat), w.heap[k]? = some (Obj.cells c 34 f) → w'.heap[k]? = some (Obj.cells c 34 f)

theorem Fr.refl (B : Nat) (w : World) : Fr B w w := ⟨Below.refl _ _, fun _ _ _ h => h⟩
theorem Fr.trans {B : Nat} {a b c : World} (h : Fr B a b) (k : Fr B b c) : Fr B a c := ⟨h.below.trans k.below, fun i c f e => k.box i c f (h.box i c f e)⟩
theorem Fr.of {B : Nat} {w w' : World} (h : Below w.heap.size w w') (hB : B ≤ w.heap.size) : Fr B w w' := ⟨h.mono hB, fun k c f e => (h.block k (lt_of_block e)).trans e⟩
theorem Fr.drew {B : Nat} {a w : World} (h : Fr B a w) : Fr B a w.drew := ⟨h.below.drew, h.box⟩
theorem Fr.alloc {B : Nat} {a w : World} (h : Fr B a w) (hB : B ≤ w.heap.size) (o : Obj) : Fr B a (w.alloc o) := h.trans (Fr.of ((Below.refl _ _).alloc (Nat.le_refl _) o) hB)
theorem Fr.touch {B : Nat} {S : Nat → Prop} {w w' : World} (h : Touch S w w') (h1 : ∀ k, k < B → k < w.heap.size ∧ ¬ S k) (h2 : ∀ (k : Nat) (c : Array Value) (f : Nat × Nat), w.heap[k]? = some (Obj.cells c 34 f) → ¬ S k) : Fr B w w' :=
  ⟨⟨h.os, h.tape, h.output, h.size, fun k hk => h.block k (h1 k hk).1 (h1 k hk).2⟩, fun k c f e => (h.block k (lt_of_block e) (h2 k c f e)).trans e⟩

/-- A message on its way. -/
structure Msg where
  frm : Nat
  to : Nat
  ans : Bool
  deriving DecidableEq

def Msg.vals (m : Msg) : List Value := [.int .i64 m.frm, .int .i64 m.to, .bool m.ans]
def wayVals (l : List Msg) : List Value := l.flatMap Msg.vals

theorem wayVals_length (l : List Msg) : (wayVals l).length = l.length * 3 := by
  unfold wayVals
  induction l with
  | nil => rfl
  | cons m l ih => simp only [List.flatMap_cons, List.length_append, ih, List.length_cons, Msg.vals, List.length_nil]; omega

theorem wayVals_append (l m : List Msg) : wayVals (l ++ m) = wayVals l ++ wayVals m := by simp [wayVals]

/-- Whom a book answers to: nobody, or one of the books. -/
def pname : Option Nat → ByteArray
  | none => ⟨#[]⟩
  | some q => name1 q

/-- A book: its table's blocks, and its state of the ticket 1. -/
structure Bk where
  t : Nat
  m : Nat
  s : Nat
  st : Option (Option Nat × Nat)

def Bk.L (b : Bk) : List (Int × TS) := match b.st with
  | none => []
  | some (q, d) => [(1, ⟨b.s, pname q, d⟩)]

/-- What of the books matters: their states, and what is on its way. -/
structure PS where
  st : Nat → Option (Option Nat × Nat)
  way : List Msg

structure PlayAt (base bp : Nat) (w : World) (b : Nat → Bk) (v : Value) (way : List Msg) : Prop where
  lo : base ≤ bp
  top : w.heap[bp]? = some (.cells #[.pointer (some ⟨(b 0).t, 0, none⟩), .pointer (some ⟨(b 1).t, 0, none⟩), .pointer (some ⟨(b 2).t, 0, none⟩), .pointer (some ⟨(b 3).t, 0, none⟩), .pointer (some ⟨(b 4).t, 0, none⟩), v] 28 (0, 0))
  own : w.ownsRow base 69 3 v way.length (wayVals way)
  tree : ∀ k, k < 5 → TreesAt w (b k).t (b k).m (b k).L
  lot : ∀ k, k < 5 → base ≤ (b k).t ∧ base ≤ (b k).m ∧ base ≤ (b k).s
  ne : ∀ i j, i < 5 → j < 5 → i ≠ j → (b i).t ≠ (b j).t ∧ (b i).m ≠ (b j).m ∧ (b i).s ≠ (b j).s
  par : ∀ k q d, k < 5 → (b k).st = some (some q, d) → q < 5
  wto : ∀ x ∈ way, x.frm < 5 ∧ x.to < 5
  slt : ∀ k, k < 5 → (b k).s < w.heap.size

/-- The memory has the books in the state A. -/
def PlayIs (base bp : Nat) (A : PS) (w : World) : Prop := ∃ b v, PlayAt base bp w b v A.way ∧ ∀ k, k < 5 → (b k).st = A.st k

def setSt (f : Nat → Option (Option Nat × Nat)) (i : Nat) (x : Option (Option Nat × Nat)) : Nat → Option (Option Nat × Nat) := fun k => if k = i then x else f k

/-- A book that has nothing to do answers, if it may. -/
def restA (i : Nat) (A : PS) : PS := match A.st i with
  | some (none, 0) => { A with st := setSt A.st i none }
  | some (some q, 0) => { st := setSt A.st i none, way := A.way ++ [⟨i, q, true⟩] }
  | _ => A

theorem PlayAt.cell {base bp : Nat} {w : World} {b : Nat → Bk} {v : Value} {way : List Msg} (h : PlayAt base bp w b v way) {k : Nat} (hk : k < 5) :
    w.cell? ⟨bp, k, none⟩ = some (.pointer (some ⟨(b k).t, 0, none⟩)) := by
  have h' : k = 0 ∨ k = 1 ∨ k = 2 ∨ k = 3 ∨ k = 4 := by omega
  rcases h' with rfl | rfl | rfl | rfl | rfl <;> simp [World.cell?, h.top]

theorem PlayAt.way? {base bp : Nat} {w : World} {b : Nat → Bk} {v : Value} {way : List Msg} (h : PlayAt base bp w b v way) :
    w.cell? ⟨bp, 5, none⟩ = some v ∧ w.frozen? ⟨bp, 5, none⟩ = false := by
  simp [World.cell?, World.frozen?, h.top]

/-- The row of what is on its way, where other blocks are written. -/
theorem ownsRow_touch {S : Nat → Prop} {w w' : World} {base e size n : Nat} {v : Value} {xs : List Value} (h : w.ownsRow base e size v n xs) (ht : Touch S w w') (hS : ∀ k, v.ownBlock = some k → ¬ S k) : w'.ownsRow base e size v n xs := by
  refine ⟨h.1, ?_⟩
  rcases h.2 with h2 | ⟨g, cap, cur, rfl, hg, hh, r⟩
  · exact Or.inl h2
  · exact Or.inr ⟨g, cap, cur, rfl, hg, (ht.block g (lt_of_block hh) (hS g rfl)).trans hh, r⟩

/-- The row's block, told by its element type. -/
theorem ownsRow_ne {w : World} {base e size n b : Nat} {v : Value} {xs : List Value} (h : w.ownsRow base e size v n xs) {c : Array Value} {e' : TypeId} {f : Nat × Nat} (hb : w.heap[b]? = some (.cells c e' f)) (he : e ≠ e') : ∀ k, v.ownBlock = some k → k ≠ b := by
  intro k hk e1
  subst e1
  rcases h.2 with ⟨rfl, _⟩ | ⟨g, cap, cur, rfl, hg, hh, r⟩
  · simp [Value.ownBlock] at hk
  · simp only [Value.ownBlock, Option.some.injEq] at hk
    subst hk
    rw [hh] at hb
    simp only [Option.some.injEq, Obj.cells.injEq] at hb
    exact he hb.2.1

theorem ownsRow_ne_map {w : World} {base e size n b : Nat} {v : Value} {xs : List Value} (h : w.ownsRow base e size v n xs) {es : Array MapEntry} {c : Nat} (hb : w.heap[b]? = some (.map es c)) : ∀ k, v.ownBlock = some k → k ≠ b := by
  intro k hk e1
  subst e1
  rcases h.2 with ⟨rfl, _⟩ | ⟨g, cap, cur, rfl, hg, hh, r⟩
  · simp [Value.ownBlock] at hk
  · simp only [Value.ownBlock, Option.some.injEq] at hk
    subst hk
    rw [hh] at hb
    cases hb

/-- The blocks of book i that its calls may write. -/
def Bk.mine (b : Bk) (k : Nat) : Prop := k = b.m ∨ (b.st.isSome = true ∧ k = b.s)

theorem PlayAt.apart {base bp : Nat} {w : World} {b : Nat → Bk} {v : Value} {way : List Msg} (h : PlayAt base bp w b v way) {i : Nat} (hi : i < 5) :
    ¬ (b i).mine bp ∧ (∀ k, v.ownBlock = some k → ¬ (b i).mine k) ∧ ∀ j, j < 5 → ¬ (b i).mine (b j).t ∧ (j ≠ i → ¬ (b i).mine (b j).m ∧ ∀ q ∈ (b j).L, ¬ (b i).mine q.2.s) := by
  have hT := fun j hj => (h.tree j hj).m_ne
  have hmap := fun j hj => (h.tree j hj).map
  have hst : ∀ j, j < 5 → (b j).st.isSome = true → ∃ p d, w.heap[(b j).s]? = some (.cells #[.string p, .int .i64 d] 67 (0, 0)) := by
    intro j hj hs
    have := (h.tree j hj).st
    unfold Bk.L at this
    cases e : (b j).st with
    | none => rw [e] at hs; cases hs
    | some x => rw [e] at this; exact ⟨_, _, this _ (List.mem_singleton.2 rfl)⟩
  obtain ⟨⟨es, c, hm, _⟩, _⟩ := hmap i hi
  refine ⟨?_, ?_, ?_⟩
  · rintro (e | ⟨hs, e⟩)
    · have := h.top; rw [e, hm] at this; cases this
    · obtain ⟨p, d, hp⟩ := hst i hi hs
      have := h.top; rw [e, hp] at this; simp at this
  · intro k hk
    rintro (e | ⟨hs, e⟩)
    · exact ownsRow_ne_map h.own hm k hk e
    · obtain ⟨p, d, hp⟩ := hst i hi hs
      exact ownsRow_ne h.own hp (by decide) k hk e
  · intro j hj
    refine ⟨?_, fun hji => ⟨?_, ?_⟩⟩
    · rintro (e | ⟨hs, e⟩)
      · have := (h.tree j hj).top; rw [e, hm] at this; cases this
      · obtain ⟨p, d, hp⟩ := hst i hi hs
        have := (h.tree j hj).top; rw [e, hp] at this; simp at this
    · rintro (e | ⟨hs, e⟩)
      · exact (h.ne j i hj hi hji).2.1 e
      · obtain ⟨p, d, hp⟩ := hst i hi hs
        obtain ⟨⟨es', c', hm', _⟩, _⟩ := hmap j hj
        rw [e, hp] at hm'; cases hm'
    · intro q hq
      have hq' := (h.tree j hj).st q hq
      rintro (e | ⟨hs, e⟩)
      · rw [e, hm] at hq'; cases hq'
      · have : q.2.s = (b j).s := by
          unfold Bk.L at hq
          cases e2 : (b j).st with
          | none => rw [e2] at hq; cases hq
          | some x => rw [e2] at hq; simp only [List.mem_singleton] at hq; rw [hq]
        rw [this] at e
        exact (h.ne j i hj hi hji).2.2 e

def setB (b : Nat → Bk) (i : Nat) (x : Bk) : Nat → Bk := fun k => if k = i then x else b k

/-- One book's table has turned; its state's block may be new. -/
theorem PlayAt.turn {base bp : Nat} {w w' : World} {b : Nat → Bk} {v : Value} {way : List Msg} (h : PlayAt base bp w b v way) {i : Nat} (hi : i < 5) {s' : Nat} {st' : Option (Option Nat × Nat)}
    (ht : Touch (b i).mine w w') (hs : s' = (b i).s ∨ w.heap.size ≤ s') (hT : TreesAt w' (b i).t (b i).m (Bk.L ⟨(b i).t, (b i).m, s', st'⟩)) (hb : base ≤ w.heap.size)
    (hsl' : s' < w'.heap.size) (hp : ∀ q d, st' = some (some q, d) → q < 5) : PlayAt base bp w' (setB b i ⟨(b i).t, (b i).m, s', st'⟩) v way := by
  obtain ⟨a1, a2, a3⟩ := h.apart hi
  have hf : ∀ k, (setB b i ⟨(b i).t, (b i).m, s', st'⟩ k).t = (b k).t ∧ (setB b i ⟨(b i).t, (b i).m, s', st'⟩ k).m = (b k).m := by
    intro k; unfold setB; by_cases e : k = i <;> simp [e]
  have hsl := h.slt
  refine ⟨h.lo, ?_, ownsRow_touch h.own ht a2, ?_, ?_, ?_, ?_, h.wto, ?_⟩
  · rw [(hf 0).1, (hf 1).1, (hf 2).1, (hf 3).1, (hf 4).1]
    exact (ht.block bp (lt_of_block h.top) a1).trans h.top
  · intro k hk
    unfold setB
    by_cases e : k = i
    · rw [if_pos e]; exact hT
    · rw [if_neg e]
      exact (h.tree k hk).keep ht (a3 k hk).1 ((a3 k hk).2 e).1 ((a3 k hk).2 e).2
  · intro k hk
    have := h.lot k hk
    unfold setB
    by_cases e : k = i
    · subst e; rw [if_pos rfl]; refine ⟨this.1, this.2.1, ?_⟩
      rcases hs with rfl | hs
      · exact this.2.2
      · exact Nat.le_trans hb hs
    · rw [if_neg e]; exact this
  · intro j k hj hk hjk
    have := h.ne j k hj hk hjk
    refine ⟨by rw [(hf j).1, (hf k).1]; exact this.1, by rw [(hf j).2, (hf k).2]; exact this.2.1, ?_⟩
    unfold setB
    have h1 := hsl j hj
    have h2 := hsl k hk
    by_cases e : j = i
    · by_cases e' : k = i
      · exact absurd (e.trans e'.symm) hjk
      · rw [if_pos e, if_neg e']
        rcases hs with rfl | hs
        · subst e; exact this.2.2
        · intro e2; simp only at e2; omega
    · by_cases e' : k = i
      · rw [if_neg e, if_pos e']
        rcases hs with rfl | hs
        · subst e'; exact this.2.2
        · intro e2; simp only at e2; omega
      · rw [if_neg e, if_neg e']; exact this.2.2
  · intro k q d hk e
    unfold setB at e
    by_cases e' : k = i
    · rw [if_pos e'] at e; exact hp q d e
    · rw [if_neg e'] at e; exact h.par k q d hk e
  · intro k hk
    unfold setB
    by_cases e : k = i
    · rw [if_pos e]; exact hsl'
    · rw [if_neg e]; exact Nat.lt_of_lt_of_le (hsl k hk) ht.size

theorem mine_of_m {b : Bk} {w w' : World} (h : Touch (fun k => k = b.m) w w') : Touch b.mine w w' := h.mono fun _ _ e => Or.inl e

theorem PlayAt.below {base bp : Nat} {w w' : World} {b : Nat → Bk} {v : Value} {way : List Msg} (h : PlayAt base bp w b v way) {i : Nat} (hi : i < 5) (ht : Touch (b i).mine w w') : Fr base w w' := by
  have hl := h.lot i hi
  have hlt := lt_of_block h.top
  have hlo := h.lo
  refine Fr.touch ht (fun k hk => ⟨by omega, ?_⟩) (fun k c f e => ?_)
  · rintro (e | ⟨_, e⟩) <;> omega
  · obtain ⟨⟨es, cl, hm, _⟩, _⟩ := (h.tree i hi).map
    rintro (e1 | ⟨hs, e1⟩)
    · rw [e1, hm] at e; cases e
    · cases e2 : (b i).st with
      | none => rw [e2] at hs; cases hs
      | some x =>
        have := (h.tree i hi).st
        unfold Bk.L at this
        rw [e2] at this
        have := this _ (List.mem_singleton.2 rfl)
        simp only at this
        rw [e1, this] at e; simp at e

theorem Bk.L_none {b : Bk} (h : b.st = none) : b.L = [] := by simp [Bk.L, h]
theorem Bk.L_some {b : Bk} {q : Option Nat} {d : Nat} (h : b.st = some (q, d)) : b.L = [(1, ⟨b.s, pname q, d⟩)] := by simp [Bk.L, h]

def UnitPost (base bp : Nat) (A : PS) (w : World) (e : Ending) (w' : World) : Prop := e = .returned (.tuple #[]) ∧ PlayIs base bp A w' ∧ Fr base w w'

theorem may1 : mayB 1 = true := by decide

set_option maxHeartbeats 400000 in
theorem rest_none (base bp i : Nat) (A : PS) (w : World) (h : PlayIs base bp A w) (hi : i < 5) (hs : A.st i = none) :
    Calls Try.prog 11 #[.pointer (some ⟨bp, 0, none⟩), .int .i64 i] w (UnitPost base bp A w) := by
  obtain ⟨b, v, hp, hst⟩ := h
  have hc := hp.cell hi
  have hT := hp.tree i hi
  rw [Bk.L_none ((hst i hi).trans hs)] at hT
  have HR := Lib.hid (Rest_idle 1 w _ _ _ hT may1 rfl)
  have HP : Hid (PlayIs base bp A w) := ⟨b, v, hp, hst⟩
  clear hs hst hT hp
  go_enter Try.func11, Try.ntmps11
  go_wp2_with (go_at_call 20; refine HR.out.mono ?_; rintro e w' ⟨rfl, rfl⟩)
  go_end0
  exact ⟨rfl, HP.out, Fr.refl _ _⟩

set_option maxHeartbeats 400000 in
theorem rest_waits (base bp i : Nat) (A : PS) (w : World) (h : PlayIs base bp A w) (hi : i < 5) {q : Option Nat} {d : Nat} (hs : A.st i = some (q, d + 1)) :
    Calls Try.prog 11 #[.pointer (some ⟨bp, 0, none⟩), .int .i64 i] w (UnitPost base bp A w) := by
  obtain ⟨b, v, hp, hst⟩ := h
  have hc := hp.cell hi
  have hT := hp.tree i hi
  rw [Bk.L_some ((hst i hi).trans hs)] at hT
  have HR := Lib.hid (Rest_waits 1 w _ _ _ hT may1 rfl (by simp))
  have HP : Hid (PlayIs base bp A w) := ⟨b, v, hp, hst⟩
  clear hs hst hT hp
  go_enter Try.func11, Try.ntmps11
  go_wp2_with (go_at_call 20; refine HR.out.mono ?_; rintro e w' ⟨rfl, rfl⟩)
  go_end0
  exact ⟨rfl, HP.out, Fr.refl _ _⟩

/-- Behind a rest: the book has no state any more. -/
theorem PlayAt.rested {base bp : Nat} {w w' : World} {b : Nat → Bk} {v : Value} {way : List Msg} (h : PlayAt base bp w b v way) {i : Nat} (hi : i < 5) {q : Option Nat} (hs : (b i).st = some (q, 0))
    (hT : TreesAt w' (b i).t (b i).m (alDel [(1, ⟨(b i).s, pname q, 0⟩)] 1)) (ht : Touch (fun k => k = (b i).m) w w') :
    PlayAt base bp w' (setB b i ⟨(b i).t, (b i).m, (b i).s, none⟩) v way ∧ Fr base w w' := by
  have ht' := mine_of_m ht
  have hb : base ≤ w.heap.size := by have := lt_of_block h.top; have := h.lo; omega
  refine ⟨h.turn hi ht' (Or.inl rfl) ?_ hb (Nat.lt_of_lt_of_le (h.slt i hi) ht.size) (fun _ _ e => by cases e), h.below hi ht'⟩
  exact hT

theorem setB_st {b : Nat → Bk} {i : Nat} {x : Bk} {f : Nat → Option (Option Nat × Nat)} (h : ∀ k, k < 5 → (b k).st = f k) : ∀ k, k < 5 → (setB b i x k).st = setSt f i x.st k := by
  intro k hk
  unfold setB setSt
  by_cases e : k = i
  · rw [if_pos e, if_pos e]
  · rw [if_neg e, if_neg e]; exact h k hk

set_option maxHeartbeats 400000 in
theorem rest_root (base bp i : Nat) (A : PS) (w : World) (h : PlayIs base bp A w) (hi : i < 5) (hs : A.st i = some (none, 0)) :
    Calls Try.prog 11 #[.pointer (some ⟨bp, 0, none⟩), .int .i64 i] w (UnitPost base bp { A with st := setSt A.st i none } w) := by
  obtain ⟨b, v, hp, hst⟩ := h
  have hc := hp.cell hi
  have hT := hp.tree i hi
  have hs' := (hst i hi).trans hs
  rw [Bk.L_some hs'] at hT
  have hT' : TreesAt w (b i).t (b i).m [(1, ⟨(b i).s, ⟨#[]⟩, 0⟩)] := hT
  have HR := Lib.hid (Rest_done 1 w _ _ _ hT' may1 rfl)
  clear hT'
  have HP : Hid (∀ w', TreesAt w' (b i).t (b i).m (alDel [(1, ⟨(b i).s, ⟨#[]⟩, 0⟩)] 1) → Touch (fun k => k = (b i).m) w w' → PlayIs base bp { A with st := setSt A.st i none } w' ∧ Fr base w w') := by
    intro w' h1 h2
    obtain ⟨g1, g2⟩ := hp.rested hi hs' h1 h2
    exact ⟨⟨_, _, g1, setB_st hst⟩, g2⟩
  clear hs hst hT hp hs'
  go_enter Try.func11, Try.ntmps11
  go_wp2_with (go_at_call 20; refine HR.out.mono ?_; rintro e w' ⟨rfl, h1, h2⟩)
  go_end0
  obtain ⟨g1, g2⟩ := HP.out _ h1 h2
  exact ⟨rfl, g1, g2⟩

/-- A message more is on its way: the row has grown, and stands in the books' block. -/
theorem PlayAt.send {base bp : Nat} {w w' : World} {b : Nat → Bk} {v v' : Value} {way : List Msg} (h : PlayAt base bp w b v way) (x : Msg) (hx : x.frm < 5 ∧ x.to < 5)
    (hown : w'.ownsRow base 69 3 v' (way.length + 1) (wayVals way ++ x.vals)) (hg : (w.alloc (.cells x.vals.toArray 69)).grownBy w' v.ownBlock) :
    PlayAt base bp (w'.setCell ⟨bp, 5, none⟩ v') b v' (way ++ [x]) ∧ Fr base w (w'.setCell ⟨bp, 5, none⟩ v') ∧ w'.cell? ⟨bp, 5, none⟩ = some v ∧ w'.frozen? ⟨bp, 5, none⟩ = false := by
  have hS : ∀ k, v.ownBlock = some k → base ≤ k ∧ k < w.heap.size := h.own.lt
  have hT : Touch (fun k => v.ownBlock = some k) w w' := by
    refine ⟨hg.os, hg.tape, hg.output, by have := hg.size; simp at this; omega, fun k hk hn => ?_⟩
    rw [hg.block k (by simp; omega) (fun e => hn e.symm)]
    exact Below.heap_alloc _ _ _ hk
  have hbp : w'.heap[bp]? = w.heap[bp]? := hT.block bp (lt_of_block h.top) fun e => ownsRow_ne h.own h.top (by decide) bp e rfl
  have htop := hbp.trans h.top
  have hT2 : Touch (fun k => v.ownBlock = some k ∨ k = bp) w (w'.setCell ⟨bp, 5, none⟩ v') := (hT.mono fun _ _ e => Or.inl e).setCell _ _ fun _ => Or.inr rfl
  have hnt : ∀ k, k < 5 → ∀ c, (c = (b k).t ∨ c = (b k).m ∨ ∃ q ∈ (b k).L, c = q.2.s) → ¬ (v.ownBlock = some c ∨ c = bp) := by
    intro k hk c hc
    have t1 := h.tree k hk
    obtain ⟨⟨es, cl, hm, _⟩, _⟩ := t1.map
    rcases hc with rfl | rfl | ⟨q, hq, rfl⟩
    · rintro (e | e)
      · exact ownsRow_ne h.own t1.top (by decide) _ e rfl
      · have := t1.top; rw [e, h.top] at this; simp at this
    · rintro (e | e)
      · exact ownsRow_ne_map h.own hm _ e rfl
      · rw [e, h.top] at hm; cases hm
    · have hq' := t1.st q hq
      rintro (e | e)
      · exact ownsRow_ne h.own hq' (by decide) _ e rfl
      · rw [e, h.top] at hq'; simp at hq'
  have hne' : ∀ k, v'.ownBlock = some k → k ≠ bp := ownsRow_ne hown htop (by decide)
  refine ⟨⟨h.lo, ?_, ?_, ?_, h.lot, h.ne, h.par, ?_, ?_⟩, ?_, ?_, ?_⟩
  · have := heap_setCell_same w' bp 5 _ _ v' htop
    simpa using this
  · refine ownsRow_setCell_other ?_ (fun e => hne' bp e rfl) v'
    simpa [wayVals_append, wayVals, Msg.vals] using hown
  · intro k hk
    exact (h.tree k hk).keep hT2 (hnt k hk _ (Or.inl rfl)) (hnt k hk _ (Or.inr (Or.inl rfl))) (fun q hq => hnt k hk _ (Or.inr (Or.inr ⟨q, hq, rfl⟩)))
  · intro y hy
    rcases List.mem_append.1 hy with hy | hy
    · exact h.wto y hy
    · simp only [List.mem_singleton] at hy; subst hy; exact hx
  · intro k hk
    exact Nat.lt_of_lt_of_le (h.slt k hk) hT2.size
  · have hlt := lt_of_block h.top
    have hlo := h.lo
    refine Fr.touch hT2 (fun k hk => ⟨by omega, ?_⟩) (fun k c f e => ?_)
    · rintro (e | e)
      · have := hS k e; omega
      · omega
    · rintro (e1 | e1)
      · exact ownsRow_ne h.own e (by decide) _ e1 rfl
      · rw [e1, h.top] at e; simp at e
  · simp [World.cell?, htop]
  · simp [World.frozen?, htop]

theorem name1_ne (q : Nat) : (name1 q).toList.isEmpty = false := by
  rw [toList_data]; rfl
theorem name1_inj {k q : Nat} (hk : k < 5) (hq : q < 5) : ((name1 k).toList == (name1 q).toList) = decide (k = q) := by
  rw [toList_data, toList_data]
  have h1 : k = 0 ∨ k = 1 ∨ k = 2 ∨ k = 3 ∨ k = 4 := by omega
  have h2 : q = 0 ∨ q = 1 ∨ q = 2 ∨ q = 3 ∨ q = 4 := by omega
  rcases h1 with rfl | rfl | rfl | rfl | rfl <;> rcases h2 with rfl | rfl | rfl | rfl | rfl <;> rfl

theorem Try.info69 : (Try.prog.info? 69).map (fun i => (i.zero, i.size, i.bytes)) = some (some (.agg #[.int .i64 0, .int .i64 0, .bool false]), 3, 24) := by kernel_rfl

theorem ownsRow_slice {w : World} {base e size n : Nat} {v : Value} {xs : List Value} (h : w.ownsRow base e size v n xs) : ∃ A N C, v = .slice A N C := by
  rcases h.2 with ⟨h, _⟩ | ⟨g, cap, cur, h, _⟩
  · exact ⟨_, _, _, h⟩
  · exact ⟨_, _, _, h⟩

/-- The append that a message more on its way comes to. -/
theorem PlayAt.app {base bp : Nat} {w : World} {b : Nat → Bk} {v : Value} {way : List Msg} (h : PlayAt base bp w b v way) (x : Msg) (hx : x.frm < 5 ∧ x.to < 5) (hn : way.length ≤ 1000000) :
    ∃ A N C w', (Builtin.append_ #[26, 26] 26 #[v, .slice (some ⟨w.heap.size, 0, none⟩) 1 1]).run Try.prog (w.alloc (.cells x.vals.toArray 69)) = .ok (.slice A N C) w' ∧
      PlayAt base bp (w'.setCell ⟨bp, 5, none⟩ (.slice A N C)) b (.slice A N C) (way ++ [x]) ∧ Fr base w (w'.setCell ⟨bp, 5, none⟩ (.slice A N C)) ∧ w'.cell? ⟨bp, 5, none⟩ = some v ∧ w'.frozen? ⟨bp, 5, none⟩ = false := by
  obtain ⟨i0, hi, hz0, hz1, hz2⟩ := info_parts Try.info69
  have hb : base ≤ w.heap.size := by have := lt_of_block h.top; have := h.lo; omega
  obtain ⟨v', w', hrun, hown, hg, _⟩ := run_append_own (P := Try.prog) (w := w.alloc (.cells x.vals.toArray 69)) base 26 26 69 i0 _ 3 24 Try.underlying26 hi hz0 hz1 hz2 rfl (by decide) v way.length (wayVals way) (h.own.alloc _)
    ⟨w.heap.size, 0, none⟩ 1 1 x.vals rfl (by
      intro j u hj
      have e : (⟨w.heap.size, 0, none⟩ : Addr).add j = ⟨w.heap.size, j, none⟩ := by cases j <;> simp [Addr.add]
      rw [e, World.cell?_alloc_new]
      simpa using hj) (by intro u hu; simp [Msg.vals] at hu; rcases hu with rfl | rfl | rfl <;> rfl) (by unfold maxLen; omega) (by omega) (by simp; omega)
  obtain ⟨A, N, C, rfl⟩ := ownsRow_slice hown
  exact ⟨A, N, C, w', hrun, h.send x hx hown hg⟩

/-- In the loop that looks for the book to be answered: what has been done behind n books. -/
def AnsRel (base bp i q : Nat) (A : PS) (n : Nat) (w : World) : Prop :=
  if q < n then PlayIs base bp { st := setSt A.st i none, way := A.way ++ [⟨i, q, true⟩] } w else PlayIs base bp { A with st := setSt A.st i none } w

theorem PlayIs.below {base bp : Nat} {A : PS} {w w' : World} (h : PlayIs base bp A w) (hb : Below w.heap.size w w') : PlayIs base bp A w' := by
  obtain ⟨b, v, hp, hst⟩ := h
  have ht : Touch (fun _ => False) w w' := Touch.of_below hb
  exact ⟨b, v, ⟨hp.lo, (ht.block bp (lt_of_block hp.top) id).trans hp.top, ownsRow_touch hp.own ht (fun _ _ => id), fun k hk => (hp.tree k hk).below hb, hp.lot, hp.ne, hp.par, hp.wto, fun k hk => Nat.lt_of_lt_of_le (hp.slt k hk) hb.size⟩, hst⟩

theorem PlayIs.base_le {base bp : Nat} {A : PS} {w : World} (h : PlayIs base bp A w) : base ≤ w.heap.size := by
  obtain ⟨b, v, hp, hst⟩ := h
  have := lt_of_block hp.top; have := hp.lo; omega

theorem AnsRel.below {base bp i q n : Nat} {A : PS} {w w' : World} (h : AnsRel base bp i q A n w) (hb : Below w.heap.size w w') : AnsRel base bp i q A n w' := by
  unfold AnsRel at h ⊢
  split
  · rename_i c; rw [if_pos c] at h; exact h.below hb
  · rename_i c; rw [if_neg c] at h; exact h.below hb
theorem AnsRel.base_le {base bp i q n : Nat} {A : PS} {w : World} (h : AnsRel base bp i q A n w) : base ≤ w.heap.size := by
  unfold AnsRel at h
  split at h
  · exact PlayIs.base_le h
  · exact PlayIs.base_le h

set_option maxHeartbeats 1000000 in
set_option maxRecDepth 100000 in
theorem rest_answers (base bp i q : Nat) (A : PS) (w : World) (h : PlayIs base bp A w) (hi : i < 5) (hs : A.st i = some (some q, 0)) (hn : A.way.length ≤ 1000000) :
    Calls Try.prog 11 #[.pointer (some ⟨bp, 0, none⟩), .int .i64 i] w (UnitPost base bp { st := setSt A.st i none, way := A.way ++ [⟨i, q, true⟩] } w) := by
  obtain ⟨b, v, hp, hst⟩ := h
  have hc := hp.cell hi
  have hT := hp.tree i hi
  have hs' := (hst i hi).trans hs
  have hq := hp.par i q 0 hi hs'
  rw [Bk.L_some hs'] at hT
  have hT' : TreesAt w (b i).t (b i).m [(1, ⟨(b i).s, name1 q, 0⟩)] := hT
  have HR := Lib.hid (Rest_done 1 w _ _ _ hT' may1 rfl)
  clear hT'
  have HP : Hid (∀ w', TreesAt w' (b i).t (b i).m (alDel [(1, ⟨(b i).s, name1 q, 0⟩)] 1) → Touch (fun k => k = (b i).m) w w' → PlayIs base bp { A with st := setSt A.st i none } w' ∧ Fr base w w') := by
    intro w' h1 h2
    obtain ⟨g1, g2⟩ := hp.rested hi hs' h1 h2
    exact ⟨⟨_, _, g1, setB_st hst⟩, g2⟩
  have HE := Lib.hid (name1_ne q)
  clear hs hst hT hp hs'
  go_enter Try.func11, Try.ntmps11
  go_wp2_with (go_at_call 20; refine HR.out.mono ?_; rintro e w' ⟨rfl, h1, h2⟩; rw [HE.out]; obtain ⟨g1, g2⟩ := HP.out _ h1 h2; clear HP)
  clear h1 h2 hc
  go_loopw [18] (fun k wr => ∃ n : Nat, n ≤ 5 ∧ k = .int .i64 n ∧ AnsRel base bp i q A n wr ∧ Fr base w wr) (fun k _ => 5 - (intOf k).toNat)
  case atStart => exact ⟨0, by omega, rfl, g1, g2⟩
  case round =>
    obtain ⟨n, hn5, rfl, hrel, hbl⟩ := hrel
    by_cases hlt : n < 5
    · go_wp2_with fail
      refine (names_any n _ hlt).mono ?_
      rintro e wn ⟨rfl, hbn⟩
      have hrel' := hrel.below hbn
      have hsz := hbn.size
      have hbl' : Fr base w wn := hbl.trans (Fr.of hbn (hrel.base_le))
      have hnm := name1_inj hlt hq
      by_cases hnq : n = q
      · subst hnq
        rw [decide_eq_true rfl] at hnm
        unfold AnsRel at hrel'
        rw [if_neg (by omega)] at hrel'
        obtain ⟨b', v', hp', hst'⟩ := hrel'
        obtain ⟨A', N', C', w2, hrun, hp2, hb2, hcu, hfu⟩ := hp'.app ⟨i, n, true⟩ ⟨hi, hq⟩ hn
        have hrun' : (Builtin.append_ #[26, 26] 26 #[v', .slice (some ⟨wn.heap.size, 0, none⟩) 1 1]).run Try.prog (wn.alloc (.cells #[.int .i64 i, .int .i64 n, .bool true] 69)) = .ok (.slice A' N' C') w2 := hrun
        clear hrun
        obtain ⟨hcw, -⟩ := hp'.way?
        have hfin : AnsRel base bp i n A (n + 1) (w2.setCell ⟨bp, 5, none⟩ (.slice A' N' C')) := by
          unfold AnsRel; rw [if_pos (by omega)]; exact ⟨b', _, hp2, hst'⟩
        have hbf := hbl'.trans hb2
        have HF := Lib.hid hfin; clear hfin hp2 hp' hst' hb2 hbl hbl' hbn hrel
        have HR2 := Lib.hid hrun'; clear hrun'
        go_wp2_with (at_builtin; refine wpList_append_eq rfl _ _ _ rfl _ _ rfl rfl HR2.out ?_)
        go_roundw
        case rel => exact ⟨n + 1, by omega, by go_num, HF.out, hbf⟩
        case measure => simp [intOf]; omega
      · rw [decide_eq_false hnq] at hnm
        have hfin : AnsRel base bp i q A (n + 1) wn := by
          unfold AnsRel at hrel' ⊢
          by_cases h : q < n
          · rw [if_pos h] at hrel'; rw [if_pos (by omega)]; exact hrel'
          · rw [if_neg h] at hrel'; rw [if_neg (by omega)]; exact hrel'
        have HF := Lib.hid hfin; clear hfin hrel' hrel hbl hbn
        go_wp2
        go_roundw
        case rel => exact ⟨n + 1, by omega, by go_num, HF.out, hbl'⟩
        case measure => simp [intOf]; omega
    · obtain rfl : n = 5 := by omega
      unfold AnsRel at hrel
      rw [if_pos (by omega)] at hrel
      go_wp2
      go_end0
      exact ⟨rfl, hrel, hbl⟩

end Go.Proofs.Ytkjfiofefndgkaa
