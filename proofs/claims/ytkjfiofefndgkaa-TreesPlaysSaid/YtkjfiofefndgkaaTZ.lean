/- A table of the program and one of the document, side by side. -/
import Derived.Test.YtkjfiofefndgkaaTY
namespace Go.Proofs.Ytkjfiofefndgkaa
set_option linter.unusedVariables false
set_option linter.unusedSimpArgs false
open Go.RowKit
open Go.ChangeMaps (setBlock)

def Both (B : Nat) (fix : List (Nat × Obj)) (t m r : Nat) (A R : Tab) (w : World) : Prop :=
  ∃ own1 own2 : Nat → Prop, TreesIn own1 w t m A ∧ RefIn own2 w r R ∧ (∀ k, own1 k → ¬ own2 k) ∧ (∀ k, own1 k ∨ own2 k → B ≤ k) ∧ ∀ p ∈ fix, w.heap[p.1]? = some p.2 ∧ ¬ own1 p.1 ∧ ¬ own2 p.1

theorem Both.callA {B : Nat} {fix : List (Nat × Obj)} {t m r : Nat} {A R : Tab} {w : World} (h : Both B fix t m r A R w) (hB : B ≤ w.heap.size) {f : FuncId} {args : Array Value} {A' : Tab} {v : Value}
    (hc : ∀ own : Nat → Prop, TreesIn own w t m A → Calls Try.prog f args w (OpPost own w t m A' v)) :
    Calls Try.prog f args w fun e w' => e = .returned v ∧ Both B fix t m r A' R w' ∧ Below B w w' := by
  obtain ⟨own1, own2, h1, h2, hd, hb, hf⟩ := h
  refine (hc own1 h1).mono fun e w' hp => ?_
  obtain ⟨he, hT, own', h', hs⟩ := hp
  refine ⟨he, ⟨own', own2, h', h2.keep hT (fun k hk e => hd k e hk), fun k hk hk2 => ?_, fun k hk => ?_, fun p hp => ⟨?_, fun hk => ?_, (hf p hp).2.2⟩⟩, ⟨hT.os, hT.tape, hT.output, hT.size, fun k hk => hT.block k (by omega) (fun e => by have := hb k (Or.inl e); omega)⟩⟩
  · rcases hs k hk with e | e
    · exact hd k e hk2
    · have := h2.lt k hk2; omega
  · rcases hk with hk | hk
    · rcases hs k hk with e | e
      · exact hb k (Or.inl e)
      · omega
    · exact hb k (Or.inr hk)
  · exact (hT.block _ (lt_of_block (hf p hp).1) (hf p hp).2.1).trans (hf p hp).1
  · rcases hs _ hk with e | e
    · exact (hf p hp).2.1 e
    · have := lt_of_block (hf p hp).1; omega

theorem Both.callR {B : Nat} {fix : List (Nat × Obj)} {t m r : Nat} {A R : Tab} {w : World} (h : Both B fix t m r A R w) (hB : B ≤ w.heap.size) {f : FuncId} {args : Array Value} {R' : Tab} {v : Value}
    (hc : ∀ own : Nat → Prop, RefIn own w r R → Calls Try.prog f args w (RefPost own w r R' v)) :
    Calls Try.prog f args w fun e w' => e = .returned v ∧ Both B fix t m r A R' w' ∧ Below B w w' := by
  obtain ⟨own1, own2, h1, h2, hd, hb, hf⟩ := h
  refine (hc own2 h2).mono fun e w' hp => ?_
  obtain ⟨he, hT, own', h', hs⟩ := hp
  refine ⟨he, ⟨own1, own', h1.keep hT (fun k hk e => hd k hk e), h', fun k hk hk2 => ?_, fun k hk => ?_, fun p hp => ⟨?_, (hf p hp).2.1, fun hk => ?_⟩⟩, ⟨hT.os, hT.tape, hT.output, hT.size, fun k hk => hT.block k (by omega) (fun e => by have := hb k (Or.inr e); omega)⟩⟩
  · rcases hs k hk2 with e | e
    · exact hd k hk e
    · have := h1.lt k hk; omega
  · rcases hk with hk | hk
    · exact hb k (Or.inl hk)
    · rcases hs k hk with e | e
      · exact hb k (Or.inr e)
      · omega
  · exact (hT.block _ (lt_of_block (hf p hp).1) (hf p hp).2.2).trans (hf p hp).1
  · rcases hs _ hk with e | e
    · exact (hf p hp).2.2 e
    · have := lt_of_block (hf p hp).1; omega

theorem Both.below {B : Nat} {fix : List (Nat × Obj)} {t m r : Nat} {A R : Tab} {w w' : World} (h : Both B fix t m r A R w) (hb : Below w.heap.size w w') : Both B fix t m r A R w' := by
  obtain ⟨o1, o2, h1, h2, hd, hB, hf⟩ := h
  exact ⟨o1, o2, h1.below hb, h2.below hb, hd, hB, fun p hp => ⟨(hb.block _ (lt_of_block (hf p hp).1)).trans (hf p hp).1, (hf p hp).2⟩⟩
theorem Both.drewN {B : Nat} {fix : List (Nat × Obj)} {t m r : Nat} {A R : Tab} {w : World} (h : Both B fix t m r A R w) (n : Nat) : Both B fix t m r A R (w.drewN n) := h.below (below_drewN (Below.refl _ _) n)
theorem Both.alloc {B : Nat} {fix : List (Nat × Obj)} {t m r : Nat} {A R : Tab} {w : World} (h : Both B fix t m r A R w) (o : Obj) : Both B ((w.heap.size, o) :: fix) t m r A R (w.alloc o) := by
  obtain ⟨q1, q2, k1, k2, kd, kB, kf⟩ := h
  refine ⟨q1, q2, k1.below ((Below.refl _ w).alloc (Nat.le_refl _) o), k2.below ((Below.refl _ w).alloc (Nat.le_refl _) o), kd, kB, fun p hp => ?_⟩
  rcases List.mem_cons.1 hp with rfl | hp
  · exact ⟨at_new w o, fun e => by have := k1.lt _ e; simp only at this; omega, fun e => by have := k2.lt _ e; simp only at this; omega⟩
  · exact ⟨at_old (kf p hp).1 o, (kf p hp).2⟩
theorem Both.fewer {B : Nat} {fix fix' : List (Nat × Obj)} {t m r : Nat} {A R : Tab} {w : World} (h : Both B fix t m r A R w) (hs : ∀ p ∈ fix', p ∈ fix) : Both B fix' t m r A R w := by
  obtain ⟨o1, o2, h1, h2, hd, hb, hf⟩ := h
  exact ⟨o1, o2, h1, h2, hd, hb, fun p hp => hf p (hs p hp)⟩
theorem Both.at {B : Nat} {fix : List (Nat × Obj)} {t m r : Nat} {A R : Tab} {w : World} (h : Both B fix t m r A R w) {k : Nat} {o : Obj} (hk : (k, o) ∈ fix) : w.heap[k]? = some o := by
  obtain ⟨o1, o2, h1, h2, hd, hb, hf⟩ := h
  exact (hf _ hk).1
theorem Both.store {B : Nat} {t m r k i : Nat} {A R : Tab} {w : World} {c : Array Value} {T : TypeId} (h : Both B [(k, .cells c T (0, 0))] t m r A R w) (u : Value) : Both B [(k, .cells (c.set! i u) T (0, 0))] t m r A R (w.setCell ⟨k, i, none⟩ u) := by
  obtain ⟨o1, o2, h1, h2, hd, hb, hf⟩ := h
  obtain ⟨f1, f2, f3⟩ := hf _ (List.mem_singleton.2 rfl)
  have hT : Touch (fun b => b = k) w (w.setCell ⟨k, i, none⟩ u) := (Touch.refl _ w).setCell _ _ (fun _ => rfl)
  refine ⟨o1, o2, h1.keep hT (fun b hb e => f2 (e ▸ hb)), h2.keep hT (fun b hb e => f3 (e ▸ hb)), hd, hb, fun p hp => ?_⟩
  obtain rfl := List.mem_singleton.1 hp
  exact ⟨heap_setCell_same w k i c _ u f1, f2, f3⟩
theorem Both.askA {B : Nat} {fix : List (Nat × Obj)} {t m r : Nat} {A R : Tab} {w : World} (h : Both B fix t m r A R w) {Q : Prop} (hc : ∀ own : Nat → Prop, TreesIn own w t m A → Q) : Q := by
  obtain ⟨o1, o2, h1, h2, _⟩ := h
  exact hc o1 h1
theorem Both.askR {B : Nat} {fix : List (Nat × Obj)} {t m r : Nat} {A R : Tab} {w : World} (h : Both B fix t m r A R w) {Q : Prop} (hc : ∀ own : Nat → Prop, RefIn own w r R → Q) : Q := by
  obtain ⟨o1, o2, h1, h2, _⟩ := h
  exact hc o2 h2

/-- The row is emptied. -/
theorem Both.wipe {B : Nat} {fix : List (Nat × Obj)} {t m r : Nat} {A R : Tab} {w : World} (h : Both B fix t m r A R w) : Both B fix t m r A [] (w.setCell ⟨r, 0, none⟩ (.slice none 0 0)) ∧ Below B w (w.setCell ⟨r, 0, none⟩ (.slice none 0 0)) ∧ w.frozen? ⟨r, 0, none⟩ = false ∧ ∃ v, w.cell? ⟨r, 0, none⟩ = some v := by
  obtain ⟨o1, o2, h1, h2, hd, hb, hf⟩ := h
  obtain ⟨v, k1, k2, k3⟩ := h2.ex
  have hT : Touch (fun b => b = r) w (w.setCell ⟨r, 0, none⟩ (.slice none 0 0)) := (Touch.refl _ w).setCell _ _ (fun _ => rfl)
  refine ⟨⟨o1, fun k => k = r, h1.keep hT (fun b hb e => hd b hb (e ▸ h2.r)), ⟨⟨.slice none 0 0, ?_, ⟨rfl, Or.inl ⟨rfl, rfl⟩⟩, fun k hk => by simp [Value.ownBlock] at hk⟩, rfl, fun k hk => by rw [hk]; have := lt_of_block k1; simpa [World.setCell] using this⟩, fun k hk e => hd k hk (e ▸ h2.r), fun k hk => ?_, fun p hp => ⟨?_, (hf p hp).2.1, fun e => (hf p hp).2.2 (e ▸ h2.r)⟩⟩, ?_, by simp [World.frozen?, k1], _, cell_of_one k1⟩
  · have := heap_setCell_same w r 0 _ _ (.slice none 0 0) k1
    simpa using this
  · rcases hk with hk | hk
    · exact hb k (Or.inl hk)
    · exact hb k (Or.inr (hk ▸ h2.r))
  · exact (hT.block _ (lt_of_block (hf p hp).1) (fun e => (hf p hp).2.2 (e ▸ h2.r))).trans (hf p hp).1
  · exact ⟨hT.os, hT.tape, hT.output, hT.size, fun k hk => hT.block k (by have := h2.lt r h2.r; have := hb r (Or.inr h2.r); omega) (fun e => by have := hb r (Or.inr h2.r); omega)⟩

/-- Open, in one word. -/
theorem open_in {own : Nat → Prop} {w : World} {t m : Nat} {A R : Tab} (h : TreesIn own w t m A) (hs : Sim A R) (hmax : R.length ≤ 1000) :
    Calls Try.prog 23 #[.pointer (some ⟨t, 0, none⟩)] w fun e w' => ∃ v : Value, e = .returned v ∧ w'.ownsRow w.heap.size 2 1 v R.length ((R.map (·.1)).map encZ) ∧ Below w.heap.size w w' := by
  obtain ⟨L, h1, rfl, h3⟩ := h.ex
  have hk : (absL L).map (·.1) = L.map (·.1) := by unfold absL; rw [List.map_map]; rfl
  have hn : ((absL L).map (·.1)).Nodup := by rw [hk]; exact h1.map.nodup
  have hkeys := hs.keys hn
  have hlen : L.length = R.length := by
    have := congrArg List.length hkeys
    rw [hk] at this
    simpa using this
  refine (Open_any t m L w h1 (by omega)).mono fun e w' ⟨v, he, hrow, hb⟩ => ⟨v, he, ?_, hb⟩
  rw [← hk, hkeys, hlen] at hrow
  exact hrow
end Go.Proofs.Ytkjfiofefndgkaa
