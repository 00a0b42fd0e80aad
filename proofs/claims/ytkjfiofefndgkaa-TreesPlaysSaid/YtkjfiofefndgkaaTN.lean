/- Two tables side by side: what a call does to the one leaves the other alone. Of nil nothing is had. -/
import Derived.Test.YtkjfiofefndgkaaTM
namespace Go.Proofs.Ytkjfiofefndgkaa
set_option linter.unusedVariables false
set_option linter.unusedSimpArgs false
open Go.RowKit
open Go.ChangeMaps (setBlock)

/-- Two tables in memory, apart; blocks whose content is known and that are no table's. -/
def Two (B : Nat) (fix : List (Nat × Obj)) (t1 m1 t2 m2 : Nat) (A1 A2 : Tab) (w : World) : Prop :=
  ∃ own1 own2 : Nat → Prop, TreesIn own1 w t1 m1 A1 ∧ TreesIn own2 w t2 m2 A2 ∧ (∀ k, own1 k → ¬ own2 k) ∧ (∀ k, own1 k ∨ own2 k → B ≤ k) ∧ ∀ p ∈ fix, w.heap[p.1]? = some p.2 ∧ ¬ own1 p.1 ∧ ¬ own2 p.1

theorem Two.op1 {B : Nat} {fix : List (Nat × Obj)} {t1 m1 t2 m2 : Nat} {A1 A2 : Tab} {w : World} (hB : B ≤ w.heap.size) {own1 own2 : Nat → Prop} (h1 : TreesIn own1 w t1 m1 A1) (h2 : TreesIn own2 w t2 m2 A2) (hd : ∀ k, own1 k → ¬ own2 k)
    (hb : ∀ k, own1 k ∨ own2 k → B ≤ k) (hf : ∀ p ∈ fix, w.heap[p.1]? = some p.2 ∧ ¬ own1 p.1 ∧ ¬ own2 p.1) {A1' : Tab} {v : Value} {e : Ending} {w' : World} (h : OpPost own1 w t1 m1 A1' v e w') :
    e = .returned v ∧ Two B fix t1 m1 t2 m2 A1' A2 w' ∧ Below B w w' := by
  obtain ⟨he, hT, own', h', hs⟩ := h
  refine ⟨he, ⟨own', own2, h', h2.keep hT (fun k hk e => hd k e hk), fun k hk hk2 => ?_, fun k hk => ?_, fun p hp => ⟨?_, fun hk => ?_, (hf p hp).2.2⟩⟩, ⟨hT.os, hT.tape, hT.output, hT.size, fun k hk => hT.block k (by omega) (fun e => by have := hb k (Or.inl e); omega)⟩⟩
  · rcases hs k hk with e | e
    · exact hd k e hk2
    · have := h2.lt k hk2; omega
  · rcases hk with hk | hk
    · rcases hs k hk with e | e
      · exact hb k (Or.inl e)
      · omega
    · exact hb k (Or.inr hk)
  · exact (hT.block _ (lt_of_block (hf p hp).1) (hf p hp).2.1).trans (hf p hp).1
  · rcases hs _ hk with e | e
    · exact (hf p hp).2.1 e
    · have := lt_of_block (hf p hp).1; omega

theorem Two.swap {B : Nat} {fix : List (Nat × Obj)} {t1 m1 t2 m2 : Nat} {A1 A2 : Tab} {w : World} (h : Two B fix t1 m1 t2 m2 A1 A2 w) : Two B fix t2 m2 t1 m1 A2 A1 w := by
  obtain ⟨o1, o2, h1, h2, hd, hb, hf⟩ := h
  exact ⟨o2, o1, h2, h1, fun k a b => hd k b a, fun k a => hb k a.symm, fun p hp => ⟨(hf p hp).1, (hf p hp).2.2, (hf p hp).2.1⟩⟩

/-- Any call of the first table. -/
theorem Two.call1 {B : Nat} {fix : List (Nat × Obj)} {t1 m1 t2 m2 : Nat} {A1 A2 : Tab} {w : World} (h : Two B fix t1 m1 t2 m2 A1 A2 w) (hB : B ≤ w.heap.size) {f : FuncId} {args : Array Value} {A' : Tab} {v : Value}
    (hc : ∀ own : Nat → Prop, TreesIn own w t1 m1 A1 → Calls Try.prog f args w (OpPost own w t1 m1 A' v)) :
    Calls Try.prog f args w fun e w' => e = .returned v ∧ Two B fix t1 m1 t2 m2 A' A2 w' ∧ Below B w w' := by
  obtain ⟨o1, o2, h1, h2, hd, hb, hf⟩ := h
  exact (hc o1 h1).mono fun e w' hp => Two.op1 hB h1 h2 hd hb hf hp
theorem Two.call2 {B : Nat} {fix : List (Nat × Obj)} {t1 m1 t2 m2 : Nat} {A1 A2 : Tab} {w : World} (h : Two B fix t1 m1 t2 m2 A1 A2 w) (hB : B ≤ w.heap.size) {f : FuncId} {args : Array Value} {A' : Tab} {v : Value}
    (hc : ∀ own : Nat → Prop, TreesIn own w t2 m2 A2 → Calls Try.prog f args w (OpPost own w t2 m2 A' v)) :
    Calls Try.prog f args w fun e w' => e = .returned v ∧ Two B fix t1 m1 t2 m2 A1 A' w' ∧ Below B w w' :=
  (Two.call1 h.swap hB hc).mono fun e w' ⟨a, b, c⟩ => ⟨a, b.swap, c⟩

theorem Two.below {B : Nat} {fix : List (Nat × Obj)} {t1 m1 t2 m2 : Nat} {A1 A2 : Tab} {w w' : World} (h : Two B fix t1 m1 t2 m2 A1 A2 w) (hb : Below w.heap.size w w') : Two B fix t1 m1 t2 m2 A1 A2 w' := by
  obtain ⟨o1, o2, h1, h2, hd, hB, hf⟩ := h
  exact ⟨o1, o2, h1.below hb, h2.below hb, hd, hB, fun p hp => ⟨(hb.block _ (lt_of_block (hf p hp).1)).trans (hf p hp).1, (hf p hp).2⟩⟩
theorem Two.alloc {B : Nat} {fix : List (Nat × Obj)} {t1 m1 t2 m2 : Nat} {A1 A2 : Tab} {w : World} (h : Two B fix t1 m1 t2 m2 A1 A2 w) (o : Obj) : Two B ((w.heap.size, o) :: fix) t1 m1 t2 m2 A1 A2 (w.alloc o) := by
  obtain ⟨o1, o2, h1, h2, hd, hB, hf⟩ := h.below ((Below.refl _ w).alloc (Nat.le_refl _) o)
  obtain ⟨p1, p2, g1, g2, _, _, _⟩ := h
  obtain ⟨q1, q2, k1, k2, kd, kB, kf⟩ : Two B fix t1 m1 t2 m2 A1 A2 w := ⟨p1, p2, g1, g2, ‹_›, ‹_›, ‹_›⟩
  refine ⟨q1, q2, k1.below ((Below.refl _ w).alloc (Nat.le_refl _) o), k2.below ((Below.refl _ w).alloc (Nat.le_refl _) o), kd, kB, fun p hp => ?_⟩
  rcases List.mem_cons.1 hp with rfl | hp
  · exact ⟨at_new w o, fun e => by have := k1.lt _ e; simp only at this; omega, fun e => by have := k2.lt _ e; simp only at this; omega⟩
  · exact ⟨at_old (kf p hp).1 o, (kf p hp).2⟩
theorem Two.fewer {B : Nat} {fix fix' : List (Nat × Obj)} {t1 m1 t2 m2 : Nat} {A1 A2 : Tab} {w : World} (h : Two B fix t1 m1 t2 m2 A1 A2 w) (hs : ∀ p ∈ fix', p ∈ fix) : Two B fix' t1 m1 t2 m2 A1 A2 w := by
  obtain ⟨o1, o2, h1, h2, hd, hb, hf⟩ := h
  exact ⟨o1, o2, h1, h2, hd, hb, fun p hp => hf p (hs p hp)⟩
theorem Two.at {B : Nat} {fix : List (Nat × Obj)} {t1 m1 t2 m2 : Nat} {A1 A2 : Tab} {w : World} (h : Two B fix t1 m1 t2 m2 A1 A2 w) {k : Nat} {o : Obj} (hk : (k, o) ∈ fix) : w.heap[k]? = some o := by
  obtain ⟨o1, o2, h1, h2, hd, hb, hf⟩ := h
  exact (hf _ hk).1
theorem Two.ne {B : Nat} {fix : List (Nat × Obj)} {t1 m1 t2 m2 : Nat} {A1 A2 : Tab} {w : World} (h : Two B fix t1 m1 t2 m2 A1 A2 w) : t1 ≠ t2 := by
  obtain ⟨o1, o2, h1, h2, hd, hb, hf⟩ := h
  intro e
  exact hd t1 h1.t (e ▸ h2.t)

/-! ### what a call does, told at each ticket -/
def strB : ByteArray := ⟨#[98]⟩
def opA (c : Nat) (n : Int) (A : Tab) : Tab := match c with
  | 0 => startA A n
  | 1 => gotA A n strB
  | 2 => sentA A n
  | 3 => signalA A n
  | 4 => restT A n
  | _ => A
def opG (c : Nat) (n : Int) (g : Option (ByteArray × Int)) : Option (ByteArray × Int) := if mayB n = false then g else match c, g with
  | 0, none => some (⟨#[]⟩, 0)
  | 1, none => some (strB, 0)
  | 2, some (p, d) => some (p, d + 1)
  | 3, some (p, d) => if d = 0 then some (p, d) else some (p, d - 1)
  | 4, some (p, d) => if d = 0 then none else some (p, d)
  | _, g => g

theorem get_snoc (A : Tab) (n : Int) (x : ByteArray × Int) (k : Int) (hg : alGet A n = none) : alGet (A ++ [(n, x)]) k = if k = n then some x else alGet A k := by
  rw [alGet_append, alGet_cons, alGet_nil]
  by_cases h : k = n
  · subst h; rw [hg]; simp
  · have : ¬ n = k := fun e => h e.symm
    simp [h, this]
theorem get_setT (A : Tab) (n d k : Int) : alGet (setT A n d) k = if k = n then (alGet A n).map (fun x => (x.1, d)) else alGet A k := by
  induction A with
  | nil => simp [setT, alGet_nil]
  | cons q A ih =>
    show alGet ((if q.1 = n then (q.1, q.2.1, d) else q) :: setT A n d) k = _
    rw [alGet_cons, alGet_cons, alGet_cons, ih]
    by_cases h : q.1 = n
    · simp only [h, if_true]
      by_cases e : k = n
      · subst e; simp
      · have : ¬ n = k := fun x => e x.symm
        simp [e, this]
    · simp only [h, if_false]
      by_cases e : k = n
      · subst e; simp [h]
      · simp [e]
theorem get_del (A : Tab) (n k : Int) : alGet (alDel A n) k = if k = n then none else alGet A k := by
  rw [alGet_del]
  by_cases h : k = n
  · simp [h]
  · have : ¬ n = k := fun e => h e.symm
    simp [h, this]

theorem opA_get (c : Nat) (n : Int) (A : Tab) (k : Int) : alGet (opA c n A) k = if k = n then opG c n (alGet A n) else alGet A k := by
  unfold opA opG
  by_cases hk : k = n
  · subst hk
    rw [if_pos rfl]
    cases hm : mayB k with
    | false =>
      rw [if_pos rfl]
      split <;> simp [startA, gotA, sentA, signalA, restT, hm]
    | true =>
      rw [if_neg (by simp)]
      have hb : nameOk strB = true := by decide
      split
      · cases hg : alGet A k with
        | none => simp [startA, hm, hg, get_snoc]
        | some x => simp [startA, hm, hg]
      · cases hg : alGet A k with
        | none => simp [gotA, hm, hg, hb, get_snoc]
        | some x => simp [gotA, hm, hg, hb]
      · cases hg : alGet A k with
        | none => simp [sentA, hm, hg]
        | some x => simp [sentA, hm, hg, get_setT]
      · cases hg : alGet A k with
        | none => simp [signalA, hm, hg]
        | some x => obtain ⟨p, d⟩ := x; by_cases h0 : d = 0 <;> simp [signalA, hm, hg, h0, get_setT]
      · cases hg : alGet A k with
        | none => simp [restT, hm, hg]
        | some x => obtain ⟨p, d⟩ := x; by_cases h0 : d = 0 <;> simp [restT, hm, hg, h0, get_del]
      · rename_i h0 h1 h2 h3 h4
        split <;> first | rfl | simp_all
  · rw [if_neg hk]
    have hs := fun (x : ByteArray × Int) (hg : alGet A n = none) => get_snoc A n x k hg
    split
    · unfold startA; split
      · rfl
      · split
        · rfl
        · rename_i h; rw [hs _ (by simpa using h), if_neg hk]
    · unfold gotA; split
      · rfl
      · split
        · rfl
        · split
          · rfl
          · rename_i h; rw [hs _ (by simpa using h), if_neg hk]
    · unfold sentA; split
      · rfl
      · split
        · rw [get_setT, if_neg hk]
        · rfl
    · unfold signalA; split
      · rfl
      · split
        · split
          · rfl
          · rw [get_setT, if_neg hk]
        · rfl
    · unfold restT; split
      · rfl
      · split
        · split
          · rw [get_del, if_neg hk]
          · rfl
        · rfl
    · rfl

/-- No ticket has more than k unanswered. -/
def Low (k : Int) (A : Tab) : Prop := ∀ n p d, alGet A n = some (p, d) → 0 ≤ d ∧ d ≤ k
theorem Low.op {k : Int} {A : Tab} (h : Low k A) (hk : 0 ≤ k) (c : Nat) (n : Int) : Low (k + 1) (opA c n A) := by
  intro j p d hg
  rw [opA_get] at hg
  by_cases e : j = n
  · rw [if_pos e] at hg
    unfold opG at hg
    split at hg
    · have := h _ _ _ hg; omega
    · split at hg
      · simp only [Option.some.injEq, Prod.mk.injEq] at hg; omega
      · simp only [Option.some.injEq, Prod.mk.injEq] at hg; omega
      · rename_i hx; simp only [Option.some.injEq, Prod.mk.injEq] at hg; have := h _ _ _ hx; omega
      · rename_i hx; have := h _ _ _ hx
        split at hg
        · simp only [Option.some.injEq, Prod.mk.injEq] at hg; omega
        · simp only [Option.some.injEq, Prod.mk.injEq] at hg; omega
      · rename_i hx; have := h _ _ _ hx
        split at hg
        · cases hg
        · simp only [Option.some.injEq, Prod.mk.injEq] at hg; omega
      · have := h _ _ _ hg; omega
  · rw [if_neg e] at hg
    have := h _ _ _ hg; omega
theorem Low.mono {k k' : Int} {A : Tab} (h : Low k A) (hk : k ≤ k') : Low k' A := fun n p d hg => by have := h n p d hg; omega

end Go.Proofs.Ytkjfiofefndgkaa
