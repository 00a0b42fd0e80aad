/- Maps in memory as association lists: what lookup, store, delete and clear do. Holds for every program and key type. -/
import Derived.Maps.Keyed
import Derived.Maps.Own
import Derived.WalkKit
import Derived.Deep.Draws
namespace Go.Proofs.YtpljbpndooilgaaDoor
set_option linter.unusedVariables false
set_option linter.unusedSimpArgs false
open Go.ChangeMaps (setBlock)
open Go.MapKept
open Go.ChangeMaps

/-- Outside the blocks of S nothing that was there has turned. -/
structure Touch (S : Nat → Prop) (w w' : World) : Prop where
  os : w'.os = w.os
  tape : w'.tape = w.tape
  output : w'.output = w.output
  size : w.heap.size ≤ w'.heap.size
  block : ∀ k, k < w.heap.size → ¬ S k → w'.heap[k]? = w.heap[k]?

theorem Touch.refl (S : Nat → Prop) (w : World) : Touch S w w := ⟨rfl, rfl, rfl, Nat.le_refl _, fun _ _ _ => rfl⟩

theorem Touch.trans {S : Nat → Prop} {a b c : World} (h : Touch S a b) (k : Touch S b c) : Touch S a c :=
  ⟨k.os.trans h.os, k.tape.trans h.tape, k.output.trans h.output, Nat.le_trans h.size k.size,
    fun i hi hs => (k.block i (Nat.lt_of_lt_of_le hi h.size) hs).trans (h.block i hi hs)⟩

theorem Touch.mono {S S' : Nat → Prop} {w w' : World} (h : Touch S w w') (hS : ∀ k, k < w.heap.size → S k → S' k) : Touch S' w w' :=
  ⟨h.os, h.tape, h.output, h.size, fun k hk hs => h.block k hk fun e => hs (hS k hk e)⟩

/-- Two steps with different blocks; what the second one writes may be new. -/
theorem Touch.seq {S T U : Nat → Prop} {a b c : World} (h : Touch S a b) (k : Touch T b c)
    (hS : ∀ i, i < a.heap.size → S i → U i) (hT : ∀ i, i < a.heap.size → T i → U i) : Touch U a c :=
  ⟨k.os.trans h.os, k.tape.trans h.tape, k.output.trans h.output, Nat.le_trans h.size k.size,
    fun i hi hs => (k.block i (Nat.lt_of_lt_of_le hi h.size) fun e => hs (hT i hi e)).trans (h.block i hi fun e => hs (hS i hi e))⟩

theorem Touch.drew {S : Nat → Prop} {a w : World} (h : Touch S a w) : Touch S a w.drew := ⟨h.os, h.tape, h.output, h.size, h.block⟩
theorem Touch.drewN {S : Nat → Prop} {a w : World} (h : Touch S a w) (n : Nat) : Touch S a (w.drewN n) := ⟨h.os, h.tape, h.output, h.size, h.block⟩

theorem Touch.alloc {S : Nat → Prop} {a w : World} (h : Touch S a w) (o : Obj) : Touch S a (w.alloc o) :=
  h.trans ⟨rfl, rfl, rfl, by simp, fun k hk _ => Go.RowKit.Below.heap_alloc _ _ _ hk⟩

theorem Touch.setCell {S : Nat → Prop} {a w : World} (h : Touch S a w) (p : Addr) (u : Value) (hp : p.block < a.heap.size → S p.block) : Touch S a (w.setCell p u) := by
  refine ⟨h.os, h.tape, h.output, by simpa [World.setCell] using h.size, fun k hk hs => ?_⟩
  have hne : k ≠ p.block := fun e => by subst e; exact hs (hp hk)
  rw [Go.RowKit.Below.heap_setCell _ _ _ _ hne]
  exact h.block k hk hs

theorem Touch.setBlock {S : Nat → Prop} {a w : World} (h : Touch S a w) (b : Nat) (o : Obj) (hp : b < a.heap.size → S b) : Touch S a (ChangeMaps.setBlock w b o) := by
  refine ⟨h.os, h.tape, h.output, by simpa [ChangeMaps.setBlock] using h.size, fun k hk hs => ?_⟩
  have hne : b ≠ k := fun e => by subst e; exact hs (hp hk)
  have : (ChangeMaps.setBlock w b o).heap[k]? = w.heap[k]? := by simp [ChangeMaps.setBlock, Array.getElem?_setIfInBounds, hne]
  rw [this]; exact h.block k hk hs

theorem Touch.below {S : Nat → Prop} {w w' : World} (h : Touch S w w') (hS : ∀ k, ¬ S k) : Go.RowKit.Below w.heap.size w w' :=
  ⟨h.os, h.tape, h.output, h.size, fun k hk => h.block k hk (hS k)⟩

theorem Touch.of_below {S : Nat → Prop} {w w' : World} (h : Go.RowKit.Below w.heap.size w w') : Touch S w w' :=
  ⟨h.os, h.tape, h.output, h.size, fun k hk _ => h.block k hk⟩

/-- Behind what is written from block B on, all below B is as it was. -/
theorem Touch.onto {S : Nat → Prop} {B : Nat} {w a b : World} (h : Go.RowKit.Below B w a) (t : Touch S a b) (hB : B ≤ a.heap.size) (hS : ∀ k, S k → B ≤ k) : Go.RowKit.Below B w b :=
  h.trans ⟨t.os, t.tape, t.output, t.size, fun k hk => t.block k (by omega) (fun e => by have := hS k e; omega)⟩

/-! ### association lists -/
section
variable {κ ν : Type} [DecidableEq κ]
def alGet (l : List (κ × ν)) (x : κ) : Option ν := (l.find? fun p => p.1 = x).map (·.2)
def alDel (l : List (κ × ν)) (x : κ) : List (κ × ν) := l.filter fun p => p.1 ≠ x
def alPut (l : List (κ × ν)) (x : κ) (v : ν) : List (κ × ν) :=
  if l.any fun p => p.1 = x then l.map fun p => if p.1 = x then (x, v) else p else l ++ [(x, v)]

theorem alGet_nil (x : κ) : alGet ([] : List (κ × ν)) x = none := rfl
theorem alGet_cons (p : κ × ν) (l : List (κ × ν)) (x : κ) : alGet (p :: l) x = if p.1 = x then some p.2 else alGet l x := by
  unfold alGet; rw [List.find?_cons]; by_cases h : p.1 = x <;> simp [h]

theorem alGet_none {l : List (κ × ν)} {x : κ} : alGet l x = none ↔ ∀ p ∈ l, p.1 ≠ x := by
  induction l with
  | nil => simp [alGet_nil]
  | cons p l ih =>
    rw [alGet_cons]
    by_cases h : p.1 = x
    · simp only [h, if_true]
      constructor
      · intro e; cases e
      · intro e; exact absurd h (e p (by simp))
    · rw [if_neg h, ih]; simp [h]

theorem alGet_mem {l : List (κ × ν)} {x : κ} {v : ν} (h : alGet l x = some v) : (x, v) ∈ l := by
  induction l with
  | nil => simp [alGet_nil] at h
  | cons p l ih =>
    rw [alGet_cons] at h
    by_cases e : p.1 = x
    · rw [if_pos e] at h; cases h; subst e; exact List.mem_cons_self
    · rw [if_neg e] at h; exact List.mem_cons_of_mem _ (ih h)

theorem alGet_of_mem {l : List (κ × ν)} (hn : (l.map (·.1)).Nodup) {x : κ} {v : ν} (h : (x, v) ∈ l) : alGet l x = some v := by
  induction l with
  | nil => cases h
  | cons p l ih =>
    rw [alGet_cons]
    simp only [List.map_cons, List.nodup_cons] at hn
    rcases List.mem_cons.1 h with rfl | h
    · simp
    · have : p.1 ≠ x := fun e => hn.1 (List.mem_map.2 ⟨_, h, e.symm⟩)
      rw [if_neg this]; exact ih hn.2 h

theorem alGet_del {l : List (κ × ν)} {x y : κ} : alGet (alDel l x) y = if x = y then none else alGet l y := by
  induction l with
  | nil => simp [alDel, alGet_nil]
  | cons p l ih =>
    unfold alDel at ih ⊢
    rw [List.filter_cons]
    by_cases e : p.1 = x
    · simp only [e, ne_eq, not_true_eq_false, decide_false, Bool.false_eq_true, if_false]
      rw [ih, alGet_cons, e]
      by_cases h : x = y <;> simp [h]
    · simp only [ne_eq, e, not_false_eq_true, decide_true, if_true, alGet_cons, ih]
      by_cases h : p.1 = y
      · have : ¬ x = y := fun h' => e (h.trans h'.symm)
        simp [h, this]
      · simp [h]

theorem alGet_append (l m : List (κ × ν)) (y : κ) : alGet (l ++ m) y = (alGet l y).or (alGet m y) := by
  induction l with
  | nil => simp [alGet_nil]
  | cons p l ih =>
    rw [List.cons_append, alGet_cons, alGet_cons, ih]
    by_cases h : p.1 = y <;> simp [h]

theorem alGet_put {l : List (κ × ν)} {x y : κ} {v : ν} : alGet (alPut l x v) y = if x = y then some v else alGet l y := by
  unfold alPut
  by_cases ha : (l.any fun p => p.1 = x) = true
  · rw [if_pos ha]
    induction l with
    | nil => simp at ha
    | cons p l ih =>
      rw [List.map_cons, alGet_cons, alGet_cons]
      by_cases e : p.1 = x
      · simp only [e, if_true]
        by_cases h : x = y
        · simp [h]
        · simp only [h, if_false]
          by_cases ha' : (l.any fun p => p.1 = x) = true
          · rw [ih ha']; simp [h]
          · have hm : l.map (fun p => if p.1 = x then (x, v) else p) = l := by
              have : ∀ p ∈ l, (if p.1 = x then (x, v) else p) = p := by
                intro p hp
                rw [if_neg]; intro e'; apply ha'
                exact List.any_eq_true.2 ⟨p, hp, by simp [e']⟩
              rw [List.map_congr_left this]; simp
            rw [hm]
      · have ha' : (l.any fun p => p.1 = x) = true := by
          rw [List.any_cons] at ha; simpa [e] using ha
        simp only [e, if_false]
        rw [ih ha']
        by_cases h : p.1 = y
        · have : ¬ x = y := fun h' => e (h.trans h'.symm)
          simp [h, this]
        · simp [h]
  · rw [if_neg ha, alGet_append, alGet_cons]
    by_cases h : x = y
    · subst h
      have : alGet l x = none := alGet_none.2 fun p hp e => ha (List.any_eq_true.2 ⟨p, hp, by simp [e]⟩)
      simp [this]
    · simp [h, alGet_nil]

theorem alDel_keys {l : List (κ × ν)} {x : κ} (h : (l.map (·.1)).Nodup) : ((alDel l x).map (·.1)).Nodup :=
  List.Sublist.nodup (List.Sublist.map _ (List.filter_sublist)) h

theorem alPut_keys {l : List (κ × ν)} {x : κ} {v : ν} : (l.map (·.1)).Nodup → ((alPut l x v).map (·.1)).Nodup := by
  intro h
  unfold alPut
  split
  · have : (l.map fun p => if p.1 = x then (x, v) else p).map (·.1) = l.map (·.1) := by
      rw [List.map_map]
      refine List.map_congr_left fun p _ => ?_
      by_cases e : p.1 = x <;> simp [e]
    rw [this]; exact h
  · rename_i ha
    rw [List.map_append, List.nodup_append]
    refine ⟨h, by simp, ?_⟩
    intro a ha' b hb e
    simp only [List.map_cons, List.map_nil, List.mem_singleton] at hb
    subst hb; subst e
    obtain ⟨p, hp, e⟩ := List.mem_map.1 ha'
    exact ha (List.any_eq_true.2 ⟨p, hp, by simp [e]⟩)

theorem alPut_mem {l : List (κ × ν)} {x : κ} {v : ν} {p : κ × ν} (h : p ∈ alPut l x v) : p = (x, v) ∨ (p ∈ l ∧ p.1 ≠ x) := by
  unfold alPut at h
  split at h
  · obtain ⟨q, hq, e⟩ := List.mem_map.1 h
    by_cases e' : q.1 = x
    · rw [if_pos e'] at e; exact Or.inl e.symm
    · rw [if_neg e'] at e; subst e; exact Or.inr ⟨hq, e'⟩
  · rename_i ha
    rcases List.mem_append.1 h with h | h
    · exact Or.inr ⟨h, fun e => ha (List.any_eq_true.2 ⟨p, h, by simp [e]⟩)⟩
    · simp only [List.mem_singleton] at h; exact Or.inl h

theorem alDel_mem {l : List (κ × ν)} {x : κ} {p : κ × ν} : p ∈ alDel l x ↔ p ∈ l ∧ p.1 ≠ x := by simp [alDel]
end

/-! ### the map's block -/
section
variable {κ ν : Type} {P : Program} {k e : TypeId} {ke : κ → Value} {ve : ν → Value} {ok : κ → Prop} {w : World} {b : Nat} {l : List (κ × ν)}

/-- A key type and how its keys are written. -/
structure KeyEnc (P : Program) (k : TypeId) (ke : κ → Value) (ok : κ → Prop) : Prop where
  K : Go.Maps.Keyed P k
  lit : ∀ x, ok x → ∃ lt, keyOf P k (ke x) = some lt
  inj : ∀ x y, ke x = ke y → x = y

/-- Block b is a map with these entries (in the order in which they came). -/
structure MapIs (P : Program) (k : TypeId) (ke : κ → Value) (ve : ν → Value) (ok : κ → Prop) (w : World) (b : Nat) (l : List (κ × ν)) : Prop where
  ex : ∃ es clock, w.heap[b]? = some (.map es clock) ∧ es.toList.map (fun x => (x.key, x.val)) = l.map (fun p => (ke p.1, ve p.2)) ∧ Stamped es clock
  oks : ∀ p ∈ l, ok p.1

theorem MapIs.lt (h : MapIs P k ke ve ok w b l) : b < w.heap.size := by
  obtain ⟨⟨es, c, hb, _⟩, _⟩ := h
  exact lt_of_block hb

theorem MapIs.nodup (h : MapIs P k ke ve ok w b l) : (l.map (·.1)).Nodup := by
  obtain ⟨⟨es, c, hb, he, hs⟩, hok⟩ := h
  have hp := ((stamped_iff es c).1 hs).2.2
  have h2 : (es.toList.map (fun x => (x.key, x.val))).Pairwise (fun x y => x.1 ≠ y.1) := by
    rw [List.pairwise_map]; exact hp
  rw [he, List.pairwise_map] at h2
  rw [List.Nodup, List.pairwise_map]
  exact h2.imp fun h e => h (by rw [e])

theorem MapIs.of_block {w' : World} (h : MapIs P k ke ve ok w b l) (hb : w'.heap[b]? = w.heap[b]?) : MapIs P k ke ve ok w' b l := by
  obtain ⟨⟨es, c, h1, h2⟩, h3⟩ := h
  exact ⟨⟨es, c, hb.trans h1, h2⟩, h3⟩

theorem MapIs.keep {S : Nat → Prop} {w' : World} (h : MapIs P k ke ve ok w b l) (ht : Touch S w w') (hb : ¬ S b) : MapIs P k ke ve ok w' b l :=
  h.of_block (ht.block b h.lt hb)

theorem MapIs.new (w : World) : MapIs P k ke ve ok (w.alloc (.map #[] 0)) w.heap.size [] :=
  ⟨⟨#[], 0, (heap_alloc w _).1, by simp, stamped_empty 0⟩, by simp⟩

theorem mapis_keys (E : KeyEnc P k ke ok) {es : Array MapEntry} {c : Nat} (he : es.toList.map (fun x => (x.key, x.val)) = l.map (fun p => (ke p.1, ve p.2))) (hok : ∀ p ∈ l, ok p.1) :
    ∀ x ∈ es.toList, ∃ lt, keyOf P k x.key = some lt := by
  intro x hx
  have : (x.key, x.val) ∈ es.toList.map (fun x => (x.key, x.val)) := List.mem_map.2 ⟨x, hx, rfl⟩
  rw [he] at this
  obtain ⟨p, hp, e⟩ := List.mem_map.1 this
  obtain ⟨lt, hl⟩ := E.lit p.1 (hok p hp)
  exact ⟨lt, by simp only [Prod.mk.injEq] at e; rw [← e.1]; exact hl⟩

/-- What the search for a key finds. -/
theorem MapIs.find [DecidableEq κ] (E : KeyEnc P k ke ok) (h : MapIs P k ke ve ok w b l) (x : κ) (hx : ok x) (w1 : World) :
    ∃ es clock, w.heap[b]? = some (.map es clock) ∧ es.toList.map (fun x => (x.key, x.val)) = l.map (fun p => (ke p.1, ve p.2)) ∧ Stamped es clock ∧
      ((alGet l x = none ∧ (Instr.findKey k (ke x) es.toList).run P w1 = .ok none w1 ∧ ∀ y ∈ es.toList, y.key ≠ ke x) ∨
        ∃ j e0 v, alGet l x = some v ∧ (Instr.findKey k (ke x) es.toList).run P w1 = .ok (some (j, e0.val)) w1 ∧ es.toList[j]? = some e0 ∧ e0.key = ke x ∧ e0.val = ve v ∧ l[j]? = some (x, v)) := by
  have hnd := h.nodup
  obtain ⟨⟨es, c, hb, he, hs⟩, hok⟩ := h
  obtain ⟨lt, hl⟩ := E.lit x hx
  refine ⟨es, c, hb, he, hs, ?_⟩
  rcases E.K.find w1 hl es.toList (mapis_keys (c := c) E he hok) with ⟨h1, h2⟩ | ⟨j, e0, h1, h2, h3⟩
  · refine Or.inl ⟨alGet_none.2 fun p hp e1 => ?_, h1, h2⟩
    have : (ke p.1, ve p.2) ∈ l.map (fun p => (ke p.1, ve p.2)) := List.mem_map.2 ⟨p, hp, rfl⟩
    rw [← he] at this
    obtain ⟨y, hy, e2⟩ := List.mem_map.1 this
    simp only [Prod.mk.injEq] at e2
    exact h2 y hy (by rw [e2.1, e1])
  · have hj : (l.map (fun p => (ke p.1, ve p.2)))[j]? = some (e0.key, e0.val) := by rw [← he]; simp [h2]
    rw [List.getElem?_map] at hj
    obtain ⟨p, hp, e2⟩ := Option.map_eq_some_iff.1 hj
    simp only [Prod.mk.injEq] at e2
    have hpx : p.1 = x := E.inj _ _ (by rw [e2.1, h3])
    have hm : (x, p.2) ∈ l := by rw [← hpx]; exact List.mem_of_getElem? hp
    exact Or.inr ⟨j, e0, p.2, alGet_of_mem hnd hm, h1, h2, h3, e2.2.symm, by rw [hp, ← hpx]⟩

/-- 'm[k]' and 'm[k]' with ok. -/
theorem MapIs.lookup [DecidableEq κ] (E : KeyEnc P k ke ok) (h : MapIs P k ke ve ok w b l) {t : TypeId} (ht : P.underlying t = some (.map k e)) {z : Value} (hz : ∀ w, (zeroValue e).run P w = .ok z w) (c : Bool) (x : κ) (hx : ok x) :
    (Instr.lookup t (.map (some b)) (ke x) c).run P w = .ok (match alGet l x with | some v => if c then .tuple #[ve v, .bool true] else ve v | none => if c then .tuple #[z, .bool false] else z) w := by
  obtain ⟨lt, hl⟩ := E.lit x hx
  obtain ⟨es, clock, hb, _, _, hf⟩ := h.find E x hx w
  rcases hf with ⟨h0, h1, _⟩ | ⟨j, e0, v, h0, h1, _, _, h4, _⟩
  · rw [h0]; simp [Instr.lookup, run_underlying ht, MapKept.run_getObj_map hb, E.K.check w _ hl, h1, hz, Result.andThen]
  · rw [h0]; simp [Instr.lookup, run_underlying ht, MapKept.run_getObj_map hb, E.K.check w _ hl, h1, h4, Result.andThen]

theorem modify_map [DecidableEq κ] (es : Array MapEntry) (l : List (κ × ν)) (he : es.toList.map (fun x => (x.key, x.val)) = l.map (fun p => (ke p.1, ve p.2))) (hn : (l.map (·.1)).Nodup) (j : Nat) (x : κ) (v v0 : ν) (hj : l[j]? = some (x, v0)) :
    (es.modify j fun e' => { e' with key := ke x, val := ve v }).toList.map (fun x => (x.key, x.val)) = (alPut l x v).map (fun p => (ke p.1, ve p.2)) := by
  have hany : (l.any fun p => p.1 = x) = true := List.any_eq_true.2 ⟨_, List.mem_of_getElem? hj, by simp⟩
  unfold alPut
  rw [if_pos hany]
  apply List.ext_getElem?
  intro i
  have hei : (es.toList.map (fun x => (x.key, x.val)))[i]? = (l.map (fun p => (ke p.1, ve p.2)))[i]? := by rw [he]
  rw [List.getElem?_map, List.getElem?_map] at hei
  rw [List.getElem?_map, List.getElem?_map, List.getElem?_map, Array.getElem?_toList, Array.getElem?_modify]
  rw [Array.getElem?_toList] at hei
  by_cases hij : j = i
  · subst hij
    rw [hj] at hei ⊢
    cases hes : es[j]? with
    | none => rw [hes] at hei; simp at hei
    | some e1 => simp
  · rw [if_neg hij]
    rw [hei]
    cases hli : l[i]? with
    | none => simp
    | some p =>
      have hne : p.1 ≠ x := by
        intro e1
        have h1 : (l.map (·.1))[i]? = some x := by simp [hli, e1]
        have h2 : (l.map (·.1))[j]? = some x := by simp [hj]
        have hi : i < (l.map (·.1)).length := (List.getElem?_eq_some_iff.1 h1).1
        exact hij (((List.getElem?_inj hi hn).1 (h1.trans h2.symm)).symm)
      simp [hne]

/-- 'm[k] = v'. -/
theorem MapIs.update [DecidableEq κ] (E : KeyEnc P k ke ok) (h : MapIs P k ke ve ok w b l) {t : TypeId} (ht : P.underlying t = some (.map k e)) (x : κ) (hx : ok x) (v : ν) :
    ∃ o, (Instr.mapUpdate t (.map (some b)) (ke x) (ve v)).run P w = .ok () (setBlock w b o) ∧ MapIs P k ke ve ok (setBlock w b o) b (alPut l x v) := by
  have hnd := h.nodup
  have hoks := h.oks
  obtain ⟨lt, hl⟩ := E.lit x hx
  obtain ⟨es, clock, hb, he, hs, hf⟩ := h.find E x hx w
  have hoks' : ∀ p ∈ alPut l x v, ok p.1 := by
    intro p hp
    rcases alPut_mem hp with rfl | ⟨h, _⟩
    · exact hx
    · exact hoks p h
  rcases hf with ⟨h0, h1, h2⟩ | ⟨j, e0, v0, h0, h1, h2, h3, h4, h5⟩
  · refine ⟨.map (es.push ⟨ke x, ve v, clock⟩) (clock + 1), ?_, ⟨_, _, heap_setBlock_same hb _, ?_, stamped_push hs h2⟩, hoks'⟩
    · simp [Instr.mapUpdate, run_underlying ht, MapKept.run_getObj_map hb, E.K.check w false hl, h1, MapKept.run_setObj_map _ hb, Result.andThen, setBlock]
    · have hany : ¬ (l.any fun p => p.1 = x) = true := by
        intro ha
        obtain ⟨p, hp, e1⟩ := List.any_eq_true.1 ha
        exact (alGet_none.1 h0) p hp (by simpa using e1)
      unfold alPut
      rw [if_neg hany, Array.toList_push, List.map_append, List.map_append, he]
      rfl
  · have hj : es[j]? = some e0 := by simpa using h2
    refine ⟨.map (es.modify j fun e' => { e' with key := ke x, val := ve v }) clock, ?_, ⟨_, _, heap_setBlock_same hb _, ?_, ?_⟩, hoks'⟩
    · simp [Instr.mapUpdate, run_underlying ht, MapKept.run_getObj_map hb, E.K.check w false hl, h1, hj, h3, E.K.stays w hl, MapKept.run_setObj_map _ hb, Result.andThen, setBlock]
    · exact modify_map es l he hnd j x v v0 h5
    · exact stamped_modify hs _ _ (fun _ _ => rfl) (fun e' _ he' => by rw [hj] at he'; cases he'; exact h3.symm)

theorem alDel_erase [DecidableEq κ] {l : List (κ × ν)} (hn : (l.map (·.1)).Nodup) {j : Nat} {x : κ} {v : ν} (hj : l[j]? = some (x, v)) : alDel l x = l.eraseIdx j := by
  induction l generalizing j with
  | nil => simp at hj
  | cons p l ih =>
    simp only [List.map_cons, List.nodup_cons] at hn
    cases j with
    | zero =>
      simp only [List.getElem?_cons_zero, Option.some.injEq] at hj
      subst hj
      simp only [alDel, List.filter_cons, ne_eq, not_true_eq_false, decide_false, Bool.false_eq_true, if_false, List.eraseIdx_cons_zero]
      refine List.filter_eq_self.2 fun q hq => ?_
      have : q.1 ≠ x := fun e1 => hn.1 (List.mem_map.2 ⟨q, hq, e1⟩)
      simp [this]
    | succ j =>
      simp only [List.getElem?_cons_succ] at hj
      have hne : p.1 ≠ x := fun e1 => hn.1 (List.mem_map.2 ⟨_, List.mem_of_getElem? hj, e1.symm⟩)
      have := ih hn.2 hj
      simp only [alDel, List.filter_cons, ne_eq, hne, not_false_eq_true, decide_true, if_true, List.eraseIdx_cons_succ] at this ⊢
      rw [this]

/-- 'delete(m, k)'. -/
theorem MapIs.drop [DecidableEq κ] (E : KeyEnc P k ke ok) (h : MapIs P k ke ve ok w b l) {t : TypeId} (ht : P.underlying t = some (.map k e)) (x : κ) (hx : ok x) :
    ∃ o, (∀ ty, (Builtin.delete_ #[t, k] ty #[.map (some b), ke x]).run P w = .ok (.tuple #[]) (setBlock w b o)) ∧ MapIs P k ke ve ok (setBlock w b o) b (alDel l x) := by
  have hnd := h.nodup
  have hoks := h.oks
  obtain ⟨lt, hl⟩ := E.lit x hx
  obtain ⟨es, clock, hb, he, hs, hf⟩ := h.find E x hx w
  have hoks' : ∀ p ∈ alDel l x, ok p.1 := fun p hp => hoks p (alDel_mem.1 hp).1
  rcases hf with ⟨h0, h1, h2⟩ | ⟨j, e0, v0, h0, h1, h2, h3, h4, h5⟩
  · refine ⟨.map es clock, ?_, ⟨_, _, heap_setBlock_same hb _, ?_, hs⟩, hoks'⟩
    · intro ty; simp [Builtin.delete_, run_underlying ht, MapKept.run_getObj_map hb, E.K.check w _ hl, h1, MapKept.run_setObj_map _ hb, Result.andThen, setBlock]
    · have : alDel l x = l := List.filter_eq_self.2 fun p hp => by simpa using alGet_none.1 h0 p hp
      rw [this]; exact he
  · have hjl : j < es.toList.length := (List.getElem?_eq_some_iff.1 h2).1
    have hjs : j < es.size := by simpa using hjl
    have hsub : (es.eraseIdxIfInBounds j).toList = es.toList.eraseIdx j := by
      unfold Array.eraseIdxIfInBounds
      rw [dif_pos hjs]
      simp
    refine ⟨.map (es.eraseIdxIfInBounds j) clock, ?_, ⟨_, _, heap_setBlock_same hb _, ?_, stamped_erase hs j⟩, hoks'⟩
    · intro ty; simp [Builtin.delete_, run_underlying ht, MapKept.run_getObj_map hb, E.K.check w _ hl, h1, MapKept.run_setObj_map _ hb, Result.andThen, setBlock]
    · rw [hsub, alDel_erase hnd h5]
      have m1 : ∀ {α β : Type} (f : α → β) (l : List α) (j : Nat), (l.eraseIdx j).map f = (l.map f).eraseIdx j := fun f l j => ChangeMaps.map_eraseIdx f l j
      rw [m1, m1, he]

/-- 'clear(m)'. -/
theorem MapIs.clear (h : MapIs P k ke ve ok w b l) {t : TypeId} (ht : P.underlying t = some (.map k e)) :
    ∃ o, (∀ ty, (Builtin.clear_ #[t] ty #[.map (some b)]).run P w = .ok (.tuple #[]) (setBlock w b o)) ∧ MapIs P k ke ve ok (setBlock w b o) b [] := by
  obtain ⟨⟨es, clock, hb, he, hs⟩, hok⟩ := h
  refine ⟨.map #[] clock, ?_, ⟨_, _, heap_setBlock_same hb _, by simp, stamped_empty clock⟩, by simp⟩
  intro ty; simp [Builtin.clear_, run_underlying ht, MapKept.run_getObj_map hb, MapKept.run_setObj_map _ hb, Result.andThen, setBlock]

/-- 'len(m)' of a map. -/
theorem MapIs.size (h : MapIs P k ke ve ok w b l) : ∃ es clock, w.heap[b]? = some (.map es clock) ∧ es.size = l.length := by
  obtain ⟨⟨es, clock, hb, he, hs⟩, hok⟩ := h
  refine ⟨es, clock, hb, ?_⟩
  have := congrArg List.length he
  simpa using this
end

/-- Keys of an integer kind. -/
theorem intKeys {P : Program} {k : TypeId} {q : IntKind} (hk : P.underlying k = some (.int q)) : KeyEnc P k (fun n : Int => Value.int q n) (fun n => (Lit.int q n).wf = true) :=
  ⟨Go.Maps.int_keyed hk, fun _ h => ⟨_, Go.Maps.keyOf_int_mk hk h⟩, fun x y h => by injection h⟩
/-- An append whose run is known. -/
theorem wpList_append_eq {P : Program} {w w' : World} {v' : Value} {ops : Array Oper} {rest : List Oper} {o : Oper} {a : Act} {Q : Exit → Act → World → Prop} (hgd : o.guard = none) (s x : Operand) (t : TypeId)
    (ho : o.op = .call { callee := .builtin .append, args := #[s, x], argTypes := #[t, t] }) (v xv : Value) (hs : a.eval s = v) (hx : a.eval x = xv)
    (hrun : (Builtin.append_ #[t, t] o.type #[v, xv]).run P w = .ok v' w') (h : wpList P ops Q rest (a.put o.dst v') w') : wpList P ops Q (o :: rest) a w := by
  refine wpList_plain hgd fun K hK => ?_
  unfold Oper.wp execOp
  simp only [ho, resolve, invoke, builtin, Sem.run_bind, Sem.run_pure, Result.andThen_ok, List.map_toArray, List.map_cons, List.map_nil, hs, hx, hrun]
  exact hK _ _ h

/-- The same as one step of a region that draws its order. -/
theorem step_append_eq {P : Program} {w w' : World} {v' : Value} {ops : Array Oper} {o : Oper} {a : Act} {K : Act → World → Prop} {Q : Exit → Act → World → Prop} {E : Prop} (hgd : o.guard = none) (s x : Operand) (t : TypeId)
    (ho : o.op = .call { callee := .builtin .append, args := #[s, x], argTypes := #[t, t] }) (v xv : Value) (hs : a.eval s = v) (hx : a.eval x = xv)
    (hrun : (Builtin.append_ #[t, t] o.type #[v, xv]).run P w = .ok v' w') (h : K (a.put o.dst v') w') : if Region.wanted o (yielded ops a.tmps) = true then Oper.wp P o a w K Q else E := by
  have hw : Region.wanted o (yielded ops a.tmps) = true := by simp [Region.wanted, hgd]
  rw [if_pos hw]
  unfold Oper.wp execOp
  simp only [ho, resolve, invoke, builtin, Sem.run_bind, Sem.run_pure, Result.andThen_ok, List.map_toArray, List.map_cons, List.map_nil, hs, hx, hrun]
  exact h

end Go.Proofs.YtpljbpndooilgaaDoor
