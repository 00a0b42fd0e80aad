/- The calls of the package trees in one word each: the table as a list of tickets, with whom they are answered to and how many are not answered. -/
import Derived.Test.YtkjfiofefndgkaaTB
namespace Go.Proofs.Ytkjfiofefndgkaa
set_option linter.unusedVariables false
set_option linter.unusedSimpArgs false
open Go.RowKit
open Go.ChangeMaps (setBlock)

abbrev Tab := List (Int × ByteArray × Int)
def absL (L : List (Int × TS)) : Tab := L.map fun q => (q.1, q.2.p, q.2.d)

theorem absL_get (L : List (Int × TS)) (n : Int) : alGet (absL L) n = (alGet L n).map fun x => (x.p, x.d) := by
  induction L with
  | nil => rfl
  | cons q L ih =>
    show alGet ((q.1, q.2.p, q.2.d) :: absL L) n = _
    rw [alGet_cons, alGet_cons, ih]
    by_cases h : q.1 = n <;> simp [h]
theorem absL_append (L M : List (Int × TS)) : absL (L ++ M) = absL L ++ absL M := by simp [absL]
theorem absL_del (L : List (Int × TS)) (n : Int) : absL (alDel L n) = alDel (absL L) n := by
  unfold absL alDel
  rw [List.filter_map]; rfl

def setT (A : Tab) (n d : Int) : Tab := A.map fun q => if q.1 = n then (q.1, q.2.1, d) else q
theorem absL_setD (L : List (Int × TS)) (n d : Int) : absL (setD L n d) = setT (absL L) n d := by
  unfold absL setD setT
  rw [List.map_map, List.map_map]
  refine List.map_congr_left fun q _ => ?_
  by_cases h : q.1 = n <;> simp [h]

/-- A table in memory; 'own': its blocks. -/
structure TreesIn (own : Nat → Prop) (w : World) (t m : Nat) (A : Tab) : Prop where
  ex : ∃ L, TreesAt w t m L ∧ absL L = A ∧ ∀ q ∈ L, own q.2.s
  t : own t
  m : own m
  lt : ∀ k, own k → k < w.heap.size

def OpPost (own : Nat → Prop) (w : World) (t m : Nat) (A : Tab) (v : Value) (e : Ending) (w' : World) : Prop :=
  e = .returned v ∧ Touch own w w' ∧ ∃ own' : Nat → Prop, TreesIn own' w' t m A ∧ ∀ k, own' k → own k ∨ w.heap.size ≤ k

theorem TreesIn.same {own : Nat → Prop} {w : World} {t m : Nat} {A : Tab} (h : TreesIn own w t m A) (v : Value) : OpPost own w t m A v (.returned v) w :=
  ⟨rfl, Touch.refl _ _, own, h, fun _ => Or.inl⟩

theorem TreesIn.keep {own S : Nat → Prop} {w w' : World} {t m : Nat} {A : Tab} (h : TreesIn own w t m A) (ht : Touch S w w') (hd : ∀ k, own k → ¬ S k) : TreesIn own w' t m A := by
  obtain ⟨⟨L, h1, h2, h3⟩, ht1, hm1, hlt⟩ := h
  exact ⟨⟨L, h1.keep ht (hd _ ht1) (hd _ hm1) (fun q hq => hd _ (h3 q hq)), h2, h3⟩, ht1, hm1, fun k hk => Nat.lt_of_lt_of_le (hlt k hk) ht.size⟩

theorem TreesIn.below {own : Nat → Prop} {w w' : World} {t m : Nat} {A : Tab} (h : TreesIn own w t m A) (hb : Below w.heap.size w w') : TreesIn own w' t m A :=
  h.keep (S := fun _ => False) (Touch.of_below hb) (fun _ _ => id)

theorem New_in (w : World) : Calls Try.prog 7 #[] w fun e w' => e = .returned (.pointer (some ⟨w.heap.size + 1, 0, none⟩)) ∧ Below w.heap.size w w' ∧ ∃ own : Nat → Prop, TreesIn own w' (w.heap.size + 1) w.heap.size [] ∧ ∀ k, own k → w.heap.size ≤ k := by
  refine (New_any w).mono ?_
  rintro e w' ⟨he, h1, h2⟩
  refine ⟨he, h2.below (fun _ => id), fun k => k = w.heap.size ∨ k = w.heap.size + 1, ⟨⟨[], h1, rfl, fun q hq => by cases hq⟩, Or.inr rfl, Or.inl rfl, fun k hk => ?_⟩, fun k hk => by omega⟩
  have a := lt_of_block h1.top
  have b := h1.map.lt
  rcases hk with rfl | rfl <;> assumption

/-- A new ticket, its block new. -/
theorem TreesIn.grown {own : Nat → Prop} {w w' : World} {t m s : Nat} {L : List (Int × TS)} {n : Int} {p : ByteArray} (ht : own t) (hm : own m) (hs : ∀ q ∈ L, own q.2.s) (hlt : ∀ k, own k → k < w.heap.size)
    (h : TreesAt w' t m (L ++ [(n, ⟨s, p, 0⟩)])) (hsz : w.heap.size ≤ s) (hT : Touch (fun b => b = m) w w') (v : Value) : OpPost own w t m (absL L ++ [(n, p, 0)]) v (.returned v) w' := by
  refine ⟨rfl, hT.mono (fun k _ e => e ▸ hm), fun k => own k ∨ k = s, ⟨⟨_, h, by rw [absL_append]; rfl, fun q hq => ?_⟩, Or.inl ht, Or.inl hm, fun k hk => ?_⟩, fun k hk => ?_⟩
  · rcases List.mem_append.1 hq with hq | hq
    · exact Or.inl (hs q hq)
    · simp only [List.mem_singleton] at hq; subst hq; exact Or.inr rfl
  · rcases hk with hk | rfl
    · exact Nat.lt_of_lt_of_le (hlt k hk) hT.size
    · exact lt_of_block (h.st _ (List.mem_append.2 (Or.inr (List.mem_singleton.2 rfl))))
  · rcases hk with hk | rfl
    · exact Or.inl hk
    · exact Or.inr hsz

def startR (A : Tab) (n : Int) : Int := if mayB n = false then 2 else if (alGet A n).isSome then 13 else 0
def startA (A : Tab) (n : Int) : Tab := if mayB n = false then A else if (alGet A n).isSome then A else A ++ [(n, ⟨#[]⟩, 0)]

theorem start_in {own : Nat → Prop} {w : World} {t m : Nat} {A : Tab} (h : TreesIn own w t m A) (n : Int) :
    Calls Try.prog 9 #[.pointer (some ⟨t, 0, none⟩), .int .i64 n] w (OpPost own w t m (startA A n) (.int .i64 (startR A n))) := by
  obtain ⟨L, h1, rfl, h3⟩ := h.ex
  unfold startA startR
  rw [absL_get]
  cases hm : mayB n with
  | false => exact (Start_arg n w t hm).mono fun e w' ⟨he, hw⟩ => by subst he; subst hw; exact h.same _
  | true =>
    cases hg : alGet L n with
    | some x => exact (Start_there n w t m L h1 hm hg).mono fun e w' ⟨he, hw⟩ => by subst he; subst hw; exact h.same _
    | none => exact (Start_ok n w t m L h1 hm hg).mono fun e w' ⟨he, hw, hT⟩ => by subst he; exact TreesIn.grown h.t h.m h3 h.lt hw (Nat.le_refl _) hT _

def gotR (A : Tab) (n : Int) (p : ByteArray) : Value :=
  if mayB n = false then .tuple #[.bool false, .int .i64 2] else if nameOk p = false then .tuple #[.bool false, .int .i64 2] else if (alGet A n).isSome then .tuple #[.bool true, .int .i64 0] else .tuple #[.bool false, .int .i64 0]
def gotA (A : Tab) (n : Int) (p : ByteArray) : Tab := if mayB n = false then A else if nameOk p = false then A else if (alGet A n).isSome then A else A ++ [(n, p, 0)]

theorem TreesIn.same' {own : Nat → Prop} {w w' : World} {t m : Nat} {A : Tab} (h : TreesIn own w t m A) (hb : Below w.heap.size w w') (v : Value) : OpPost own w t m A v (.returned v) w' :=
  ⟨rfl, Touch.of_below hb, own, h.below hb, fun _ => Or.inl⟩

theorem got_in {own : Nat → Prop} {w : World} {t m : Nat} {A : Tab} (h : TreesIn own w t m A) (n : Int) (p : ByteArray) (hp : p.size ≤ 140737488351232) :
    Calls Try.prog 14 #[.pointer (some ⟨t, 0, none⟩), .int .i64 n, .string p] w (OpPost own w t m (gotA A n p) (gotR A n p)) := by
  obtain ⟨L, h1, rfl, h3⟩ := h.ex
  unfold gotA gotR
  rw [absL_get]
  cases hm : mayB n with
  | false => exact (Got_arg n p w t hm).mono fun e w' ⟨he, hw⟩ => by subst he; subst hw; exact h.same _
  | true =>
    cases hk : nameOk p with
    | false => exact (Got_name n p w t hm hp hk).mono fun e w' ⟨he, hw⟩ => by subst he; exact h.same' hw _
    | true =>
      cases hg : alGet L n with
      | some x => exact (Got_there n p w t m L h1 hm hp hk hg).mono fun e w' ⟨he, hw⟩ => by subst he; exact h.same' hw _
      | none => exact (Got_new n p w t m L h1 hm hp hk hg).mono fun e w' ⟨he, s, hs, hw, hT⟩ => by subst he; exact TreesIn.grown h.t h.m h3 h.lt hw hs hT _

def sentR (A : Tab) (n : Int) : Int := if mayB n = false then 2 else if (alGet A n).isSome then 0 else 12
def sentA (A : Tab) (n : Int) : Tab := if mayB n = false then A else match alGet A n with | some (_, d) => setT A n (d + 1) | none => A

theorem TreesIn.stored {own : Nat → Prop} {w w' : World} {t m : Nat} {L : List (Int × TS)} {n d : Int} {x : TS} (ht : own t) (hm : own m) (hs : ∀ q ∈ L, own q.2.s) (hlt : ∀ k, own k → k < w.heap.size) (hg : alGet L n = some x)
    (h : TreesAt w' t m (setD L n d)) (hT : Touch (fun b => b = x.s) w w') (v : Value) : OpPost own w t m (setT (absL L) n d) v (.returned v) w' := by
  refine ⟨rfl, hT.mono (fun k _ e => e ▸ hs _ (alGet_mem hg)), own, ⟨⟨_, h, absL_setD L n d, fun q hq => ?_⟩, ht, hm, fun k hk => Nat.lt_of_lt_of_le (hlt k hk) hT.size⟩, fun _ => Or.inl⟩
  obtain ⟨r, hr, rfl⟩ := List.mem_map.1 hq
  have := hs r hr
  by_cases e : r.1 = n <;> simpa [e] using this

theorem sent_in {own : Nat → Prop} {w : World} {t m : Nat} {A : Tab} (h : TreesIn own w t m A) (n : Int) (hd : ∀ p d, alGet A n = some (p, d) → 0 ≤ d ∧ d < 4611686018427387904) :
    Calls Try.prog 16 #[.pointer (some ⟨t, 0, none⟩), .int .i64 n] w (OpPost own w t m (sentA A n) (.int .i64 (sentR A n))) := by
  obtain ⟨L, h1, rfl, h3⟩ := h.ex
  unfold sentA sentR
  rw [absL_get] at hd ⊢
  cases hm : mayB n with
  | false => exact (Sent_arg n w t hm).mono fun e w' ⟨he, hw⟩ => by subst he; subst hw; exact h.same _
  | true =>
    cases hg : alGet L n with
    | none => exact (Sent_idle n w t m L h1 hm hg).mono fun e w' ⟨he, hw⟩ => by subst he; subst hw; exact h.same _
    | some x =>
      rw [hg] at hd
      have hd' := hd x.p x.d rfl
      exact (Sent_on n w t m L h1 hm hg hd'.1 hd'.2).mono fun e w' ⟨he, hw, hT⟩ => by subst he; exact TreesIn.stored h.t h.m h3 h.lt hg hw hT _

def signalR (A : Tab) (n : Int) : Int := if mayB n = false then 2 else match alGet A n with | some (_, d) => if d = 0 then 12 else 0 | none => 12
def signalA (A : Tab) (n : Int) : Tab := if mayB n = false then A else match alGet A n with | some (_, d) => if d = 0 then A else setT A n (d - 1) | none => A

theorem signal_in {own : Nat → Prop} {w : World} {t m : Nat} {A : Tab} (h : TreesIn own w t m A) (n : Int) (hd : ∀ p d, alGet A n = some (p, d) → 0 ≤ d ∧ d < 4611686018427387904) :
    Calls Try.prog 18 #[.pointer (some ⟨t, 0, none⟩), .int .i64 n] w (OpPost own w t m (signalA A n) (.int .i64 (signalR A n))) := by
  obtain ⟨L, h1, rfl, h3⟩ := h.ex
  unfold signalA signalR
  rw [absL_get] at hd ⊢
  cases hm : mayB n with
  | false => exact (Signal_arg n w t hm).mono fun e w' ⟨he, hw⟩ => by subst he; subst hw; exact h.same _
  | true =>
    cases hg : alGet L n with
    | none => exact (Signal_idle n w t m L h1 hm hg).mono fun e w' ⟨he, hw⟩ => by subst he; subst hw; exact h.same _
    | some x =>
      rw [hg] at hd
      have hd' := hd x.p x.d rfl
      obtain ⟨s, p, d⟩ := x
      by_cases h0 : d = 0
      · subst h0
        simp only [Option.map_some, if_true]
        exact (Signal_zero n w t m L h1 hm hg).mono fun e w' ⟨he, hw⟩ => by subst he; subst hw; exact h.same _
      · simp only [Option.map_some, if_neg h0]
        exact (Signal_on n w t m L h1 hm hg (by simp only at hd' ⊢; omega) hd'.2).mono fun e w' ⟨he, hw, hT⟩ => by subst he; exact TreesIn.stored h.t h.m h3 h.lt hg hw hT _

def restR (A : Tab) (n : Int) : Value := if mayB n = false then .tuple #[.string ⟨#[]⟩, .bool false] else match alGet A n with
  | some (p, d) => if d = 0 then .tuple #[.string p, .bool (!p.toList.isEmpty)] else .tuple #[.string ⟨#[]⟩, .bool false]
  | none => .tuple #[.string ⟨#[]⟩, .bool false]
def restT (A : Tab) (n : Int) : Tab := if mayB n = false then A else match alGet A n with | some (_, d) => if d = 0 then alDel A n else A | none => A

theorem rest_in {own : Nat → Prop} {w : World} {t m : Nat} {A : Tab} (h : TreesIn own w t m A) (n : Int) (hd : ∀ p d, alGet A n = some (p, d) → 0 ≤ d ∧ d < 4611686018427387904) :
    Calls Try.prog 20 #[.pointer (some ⟨t, 0, none⟩), .int .i64 n] w (OpPost own w t m (restT A n) (restR A n)) := by
  obtain ⟨L, h1, rfl, h3⟩ := h.ex
  unfold restT restR
  rw [absL_get] at hd ⊢
  cases hm : mayB n with
  | false => exact (Rest_arg n w t hm).mono fun e w' ⟨he, hw⟩ => by subst he; subst hw; exact h.same _
  | true =>
    cases hg : alGet L n with
    | none => exact (Rest_idle n w t m L h1 hm hg).mono fun e w' ⟨he, hw⟩ => by subst he; subst hw; exact h.same _
    | some x =>
      rw [hg] at hd
      have hd' := hd x.p x.d rfl
      obtain ⟨s, p, d⟩ := x
      by_cases h0 : d = 0
      · subst h0
        simp only [Option.map_some, if_true]
        refine (Rest_done n w t m L h1 hm hg).mono fun e w' ⟨he, hw, hT⟩ => ?_
        subst he
        exact ⟨rfl, hT.mono (fun k _ e => e ▸ h.m), own, ⟨⟨_, hw, absL_del L n, fun q hq => h3 q (alDel_mem.1 hq).1⟩, h.t, h.m, fun k hk => Nat.lt_of_lt_of_le (h.lt k hk) hT.size⟩, fun _ => Or.inl⟩
      · simp only [Option.map_some, if_neg h0]
        exact (Rest_waits n w t m L h1 hm hg (by simp only at hd' ⊢; omega)).mono fun e w' ⟨he, hw⟩ => by subst he; subst hw; exact h.same _

theorem busy_in {own : Nat → Prop} {w : World} {t m : Nat} {A : Tab} (h : TreesIn own w t m A) (n : Int) (hn : (Lit.int .i64 n).wf = true) :
    Calls Try.prog 12 #[.pointer (some ⟨t, 0, none⟩), .int .i64 n] w fun e w' => e = .returned (.bool (alGet A n).isSome) ∧ w = w' := by
  obtain ⟨L, h1, rfl, h3⟩ := h.ex
  rw [absL_get, Option.isSome_map]
  exact Busy_any n w t m L h1 hn

def deficitR (A : Tab) (n : Int) : Int := match alGet A n with | some (_, d) => d | none => 0

set_option maxHeartbeats 400000 in
set_option maxRecDepth 100000 in
theorem deficit_in {own : Nat → Prop} {w : World} {t m : Nat} {A : Tab} (h : TreesIn own w t m A) (n : Int) (hn : (Lit.int .i64 n).wf = true) :
    Calls Try.prog 24 #[.pointer (some ⟨t, 0, none⟩), .int .i64 n] w fun e w' => e = .returned (.int .i64 (deficitR A n)) ∧ w = w' := by
  obtain ⟨L, h1, rfl, h3⟩ := h.ex
  have hB := Busy_any n w t m L h1 hn
  have hl := h1.look hn
  have hc := cell_top h1
  unfold deficitR
  rw [absL_get]
  cases hg : alGet L n with
  | none =>
    rw [hg] at hB
    have HB : Hid (Calls Try.prog 12 #[.pointer (some ⟨t, 0, none⟩), .int .i64 n] w fun e w' => e = .returned (.bool false) ∧ w = w') := hB
    clear hB hg hl h1 h3 h hn
    go_enter Try.func24, Try.ntmps24
    go_wp2_with (go_at_call 12; refine HB.out.mono ?_; rintro e w' ⟨rfl, rfl⟩)
    go_ret
    exact ⟨rfl, rfl⟩
  | some x =>
    rw [hg] at hB hl
    simp only at hl
    obtain ⟨c0, c1, f0, f1⟩ := cells_of_two (h1.st _ (alGet_mem hg))
    simp only at c0 c1 f0 f1
    have HB : Hid (Calls Try.prog 12 #[.pointer (some ⟨t, 0, none⟩), .int .i64 n] w fun e w' => e = .returned (.bool true) ∧ w = w') := hB
    clear hB hg h1 h3 h hn
    show Calls Try.prog 24 #[.pointer (some ⟨t, 0, none⟩), .int .i64 n] w fun e w' => e = .returned (.int .i64 x.d) ∧ w = w'
    go_enter Try.func24, Try.ntmps24
    go_wp2_with (go_at_call 12; refine HB.out.mono ?_; rintro e w' ⟨rfl, rfl⟩)
    go_ret
    exact ⟨rfl, rfl⟩

set_option maxHeartbeats 400000 in
theorem clear_nil (w : World) : Calls Try.prog 22 #[.pointer none] w fun e w' => e = .returned (.tuple #[]) ∧ w = w' := by
  go_enter Try.func22, Try.ntmps22
  go_wp2
  go_end0
  exact ⟨rfl, rfl⟩

set_option maxHeartbeats 400000 in
theorem open_nil (w : World) : Calls Try.prog 23 #[.pointer none] w fun e w' => e = .returned (.slice none 0 0) ∧ w = w' := by
  go_enter Try.func23, Try.ntmps23
  go_wp2_with fail
  go_ret
  exact ⟨rfl, rfl⟩

set_option maxHeartbeats 400000 in
theorem deficit_nil (n : Int) (w : World) : Calls Try.prog 24 #[.pointer none, .int .i64 n] w fun e w' => e = .returned (.int .i64 0) ∧ w = w' := by
  go_enter Try.func24, Try.ntmps24
  go_wp2_with (go_at_call 12; refine (Busy_nil n _).mono ?_; rintro e w' ⟨rfl, rfl⟩)
  go_ret
  exact ⟨rfl, rfl⟩

set_option maxHeartbeats 400000 in
theorem start_nil (n : Int) (w : World) : Calls Try.prog 9 #[.pointer none, .int .i64 n] w fun e w' => e = .returned (.int .i64 1) ∧ w = w' := by
  go_enter Try.func9, Try.ntmps9
  go_wp2_with (go_at_call 26; refine (may_nil n _).mono ?_; rintro e w' ⟨rfl, rfl⟩)
  go_ret
  exact ⟨rfl, rfl⟩

set_option maxHeartbeats 400000 in
theorem clear_in {own : Nat → Prop} {w : World} {t m : Nat} {A : Tab} (h : TreesIn own w t m A) :
    Calls Try.prog 22 #[.pointer (some ⟨t, 0, none⟩)] w (OpPost own w t m [] (.tuple #[])) := by
  obtain ⟨L, h1, rfl, h3⟩ := h.ex
  obtain ⟨o, hrun, hmap⟩ := h1.map.clear (t := 62) Try.underlying62
  have hc := cell_top h1
  have hT : Touch (fun b => b = m) w (setBlock w m o) := (Touch.refl _ w).setBlock m o (fun _ => rfl)
  have hfin : Hid (OpPost own w t m [] (.tuple #[]) (.returned (.tuple #[])) (setBlock w m o)) := by
    refine ⟨rfl, hT.mono (fun k _ e => e ▸ h.m), own, ⟨⟨[], ⟨(hT.block t (lt_of_block h1.top) h1.m_ne.1).trans h1.top, hmap, (fun q hq => by cases hq), by simp⟩, rfl, (fun q hq => by cases hq)⟩, h.t, h.m, fun k hk => Nat.lt_of_lt_of_le (h.lt k hk) hT.size⟩, fun _ => Or.inl⟩
  clear hT hmap h1 h3 h
  go_enter Try.func22, Try.ntmps22
  go_wp2
  go_end0
  exact hfin.out

end Go.Proofs.Ytkjfiofefndgkaa
