/- The calls of the package trees: what each does to the memory that its table of tickets takes. -/
import Derived.Test.YtkjfiofefndgkaaAn
import Derived.KernelRfl
import Derived.Lib.Hide
import Derived.Deep.QuietTactic
import Derived.BigQuiet
namespace Go.Proofs.Ytkjfiofefndgkaa
set_option linter.unusedVariables false
set_option linter.unusedSimpArgs false
open Go.RowKit
open Go.ChangeMaps (setBlock)

theorem law62 : KeyEnc Try.prog 2 (fun n : Int => Value.int .i64 n) (fun n => (Lit.int .i64 n).wf = true) := intKeys Try.underlying2

set_option maxHeartbeats 400000 in
theorem may_nil (n : Int) (w : World) : Calls Try.prog 26 #[.pointer none, .int .i64 n] w fun e w' => e = .returned (.int .i64 1) ∧ w = w' := by
  go_enter Try.func26, Try.ntmps26
  go_wp2
  go_ret
  exact ⟨rfl, rfl⟩

def mayB (n : Int) : Bool := decide (1 ≤ n ∧ n ≤ 9007199254740992)

set_option maxHeartbeats 400000 in
theorem may_no (n : Int) (a : Addr) (w : World) (h : mayB n = false) : Calls Try.prog 26 #[.pointer (some a), .int .i64 n] w fun e w' => e = .returned (.int .i64 2) ∧ w = w' := by
  have h' : n < 1 ∨ 9007199254740992 < n := by unfold mayB at h; simp at h; omega
  clear h
  by_cases h1 : n < 1
  · clear h'
    go_enter Try.func26, Try.ntmps26
    go_wp2
    go_ret
    exact ⟨rfl, rfl⟩
  · have h2 : 9007199254740992 < n := by omega
    clear h'
    go_enter Try.func26, Try.ntmps26
    go_wp2
    go_ret
    exact ⟨rfl, rfl⟩

set_option maxHeartbeats 400000 in
theorem may_yes (n : Int) (a : Addr) (w : World) (h : mayB n = true) : Calls Try.prog 26 #[.pointer (some a), .int .i64 n] w fun e w' => e = .returned (.int .i64 0) ∧ w = w' := by
  have h' : 1 ≤ n ∧ n ≤ 9007199254740992 := by unfold mayB at h; simpa using h
  obtain ⟨h1, h2⟩ := h'
  clear h
  go_enter Try.func26, Try.ntmps26
  go_wp2
  go_ret
  exact ⟨rfl, rfl⟩

/-- What a table has of a ticket: its block, whom it is answered to, how many are not answered. -/
structure TS where
  s : Nat
  p : ByteArray
  d : Int

/-- A table at block t (its map: block m) with these tickets. -/
structure TreesAt (w : World) (t m : Nat) (L : List (Int × TS)) : Prop where
  top : w.heap[t]? = some (.cells #[.map (some m)] 64 (0, 0))
  map : MapIs Try.prog 2 (fun n : Int => Value.int .i64 n) (fun x : TS => Value.pointer (some ⟨x.s, 0, none⟩)) (fun n => (Lit.int .i64 n).wf = true) w m L
  st : ∀ q ∈ L, w.heap[q.2.s]? = some (.cells #[.string q.2.p, .int .i64 q.2.d] 67 (0, 0))
  nd : (L.map (·.2.s)).Nodup

theorem wf_of_may {n : Int} (h : mayB n = true) : (Lit.int .i64 n).wf = true := by
  have h' : 1 ≤ n ∧ n ≤ 9007199254740992 := by unfold mayB at h; simpa using h
  exact WalkArith.wf_i64 (by omega)

theorem zero65 (w : World) : (zeroValue 65).run Try.prog w = .ok (.pointer none) w := by kernel_rfl

set_option maxHeartbeats 400000 in
theorem Busy_nil (n : Int) (w : World) : Calls Try.prog 12 #[.pointer none, .int .i64 n] w fun e w' => e = .returned (.bool false) ∧ w = w' := by
  go_enter Try.func12, Try.ntmps12
  go_wp2
  go_ret
  exact ⟨rfl, rfl⟩

theorem TreesAt.look {w : World} {t m : Nat} {L : List (Int × TS)} (h : TreesAt w t m L) {n : Int} (hn : (Lit.int .i64 n).wf = true) :
    (Instr.lookup 62 (.map (some m)) (.int .i64 n) false).run Try.prog w = .ok (match alGet L n with | some x => .pointer (some ⟨x.s, 0, none⟩) | none => .pointer none) w := by
  have := h.map.lookup law62 (t := 62) Try.underlying62 zero65 false n hn
  exact this.trans (by cases alGet L n <;> rfl)

theorem cell_top {w : World} {t m : Nat} {L : List (Int × TS)} (h : TreesAt w t m L) : w.cell? ⟨t, 0, none⟩ = some (.map (some m)) := cell_of_one h.top

set_option maxHeartbeats 400000 in
theorem Busy_any (n : Int) (w : World) (t m : Nat) (L : List (Int × TS)) (h : TreesAt w t m L) (hn : (Lit.int .i64 n).wf = true) :
    Calls Try.prog 12 #[.pointer (some ⟨t, 0, none⟩), .int .i64 n] w fun e w' => e = .returned (.bool (alGet L n).isSome) ∧ w = w' := by
  have hl := h.look hn
  have hc := cell_top h
  cases hg : alGet L n with
  | none =>
    rw [hg] at hl
    have HG := Lib.hid hg; clear hg
    simp only at hl
    go_enter Try.func12, Try.ntmps12
    go_wp2
    go_ret
    exact ⟨rfl, rfl⟩
  | some x =>
    rw [hg] at hl
    have HG := Lib.hid hg; clear hg
    simp only at hl
    go_enter Try.func12, Try.ntmps12
    go_wp2
    go_ret
    exact ⟨rfl, rfl⟩

theorem at_new (w : World) (o : Obj) : (w.alloc o).heap[w.heap.size]? = some o := heap_alloc_new w o
theorem at_old {w : World} {b : Nat} {o : Obj} (h : w.heap[b]? = some o) (o' : Obj) : (w.alloc o').heap[b]? = some o := by
  rw [Below.heap_alloc _ _ _ (lt_of_block h)]; exact h

theorem New_any (w : World) : Calls Try.prog 7 #[] w fun e w' => e = .returned (.pointer (some ⟨w.heap.size + 1, 0, none⟩)) ∧ TreesAt w' (w.heap.size + 1) w.heap.size [] ∧ Touch (fun _ => False) w w' := by
  have hmm := @run_makeMap Try.prog
  go_enter Try.func7, Try.ntmps7
  go_wp2
  go_ret
  refine ⟨rfl, ⟨?_, ?_, by simp, by simp⟩, ((Touch.refl _ _).alloc _).alloc _⟩
  · have := at_new (w.alloc (.map #[] 0)) (Obj.cells #[Value.map (some w.heap.size)] 64)
    simpa using this
  · exact (MapIs.new w).keep ((Touch.refl (fun _ => False) _).alloc _) (fun h => h)

theorem TreesAt.keep {S : Nat → Prop} {w w' : World} {t m : Nat} {L : List (Int × TS)} (h : TreesAt w t m L) (ht : Touch S w w') (h1 : ¬ S t) (h2 : ¬ S m) (h3 : ∀ q ∈ L, ¬ S q.2.s) : TreesAt w' t m L :=
  ⟨(ht.block t (lt_of_block h.top) h1).trans h.top, h.map.keep ht h2, fun q hq => (ht.block _ (lt_of_block (h.st q hq)) (h3 q hq)).trans (h.st q hq), h.nd⟩

theorem TreesAt.m_ne {w : World} {t m : Nat} {L : List (Int × TS)} (h : TreesAt w t m L) : t ≠ m ∧ ∀ q ∈ L, q.2.s ≠ m ∧ q.2.s ≠ t := by
  obtain ⟨⟨es, c, hm, _⟩, _⟩ := h.map
  refine ⟨fun e => ?_, fun q hq => ⟨fun e => ?_, fun e => ?_⟩⟩
  · have := h.top; rw [e, hm] at this; cases this
  · have := h.st q hq; rw [e, hm] at this; cases this
  · have := h.st q hq; rw [e, h.top] at this; cases this

/-- A new ticket (it isn't busy): behind the store into the map. -/
theorem TreesAt.put {w : World} {t m : Nat} {L : List (Int × TS)} (h : TreesAt w t m L) {n : Int} (hn : (Lit.int .i64 n).wf = true) (hg : alGet L n = none) (p : ByteArray) :
    ∃ W', (Instr.mapUpdate 62 (.map (some m)) (.int .i64 n) (.pointer (some ⟨w.heap.size, 0, none⟩))).run Try.prog (w.alloc (.cells #[.string p, .int .i64 0] 67)) = .ok () W' ∧
      TreesAt W' t m (L ++ [(n, ⟨w.heap.size, p, 0⟩)]) ∧ Touch (fun b => b = m) w W' := by
  have hm1 := h.map.keep ((Touch.refl (fun _ => False) w).alloc (.cells #[.string p, .int .i64 0] 67)) (fun h => h)
  obtain ⟨o, hrun, hmap⟩ := hm1.update law62 (t := 62) Try.underlying62 n hn (⟨w.heap.size, p, 0⟩ : TS)
  have hne := h.m_ne
  have hmlt := h.map.lt
  have hT : Touch (fun b => b = m) w (setBlock (w.alloc (.cells #[.string p, .int .i64 0] 67)) m o) := ((Touch.refl _ w).alloc _).setBlock m o (fun _ => rfl)
  have hput : alPut L n (⟨w.heap.size, p, 0⟩ : TS) = L ++ [(n, ⟨w.heap.size, p, 0⟩)] := by
    unfold alPut
    rw [if_neg]
    intro ha
    obtain ⟨q, hq, e⟩ := List.any_eq_true.1 ha
    exact alGet_none.1 hg q hq (by simpa using e)
  rw [hput] at hmap
  refine ⟨_, hrun, ⟨(hT.block t (lt_of_block h.top) hne.1).trans h.top, hmap, ?_, ?_⟩, hT⟩
  · intro q hq
    rcases List.mem_append.1 hq with hq | hq
    · exact (hT.block _ (lt_of_block (h.st q hq)) (hne.2 q hq).1).trans (h.st q hq)
    · simp only [List.mem_singleton] at hq
      subst hq
      have : (setBlock (w.alloc (.cells #[.string p, .int .i64 0] 67)) m o).heap[w.heap.size]? = (w.alloc (.cells #[.string p, .int .i64 0] 67)).heap[w.heap.size]? := by
        have : m ≠ w.heap.size := by omega
        simp [setBlock, this]
      exact this.trans (at_new _ _)
  · rw [List.map_append, List.nodup_append]
    refine ⟨h.nd, by simp, fun a ha b hb e => ?_⟩
    obtain ⟨q, hq, rfl⟩ := List.mem_map.1 ha
    simp only [List.map_cons, List.map_nil, List.mem_singleton] at hb
    have := lt_of_block (h.st q hq)
    subst hb; omega

set_option maxHeartbeats 400000 in
theorem Start_arg (n : Int) (w : World) (t : Nat) (hm : mayB n = false) :
    Calls Try.prog 9 #[.pointer (some ⟨t, 0, none⟩), .int .i64 n] w fun e w' => e = .returned (.int .i64 2) ∧ w = w' := by
  have HM := Lib.hid hm; clear hm
  go_enter Try.func9, Try.ntmps9
  go_wp2_with (go_at_call 26; refine (may_no n _ _ HM.out).mono ?_; rintro e w' ⟨rfl, rfl⟩)
  go_ret
  exact ⟨rfl, rfl⟩

set_option maxHeartbeats 400000 in
theorem Start_there (n : Int) (w : World) (t m : Nat) (L : List (Int × TS)) (h : TreesAt w t m L) (hm : mayB n = true) {x : TS} (hg : alGet L n = some x) :
    Calls Try.prog 9 #[.pointer (some ⟨t, 0, none⟩), .int .i64 n] w fun e w' => e = .returned (.int .i64 13) ∧ w = w' := by
  have hn := wf_of_may hm
  have HM := Lib.hid hm; clear hm
  have HG := Lib.hid hg; clear hg
  have HN := Lib.hid hn; clear hn
  go_enter Try.func9, Try.ntmps9
  go_wp2_with (first | (go_at_call 26; refine (may_yes n _ _ HM.out).mono ?_; rintro e w' ⟨rfl, rfl⟩) | (go_at_call 12; refine (Busy_any n _ t m L h HN.out).mono ?_; rw [HG.out]; rintro e w' ⟨rfl, rfl⟩))
  go_ret
  exact ⟨rfl, rfl⟩

set_option maxHeartbeats 400000 in
theorem Start_ok (n : Int) (w : World) (t m : Nat) (L : List (Int × TS)) (h : TreesAt w t m L) (hm : mayB n = true) (hg : alGet L n = none) :
    Calls Try.prog 9 #[.pointer (some ⟨t, 0, none⟩), .int .i64 n] w fun e w' => e = .returned (.int .i64 0) ∧ TreesAt w' t m (L ++ [(n, ⟨w.heap.size, ⟨#[]⟩, 0⟩)]) ∧ Touch (fun b => b = m) w w' := by
  have hn := wf_of_may hm
  obtain ⟨W', hrun, hat, hT⟩ := h.put hn hg ⟨#[]⟩
  have hc := cell_top h
  have hsz := lt_of_block h.top
  have HM := Lib.hid hm; clear hm
  have HG := Lib.hid hg; clear hg
  have HN := Lib.hid hn; clear hn
  go_enter Try.func9, Try.ntmps9
  go_wp2_with (first | (go_at_call 26; refine (may_yes n _ _ HM.out).mono ?_; rintro e w' ⟨rfl, rfl⟩) | (go_at_call 12; refine (Busy_any n _ t m L h HN.out).mono ?_; rw [HG.out]; rintro e w' ⟨rfl, rfl⟩))
  go_ret
  exact ⟨rfl, hat, hT⟩

/-! ### busy -/
set_option maxHeartbeats 400000 in
theorem busy_nil (n : Int) (w : World) : Calls Try.prog 31 #[.pointer none, .int .i64 n] w fun e w' => e = .returned (.tuple #[.pointer none, .int .i64 1]) ∧ w = w' := by
  go_enter Try.func31, Try.ntmps31
  go_wp2_with (go_at_call 26; refine (may_nil n _).mono ?_; rintro e w' ⟨rfl, rfl⟩)
  go_ret2
  exact ⟨rfl, rfl⟩

set_option maxHeartbeats 400000 in
theorem busy_arg (n : Int) (w : World) (t : Nat) (hm : mayB n = false) :
    Calls Try.prog 31 #[.pointer (some ⟨t, 0, none⟩), .int .i64 n] w fun e w' => e = .returned (.tuple #[.pointer none, .int .i64 2]) ∧ w = w' := by
  have HM := Lib.hid hm; clear hm
  go_enter Try.func31, Try.ntmps31
  go_wp2_with (go_at_call 26; refine (may_no n _ _ HM.out).mono ?_; rintro e w' ⟨rfl, rfl⟩)
  go_ret2
  exact ⟨rfl, rfl⟩

set_option maxHeartbeats 400000 in
theorem busy_idle (n : Int) (w : World) (t m : Nat) (L : List (Int × TS)) (h : TreesAt w t m L) (hm : mayB n = true) (hg : alGet L n = none) :
    Calls Try.prog 31 #[.pointer (some ⟨t, 0, none⟩), .int .i64 n] w fun e w' => e = .returned (.tuple #[.pointer none, .int .i64 12]) ∧ w = w' := by
  have hn := wf_of_may hm
  have hl := h.look hn
  rw [hg] at hl
  simp only at hl
  have hc := cell_top h
  have HM := Lib.hid hm; clear hm
  have HG := Lib.hid hg; clear hg
  have HN := Lib.hid hn; clear hn
  go_enter Try.func31, Try.ntmps31
  go_wp2_with (go_at_call 26; refine (may_yes n _ _ HM.out).mono ?_; rintro e w' ⟨rfl, rfl⟩)
  go_ret2
  exact ⟨rfl, rfl⟩

set_option maxHeartbeats 400000 in
theorem busy_on (n : Int) (w : World) (t m : Nat) (L : List (Int × TS)) (h : TreesAt w t m L) (hm : mayB n = true) {x : TS} (hg : alGet L n = some x) :
    Calls Try.prog 31 #[.pointer (some ⟨t, 0, none⟩), .int .i64 n] w fun e w' => e = .returned (.tuple #[.pointer (some ⟨x.s, 0, none⟩), .int .i64 0]) ∧ w = w' := by
  have hn := wf_of_may hm
  have hl := h.look hn
  rw [hg] at hl
  simp only at hl
  have hc := cell_top h
  have HM := Lib.hid hm; clear hm
  have HG := Lib.hid hg; clear hg
  have HN := Lib.hid hn; clear hn
  go_enter Try.func31, Try.ntmps31
  go_wp2_with (go_at_call 26; refine (may_yes n _ _ HM.out).mono ?_; rintro e w' ⟨rfl, rfl⟩)
  go_ret2
  exact ⟨rfl, rfl⟩

/-! ### Sent, Signal, Rest -/
set_option maxHeartbeats 400000 in
theorem Sent_nil (n : Int) (w : World) : Calls Try.prog 16 #[.pointer none, .int .i64 n] w fun e w' => e = .returned (.int .i64 1) ∧ w = w' := by
  go_enter Try.func16, Try.ntmps16
  go_wp2_with (go_at_call 31; refine (busy_nil n _).mono ?_; rintro e w' ⟨rfl, rfl⟩)
  go_ret
  exact ⟨rfl, rfl⟩

set_option maxHeartbeats 400000 in
theorem Sent_arg (n : Int) (w : World) (t : Nat) (hm : mayB n = false) :
    Calls Try.prog 16 #[.pointer (some ⟨t, 0, none⟩), .int .i64 n] w fun e w' => e = .returned (.int .i64 2) ∧ w = w' := by
  have HM := Lib.hid hm; clear hm
  go_enter Try.func16, Try.ntmps16
  go_wp2_with (go_at_call 31; refine (busy_arg n _ t HM.out).mono ?_; rintro e w' ⟨rfl, rfl⟩)
  go_ret
  exact ⟨rfl, rfl⟩

set_option maxHeartbeats 400000 in
theorem Sent_idle (n : Int) (w : World) (t m : Nat) (L : List (Int × TS)) (h : TreesAt w t m L) (hm : mayB n = true) (hg : alGet L n = none) :
    Calls Try.prog 16 #[.pointer (some ⟨t, 0, none⟩), .int .i64 n] w fun e w' => e = .returned (.int .i64 12) ∧ w = w' := by
  have HM := Lib.hid hm; clear hm
  have HG := Lib.hid hg; clear hg
  go_enter Try.func16, Try.ntmps16
  go_wp2_with (go_at_call 31; refine (busy_idle n _ t m L h HM.out HG.out).mono ?_; rintro e w' ⟨rfl, rfl⟩)
  go_ret
  exact ⟨rfl, rfl⟩

/-- The table with another number of unanswered messages for one ticket. -/
def setD (L : List (Int × TS)) (n : Int) (d : Int) : List (Int × TS) := L.map fun q => if q.1 = n then (q.1, { q.2 with d := d }) else q

theorem setD_keys (L : List (Int × TS)) (n d : Int) : (setD L n d).map (fun q => (q.1, q.2.s)) = L.map (fun q => (q.1, q.2.s)) := by
  unfold setD
  rw [List.map_map]
  refine List.map_congr_left fun q _ => ?_
  by_cases e : q.1 = n <;> simp [e]

theorem setD_s (L : List (Int × TS)) (n d : Int) : (setD L n d).map (·.2.s) = L.map (·.2.s) := by
  have := congrArg (List.map Prod.snd) (setD_keys L n d)
  rw [List.map_map, List.map_map] at this
  exact this

theorem MapIs.relist {κ ν : Type} {P : Program} {k : TypeId} {ke : κ → Value} {ve : ν → Value} {ok : κ → Prop} {w : World} {b : Nat} {l l' : List (κ × ν)} (h : MapIs P k ke ve ok w b l)
    (h1 : l'.map (fun p => (ke p.1, ve p.2)) = l.map (fun p => (ke p.1, ve p.2))) (h2 : ∀ p ∈ l', ok p.1) : MapIs P k ke ve ok w b l' := by
  obtain ⟨⟨es, c, a1, a2, a3⟩, _⟩ := h
  exact ⟨⟨es, c, a1, a2.trans h1.symm, a3⟩, h2⟩

theorem same_of_nodup {L : List (Int × TS)} (h : (L.map (·.2.s)).Nodup) {q r : Int × TS} (hq : q ∈ L) (hr : r ∈ L) (e : q.2.s = r.2.s) : q = r := by
  obtain ⟨i, hi, rfl⟩ := List.getElem_of_mem hq
  obtain ⟨j, hj, rfl⟩ := List.getElem_of_mem hr
  have : i = j := (List.getElem_inj (i := i) (j := j) (h₀ := by simpa using hi) (h₁ := by simpa using hj) h).1 (by simpa using e)
  subst this; rfl

theorem two_setCell {w : World} {b : Nat} {x y u : Value} {T : TypeId} (h : w.heap[b]? = some (.cells #[x, y] T (0, 0))) : (w.setCell ⟨b, 1, none⟩ u).heap[b]? = some (.cells #[x, u] T (0, 0)) := by
  have := heap_setCell_same w b 1 _ _ u h
  simpa using this

/-- A store of the number of unanswered messages. -/
theorem TreesAt.store {w : World} {t m : Nat} {L : List (Int × TS)} (h : TreesAt w t m L) {n : Int} {x : TS} (hg : alGet L n = some x) (d : Int) :
    TreesAt (w.setCell ⟨x.s, 1, none⟩ (.int .i64 d)) t m (setD L n d) ∧ Touch (fun b => b = x.s) w (w.setCell ⟨x.s, 1, none⟩ (.int .i64 d)) := by
  have hne := h.m_ne
  have hx := alGet_mem hg
  have hnx := hne.2 _ hx
  have hT : Touch (fun b => b = x.s) w (w.setCell ⟨x.s, 1, none⟩ (.int .i64 d)) := (Touch.refl _ _).setCell _ _ fun _ => rfl
  have hnd := h.map.nodup
  refine ⟨⟨(hT.block t (lt_of_block h.top) (fun e => hnx.2 e.symm)).trans h.top, ?_, ?_, by rw [setD_s]; exact h.nd⟩, hT⟩
  · refine (h.map.keep hT (fun e => hnx.1 e.symm)).relist ?_ ?_
    · have := congrArg (List.map fun z : Int × Nat => (Value.int .i64 z.1, Value.pointer (some ⟨z.2, 0, none⟩))) (setD_keys L n d)
      rw [List.map_map, List.map_map] at this
      exact this
    · intro p hp
      obtain ⟨q, hq, rfl⟩ := List.mem_map.1 hp
      have := h.map.oks q hq
      by_cases e : q.1 = n <;> simpa [e] using this
  · intro q hq
    obtain ⟨r, hr, rfl⟩ := List.mem_map.1 hq
    by_cases e : r.1 = n
    · rw [if_pos e]
      have hrx : r.2 = x := by
        have h1 := alGet_of_mem hnd (x := r.1) (v := r.2) hr
        rw [e, hg] at h1; exact (Option.some.inj h1).symm
      simp only
      rw [hrx]
      exact two_setCell (h.st _ hx)
    · rw [if_neg e]
      have hrs : r.2.s ≠ x.s := by
        intro e1
        have := same_of_nodup h.nd hr hx e1
        exact e (by rw [this])
      exact (hT.block _ (lt_of_block (h.st r hr)) hrs).trans (h.st r hr)

theorem cells_of_two {w : World} {b : Nat} {x y : Value} {T : TypeId} (h : w.heap[b]? = some (.cells #[x, y] T (0, 0))) :
    w.cell? ⟨b, 0, none⟩ = some x ∧ w.cell? ⟨b, 1, none⟩ = some y ∧ w.frozen? ⟨b, 0, none⟩ = false ∧ w.frozen? ⟨b, 1, none⟩ = false := by
  simp [World.cell?, World.frozen?, h]

set_option maxHeartbeats 400000 in
theorem Sent_on (n : Int) (w : World) (t m : Nat) (L : List (Int × TS)) (h : TreesAt w t m L) (hm : mayB n = true) {x : TS} (hg : alGet L n = some x) (h0 : 0 ≤ x.d) (h1 : x.d < 4611686018427387904) :
    Calls Try.prog 16 #[.pointer (some ⟨t, 0, none⟩), .int .i64 n] w fun e w' => e = .returned (.int .i64 0) ∧ TreesAt w' t m (setD L n (x.d + 1)) ∧ Touch (fun b => b = x.s) w w' := by
  obtain ⟨c0, c1, f0, f1⟩ := cells_of_two (h.st _ (alGet_mem hg))
  simp only at c0 c1 f0 f1
  have hst := h.store hg (x.d + 1)
  have HM := Lib.hid hm; clear hm
  have HG := Lib.hid hg; clear hg
  go_enter Try.func16, Try.ntmps16
  go_wp2_with (go_at_call 31; refine (busy_on n _ t m L h HM.out HG.out).mono ?_; rintro e w' ⟨rfl, rfl⟩)
  go_ret
  exact ⟨rfl, hst⟩

set_option maxHeartbeats 400000 in
theorem Signal_nil (n : Int) (w : World) : Calls Try.prog 18 #[.pointer none, .int .i64 n] w fun e w' => e = .returned (.int .i64 1) ∧ w = w' := by
  go_enter Try.func18, Try.ntmps18
  go_wp2_with (go_at_call 31; refine (busy_nil n _).mono ?_; rintro e w' ⟨rfl, rfl⟩)
  go_ret
  exact ⟨rfl, rfl⟩

set_option maxHeartbeats 400000 in
theorem Signal_arg (n : Int) (w : World) (t : Nat) (hm : mayB n = false) :
    Calls Try.prog 18 #[.pointer (some ⟨t, 0, none⟩), .int .i64 n] w fun e w' => e = .returned (.int .i64 2) ∧ w = w' := by
  have HM := Lib.hid hm; clear hm
  go_enter Try.func18, Try.ntmps18
  go_wp2_with (go_at_call 31; refine (busy_arg n _ t HM.out).mono ?_; rintro e w' ⟨rfl, rfl⟩)
  go_ret
  exact ⟨rfl, rfl⟩

set_option maxHeartbeats 400000 in
theorem Signal_idle (n : Int) (w : World) (t m : Nat) (L : List (Int × TS)) (h : TreesAt w t m L) (hm : mayB n = true) (hg : alGet L n = none) :
    Calls Try.prog 18 #[.pointer (some ⟨t, 0, none⟩), .int .i64 n] w fun e w' => e = .returned (.int .i64 12) ∧ w = w' := by
  have HM := Lib.hid hm; clear hm
  have HG := Lib.hid hg; clear hg
  go_enter Try.func18, Try.ntmps18
  go_wp2_with (go_at_call 31; refine (busy_idle n _ t m L h HM.out HG.out).mono ?_; rintro e w' ⟨rfl, rfl⟩)
  go_ret
  exact ⟨rfl, rfl⟩

set_option maxHeartbeats 400000 in
theorem Signal_zero (n : Int) (w : World) (t m : Nat) (L : List (Int × TS)) (h : TreesAt w t m L) (hm : mayB n = true) {s : Nat} {p : ByteArray} (hg : alGet L n = some ⟨s, p, 0⟩) :
    Calls Try.prog 18 #[.pointer (some ⟨t, 0, none⟩), .int .i64 n] w fun e w' => e = .returned (.int .i64 12) ∧ w = w' := by
  obtain ⟨c0, c1, f0, f1⟩ := cells_of_two (h.st _ (alGet_mem hg))
  simp only at c0 c1 f0 f1
  have HM := Lib.hid hm; clear hm
  have HG := Lib.hid hg; clear hg
  go_enter Try.func18, Try.ntmps18
  go_wp2_with (go_at_call 31; refine (busy_on n _ t m L h HM.out HG.out).mono ?_; rintro e w' ⟨rfl, rfl⟩)
  go_ret
  exact ⟨rfl, rfl⟩

set_option maxHeartbeats 400000 in
theorem Signal_on (n : Int) (w : World) (t m : Nat) (L : List (Int × TS)) (h : TreesAt w t m L) (hm : mayB n = true) {x : TS} (hg : alGet L n = some x) (h0 : 1 ≤ x.d) (h1 : x.d < 4611686018427387904) :
    Calls Try.prog 18 #[.pointer (some ⟨t, 0, none⟩), .int .i64 n] w fun e w' => e = .returned (.int .i64 0) ∧ TreesAt w' t m (setD L n (x.d - 1)) ∧ Touch (fun b => b = x.s) w w' := by
  obtain ⟨c0, c1, f0, f1⟩ := cells_of_two (h.st _ (alGet_mem hg))
  simp only at c0 c1 f0 f1
  have hst := h.store hg (x.d - 1)
  have hne : (x.d == 0) = false := by simp; omega
  have HM := Lib.hid hm; clear hm
  have HG := Lib.hid hg; clear hg
  go_enter Try.func18, Try.ntmps18
  go_wp2_with (go_at_call 31; refine (busy_on n _ t m L h HM.out HG.out).mono ?_; rintro e w' ⟨rfl, rfl⟩)
  go_ret
  exact ⟨rfl, hst⟩

/-! ### Rest -/
set_option maxHeartbeats 400000 in
theorem Rest_nil (n : Int) (w : World) : Calls Try.prog 20 #[.pointer none, .int .i64 n] w fun e w' => e = .returned (.tuple #[.string ⟨#[]⟩, .bool false]) ∧ w = w' := by
  go_enter Try.func20, Try.ntmps20
  go_wp2_with (go_at_call 31; refine (busy_nil n _).mono ?_; rintro e w' ⟨rfl, rfl⟩)
  go_ret2
  exact ⟨rfl, rfl⟩

set_option maxHeartbeats 400000 in
theorem Rest_arg (n : Int) (w : World) (t : Nat) (hm : mayB n = false) :
    Calls Try.prog 20 #[.pointer (some ⟨t, 0, none⟩), .int .i64 n] w fun e w' => e = .returned (.tuple #[.string ⟨#[]⟩, .bool false]) ∧ w = w' := by
  have HM := Lib.hid hm; clear hm
  go_enter Try.func20, Try.ntmps20
  go_wp2_with (go_at_call 31; refine (busy_arg n _ t HM.out).mono ?_; rintro e w' ⟨rfl, rfl⟩)
  go_ret2
  exact ⟨rfl, rfl⟩

set_option maxHeartbeats 400000 in
theorem Rest_idle (n : Int) (w : World) (t m : Nat) (L : List (Int × TS)) (h : TreesAt w t m L) (hm : mayB n = true) (hg : alGet L n = none) :
    Calls Try.prog 20 #[.pointer (some ⟨t, 0, none⟩), .int .i64 n] w fun e w' => e = .returned (.tuple #[.string ⟨#[]⟩, .bool false]) ∧ w = w' := by
  have HM := Lib.hid hm; clear hm
  have HG := Lib.hid hg; clear hg
  go_enter Try.func20, Try.ntmps20
  go_wp2_with (go_at_call 31; refine (busy_idle n _ t m L h HM.out HG.out).mono ?_; rintro e w' ⟨rfl, rfl⟩)
  go_ret2
  exact ⟨rfl, rfl⟩

set_option maxHeartbeats 400000 in
theorem Rest_waits (n : Int) (w : World) (t m : Nat) (L : List (Int × TS)) (h : TreesAt w t m L) (hm : mayB n = true) {x : TS} (hg : alGet L n = some x) (h1 : 0 < x.d) :
    Calls Try.prog 20 #[.pointer (some ⟨t, 0, none⟩), .int .i64 n] w fun e w' => e = .returned (.tuple #[.string ⟨#[]⟩, .bool false]) ∧ w = w' := by
  obtain ⟨c0, c1, f0, f1⟩ := cells_of_two (h.st _ (alGet_mem hg))
  simp only at c0 c1 f0 f1
  have HM := Lib.hid hm; clear hm
  have HG := Lib.hid hg; clear hg
  go_enter Try.func20, Try.ntmps20
  go_wp2_with (go_at_call 31; refine (busy_on n _ t m L h HM.out HG.out).mono ?_; rintro e w' ⟨rfl, rfl⟩)
  go_ret2
  exact ⟨rfl, rfl⟩

/-- The map's block behind a delete. -/
theorem TreesAt.del {w : World} {t m : Nat} {L : List (Int × TS)} (h : TreesAt w t m L) {n : Int} (hn : (Lit.int .i64 n).wf = true) :
    ∃ W', (∀ ty, (Builtin.delete_ #[62, 2] ty #[.map (some m), .int .i64 n]).run Try.prog w = .ok (.tuple #[]) W') ∧ TreesAt W' t m (alDel L n) ∧ Touch (fun b => b = m) w W' ∧ ∀ q ∈ L, W'.heap[q.2.s]? = some (.cells #[.string q.2.p, .int .i64 q.2.d] 67 (0, 0)) := by
  obtain ⟨o, hrun, hmap⟩ := h.map.drop law62 (t := 62) Try.underlying62 n hn
  have hne := h.m_ne
  have hT : Touch (fun b => b = m) w (setBlock w m o) := (Touch.refl _ w).setBlock m o (fun _ => rfl)
  have hst : ∀ q ∈ L, (setBlock w m o).heap[q.2.s]? = some (.cells #[.string q.2.p, .int .i64 q.2.d] 67 (0, 0)) :=
    fun q hq => (hT.block _ (lt_of_block (h.st q hq)) (hne.2 q hq).1).trans (h.st q hq)
  exact ⟨_, hrun, ⟨(hT.block t (lt_of_block h.top) hne.1).trans h.top, hmap, fun q hq => hst q (alDel_mem.1 hq).1, List.Sublist.nodup (List.Sublist.map _ List.filter_sublist) h.nd⟩, hT, hst⟩

theorem TreesAt.drewN {w : World} {t m : Nat} {L : List (Int × TS)} (h : TreesAt w t m L) (n : Nat) : TreesAt (w.drewN n) t m L :=
  ⟨h.top, h.map.of_block rfl, h.st, h.nd⟩

def RestPost (w : World) (t m : Nat) (L : List (Int × TS)) (n : Int) (p : ByteArray) (e : Ending) (w' : World) : Prop :=
  e = .returned (.tuple #[.string p, .bool (!p.toList.isEmpty)]) ∧ TreesAt w' t m (alDel L n) ∧ Touch (fun b => b = m) w w'

set_option maxHeartbeats 400000 in
theorem Rest_done (n : Int) (w : World) (t m : Nat) (L : List (Int × TS)) (h : TreesAt w t m L) (hm : mayB n = true) {s : Nat} {p : ByteArray} (hg : alGet L n = some ⟨s, p, 0⟩) :
    Calls Try.prog 20 #[.pointer (some ⟨t, 0, none⟩), .int .i64 n] w (RestPost w t m L n p) := by
  have hx := alGet_mem hg
  obtain ⟨c0, c1, f0, f1⟩ := cells_of_two (h.st _ hx)
  simp only at c0 c1 f0 f1
  have hn := wf_of_may hm
  have hc := cell_top h
  obtain ⟨W', hrun, hat, hT, hst⟩ := h.del hn
  obtain ⟨d0, d1, g0, g1⟩ := cells_of_two (hst _ hx)
  simp only at d0 d1 g0 g1
  clear hst
  have HM := Lib.hid hm; clear hm
  have HG := Lib.hid hg; clear hg
  have HN := Lib.hid hn; clear hn
  go_enter Try.func20, Try.ntmps20
  go_wp2_with (go_at_call 31; refine (busy_on n _ t m L h HM.out HG.out).mono ?_; rintro e w' ⟨rfl, rfl⟩)
  go_quiet (fail)
  go_wp2
  go_ret2
  exact ⟨rfl, hat.drewN _, hT.drewN _⟩

/-! ### Got, Deficit, Clear -/
set_option maxHeartbeats 400000 in
theorem Got_nil (n : Int) (p : ByteArray) (w : World) : Calls Try.prog 14 #[.pointer none, .int .i64 n, .string p] w fun e w' => e = .returned (.tuple #[.bool false, .int .i64 1]) ∧ w = w' := by
  go_enter Try.func14, Try.ntmps14
  go_wp2_with (go_at_call 26; refine (may_nil n _).mono ?_; rintro e w' ⟨rfl, rfl⟩)
  go_ret2
  exact ⟨rfl, rfl⟩

set_option maxHeartbeats 400000 in
theorem Got_arg (n : Int) (p : ByteArray) (w : World) (t : Nat) (hm : mayB n = false) :
    Calls Try.prog 14 #[.pointer (some ⟨t, 0, none⟩), .int .i64 n, .string p] w fun e w' => e = .returned (.tuple #[.bool false, .int .i64 2]) ∧ w = w' := by
  have HM := Lib.hid hm; clear hm
  go_enter Try.func14, Try.ntmps14
  go_wp2_with (go_at_call 26; refine (may_no n _ _ HM.out).mono ?_; rintro e w' ⟨rfl, rfl⟩)
  go_ret2
  exact ⟨rfl, rfl⟩

def TuplePost (w : World) (b : Bool) (n : Int) (e : Ending) (w' : World) : Prop := e = .returned (.tuple #[.bool b, .int .i64 n]) ∧ Below w.heap.size w w'

set_option maxHeartbeats 400000 in
theorem Got_name (n : Int) (p : ByteArray) (w : World) (t : Nat) (hm : mayB n = true) (hp : p.size ≤ 140737488351232) (hk : nameOk p = false) :
    Calls Try.prog 14 #[.pointer (some ⟨t, 0, none⟩), .int .i64 n, .string p] w (TuplePost w false 2) := by
  have HM := Lib.hid hm; clear hm
  have HC := Name_any p w hp
  rw [hk] at HC
  have HC' := Lib.hid HC; clear HC hk
  go_enter Try.func14, Try.ntmps14
  go_wp2_with (first | (go_at_call 26; refine (may_yes n _ _ HM.out).mono ?_; rintro e w' ⟨rfl, rfl⟩) | (go_at_call 29; refine HC'.out.mono ?_; rintro e w' ⟨rfl, hb⟩))
  go_ret2
  exact ⟨rfl, hb⟩

theorem TreesAt.below {w w' : World} {t m : Nat} {L : List (Int × TS)} (h : TreesAt w t m L) (hb : Below w.heap.size w w') : TreesAt w' t m L :=
  h.keep (Touch.of_below (S := fun _ => False) hb) id id (fun _ _ => id)

set_option maxHeartbeats 400000 in
theorem Got_there (n : Int) (p : ByteArray) (w : World) (t m : Nat) (L : List (Int × TS)) (h : TreesAt w t m L) (hm : mayB n = true) (hp : p.size ≤ 140737488351232) (hk : nameOk p = true) {x : TS} (hg : alGet L n = some x) :
    Calls Try.prog 14 #[.pointer (some ⟨t, 0, none⟩), .int .i64 n, .string p] w (TuplePost w true 0) := by
  have HN := Lib.hid (wf_of_may hm)
  have HM := Lib.hid hm; clear hm
  have HC := Name_any p w hp
  rw [hk] at HC
  have HC' := Lib.hid HC; clear HC hk
  have HG := Lib.hid hg; clear hg
  go_enter Try.func14, Try.ntmps14
  go_wp2_with (first | (go_at_call 26; refine (may_yes n _ _ HM.out).mono ?_; rintro e w' ⟨rfl, rfl⟩) | (go_at_call 29; refine HC'.out.mono ?_; rintro e w' ⟨rfl, hb⟩) | (go_at_call 12; refine (Busy_any n _ t m L (h.below hb) HN.out).mono ?_; rw [HG.out]; rintro e w' ⟨rfl, rfl⟩))
  go_ret2
  exact ⟨rfl, hb⟩

/-- Behind the call there is one ticket more; its block is new. -/
def GotPost (w : World) (t m : Nat) (L : List (Int × TS)) (n : Int) (p : ByteArray) (e : Ending) (w' : World) : Prop :=
  e = .returned (.tuple #[.bool false, .int .i64 0]) ∧ ∃ s, w.heap.size ≤ s ∧ TreesAt w' t m (L ++ [(n, ⟨s, p, 0⟩)]) ∧ Touch (fun b => b = m) w w'

set_option maxHeartbeats 400000 in
theorem Got_new (n : Int) (p : ByteArray) (w : World) (t m : Nat) (L : List (Int × TS)) (h : TreesAt w t m L) (hm : mayB n = true) (hp : p.size ≤ 140737488351232) (hk : nameOk p = true) (hg : alGet L n = none) :
    Calls Try.prog 14 #[.pointer (some ⟨t, 0, none⟩), .int .i64 n, .string p] w (GotPost w t m L n p) := by
  have HN := Lib.hid (wf_of_may hm)
  have HM := Lib.hid hm; clear hm
  have HC := Name_any p w hp
  rw [hk] at HC
  have HC' := Lib.hid HC; clear HC hk
  have HG := Lib.hid hg; clear hg
  go_enter Try.func14, Try.ntmps14
  go_wp2_with (first | (go_at_call 26; refine (may_yes n _ _ HM.out).mono ?_; rintro e w' ⟨rfl, rfl⟩) | (go_at_call 29; refine HC'.out.mono ?_; rintro e w1 ⟨rfl, hb⟩))
  have h1 := h.below hb
  obtain ⟨W', hrun, hat, hT⟩ := h1.put HN.out HG.out p
  have hc := cell_top h1
  have hsz := lt_of_block h1.top
  go_wp2_with (go_at_call 12; refine (Busy_any n _ t m L h1 HN.out).mono ?_; rw [HG.out]; rintro e w' ⟨rfl, rfl⟩)
  go_ret2
  exact ⟨rfl, _, hb.size, hat, (Touch.of_below hb).trans (hT.mono fun _ _ => id)⟩

end Go.Proofs.Ytkjfiofefndgkaa
