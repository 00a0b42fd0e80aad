/- What a text begins with: the loops over the runes of a text against a set of ASCII signs; which texts are names. -/
import Derived.Test.YtpljbpndooilgaaDoorMap
import Derived.Test.YtpljbpndooilgaaDoorProg
import Derived.KernelRfl
import Derived.Lib.Hide
import Derived.Deep.QuietTactic
import Derived.BigQuiet
import Derived.Laws.RangeAny
namespace Go.Proofs.YtpljbpndooilgaaDoor
set_option linter.unusedVariables false
set_option linter.unusedSimpArgs false
open Go.RowKit
open Go.ChangeMaps (setBlock)

theorem block_setBlock_same {w : World} {b : Nat} {o o' : Obj} (h : w.heap[b]? = some o) : (setBlock w b o').heap[b]? = some o' := by
  simp [setBlock, lt_of_block h]
theorem block_setBlock_other {w : World} {b c : Nat} {o' : Obj} (h : b ≠ c) : (setBlock w b o').heap[c]? = w.heap[c]? := by
  simp [setBlock, h]

/-- A step of an iterator over a text. -/
theorem run_next_at {P : Program} {w : World} {b : Nat} {s : ByteArray} {pos : Nat} (hb : w.heap[b]? = some (.stringIter s pos)) (h : pos < s.size) (ty : TypeId) :
    (Instr.next (.pointer (some ⟨b, 0, none⟩)) true ty).run P w = .ok (.tuple #[.bool true, .int .i64 pos, .int .i32 (Utf8.decode s pos).1]) (setBlock w b (.stringIter s (pos + (Utf8.decode s pos).2))) := by
  simp [Instr.next, getObj, setObj, Sem.run, hb, h, goInt, setBlock, Result.andThen]

theorem run_next_over {P : Program} {w : World} {b : Nat} {s : ByteArray} {pos : Nat} (hb : w.heap[b]? = some (.stringIter s pos)) (h : ¬ pos < s.size) (ty : TypeId) :
    (Instr.next (.pointer (some ⟨b, 0, none⟩)) true ty).run P w = .ok (.tuple #[.bool false]) w := by
  simp [Instr.next, getObj, Sem.run, hb, h]

theorem toList_loop (s : ByteArray) : ∀ (n i : Nat) (r : List UInt8), s.size - i = n → ByteArray.toList.loop s i r = r.reverse ++ s.data.toList.drop i
  | 0, i, r, h => by
    rw [ByteArray.toList.loop, if_neg (by omega), List.drop_of_length_le (by simpa using by omega)]; simp
  | n + 1, i, r, h => by
    have hi : i < s.size := by omega
    have hd : s.data.toList.drop i = s.get! i :: s.data.toList.drop (i + 1) := by
      rw [List.drop_eq_getElem_cons (by simpa using hi)]
      congr 1
      exact (get_at s i hi).symm
    rw [ByteArray.toList.loop, if_pos hi, toList_loop s n (i + 1) _ (by omega), hd]
    simp
theorem toList_data (s : ByteArray) : s.toList = s.data.toList := by
  unfold ByteArray.toList
  rw [toList_loop s s.size 0 [] rfl]; simp

theorem get_mem (s : ByteArray) (j : Nat) (h : j < s.size) : s[j] ∈ s.data.toList := List.getElem_mem (l := s.data.toList) (n := j) (by simpa using h)

/-- Is a byte one of a set's? -/
def inSet (set : ByteArray) (b : UInt8) : Bool := set.data.toList.contains b
/-- How many bytes of a set a text begins with. -/
def pre (set s : ByteArray) : Nat := (s.data.toList.takeWhile (inSet set)).length

theorem pre_le (set s : ByteArray) : pre set s ≤ s.size := by
  have := (List.takeWhile_sublist (l := s.data.toList) (inSet set)).length_le
  simpa [pre] using this

theorem takeWhile_at {α : Type} (p : α → Bool) : ∀ (l : List α) (i : Nat) (h : i < l.length), i < (l.takeWhile p).length → p l[i] = true
  | x :: l, 0, _, h1 => by
    by_cases hp : p x = true
    · exact hp
    · simp [hp] at h1
  | x :: l, i + 1, h, h1 => by
    by_cases hp : p x = true
    · simp only [List.takeWhile_cons, hp, if_true, List.length_cons] at h1
      exact takeWhile_at p l i (by simpa using h) (by omega)
    · simp [hp] at h1

theorem takeWhile_end {α : Type} (p : α → Bool) : ∀ (l : List α) (h : (l.takeWhile p).length < l.length), p (l[(l.takeWhile p).length]'h) = false
  | x :: l, h => by
    by_cases hp : p x = true
    · have e : (x :: l).takeWhile p = x :: l.takeWhile p := by simp [hp]
      simp only [e, List.length_cons, List.getElem_cons_succ]
      exact takeWhile_end p l (by simpa [e] using h)
    · have e : (x :: l).takeWhile p = [] := by simp [hp]
      simp only [e, List.length_nil, List.getElem_cons_zero]
      simpa using hp

theorem pre_in (set s : ByteArray) (i : Nat) (h : i < s.size) (h1 : i < pre set s) : inSet set s[i] = true :=
  takeWhile_at _ s.data.toList i (by simpa using h) h1
theorem pre_out (set s : ByteArray) (h : pre set s < s.size) : inSet set (s[pre set s]'h) = false :=
  takeWhile_end (inSet set) s.data.toList (by simpa [pre] using h)

/-- Is a rune one of the first j of a set? -/
def among (set : ByteArray) (c : Nat) (j : Nat) : Bool := (set.data.toList.take j).any fun b => (c : Int) == (b.toNat : Int)

theorem among_zero (set : ByteArray) (c : Nat) : among set c 0 = false := by simp [among]
theorem among_succ (set : ByteArray) (c j : Nat) (h : j < set.size) : among set c (j + 1) = (among set c j || ((c : Int) == ((set[j]'h).toNat : Int))) := by
  unfold among
  have e : set.data.toList.take (j + 1) = set.data.toList.take j ++ [set[j]'h] := by
    rw [List.take_succ_eq_append_getElem (by simpa using h)]; rfl
  rw [e, List.any_append]; simp

theorem among_low (set : ByteArray) (b : UInt8) : among set b.toNat set.size = inSet set b := by
  have e : set.data.toList.take set.size = set.data.toList := List.take_of_length_le (by simp)
  unfold among inSet
  rw [e, List.contains_eq_any_beq]
  congr 1; funext x
  rw [Bool.eq_iff_iff]
  simp only [beq_iff_eq]
  constructor
  · intro h; exact UInt8.toNat_inj.1 (by omega)
  · intro h; rw [h]

theorem among_high (set : ByteArray) (c : Nat) (hs : ∀ b ∈ set.data.toList, b.toNat < 128) (hc : 128 ≤ c) (j : Nat) : among set c j = false := by
  unfold among
  rw [List.any_eq_false]
  intro b hb
  have := hs b (List.mem_of_mem_take hb)
  simp; omega

def CutPost (w : World) (set s : ByteArray) (e : Ending) (w' : World) : Prop :=
  e = .returned (.string (s.extract (pre set s) s.size)) ∧ Below w.heap.size w w'

def OuterRel (w : World) (set s : ByteArray) (wr : World) : Prop :=
  ∃ p, p ≤ pre set s ∧ wr.heap[w.heap.size]? = some (.stringIter s p) ∧ Below w.heap.size w wr

def InnerRel (w : World) (set s : ByteArray) (b2 p' c : Nat) (v : Value) (wi : World) : Prop :=
  ∃ j, j ≤ set.size ∧ v = .bool (among set c j) ∧ wi.heap[b2]? = some (.stringIter set j) ∧ wi.heap[w.heap.size]? = some (.stringIter s p') ∧ Below w.heap.size w wi

theorem inner_start {w wr : World} {set s : ByteArray} {p p' c : Nat} (hit : wr.heap[w.heap.size]? = some (.stringIter s p)) (hbl : Below w.heap.size w wr) :
    InnerRel w set s wr.heap.size p' c (.bool false) ((setBlock wr w.heap.size (.stringIter s p')).iter set 0) := by
  have hlt := lt_of_block hit
  have hsz : (setBlock wr w.heap.size (.stringIter s p')).heap.size = wr.heap.size := by simp [setBlock]
  refine ⟨0, Nat.zero_le _, by rw [among_zero], ?_, ?_, ?_⟩
  · have := World.iter_heap (setBlock wr w.heap.size (.stringIter s p')) set 0
    rw [hsz] at this; exact this
  · unfold World.iter
    rw [Below.heap_alloc _ _ _ (by omega)]
    exact block_setBlock_same hit
  · have hb1 : Below w.heap.size w (setBlock wr w.heap.size (.stringIter s p')) :=
      hbl.trans ⟨rfl, rfl, rfl, by omega, fun k hk => block_setBlock_other (by omega)⟩
    exact hb1.alloc (by omega) _

theorem inner_step {w wi : World} {set s : ByteArray} {b2 p' c j : Nat} (hb : w.heap.size < b2) (h : j < set.size) (h3 : wi.heap[b2]? = some (.stringIter set j)) (h4 : wi.heap[w.heap.size]? = some (.stringIter s p')) (h5 : Below w.heap.size w wi)
    (v : Bool) (hv : v = among set c (j + 1)) : InnerRel w set s b2 p' c (.bool v) (setBlock wi b2 (.stringIter set (j + 1))) := by
  refine ⟨j + 1, h, by rw [hv], block_setBlock_same h3, ?_, ?_⟩
  · rw [block_setBlock_other (by omega)]; exact h4
  · exact h5.trans ⟨rfl, rfl, rfl, by simp [setBlock], fun k hk => block_setBlock_other (by omega)⟩

theorem iterPos_at {w : World} {b : Nat} {s : ByteArray} {p : Nat} (h : w.heap[b]? = some (.stringIter s p)) : w.iterPos b = p := by simp [World.iterPos, h]

theorem str_val {a b : ByteArray} (h : a = b) : Ending.returned (.string a) = Ending.returned (.string b) := by rw [h]

theorem extract_none (s : ByteArray) (p : Nat) (h : s.size ≤ p) : s.extract p s.size = ⟨#[]⟩ := by
  apply ByteArray.ext; simp; omega

set_option maxHeartbeats 1000000 in
theorem cutLeft_any (set s : ByteArray) (w : World) (hs : ∀ b ∈ set.data.toList, b.toNat < 128) (h1 : s.size ≤ 140737488351232) (h2 : set.size ≤ 140737488351232) :
    Calls Tryd.prog 53 #[.string s, .string set] w (CutPost w set s) := by
  have HS := Lib.hid hs; clear hs
  go_enter Tryd.func53, Tryd.ntmps53
  go_wp2
  go_loopw [12] (fun _ wr => OuterRel w set s wr) (fun _ wr => s.size - wr.iterPos w.heap.size)
  case atStart => exact ⟨0, Nat.zero_le _, World.iter_heap _ _ _, (Below.refl _ _).alloc (Nat.le_refl _) _⟩
  case round =>
    obtain ⟨p, hp, hit, hbl⟩ := hrel
    have hps := pre_le set s
    by_cases hlt : p < s.size
    · have hnx := fun ty => run_next_at (P := Tryd.prog) hit hlt ty
      have hsz : (setBlock wr w.heap.size (.stringIter s (p + (Utf8.decode s p).2))).heap.size = wr.heap.size := by simp [setBlock]
      have hst := inner_start (set := set) (p' := p + (Utf8.decode s p).2) (c := (Utf8.decode s p).1) hit hbl
      have hbw := lt_of_block hit
      have hw1 : 1 ≤ (Utf8.decode s p).2 := by
        by_cases ha : (s[p]'hlt).toNat < 128
        · rw [decode_ascii s p hlt ha]; exact Nat.le_refl _
        · exact (decode_high s p hlt (by omega)).2
      have hend : among set (Utf8.decode s p).1 set.size = decide (p < pre set s) ∧ (p < pre set s → (Utf8.decode s p).2 = 1) := by
        by_cases ha : (s[p]'hlt).toNat < 128
        · rw [decode_ascii s p hlt ha]
          refine ⟨?_, fun _ => rfl⟩
          rw [among_low]
          by_cases hpp : p < pre set s
          · rw [pre_in set s p hlt hpp]; simp [hpp]
          · obtain rfl : p = pre set s := by omega
            rw [pre_out set s hlt]; simp
        · have hc := (decode_high s p hlt (by omega)).1
          rw [among_high set _ HS.out hc]
          have hpp : ¬ p < pre set s := by
            intro hpp
            have h3 := pre_in set s p hlt hpp
            unfold inSet at h3
            have := HS.out _ (List.contains_iff_mem.1 h3)
            omega
          exact ⟨by simp [hpp], fun h => absurd h hpp⟩
      have HE := Lib.hid hend; clear hend
      have HST := Lib.hid hst; clear hst
      obtain ⟨c, hc⟩ : ∃ c, c = (Utf8.decode s p).1 := ⟨_, rfl⟩
      obtain ⟨wd, hwd⟩ : ∃ wd, wd = (Utf8.decode s p).2 := ⟨_, rfl⟩
      rw [← hc, ← hwd] at HE HST hnx
      rw [← hwd] at hw1 hsz
      clear hc hwd
      go_wp2
      clear hnx hsz
      go_loopw [7] (fun v wi => InnerRel w set s wr.heap.size (p + wd) c v wi) (fun _ wi => set.size - wi.iterPos wr.heap.size)
      case atStart => exact HST.out
      case round =>
        clear HST
        obtain ⟨j, hj, rfl, hj1, hj2, hj3⟩ := hrel
        by_cases hlj : j < set.size
        · have hd := decode_ascii set j hlj (HS.out _ (get_mem set j hlj))
          have hnx := run_next_at (P := Tryd.prog) hj1 hlj
          rw [hd] at hnx
          have HA := Lib.hid (among_succ set c j hlj)
          obtain ⟨bv, hbv⟩ : ∃ bv, bv = among set c j := ⟨_, rfl⟩
          rw [← hbv] at HA ⊢
          clear hbv hd
          have HN := fun v hv => inner_step (w := w) (s := s) (p' := p + wd) (c := c) hbw hlj hj1 hj2 hj3 v hv
          have HN' := Lib.hid HN; clear HN
          have HI := Lib.hid (iterPos_at hj1)
          cases bv with
          | true =>
            go_wp2
            go_roundw
            case rel => exact HN'.out _ (by rw [HA.out]; rfl)
            case measure => rw [HI.out, iterPos_at (block_setBlock_same hj1)]; omega
          | false =>
            go_wp2
            go_roundw
            case rel => exact HN'.out _ (by rw [HA.out]; simp)
            case measure => rw [HI.out, iterPos_at (block_setBlock_same hj1)]; omega
        · have hnx := run_next_over (P := Tryd.prog) hj1 hlj
          obtain rfl : j = set.size := by omega
          rw [HE.out.1]
          by_cases hpp : p < pre set s
          · have hw2 := HE.out.2 hpp
            subst hw2
            simp only [hpp, decide_true]
            go_wp2
            go_roundw
            case rel => exact ⟨p + 1, hpp, hj2, hj3⟩
            case measure => rw [iterPos_at hit, iterPos_at hj2]; omega
          · simp only [hpp, decide_false]
            go_wp2
            go_ret
            obtain rfl : p = pre set s := by omega
            exact ⟨rfl, hj3⟩
    · have hnx := fun ty => run_next_over (P := Tryd.prog) hit hlt ty
      go_wp2
      go_ret
      exact ⟨str_val (extract_none s _ (by omega)).symm, hbl⟩

def IntPost (w : World) (n : Int) (e : Ending) (w' : World) : Prop := e = .returned (.int .i64 n) ∧ Below w.heap.size w w'
def BoolPost (w : World) (b : Bool) (e : Ending) (w' : World) : Prop := e = .returned (.bool b) ∧ Below w.heap.size w w'

theorem ret_int {k : IntKind} {a b : Int} (h : a = b) : Ending.returned (.int k a) = Ending.returned (.int k b) := by rw [h]
theorem extract_size (s : ByteArray) (p : Nat) : (s.extract p s.size).size = s.size - p := by simp

set_option maxHeartbeats 400000 in
theorem run_any (set s : ByteArray) (w : World) (hs : ∀ b ∈ set.data.toList, b.toNat < 128) (h1 : s.size ≤ 140737488351232) (h2 : set.size ≤ 140737488351232) :
    Calls Tryd.prog 42 #[.string s, .string set] w (IntPost w (pre set s)) := by
  have HC := Lib.hid (cutLeft_any set s w hs h1 h2)
  have hp := pre_le set s
  have hz := extract_size s (pre set s)
  clear hs
  go_enter Tryd.func42, Tryd.ntmps42
  go_wp2_with (go_at_call 53; refine HC.out.mono ?_; rintro e w' ⟨rfl, hb⟩)
  go_ret
  exact ⟨ret_int (by omega), hb⟩

theorem ret_bool {a b : Bool} (h : a = b) : Ending.returned (.bool a) = Ending.returned (.bool b) := by rw [h]

def setName : ByteArray := ⟨#[65, 66, 67, 68, 69, 70, 71, 72, 73, 74, 75, 76, 77, 78, 79, 80, 81, 82, 83, 84, 85, 86, 87, 88, 89, 90, 97, 98, 99, 100, 101, 102, 103, 104, 105, 106, 107, 108, 109, 110, 111, 112, 113, 114, 115, 116, 117, 118, 119, 120, 121, 122, 48, 49, 50, 51, 52, 53, 54, 55, 56, 57, 95]⟩
def setDigit : ByteArray := ⟨#[48, 49, 50, 51, 52, 53, 54, 55, 56, 57]⟩
theorem setName_low : ∀ b ∈ setName.data.toList, b.toNat < 128 := by decide
theorem setDigit_low : ∀ b ∈ setDigit.data.toList, b.toNat < 128 := by decide

/-- May it be a name? -/
def nameOk (s : ByteArray) : Bool := decide (1 ≤ s.size ∧ s.size ≤ 16 ∧ pre setName s = s.size ∧ pre setDigit s = 0)

set_option maxHeartbeats 400000 in
theorem Name_long (s : ByteArray) (w : World) (h : s.size < 1 ∨ 16 < s.size) (h1 : s.size ≤ 140737488351232) :
    Calls Tryd.prog 20 #[.string s] w (BoolPost w (nameOk s)) := by
  have hno : nameOk s = false := by unfold nameOk; simp; omega
  have HN := Lib.hid hno; clear hno
  rcases h with h | h
  · go_enter Tryd.func20, Tryd.ntmps20
    go_wp2_with fail
    go_ret
    exact ⟨ret_bool (by rw [HN.out]), Below.refl _ _⟩
  · have h2 : ¬ s.size ≤ 16 := by omega
    have h3 : 1 ≤ s.size := by omega
    go_enter Tryd.func20, Tryd.ntmps20
    go_wp2_with fail
    go_ret
    exact ⟨ret_bool (by rw [HN.out]), Below.refl _ _⟩

set_option maxHeartbeats 400000 in
theorem Name_any (s : ByteArray) (w : World) (h1 : s.size ≤ 140737488351232) :
    Calls Tryd.prog 20 #[.string s] w (BoolPost w (nameOk s)) := by
  by_cases h : s.size < 1 ∨ 16 < s.size
  · exact Name_long s w h h1
  have ha : 1 ≤ s.size := by omega
  have hb : s.size ≤ 16 := by omega
  clear h
  have HC := fun w => run_any setName s w setName_low h1 (by decide)
  have HD := fun w => run_any setDigit s w setDigit_low h1 (by decide)
  have HC' := Lib.hid HC; have HD' := Lib.hid HD; clear HC HD
  have hp := pre_le setName s
  have hq := pre_le setDigit s
  by_cases e1 : pre setName s = s.size
  · by_cases e2 : pre setDigit s = 0
    · have HN : Hid (nameOk s = true) := by show nameOk s = true; unfold nameOk; simp [ha, hb, e1, e2]
      have E1 := Lib.hid e1; have E2 := Lib.hid e2; clear e1 e2
      go_enter Tryd.func20, Tryd.ntmps20
      go_wp2_with fail
      refine (HC'.out _).mono ?_; rintro e w1 ⟨rfl, hb1⟩; rw [E1.out]
      go_wp2_with fail
      refine (HD'.out _).mono ?_; rintro e w2 ⟨rfl, hb2⟩; rw [E2.out]
      go_wp2_with fail
      go_ret
      exact ⟨ret_bool (by rw [HN.out]), hb1.trans (hb2.mono hb1.size)⟩
    · have HN : Hid (nameOk s = false) := by show nameOk s = false; unfold nameOk; simp [e2]
      have E1 := Lib.hid e1; clear e1
      have e2' : ((pre setDigit s : Int) == 0) = false := by simp; omega
      go_enter Tryd.func20, Tryd.ntmps20
      go_wp2_with fail
      refine (HC'.out _).mono ?_; rintro e w1 ⟨rfl, hb1⟩; rw [E1.out]
      go_wp2_with fail
      refine (HD'.out _).mono ?_; rintro e w2 ⟨rfl, hb2⟩
      go_wp2_with fail
      go_ret
      exact ⟨ret_bool (by rw [HN.out]), hb1.trans (hb2.mono hb1.size)⟩
  · have HN : Hid (nameOk s = false) := by show nameOk s = false; unfold nameOk; simp [e1]
    have e1' : ((pre setName s : Int) == (s.size : Int)) = false := by simp; omega
    go_enter Tryd.func20, Tryd.ntmps20
    go_wp2_with fail
    refine (HC'.out _).mono ?_; rintro e w1 ⟨rfl, hb1⟩
    go_wp2_with fail
    go_ret
    exact ⟨ret_bool (by rw [HN.out]), hb1⟩

end Go.Proofs.YtpljbpndooilgaaDoor
