/- A text cut at a sign; the book and the sheet that a text begins with. -/
import Derived.Test.YtpljbpndooilgaaDoorAk
namespace Go.Proofs.YtpljbpndooilgaaDoor
set_option linter.unusedVariables false
set_option linter.unusedSimpArgs false
open Go.RowKit Go.Sort
open Go.ChangeMaps (setBlock)

/-- Where a sign first stands; the text's length, if nowhere. -/
def ixB (s : ByteArray) (c : UInt8) : Nat := (s.data.toList.takeWhile (fun b => !(b == c))).length
def hasB (s : ByteArray) (c : UInt8) : Bool := decide (ixB s c < s.size)
theorem ixB_le (s : ByteArray) (c : UInt8) : ixB s c ≤ s.size := by
  have := (List.takeWhile_sublist (l := s.data.toList) (fun b => !(b == c))).length_le
  simpa [ixB] using this

theorem indexByte_eq (c : UInt8) : ∀ l : List UInt8, Lib.indexByte l c = if (l.takeWhile (fun b => !(b == c))).length < l.length then ((l.takeWhile (fun b => !(b == c))).length : Int) else -1
  | [] => by simp [Lib.indexByte]
  | b :: r => by
    have ih := indexByte_eq c r
    by_cases h : (b == c) = true
    · simp [Lib.indexByte, h]
    · have h' : (b == c) = false := by simpa using h
      have e : ((b :: r).takeWhile (fun b => !(b == c))).length = (r.takeWhile (fun b => !(b == c))).length + 1 := by simp [List.takeWhile_cons, h']
      rw [e, List.length_cons]
      obtain ⟨k, hk⟩ : ∃ k, k = (r.takeWhile (fun b => !(b == c))).length := ⟨_, rfl⟩
      rw [← hk] at ih ⊢
      have e2 : Lib.indexByte (b :: r) c = if Lib.indexByte r c == -1 then -1 else Lib.indexByte r c + 1 := by
        show (if (b == c) = true then 0 else _) = _
        rw [if_neg h]
      rw [e2, ih]
      by_cases hr : k < r.length
      · have e3 : (((k : Int)) == -1) = false := by simp
        simp only [hr, if_true, e3, Bool.false_eq_true, if_false, Nat.add_lt_add_iff_right]
        simp
      · simp only [hr, if_false, Nat.add_lt_add_iff_right]
        rfl

def cutV (s : ByteArray) (c : UInt8) : Value :=
  if hasB s c then .tuple #[.string (s.extract 0 (ixB s c)), .string (s.extract (ixB s c + 1) s.size), .bool true] else .tuple #[.string s, .string ⟨#[]⟩, .bool false]

set_option maxRecDepth 100000 in
theorem cut_in (s : ByteArray) (c : UInt8) (w : World) (h1 : s.size ≤ 140737488351232) : Calls Tryd.prog 58 #[.string s, .string ⟨#[c]⟩] w (RetPost w (cutV s c)) := by
  have HI := fun w => Tryd.stringslite_Index_one s c w
  have hle := ixB_le s c
  rw [indexByte_eq] at HI
  have hl : s.data.toList.length = s.size := by simp
  rw [hl] at HI
  have HV : cutV s c = if ixB s c < s.size then .tuple #[.string (s.extract 0 (ixB s c)), .string (s.extract (ixB s c + 1) s.size), .bool true] else .tuple #[.string s, .string ⟨#[]⟩, .bool false] := by
    unfold cutV hasB; simp
  change ∀ w, Calls Tryd.prog 64 #[.string s, .string ⟨#[c]⟩] w fun e w' => e = .returned (.int .i64 (if ixB s c < s.size then (ixB s c : Int) else -1)) ∧ w' = w at HI
  obtain ⟨n, hn⟩ : ∃ n, n = ixB s c := ⟨_, rfl⟩
  rw [← hn] at HI HV hle
  clear hn hl
  obtain ⟨sep, hsep⟩ : ∃ sep : ByteArray, sep = ⟨#[c]⟩ := ⟨_, rfl⟩
  have e1 : sep.size = 1 := by rw [hsep]; rfl
  rw [← hsep] at HI ⊢
  clear hsep
  by_cases h : n < s.size
  · rw [if_pos h] at HI HV
    have HI' : Hid (∀ w, Calls Tryd.prog 64 #[.string s, .string sep] w fun e w' => e = .returned (.int .i64 n) ∧ w = w') := fun w => (HI w).mono fun e w' hh => ⟨hh.1, hh.2.symm⟩
    have HV' := Lib.hid HV.symm
    clear HI HV
    obtain ⟨m, hm⟩ : ∃ m, m = n + 1 := ⟨_, rfl⟩
    rw [← hm] at HV'
    have m1 : IntKind.i64.wrap ((n : Int) + 1) = (m : Int) := by rw [hm]; exact IntWalk.i64_in _ (by omega)
    have hm1 : m ≤ s.size := by omega
    clear hm
    go_enter Tryd.func58, Tryd.ntmps58
    go_wp2_with fail
    refine (HI'.out _).mono ?_; rintro e w1 ⟨rfl, rfl⟩
    go_wp2_with fail
    refine wp_region_quiet_below (by kernel_rfl) (by kernel_rfl) ?_
    repeat (quiet_step (fail))
    refine wpQuiet_nil ?_
    intro _ hw'
    obtain ⟨⟨dq, osq⟩, hw''⟩ := hw'
    subst hw''
    have hq := below_regrown w dq osq
    go_wp2
    ((try simp only [Exit.inBlock, Exit.then]); first | (refine bodyPost_ret (results_tmp rfl _ _ _) rfl ?_) | (refine bodyPost_ret (results_none rfl _ _ _) rfl ?_) | go_ret2 | go_ret3 | (refine bodyPost_ret (by simp [results, Tryd.results58, go_sem]; try rfl) rfl ?_))
    exact ⟨congrArg Ending.returned HV'.out, by (repeat (first | exact Below.refl _ _ | exact below_box _ _ | refine Below.stepBox ?_ _ | refine Below.stepDrew ?_ | refine Below.stepDrewN ?_ _ | refine Below.step (by assumption) ?_))⟩
  · rw [if_neg h] at HI HV
    have HI' : Hid (∀ w, Calls Tryd.prog 64 #[.string s, .string sep] w fun e w' => e = .returned (.int .i64 (-1)) ∧ w = w') := fun w => (HI w).mono fun e w' hh => ⟨hh.1, hh.2.symm⟩
    have HV' := Lib.hid HV.symm
    clear HI HV
    go_enter Tryd.func58, Tryd.ntmps58
    go_wp2_with fail
    refine (HI'.out _).mono ?_; rintro e w1 ⟨rfl, rfl⟩
    go_wp2_with fail
    ((try simp only [Exit.inBlock, Exit.then]); first | (refine bodyPost_ret (results_tmp rfl _ _ _) rfl ?_) | (refine bodyPost_ret (results_none rfl _ _ _) rfl ?_) | go_ret2 | go_ret3 | (refine bodyPost_ret (by simp [results, Tryd.results58, go_sem]; try rfl) rfl ?_))
    exact ⟨congrArg Ending.returned HV'.out, by (repeat (first | exact Below.refl _ _ | exact below_box _ _ | refine Below.stepBox ?_ _ | refine Below.stepDrew ?_ | refine Below.stepDrewN ?_ _ | refine Below.step (by assumption) ?_))⟩

theorem cutV_form (s : ByteArray) (c : UInt8) : ∃ a b d, cutV s c = .tuple #[.string a, .string b, .bool d] := by unfold cutV; split <;> exact ⟨_, _, _, rfl⟩
theorem Cut_any (s : ByteArray) (c : UInt8) (w : World) (h1 : s.size ≤ 140737488351232) : Calls Tryd.prog 49 #[.string s, .string ⟨#[c]⟩] w (RetPost w (cutV s c)) := by
  have HI := fun w => cut_in s c w h1
  obtain ⟨a, b, d, e⟩ := cutV_form s c
  rw [e] at HI ⊢
  have HI' := Lib.hid HI
  clear HI e
  go_enter Tryd.func49, Tryd.ntmps49
  go_wp2_with fail
  refine (HI'.out _).mono ?_; rintro e w1 ⟨rfl, hb1⟩
  go_wp2_with fail
  ((try simp only [Exit.inBlock, Exit.then]); first | (refine bodyPost_ret (results_tmp rfl _ _ _) rfl ?_) | (refine bodyPost_ret (results_none rfl _ _ _) rfl ?_) | go_ret2 | go_ret3 | (refine bodyPost_ret (by simp [results, Tryd.results49, go_sem]; try rfl) rfl ?_))
  exact ⟨rfl, by (repeat (first | exact Below.refl _ _ | exact below_box _ _ | refine Below.stepBox ?_ _ | refine Below.stepDrew ?_ | refine Below.stepDrewN ?_ _ | refine Below.step (by assumption) ?_))⟩

/-- A box: a block of the call's own whose cells are known and may be written. -/
def Box (w : World) (b : Nat) (vs : List Value) : Prop := ∀ i v, vs[i]? = some v → w.cell? ⟨b, i, none⟩ = some v ∧ w.frozen? ⟨b, i, none⟩ = false
theorem Box.at {w : World} {b : Nat} {vs : List Value} (h : Box w b vs) (i : Nat) {v : Value} (hv : vs[i]? = some v) : w.cell? ⟨b, i, none⟩ = some v := (h i v hv).1
theorem Box.free {w : World} {b : Nat} {vs : List Value} (h : Box w b vs) (i : Nat) {v : Value} (hv : vs[i]? = some v) : w.frozen? ⟨b, i, none⟩ = false := (h i v hv).2
theorem Box.new (w : World) (vs : List Value) (T : Nat) : Box (w.alloc (.cells vs.toArray T)) w.heap.size vs :=
  fun i v hv => ⟨box_at (Below.refl _ _) i (by simpa using hv), box_free (Below.refl _ _) i⟩
theorem Box.below {w w' : World} {b : Nat} {vs : List Value} (h : Box w b vs) (hb : Below w.heap.size w w') : Box w' b vs := by
  intro i v hv
  have hc := h.at i hv
  refine ⟨(hb.cell (p := ⟨b, i, none⟩) (block_lt_of_cell hc)).trans hc, ?_⟩
  rw [hb.frozen (p := ⟨b, i, none⟩) (block_lt_of_cell hc)]
  exact h.free i hv
theorem Box.alloc {w : World} {b : Nat} {vs : List Value} (h : Box w b vs) (o : Obj) : Box (w.alloc o) b vs := h.below (below_box w o)
theorem Box.set {w : World} {b : Nat} {vs : List Value} (h : Box w b vs) (i : Nat) (x : Value) : Box (w.setCell ⟨b, i, none⟩ x) b (vs.set i x) := by
  intro j v hv
  rw [World.frozen?_setCell]
  by_cases e : i = j
  · subst e
    have hi : i < vs.length := by
      by_cases hi : i < vs.length
      · exact hi
      · rw [List.getElem?_eq_none (by simp; omega)] at hv; cases hv
    rw [List.getElem?_set_self hi] at hv
    injection hv with hv; subst hv
    have hc := h.at i (List.getElem?_eq_getElem hi)
    exact ⟨World.cell?_setCell_same _ _ _ hc, h.free i (List.getElem?_eq_getElem hi)⟩
  · rw [List.getElem?_set_ne e] at hv
    refine ⟨?_, h.free j hv⟩
    rw [World.cell?_setCell_other (h := fun hh => e (by injection hh))]
    exact h.at j hv
theorem Box.other {w : World} {b : Nat} {vs : List Value} (h : Box w b vs) (p : Addr) (hp : p.block ≠ b) (x : Value) : Box (w.setCell p x) b vs := by
  intro j v hv
  rw [World.frozen?_setCell, World.cell?_setCell_other (h := fun hh => hp (by rw [hh]))]
  exact h j v hv
theorem Box.lt {w : World} {b : Nat} {v : Value} {vs : List Value} (h : Box w b (v :: vs)) : b < w.heap.size := block_lt_of_cell (h.at 0 rfl)

def parseRefV : Option (Int × Int × Bool × Bool) → Value
  | some (c, r, f, g) => if goodC c r then .tuple #[refV c r f g, .int .i64 0] else .tuple #[refV 0 0 false false, .int .i64 3]
  | none => .tuple #[refV 0 0 false false, .int .i64 4]

set_option maxRecDepth 100000 in
theorem ParseRef_any (s : ByteArray) (w : World) (h1 : s.size ≤ 140737488351232) :
    Calls Tryd.prog 23 #[.string s] w (RetPost w (parseRefV (refP s))) := by
  have HR := fun w => ref_any s w h1
  have B0 := Box.new w [.int .i64 0, .int .i64 0, .bool false, .bool false] 29
  cases hr : refP s with
  | none =>
    rw [hr] at HR
    have HR' : Hid (∀ w, Calls Tryd.prog 46 #[.string s] w (RetPost w (.tuple #[refV 0 0 false false, .bool false]))) := HR
    have HE : Hid (parseRefV none = .tuple #[refV 0 0 false false, .int .i64 4]) := (rfl : parseRefV none = _)
    clear HR hr
    go_enter Tryd.func23, Tryd.ntmps23
    go_wp2_with fail
    refine (HR'.out _).mono ?_; rintro e w1 ⟨rfl, hb1⟩
    have B1 := B0.below hb1
    have k0 := fun o => (B1.alloc o).at 0 rfl; have kf0 := fun o => (B1.alloc o).free 0 rfl; have k1 := fun o => (B1.alloc o).at 1 rfl; have kf1 := fun o => (B1.alloc o).free 1 rfl; have k2 := fun o => (B1.alloc o).at 2 rfl; have kf2 := fun o => (B1.alloc o).free 2 rfl; have k3 := fun o => (B1.alloc o).at 3 rfl; have kf3 := fun o => (B1.alloc o).free 3 rfl
    have k0' := B1.at 0 rfl
    go_wp2_with fail
    obtain ⟨W4, hW4, c0, c1, c2, c3, hB⟩ := finish4 (Below.stepBox (Below.step hb1 (below_box _ _)) _) (.int .i64 0) (.int .i64 0) (.bool false) (.bool false) (fun i hi => ⟨_, (B1.alloc _).at i (List.getElem?_eq_getElem (show i < 4 from hi))⟩)
    rw [hW4]
    refine bodyPost_ret (v := .tuple #[refV 0 0 false false, .int .i64 4]) (by simp [results, Tryd.results23, go_sem, c0, c1, c2, c3]) rfl ?_
    exact ⟨by rw [HE.out], hB⟩
  | some x =>
    obtain ⟨c, r, f, g⟩ := x
    rw [hr] at HR
    have HR' : Hid (∀ w, Calls Tryd.prog 46 #[.string s] w (RetPost w (.tuple #[refV c r f g, .bool true]))) := HR
    clear HR hr
    have HC := fun w => Cell_Good c r w
    cases hc : goodC c r with
    | false =>
      have HE : Hid (parseRefV (some (c, r, f, g)) = .tuple #[refV 0 0 false false, .int .i64 3]) := by show parseRefV _ = _; unfold parseRefV; simp [hc]
      rw [hc] at HC
      have HC' := Lib.hid HC
      clear HC hc
      go_enter Tryd.func23, Tryd.ntmps23
      go_wp2_with fail
      refine (HR'.out _).mono ?_; rintro e w1 ⟨rfl, hb1⟩
      have B1 := B0.below hb1
      have B2 := B1.alloc (.cells #[.int .i64 c, .int .i64 r, .bool f, .bool g] 29)
      have R2 := Box.new w1 [.int .i64 c, .int .i64 r, .bool f, .bool g] 29
      go_wp2_with fail
      refine (HC'.out _).mono ?_; rintro e w2 ⟨rfl, hb2⟩
      have B3 := B2.below hb2
      have R3 := R2.below hb2
      have k0 := B3.at 0 rfl; have kf0 := B3.free 0 rfl; have k1 := B3.at 1 rfl; have kf1 := B3.free 1 rfl; have k2 := B3.at 2 rfl; have kf2 := B3.free 2 rfl; have k3 := B3.at 3 rfl; have kf3 := B3.free 3 rfl
      have j0 := R3.at 0 rfl; have jf0 := R3.free 0 rfl; have j1 := R3.at 1 rfl; have jf1 := R3.free 1 rfl; have j2 := R3.at 2 rfl; have jf2 := R3.free 2 rfl; have j3 := R3.at 3 rfl; have jf3 := R3.free 3 rfl
      have hc2 := Below.step hb2 (Below.stepBox (Below.step hb1 (below_box _ _)) _)
      clear B0 B1 B2 R2
      go_wp2_with fail
      obtain ⟨W4, hW4, c0, c1, c2, c3, hB⟩ := finish4 hc2 (.int .i64 0) (.int .i64 0) (.bool false) (.bool false) (fun i hi => ⟨_, B3.at i (List.getElem?_eq_getElem (show i < 4 from hi))⟩)
      rw [hW4]
      refine bodyPost_ret (v := .tuple #[refV 0 0 false false, .int .i64 3]) (by simp [results, Tryd.results23, go_sem, c0, c1, c2, c3]) rfl ?_
      exact ⟨by rw [HE.out], hB⟩
    | true =>
      have HE : Hid (parseRefV (some (c, r, f, g)) = .tuple #[refV c r f g, .int .i64 0]) := by show parseRefV _ = _; unfold parseRefV; simp [hc]
      rw [hc] at HC
      have HC' := Lib.hid HC
      clear HC hc
      go_enter Tryd.func23, Tryd.ntmps23
      go_wp2_with fail
      refine (HR'.out _).mono ?_; rintro e w1 ⟨rfl, hb1⟩
      have B1 := B0.below hb1
      have B2 := B1.alloc (.cells #[.int .i64 c, .int .i64 r, .bool f, .bool g] 29)
      have R2 := Box.new w1 [.int .i64 c, .int .i64 r, .bool f, .bool g] 29
      go_wp2_with fail
      refine (HC'.out _).mono ?_; rintro e w2 ⟨rfl, hb2⟩
      have B3 := B2.below hb2
      have R3 := R2.below hb2
      have k0 := B3.at 0 rfl; have kf0 := B3.free 0 rfl; have k1 := B3.at 1 rfl; have kf1 := B3.free 1 rfl; have k2 := B3.at 2 rfl; have kf2 := B3.free 2 rfl; have k3 := B3.at 3 rfl; have kf3 := B3.free 3 rfl
      have j0 := R3.at 0 rfl; have jf0 := R3.free 0 rfl; have j1 := R3.at 1 rfl; have jf1 := R3.free 1 rfl; have j2 := R3.at 2 rfl; have jf2 := R3.free 2 rfl; have j3 := R3.at 3 rfl; have jf3 := R3.free 3 rfl
      have hc2 := Below.step hb2 (Below.stepBox (Below.step hb1 (below_box _ _)) _)
      clear B0 B1 B2 R2
      go_wp2_with fail
      obtain ⟨W4, hW4, c0, c1, c2, c3, hB⟩ := finish4 hc2 (.int .i64 c) (.int .i64 r) (.bool f) (.bool g) (fun i hi => ⟨_, B3.at i (List.getElem?_eq_getElem (show i < 4 from hi))⟩)
      rw [hW4]
      refine bodyPost_ret (v := .tuple #[refV c r f g, .int .i64 0]) (by simp [results, Tryd.results23, go_sem, c0, c1, c2, c3]) rfl ?_
      exact ⟨by rw [HE.out], hB⟩
end Go.Proofs.YtpljbpndooilgaaDoor
