/- A step of the books: what comes. -/
import Derived.Test.YtkjfiofefndgkaaTD
import Derived.Deep.RegionHeld3
import Derived.Deep.RegionLaw
import Derived.Deep.AppendLies
import Derived.StillTailTactics
import Derived.IntWalk
import Derived.Deep.DeepCutAuto
namespace Go.Proofs.Ytkjfiofefndgkaa
set_option linter.unusedVariables false
set_option linter.unusedSimpArgs false
open Go.RowKit
open Go.ChangeMaps (setBlock)

set_option maxHeartbeats 1000000 in
theorem step_empty (base bp : Nat) (A : PS) (w : World) (D At To : Int) (h : PlayIs base bp A w) (h0 : 0 ≤ To) (h1 : To < 256) (hD : (bits BinOp.and IntKind.i64 D 1 == 1) = false) (hw : A.way = []) :
    Calls Try.prog 10 #[.pointer (some ⟨bp, 0, none⟩), .agg #[.int .i64 D, .int .i64 At, .int .u8 To]] w (StepPost base bp true A w) := by
  have h' := h.below ((Below.refl _ w).alloc (Nat.le_refl _) (.cells #[.int .i64 D, .int .i64 At, .int .u8 To] 34))
  have hbl : Fr base w (w.alloc (.cells #[.int .i64 D, .int .i64 At, .int .u8 To] 34)) := (Fr.refl _ _).alloc h.base_le _
  have HP := Lib.hid h'
  obtain ⟨b, v, hp, hst⟩ := h'
  obtain ⟨hcw, -⟩ := hp.way?
  have hown := hp.own
  rw [hw] at hown
  have hv : ∃ A C, v = .slice A 0 C := by
    rcases hown.2 with ⟨rfl, _⟩ | ⟨g, cap, cur, rfl, _⟩
    · exact ⟨_, _, rfl⟩
    · exact ⟨_, _, rfl⟩
  obtain ⟨A', C', rfl⟩ := hv
  clear hp hst h hown hw
  go_enter Try.func10, Try.ntmps10
  go_wp2_with fail
  go_ret
  exact ⟨rfl, HP.out, hbl⟩

/-- The row of what is on its way, if there is something. -/
theorem PlayAt.row {base bp : Nat} {w : World} {b : Nat → Bk} {v : Value} {way : List Msg} (h : PlayAt base bp w b v way) (hne : way ≠ []) :
    ∃ g cap cur, v = .slice (some ⟨g, 0, none⟩) way.length cap ∧ base ≤ g ∧ w.heap[g]? = some (.cells cur 69 (0, 0)) ∧ way.length ≤ cap ∧ cap ≤ maxLen ∧ cur.size = cap * 3 ∧ cur.toList.take (way.length * 3) = wayVals way := by
  rcases h.own.2 with ⟨_, hn⟩ | h2
  · exact absurd (List.eq_nil_of_length_eq_zero hn) hne
  · exact h2

theorem wayVals_at : ∀ (l : List Msg) (i : Nat) (x : Msg), l[i]? = some x → (wayVals l)[i * 3]? = some (.int .i64 x.frm) ∧ (wayVals l)[i * 3 + 1]? = some (.int .i64 x.to) ∧ (wayVals l)[i * 3 + 2]? = some (.bool x.ans)
  | [], i, x, h => by simp at h
  | y :: l, 0, x, h => by
    simp only [List.getElem?_cons_zero, Option.some.injEq] at h
    subst h
    exact ⟨rfl, rfl, rfl⟩
  | y :: l, i + 1, x, h => by
    simp only [List.getElem?_cons_succ] at h
    have ih := wayVals_at l i x h
    have e : wayVals (y :: l) = y.vals ++ wayVals l := rfl
    have e1 : (i + 1) * 3 = y.vals.length + i * 3 := by simp [Msg.vals]; omega
    rw [e, e1]
    refine ⟨?_, ?_, ?_⟩
    · rw [List.getElem?_append_right (by omega)]; simpa using ih.1
    · rw [List.getElem?_append_right (by omega)]; have := ih.2.1; simpa [Nat.add_assoc] using this
    · rw [List.getElem?_append_right (by omega)]; have := ih.2.2; simpa [Nat.add_assoc] using this

theorem wayVals_take (l : List Msg) (n : Nat) (h : n ≤ l.length) : wayVals (l.take n) = (wayVals l).take (n * 3) := by
  have e : wayVals l = wayVals (l.take n) ++ wayVals (l.drop n) := by rw [← wayVals_append, List.take_append_drop]
  have h1 : (wayVals (l.take n)).length = n * 3 := by rw [wayVals_length]; simp; omega
  rw [e, ← h1, List.take_left]
theorem wayVals_drop (l : List Msg) (n : Nat) (h : n ≤ l.length) : wayVals (l.drop n) = (wayVals l).drop (n * 3) := by
  have e : wayVals l = wayVals (l.take n) ++ wayVals (l.drop n) := by rw [← wayVals_append, List.take_append_drop]
  have h1 : (wayVals (l.take n)).length = n * 3 := by rw [wayVals_length]; simp; omega
  rw [e, ← h1, List.drop_left]
theorem wayVals_one (l : List Msg) : ∀ u ∈ wayVals l, u.oneCell' = true := by
  intro u hu
  obtain ⟨x, hx, hu⟩ := List.mem_flatMap.1 hu
  simp [Msg.vals] at hu
  rcases hu with rfl | rfl | rfl <;> rfl

theorem erase_eq (l : List Msg) (n : Nat) : l.take n ++ l.drop (n + 1) = l.eraseIdx n := by rw [List.eraseIdx_eq_take_drop_succ]

/-- One message is struck: the two appends of the parts before it and behind it. -/
theorem PlayAt.strike {base bp : Nat} {w : World} {b : Nat → Bk} {way : List Msg} {g cap : Nat} (h : PlayAt base bp w b (.slice (some ⟨g, 0, none⟩) way.length cap) way) {n : Nat} (hn : n < way.length) (hlen : way.length ≤ 1000000)
    (ad : Addr) (c1 c2 : Nat) (had : n + 1 = way.length ∨ ad = ⟨g, (n + 1) * 3, none⟩) :
    ∃ v1 w1 A N C w2, (Builtin.append_ #[26, 26] 26 #[.slice none 0 0, .slice (some ⟨g, 0, none⟩) n c1]).run Try.prog w = .ok v1 w1 ∧
      (Builtin.append_ #[26, 26] 26 #[v1, .slice (some ad) (way.length - (n + 1)) c2]).run Try.prog w1 = .ok (.slice A N C) w2 ∧
      w1.cell? ⟨bp, 5, none⟩ = some (.slice (some ⟨g, 0, none⟩) way.length cap) ∧ w2.cell? ⟨bp, 5, none⟩ = some (.slice (some ⟨g, 0, none⟩) way.length cap) ∧ w2.frozen? ⟨bp, 5, none⟩ = false ∧
      PlayAt base bp (w2.setCell ⟨bp, 5, none⟩ (.slice A N C)) b (.slice A N C) (way.eraseIdx n) ∧ Fr base w (w2.setCell ⟨bp, 5, none⟩ (.slice A N C)) ∧
      ∀ k, k < w.heap.size → k ≠ bp → (w2.setCell ⟨bp, 5, none⟩ (.slice A N C)).heap[k]? = w.heap[k]? := by
  obtain ⟨i0, hi, hz0, hz1, hz2⟩ := info_parts Try.info69
  have hbw : base ≤ w.heap.size := by have := lt_of_block h.top; have := h.lo; omega
  have hcells := h.own.cells (g := g) rfl
  have hadd : ∀ (a j : Nat), (⟨g, a, none⟩ : Addr).add j = ⟨g, a + j, none⟩ := fun a j => by cases j <;> simp [Addr.add]
  have hl1 : ((wayVals way).take (n * 3)).length = n * 3 := by rw [List.length_take, wayVals_length]; omega
  obtain ⟨v1, w1, hrun1, hown1, hg1, -⟩ := run_append_own (P := Try.prog) (w := w) w.heap.size 26 26 69 i0 _ 3 24 Try.underlying26 hi hz0 hz1 hz2 rfl (by decide) (.slice none 0 0) 0 [] (World.ownsRow_nil w w.heap.size 69 3)
    ⟨g, 0, none⟩ n c1 ((wayVals way).take (n * 3)) hl1 (by
      intro j u hj
      rw [List.getElem?_take] at hj
      split at hj
      · exact hcells j u hj
      · cases hj) (fun u hu => wayVals_one way u (List.mem_of_mem_take hu)) (by unfold maxLen; omega) (by omega) (Nat.le_refl _)
  rw [Nat.zero_add, List.nil_append] at hown1
  have hold : ∀ k, k < w.heap.size → w1.heap[k]? = w.heap[k]? := fun k hk => hg1.block k hk (by simp [Value.ownBlock])
  have hgl := h.own.lt g rfl
  have hl2 : ((wayVals way).drop ((n + 1) * 3)).length = (way.length - (n + 1)) * 3 := by rw [List.length_drop, wayVals_length]; omega
  obtain ⟨v2, w2, hrun2, hown2, hg2, -⟩ := run_append_own (P := Try.prog) (w := w1) w.heap.size 26 26 69 i0 _ 3 24 Try.underlying26 hi hz0 hz1 hz2 rfl (by decide) v1 n _ hown1
    ad (way.length - (n + 1)) c2 ((wayVals way).drop ((n + 1) * 3)) hl2 (by
      intro j u hj
      rcases had with had | rfl
      · rw [List.drop_of_length_le (by rw [wayVals_length]; omega)] at hj; simp at hj
      · rw [hadd, World.cell?_of_block (w := w) (hold g hgl.2)]
        rw [List.getElem?_drop] at hj
        have := hcells _ u hj
        rw [hadd] at this
        simpa using this) (fun u hu => wayVals_one way u (List.mem_of_mem_drop hu)) (by unfold maxLen; omega) (by omega) hg1.size
  obtain ⟨A, N, C, rfl⟩ := ownsRow_slice hown2
  have hvals : (wayVals way).take (n * 3) ++ (wayVals way).drop ((n + 1) * 3) = wayVals (way.eraseIdx n) := by
    rw [← erase_eq, wayVals_append, wayVals_take _ _ (by omega), wayVals_drop _ _ (by omega)]
  have hnum : n + (way.length - (n + 1)) = (way.eraseIdx n).length := by rw [List.length_eraseIdx, if_pos hn]; omega
  rw [hvals, hnum] at hown2
  have hold2 : ∀ k, k < w.heap.size → w2.heap[k]? = w.heap[k]? := fun k hk => by
    rw [hg2.block k (by have := hg1.size; omega) (fun e => by have := (hown1.lt k e.symm).1; omega), hold k hk]
  have hbp := lt_of_block h.top
  have htop := (hold2 bp hbp).trans h.top
  have hT : Touch (fun k => k = bp) w (w2.setCell ⟨bp, 5, none⟩ (.slice A N C)) :=
    (Touch.of_below ⟨hg2.os.trans hg1.os, hg2.tape.trans hg1.tape, hg2.output.trans hg1.output, Nat.le_trans hg1.size hg2.size, hold2⟩).setCell _ _ (fun _ => rfl)
  have hown3 : w2.ownsRow base 69 3 (.slice A N C) (way.eraseIdx n).length (wayVals (way.eraseIdx n)) := by
    refine ⟨hown2.1, ?_⟩
    rcases hown2.2 with h2 | ⟨g', cap', cur', h1, h2, r⟩
    · exact Or.inl h2
    · exact Or.inr ⟨g', cap', cur', h1, Nat.le_trans hbw h2, r⟩
  have hne : ∀ k, (Value.slice A N C).ownBlock = some k → k ≠ bp := ownsRow_ne hown3 htop (by decide)
  have hntb : ∀ k, k < 5 → ∀ c, (c = (b k).t ∨ c = (b k).m ∨ ∃ q ∈ (b k).L, c = q.2.s) → c ≠ bp := by
    intro k hk c hc e
    have t1 := h.tree k hk
    obtain ⟨⟨es, cl, hm, _⟩, _⟩ := t1.map
    rcases hc with rfl | rfl | ⟨q, hq, rfl⟩
    · have := t1.top; rw [e, h.top] at this; simp at this
    · rw [e, h.top] at hm; cases hm
    · have hq' := t1.st q hq; rw [e, h.top] at hq'; simp at hq'
  refine ⟨v1, w1, A, N, C, w2, hrun1, hrun2, ?_, ?_, ?_, ⟨h.lo, ?_, ?_, ?_, h.lot, h.ne, h.par, ?_, ?_⟩, ?_, ?_⟩
  · rw [World.cell?_of_block (w := w) (hold bp hbp)]; exact h.way?.1
  · rw [World.cell?_of_block (w := w) (hold2 bp hbp)]; exact h.way?.1
  · rw [World.frozen?_of_block (w := w) (hold2 bp hbp)]; exact h.way?.2
  · have := heap_setCell_same w2 bp 5 _ _ (.slice A N C) htop
    simpa using this
  · exact ownsRow_setCell_other hown3 (fun e => hne bp e rfl) _
  · intro k hk
    exact (h.tree k hk).keep hT (hntb k hk _ (Or.inl rfl)) (hntb k hk _ (Or.inr (Or.inl rfl))) (fun q hq => hntb k hk _ (Or.inr (Or.inr ⟨q, hq, rfl⟩)))
  · intro x hx; exact h.wto x (List.mem_of_mem_eraseIdx hx)
  · intro k hk; exact Nat.lt_of_lt_of_le (h.slt k hk) hT.size
  · have hlo := h.lo
    exact Fr.touch hT (fun k hk => ⟨by omega, by omega⟩) (fun k c f e e1 => by rw [e1, h.top] at e; simp at e)
  · intro k hk hkb; exact hT.block k hk hkb

theorem PlayAt.kept {base bp : Nat} {w w' : World} {b : Nat → Bk} {v : Value} {way : List Msg} (hp : PlayAt base bp w b v way) (hb : Below w.heap.size w w') : PlayAt base bp w' b v way := by
  have ht : Touch (fun _ => False) w w' := Touch.of_below hb
  exact ⟨hp.lo, (ht.block bp (lt_of_block hp.top) id).trans hp.top, ownsRow_touch hp.own ht (fun _ _ => id), fun k hk => (hp.tree k hk).below hb, hp.lot, hp.ne, hp.par, hp.wto, fun k hk => Nat.lt_of_lt_of_le (hp.slt k hk) hb.size⟩

theorem below_drewN {B : Nat} {a w : World} (h : Below B a w) (n : Nat) : Below B a (w.drewN n) := ⟨h.os, h.tape, h.output, h.size, h.block⟩

theorem below_drew_alloc (w : World) (n : Nat) (o : Obj) : Below w.heap.size w ((w.drewN n).alloc o) :=
  (below_drewN (Below.refl _ w) n).alloc (Nat.le_refl w.heap.size) o

theorem name1_ok {f : Nat} (h : f < 5) : nameOk (name1 f) = true := by
  have h2 : f = 0 ∨ f = 1 ∨ f = 2 ∨ f = 3 ∨ f = 4 := by omega
  rcases h2 with rfl | rfl | rfl | rfl | rfl <;> decide

/-- What comes of a message that comes. -/
def comesA (n : Nat) (A : PS) : PS := match A.way[n]? with
  | none => A
  | some x =>
    if x.ans then match A.st x.to with
      | some (q, d + 1) => restA x.to { st := setSt A.st x.to (some (q, d)), way := A.way.eraseIdx n }
      | _ => A
    else match A.st x.to with
      | none => { st := setSt A.st x.to (some (some x.frm, 0)), way := A.way.eraseIdx n }
      | some _ => { A with way := A.way.eraseIdx n ++ [⟨x.to, x.frm, true⟩] }

set_option maxHeartbeats 4000000 in
set_option maxRecDepth 100000 in
theorem step_answer (base bp a n : Nat) (A : PS) (w : World) (D At To : Int) (f t : Nat) (q : Option Nat) (d : Nat) (h : PlayIs base bp A w) (h0 : 0 ≤ To) (h1 : To < 256) (hD : (bits BinOp.and IntKind.i64 D 1 == 1) = false)
    (ha : (if 0 < At then At else 0) = (a : Int)) (hn : n = a % A.way.length) (hx : A.way[n]? = some ⟨f, t, true⟩) (hlen : A.way.length ≤ 900000) (hds : ∀ k q d, k < 5 → A.st k = some (q, d) → d ≤ 1000000)
    (hs : A.st t = some (q, d + 1)) :
    Calls Try.prog 10 #[.pointer (some ⟨bp, 0, none⟩), .agg #[.int .i64 D, .int .i64 At, .int .u8 To]] w (StepPost base bp true (comesA n A) w) := by
  have h' := h.below ((Below.refl _ w).alloc (Nat.le_refl _) (.cells #[.int .i64 D, .int .i64 At, .int .u8 To] 34))
  have hbl : Fr base w (w.alloc (.cells #[.int .i64 D, .int .i64 At, .int .u8 To] 34)) := (Fr.refl _ _).alloc h.base_le _
  obtain ⟨b, v, hp, hst⟩ := h'
  obtain ⟨hcw, -⟩ := hp.way?
  have hlt : n < A.way.length := (List.getElem?_eq_some_iff.1 hx).1
  obtain ⟨g, cap, cur, rfl, hg1, hg2, hg3, hg4, hg5, hg6⟩ := hp.row (fun e => by rw [e] at hlt; simp at hlt)
  have hcells : ∀ j u, (wayVals A.way)[j]? = some u → (w.alloc (.cells #[.int .i64 D, .int .i64 At, .int .u8 To] 34)).cell? ⟨g, j, none⟩ = some u := by
    intro j u hu
    rw [← hg6, List.getElem?_take] at hu
    split at hu
    · simp only [World.cell?, hg2]
      simpa using hu
    · cases hu
  have hft := hp.wto _ (List.mem_of_getElem? hx)
  have hb0 := h.base_le
  have hbpw : bp < w.heap.size := by obtain ⟨b', v', hp', _⟩ := h; exact lt_of_block hp'.top
  obtain ⟨hm0, hm1, hm2⟩ := wayVals_at _ _ _ hx
  replace hm0 := hcells _ _ hm0
  replace hm1 := hcells _ _ hm1
  replace hm2 := hcells _ _ hm2
  clear hcells
  have HP := Lib.hid hp; clear hp
  have HS := Lib.hid hst; clear hst
  obtain ⟨len, hlen'⟩ : ∃ len, len = A.way.length := ⟨_, rfl⟩
  rw [← hlen'] at hlt hn hcw hg3 hlen
  clear hg6
  have hne : ((len : Int) == 0) = false := by simp; omega
  have hmod : (a : Int) % (len : Int) = (n : Int) := by rw [hn]; simp
  have hpos : 0 < (len : Int) := by omega
  have hpos' : 1 ≤ (len : Int) := by omega
  have HN := Lib.hid hn; clear hn
  have HL := Lib.hid hlen'; clear hlen'
  have HX := Lib.hid hx; clear hx
  have HS2 := Lib.hid hs; clear hs
  have HDS := Lib.hid hds; clear hds
  have HBL := Lib.hid hbl
  simp only at hm0 hm1 hm2
  clear h hbl
  go_enter Try.func10, Try.ntmps10
  go_wp2_with fail
  go_quiet (fail)
  go_wp2_with fail
  simp only [hmod]
  have hpW := HP.out.kept (below_drew_alloc _ nq (.cells #[.int .i64 f, .int .i64 t, .bool true] 69))
  generalize hW : (((w.alloc (Obj.cells #[Value.int IntKind.i64 D, Value.int IntKind.i64 At, Value.int IntKind.u8 To] 34)).drewN nq).alloc (Obj.cells #[Value.int IntKind.i64 ↑f, Value.int IntKind.i64 ↑t, Value.bool true] 69)) = W at hpW ⊢
  have HW := Lib.hid hW; clear hW
  rw [HL.out] at hlt hlen hcw hg3
  clear hm0 hm1 hm2 hg2 hg4 hg5 hcw
  have hcW := hpW.way?.1
  obtain ⟨ad, had, hif⟩ : ∃ ad : Addr, (n + 1 = A.way.length ∨ ad = ⟨g, (n + 1) * 3, none⟩) ∧ (if cap = n + 1 then some (⟨g, 0, none⟩ : Addr) else some ⟨g, (n + 1) * 3, none⟩) = some ad := by
    by_cases hcap : cap = n + 1
    · exact ⟨_, Or.inl (by omega), if_pos hcap⟩
    · exact ⟨_, Or.inr rfl, if_neg hcap⟩
  obtain ⟨v1, w1, A', N', C', w2, hrun1, hrun2, k1, k2, k3, hp2, hb2, hk2⟩ := (hpW.kept (w' := W.drew) ((Below.refl _ _).drew)).strike hlt (Nat.le_trans hlen (by decide)) ad cap (cap - (n + 1)) had
  have n1 : n ≤ cap := by omega
  have n2 : n + 1 ≤ cap := by omega
  have n3 : n + 1 ≤ A.way.length := by omega
  have m1 : (0 : Int) ≤ (n : Int) + 1 := by omega
  have m2 : ((n : Int) + 1).toNat = n + 1 := by omega
  have m3 : (n : Int) + 1 ≤ (A.way.length : Int) := by omega
  have m4 : IntKind.i64.wrap ((n : Int) + 1) = (n : Int) + 1 := IntWalk.i64_in _ (by omega)
  have HR1 := Lib.hid hrun1; have HR2 := Lib.hid hrun2; clear hrun1 hrun2
  go_cut [] (fun wx => wx = w2.setCell ⟨bp, 5, none⟩ (.slice A' N' C'))
  case first =>
    go_region_law (first | (refine step_append_eq rfl (.const (.slice none 0 0)) (.tmp 85) 26 rfl _ _ rfl ?_ HR1.out ?_; (try rfl)) | (refine step_append_eq rfl (.tmp 86) (.tmp 93) 26 rfl _ _ rfl ?_ HR2.out ?_; (try rfl)))
    all_goals (go_wp2_with fail; go_meet; rfl)
  case rest =>
    obtain rfl := hcut
    clear HR1 HR2 m1 m2 m3 m4 n1 n2 n3 hif had k1 k2 k3
    have hmsg : (w2.setCell ⟨bp, 5, none⟩ (.slice A' N' C')).heap[w.heap.size + 1]? = some (.cells #[.int .i64 f, .int .i64 t, .bool true] 69 (0, 0)) := by
      have hWs : W.heap[w.heap.size + 1]? = some (.cells #[.int .i64 f, .int .i64 t, .bool true] 69 (0, 0)) := by
        rw [← HW.out]
        have := at_new ((w.alloc (Obj.cells #[Value.int IntKind.i64 D, Value.int IntKind.i64 At, Value.int IntKind.u8 To] 34)).drewN nq) (Obj.cells #[Value.int IntKind.i64 ↑f, Value.int IntKind.i64 ↑t, Value.bool true] 69)
        have hz : ((w.alloc (Obj.cells #[Value.int IntKind.i64 D, Value.int IntKind.i64 At, Value.int IntKind.u8 To] 34)).drewN nq).heap.size = w.heap.size + 1 := World.size_alloc _ _
        rw [hz] at this; exact this
      rw [hk2 _ (lt_of_block (w := W.drew) hWs) (by omega)]; exact hWs
    have hbX : Fr base w (w2.setCell ⟨bp, 5, none⟩ (.slice A' N' C')) := by
      refine (HBL.out.trans ?_).trans hb2
      rw [← HW.out]
      exact (Fr.of (below_drew_alloc _ nq _) (Nat.le_trans hb0 HBL.out.below.size)).drew
    clear hk2 hb2 hpW hcW HW
    generalize w2.setCell ⟨bp, 5, none⟩ (.slice A' N' C') = X at hp2 hmsg hbX ⊢
    obtain ⟨c0, c1, c2⟩ : X.cell? ⟨w.heap.size + 1, 0, none⟩ = some (.int .i64 f) ∧ X.cell? ⟨w.heap.size + 1, 1, none⟩ = some (.int .i64 t) ∧ X.cell? ⟨w.heap.size + 1, 2, none⟩ = some (.bool true) := by
      simp [World.cell?, hmsg]
    have hct := hp2.cell hft.2
    have hT := hp2.tree t hft.2
    have hs' := (HS.out t hft.2).trans HS2.out
    have hd := HDS.out t _ _ hft.2 HS2.out
    rw [Bk.L_some hs'] at hT
    have hTd : TreesAt X.drew (b t).t (b t).m [(1, ⟨(b t).s, pname q, ((d + 1 : Nat) : Int)⟩)] := hT.drewN 1
    have HSig := Lib.hid (Signal_on 1 _ _ _ _ hTd may1 rfl (by simp; omega) (by simp; omega))
    have HF : Hid (∀ w', TreesAt w' (b t).t (b t).m (setD [(1, ⟨(b t).s, pname q, ((d + 1 : Nat) : Int)⟩)] 1 (((d + 1 : Nat) : Int) - 1)) → Touch (fun k => k = (b t).s) X.drew w' →
        PlayIs base bp { st := setSt A.st t (some (q, d)), way := A.way.eraseIdx n } w' ∧ Fr base w w' ∧ w'.cell? ⟨w.heap.size + 1, 1, none⟩ = some (.int .i64 t)) := by
      intro w' g1 g2
      have e : ((d + 1 : Nat) : Int) - 1 = (d : Int) := by omega
      rw [e] at g1
      obtain ⟨u1, u2⟩ := (hp2.kept (w' := X.drew) ((Below.refl _ _).drew)).count hft.2 hs' g1 g2
      refine ⟨⟨_, _, u1, setB_st HS.out⟩, (hbX.drew).trans u2, ?_⟩
      have hne : w.heap.size + 1 ≠ (b t).s := by
        intro e1
        have := hT.st _ (List.mem_singleton.2 rfl)
        simp only at this
        rw [← e1, hmsg] at this; simp at this
      rw [World.cell?_of_block (w := X) (g2.block _ (lt_of_block (w := X.drew) hmsg) hne)]
      exact c1
    clear hT hTd hp2 hmsg hs' hd
    go_wp2_with fail
    go_cut [107] (fun s wx => s = .bool false ∧ PlayIs base bp { st := setSt A.st t (some (q, d)), way := A.way.eraseIdx n } wx ∧ Fr base w wx ∧ wx.cell? ⟨w.heap.size + 1, 1, none⟩ = some (.int .i64 t))
    case first =>
      go_region_with (go_at_call 18; refine HSig.out.mono ?_; rintro e w' ⟨rfl, g1, g2⟩; obtain ⟨g3, g4, g5⟩ := HF.out w' g1 g2; clear g1 g2)
      all_goals (go_wp2_with fail; go_meet; exact ⟨rfl, g3, g4, g5⟩)
    case rest =>
      obtain ⟨rfl, g3, g4, g5⟩ := hcut
      clear HSig HF
      have hl2 : (A.way.eraseIdx n).length ≤ 1000000 := by rw [List.length_eraseIdx]; split <;> omega
      go_wp2_with fail
      refine (rest_any base bp t _ _ g3 hft.2 hl2).mono ?_
      rintro e w' ⟨rfl, g6, g7⟩
      go_wp2_with fail
      go_ret
      refine ⟨rfl, ?_, g4.trans g7⟩
      have hE : comesA n A = restA t { st := setSt A.st t (some (q, d)), way := A.way.eraseIdx n } := by
        unfold comesA; simp [HX.out, HS2.out]
      rw [hE]; exact g6


end Go.Proofs.Ytkjfiofefndgkaa
