/- A step of the books: a message comes to a busy book. -/
import Derived.Test.YtkjfiofefndgkaaTE
namespace Go.Proofs.Ytkjfiofefndgkaa
set_option linter.unusedVariables false
set_option linter.unusedSimpArgs false
open Go.RowKit
open Go.ChangeMaps (setBlock)

set_option maxHeartbeats 4000000 in
set_option maxRecDepth 100000 in
theorem step_there (base bp a n : Nat) (A : PS) (w : World) (D At To : Int) (f t : Nat) (q : Option Nat) (d : Nat) (h : PlayIs base bp A w) (h0 : 0 ≤ To) (h1 : To < 256) (hD : (bits BinOp.and IntKind.i64 D 1 == 1) = false)
    (ha : (if 0 < At then At else 0) = (a : Int)) (hn : n = a % A.way.length) (hx : A.way[n]? = some ⟨f, t, false⟩) (hlen : A.way.length ≤ 900000) (hds : ∀ k q d, k < 5 → A.st k = some (q, d) → d ≤ 1000000)
    (hs : A.st t = some (q, d)) :
    Calls Try.prog 10 #[.pointer (some ⟨bp, 0, none⟩), .agg #[.int .i64 D, .int .i64 At, .int .u8 To]] w (StepPost base bp true (comesA n A) w) := by
  have h' := h.below ((Below.refl _ w).alloc (Nat.le_refl _) (.cells #[.int .i64 D, .int .i64 At, .int .u8 To] 34))
  have hbl : Fr base w (w.alloc (.cells #[.int .i64 D, .int .i64 At, .int .u8 To] 34)) := (Fr.refl _ _).alloc h.base_le _
  obtain ⟨b, v, hp, hst⟩ := h'
  obtain ⟨hcw, -⟩ := hp.way?
  have hlt : n < A.way.length := (List.getElem?_eq_some_iff.1 hx).1
  obtain ⟨g, cap, cur, rfl, hg1, hg2, hg3, hg4, hg5, hg6⟩ := hp.row (fun e => by rw [e] at hlt; simp at hlt)
  have hcells : ∀ j u, (wayVals A.way)[j]? = some u → (w.alloc (.cells #[.int .i64 D, .int .i64 At, .int .u8 To] 34)).cell? ⟨g, j, none⟩ = some u := by
    intro j u hu
    rw [← hg6, List.getElem?_take] at hu
    split at hu
    · simp only [World.cell?, hg2]
      simpa using hu
    · cases hu
  have hft := hp.wto _ (List.mem_of_getElem? hx)
  have hb0 := h.base_le
  have hbpw : bp < w.heap.size := by obtain ⟨b', v', hp', _⟩ := h; exact lt_of_block hp'.top
  obtain ⟨hm0, hm1, hm2⟩ := wayVals_at _ _ _ hx
  replace hm0 := hcells _ _ hm0
  replace hm1 := hcells _ _ hm1
  replace hm2 := hcells _ _ hm2
  clear hcells
  have HP := Lib.hid hp; clear hp
  have HS := Lib.hid hst; clear hst
  obtain ⟨len, hlen'⟩ : ∃ len, len = A.way.length := ⟨_, rfl⟩
  rw [← hlen'] at hlt hn hcw hg3 hlen
  clear hg6
  have hne : ((len : Int) == 0) = false := by simp; omega
  have hmod : (a : Int) % (len : Int) = (n : Int) := by rw [hn]; simp
  have hpos : 0 < (len : Int) := by omega
  have hpos' : 1 ≤ (len : Int) := by omega
  have HN := Lib.hid hn; clear hn
  have HL := Lib.hid hlen'; clear hlen'
  have HX := Lib.hid hx; clear hx
  have HS2 := Lib.hid hs; clear hs
  have HDS := Lib.hid hds; clear hds
  have HBL := Lib.hid hbl
  simp only at hm0 hm1 hm2
  clear h hbl
  go_enter Try.func10, Try.ntmps10
  go_wp2_with fail
  go_quiet (fail)
  go_wp2_with fail
  simp only [hmod]
  have hpW := HP.out.kept (below_drew_alloc _ nq (.cells #[.int .i64 f, .int .i64 t, .bool false] 69))
  generalize hW : (((w.alloc (Obj.cells #[Value.int IntKind.i64 D, Value.int IntKind.i64 At, Value.int IntKind.u8 To] 34)).drewN nq).alloc (Obj.cells #[Value.int IntKind.i64 ↑f, Value.int IntKind.i64 ↑t, Value.bool false] 69)) = W at hpW ⊢
  have HW := Lib.hid hW; clear hW
  rw [HL.out] at hlt hlen hcw hg3
  clear hm0 hm1 hm2 hg2 hg4 hg5 hcw
  have hcW := hpW.way?.1
  obtain ⟨ad, had, hif⟩ : ∃ ad : Addr, (n + 1 = A.way.length ∨ ad = ⟨g, (n + 1) * 3, none⟩) ∧ (if cap = n + 1 then some (⟨g, 0, none⟩ : Addr) else some ⟨g, (n + 1) * 3, none⟩) = some ad := by
    by_cases hcap : cap = n + 1
    · exact ⟨_, Or.inl (by omega), if_pos hcap⟩
    · exact ⟨_, Or.inr rfl, if_neg hcap⟩
  obtain ⟨v1, w1, A', N', C', w2, hrun1, hrun2, k1, k2, k3, hp2, hb2, hk2⟩ := (hpW.kept (w' := W.drew) ((Below.refl _ _).drew)).strike hlt (Nat.le_trans hlen (by decide)) ad cap (cap - (n + 1)) had
  have n1 : n ≤ cap := by omega
  have n2 : n + 1 ≤ cap := by omega
  have n3 : n + 1 ≤ A.way.length := by omega
  have m1 : (0 : Int) ≤ (n : Int) + 1 := by omega
  have m2 : ((n : Int) + 1).toNat = n + 1 := by omega
  have m3 : (n : Int) + 1 ≤ (A.way.length : Int) := by omega
  have m4 : IntKind.i64.wrap ((n : Int) + 1) = (n : Int) + 1 := IntWalk.i64_in _ (by omega)
  have HR1 := Lib.hid hrun1; have HR2 := Lib.hid hrun2; clear hrun1 hrun2
  go_cut [] (fun wx => wx = w2.setCell ⟨bp, 5, none⟩ (.slice A' N' C'))
  case first =>
    go_region_law (first | (refine step_append_eq rfl (.const (.slice none 0 0)) (.tmp 85) 26 rfl _ _ rfl ?_ HR1.out ?_; (try rfl)) | (refine step_append_eq rfl (.tmp 86) (.tmp 93) 26 rfl _ _ rfl ?_ HR2.out ?_; (try rfl)))
    all_goals (go_wp2_with fail; go_meet; rfl)
  case rest =>
    obtain rfl := hcut
    clear HR1 HR2 m1 m2 m3 m4 n1 n2 n3 hif had k1 k2 k3
    have hmsg : (w2.setCell ⟨bp, 5, none⟩ (.slice A' N' C')).heap[w.heap.size + 1]? = some (.cells #[.int .i64 f, .int .i64 t, .bool false] 69 (0, 0)) := by
      have hWs : W.heap[w.heap.size + 1]? = some (.cells #[.int .i64 f, .int .i64 t, .bool false] 69 (0, 0)) := by
        rw [← HW.out]
        have := at_new ((w.alloc (Obj.cells #[Value.int IntKind.i64 D, Value.int IntKind.i64 At, Value.int IntKind.u8 To] 34)).drewN nq) (Obj.cells #[Value.int IntKind.i64 ↑f, Value.int IntKind.i64 ↑t, Value.bool false] 69)
        have hz : ((w.alloc (Obj.cells #[Value.int IntKind.i64 D, Value.int IntKind.i64 At, Value.int IntKind.u8 To] 34)).drewN nq).heap.size = w.heap.size + 1 := World.size_alloc _ _
        rw [hz] at this; exact this
      rw [hk2 _ (lt_of_block (w := W.drew) hWs) (by omega)]; exact hWs
    have hbX : Fr base w (w2.setCell ⟨bp, 5, none⟩ (.slice A' N' C')) := by
      refine (HBL.out.trans ?_).trans hb2
      rw [← HW.out]
      exact (Fr.of (below_drew_alloc _ nq _) (Nat.le_trans hb0 HBL.out.below.size)).drew
    clear hk2 hb2 hpW hcW HW
    generalize w2.setCell ⟨bp, 5, none⟩ (.slice A' N' C') = X at hp2 hmsg hbX ⊢
    obtain ⟨c0, c1, c2⟩ : X.cell? ⟨w.heap.size + 1, 0, none⟩ = some (.int .i64 f) ∧ X.cell? ⟨w.heap.size + 1, 1, none⟩ = some (.int .i64 t) ∧ X.cell? ⟨w.heap.size + 1, 2, none⟩ = some (.bool false) := by
      simp [World.cell?, hmsg]
    have hct := hp2.cell hft.2
    have hT := hp2.tree t hft.2
    have hnm := Lib.hid (fun w => names_any f w hft.1)
    have hnk : Hid (nameOk (name1 f) = true) := name1_ok hft.1
    have hnz : Hid ((name1 f).size ≤ 140737488351232) := show 1 ≤ _ by decide
    have KEEP : Hid (∀ wn, Below X.drew.heap.size X.drew wn → wn.cell? ⟨w.heap.size + 1, 0, none⟩ = some (.int .i64 f) ∧ wn.cell? ⟨w.heap.size + 1, 1, none⟩ = some (.int .i64 t) ∧ wn.cell? ⟨bp, t, none⟩ = some (.pointer (some ⟨(b t).t, 0, none⟩)) ∧
        PlayAt base bp wn b (.slice A' N' C') (A.way.eraseIdx n) ∧ Fr base w wn) := by
      intro wn hbn
      have hp3 := (hp2.kept (w' := X.drew) ((Below.refl _ _).drew)).kept hbn
      have hbk : wn.heap[w.heap.size + 1]? = X.heap[w.heap.size + 1]? := hbn.block _ (lt_of_block (w := X.drew) hmsg)
      refine ⟨by rw [World.cell?_of_block (w := X) hbk]; exact c0, by rw [World.cell?_of_block (w := X) hbk]; exact c1, hp3.cell hft.2, hp3, (hbX.drew).trans (Fr.of hbn ?_)⟩
      exact Nat.le_trans hb0 (Nat.le_trans (Nat.le_succ _) (Nat.le_of_lt (lt_of_block (w := X.drew) hmsg)))
    have hs' := (HS.out t hft.2).trans HS2.out
    have HT : Hid (∀ wn, PlayAt base bp wn b (.slice A' N' C') (A.way.eraseIdx n) → TreesAt wn (b t).t (b t).m [(1, ⟨(b t).s, pname q, d⟩)]) := by
      intro wn g
      have := g.tree t hft.2
      rw [Bk.L_some hs'] at this; exact this
    have HG : Hid (∀ wn w', PlayAt base bp wn b (.slice A' N' C') (A.way.eraseIdx n) → Fr base w wn → wn.cell? ⟨w.heap.size + 1, 0, none⟩ = some (.int .i64 f) → wn.cell? ⟨w.heap.size + 1, 1, none⟩ = some (.int .i64 t) → Below wn.heap.size wn w' →
        PlayAt base bp w' b (.slice A' N' C') (A.way.eraseIdx n) ∧ Fr base w w' ∧ w'.cell? ⟨w.heap.size + 1, 0, none⟩ = some (.int .i64 f) ∧ w'.cell? ⟨w.heap.size + 1, 1, none⟩ = some (.int .i64 t)) := by
      intro wn w' g1 g2 e0 e1 g3
      have hl := World.block_lt_of_cell? wn _ e0
      refine ⟨g1.kept g3, g2.trans (Fr.of g3 ?_), (g3.cell (p := ⟨w.heap.size + 1, 0, none⟩) hl).trans e0, (g3.cell (p := ⟨w.heap.size + 1, 1, none⟩) hl).trans e1⟩
      have := lt_of_block g1.top; have := g1.lo; omega
    clear hT hp2 hmsg hs'
    go_wp2_with fail
    go_cut [9, 10] (fun s9 s10 wx => s9 = .bool true ∧ s10 = .int .i64 0 ∧ PlayAt base bp wx b (.slice A' N' C') (A.way.eraseIdx n) ∧ Fr base w wx ∧ wx.cell? ⟨w.heap.size + 1, 0, none⟩ = some (.int .i64 f) ∧ wx.cell? ⟨w.heap.size + 1, 1, none⟩ = some (.int .i64 t))
    case first =>
      go_region_with (first | (go_at_call 27; refine (hnm.out _).mono ?_; rintro e wn ⟨rfl, hbn⟩; obtain ⟨k0, k1, k2, k3, k4⟩ := KEEP.out wn hbn; clear hbn) | (go_at_call 14; refine (Got_there 1 (name1 f) _ _ _ _ (HT.out _ (by assumption)) may1 hnz.out hnk.out rfl).mono ?_; rintro e w' ⟨rfl, g3⟩; obtain ⟨g6, g7, g8, g9⟩ := HG.out _ w' (by assumption) (by assumption) (by assumption) (by assumption) g3; clear g3))
      all_goals (go_wp2_with fail; go_meet; exact ⟨rfl, rfl, g6, g7, g8, g9⟩)
    case rest =>
      obtain ⟨rfl, rfl, g6, g7, g8, g9⟩ := hcut
      clear KEEP HT HG c0 c1 c2 hct
      have hl2 : (A.way.eraseIdx n).length ≤ 1000000 := by rw [List.length_eraseIdx]; split <;> omega
      have hcw := g6.way?.1
      go_wp2_with fail
      obtain ⟨A2, N2, C2, w3, hrun, hp4, hb4, hcu, hfu⟩ := (g6.kept (w' := wc.drew) ((Below.refl _ _).drew)).app ⟨t, f, true⟩ ⟨hft.2, hft.1⟩ hl2
      have hrun' : (Builtin.append_ #[26, 26] 26 #[.slice A' N' C', .slice (some ⟨wc.heap.size, 0, none⟩) 1 1]).run Try.prog (wc.alloc (.cells #[.int .i64 t, .int .i64 f, .bool true] 69)).drew = .ok (.slice A2 N2 C2) w3 := hrun
      have hl1 := World.block_lt_of_cell? wc _ g8
      have hl3 := lt_of_block g6.top
      simp only at hl1
      have HR := Lib.hid hrun'; clear hrun hrun'
      go_cut [] (fun wx => wx = w3.setCell ⟨bp, 5, none⟩ (.slice A2 N2 C2))
      case first =>
        go_region_law (refine step_append_eq rfl (.tmp 135) (.tmp 141) 26 rfl _ _ rfl ?_ HR.out ?_; (try rfl))
        all_goals (go_wp2_with fail; go_meet; rfl)
      case rest =>
        obtain rfl := hcut
        go_wp2_with fail
        go_ret
        refine ⟨rfl, ?_, (g7.drew).trans hb4⟩
        have hE : comesA n A = { A with way := A.way.eraseIdx n ++ [⟨t, f, true⟩] } := by
          unfold comesA; simp [HX.out, HS2.out]
        rw [hE]; exact ⟨b, _, hp4, HS.out⟩

end Go.Proofs.Ytkjfiofefndgkaa
