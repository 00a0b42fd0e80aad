/- Texts with great letters (package value's Upper), by the loop over the bytes of a copy. -/
import Derived.Test.YtpljbpndooilgaaDoorAd
import Derived.Laws.IdiomStrings
import Derived.Lib.ConvBytes
namespace Go.Proofs.YtpljbpndooilgaaDoor
set_option linter.unusedVariables false
set_option linter.unusedSimpArgs false
open Go.RowKit Go.Sort
open Go.ChangeMaps (setBlock)

/-- A row of bytes that may be written. -/
def RowB (w : World) (b : Nat) (l : List UInt8) : Prop := ∀ j (h : j < l.length), w.cell? ⟨b, j, none⟩ = some (.int .u8 (l[j].toNat)) ∧ w.frozen? ⟨b, j, none⟩ = false

theorem RowB.set {w : World} {b i : Nat} {l : List UInt8} (h : RowB w b l) (hi : i < l.length) (v : UInt8) : RowB (w.setCell ⟨b, i, none⟩ (.int .u8 v.toNat)) b (l.set i v) := by
  intro j hj
  have hj' : j < l.length := by simpa using hj
  refine ⟨?_, by rw [World.frozen?_setCell]; exact (h j hj').2⟩
  by_cases e : i = j
  · subst e
    rw [World.cell?_setCell_same (h := (h i hi).1)]; simp
  · rw [World.cell?_setCell_other (h := fun hh => e (by injection hh))]
    rw [(h j hj').1]; simp [e]

theorem below_bytes (w : World) (e : TypeId) (s : ByteArray) : Below w.heap.size w (Lib.bytesWorld w e s) :=
  ⟨rfl, rfl, rfl, by rw [Lib.bytesWorld_size]; omega, fun k hk => Lib.bytesWorld_at_old w e s k hk⟩

theorem RowB.start (w : World) (e : TypeId) (s : ByteArray) : RowB (Lib.bytesWorld w e s) w.heap.size s.data.toList := by
  intro j hj
  have hj' : j < s.size := by simpa using hj
  refine ⟨?_, ?_⟩
  · rw [Lib.bytesWorld_cell w e s j hj', List.getD_eq_getElem?_getD, List.getElem?_eq_getElem hj]; rfl
  · have hs : s.size ≤ (Lib.bytesCells w e s).size := by simp [Lib.bytesCells]
    simp [World.frozen?, Lib.bytesWorld_at_new]; omega

def upU (b : UInt8) : UInt8 := if 97 ≤ b.toNat ∧ b.toNat < 123 then UInt8.ofNat (b.toNat - 32) else b
def upL (l : List UInt8) : List UInt8 := l.map upU
def upTo (i : Nat) (l : List UInt8) : List UInt8 := upL (l.take i) ++ l.drop i
theorem upTo_length (i : Nat) (l : List UInt8) : (upTo i l).length = l.length := by unfold upTo upL; simp; omega
theorem upTo_at (i : Nat) (l : List UInt8) (h : i < l.length) : (upTo i l)[i]'(by rw [upTo_length]; exact h) = l[i] := by
  unfold upTo upL
  rw [List.getElem_append_right (by simp; omega)]
  simp [show min i l.length = i by omega]
theorem upTo_succ (i : Nat) (l : List UInt8) (h : i < l.length) : upTo (i + 1) l = (upTo i l).set i (upU l[i]) := by
  unfold upTo upL
  rw [List.set_append_right _ _ (by simp; omega)]
  have e : i - (List.map upU (List.take i l)).length = 0 := by simp; omega
  rw [e, List.drop_eq_getElem_cons h, List.take_succ_eq_append_getElem h, List.map_append]
  simp only [List.map_cons, List.map_nil, List.set_cons_zero, List.append_assoc, List.cons_append, List.nil_append]
theorem upTo_zero (l : List UInt8) : upTo 0 l = l := by simp [upTo, upL]
theorem upTo_all (l : List UInt8) : upTo l.length l = upL l := by simp [upTo, upL]
theorem upU_same (b : UInt8) (h : ¬ (97 ≤ b.toNat ∧ b.toNat < 123)) : upU b = b := by unfold upU; rw [if_neg h]
theorem upU_up (b : UInt8) (h : 97 ≤ b.toNat ∧ b.toNat < 123) : ((upU b).toNat : Int) = (b.toNat : Int) - 32 := by unfold upU; rw [if_pos h]; simp; omega

set_option maxRecDepth 100000 in
theorem letters_up (s : ByteArray) (w : World) (hs : s.size ≤ 140737488351232) : Calls Tryd.prog 74 #[.string s, .int .u8 97, .int .i64 (-32)] w (RetPost w (.string ⟨(upL s.data.toList).toArray⟩)) := by
  have hc := Lib.run_convert_string_bytes (P := Tryd.prog) w 9 61 5 s Tryd.underlying9 Tryd.underlying61 Tryd.underlying5
  have hR := RowB.start w 5 s
  have hB := below_bytes w 5 s
  have hl : s.data.toList.length = s.size := by simp
  go_enter Tryd.func74, Tryd.ntmps74
  go_wp2
  clear hc
  go_loopw [14] (fun v wr => ∃ i : Nat, v = .int .i64 i ∧ i ≤ s.size ∧ RowB wr w.heap.size (upTo i s.data.toList) ∧ Below w.heap.size w wr) (fun v _ => s.size - (intOf v).toNat)
  case atStart => exact ⟨0, rfl, by omega, by rw [upTo_zero]; exact hR, hB⟩
  case round =>
    clear hR hB
    obtain ⟨i, rfl, hi, hR, hB⟩ := hrel
    by_cases hlt : i < s.size
    · have hl' : i < s.data.toList.length := by omega
      have hi' : i < (upTo i s.data.toList).length := by rw [upTo_length]; exact hl'
      have c0 := (hR i hi').1
      have f0 := (hR i hi').2
      rw [upTo_at i _ hl'] at c0
      have HS := Lib.hid (fun v => hR.set hi' v)
      have HU := upTo_succ i _ hl'
      obtain ⟨u, hu⟩ : ∃ u, u = s.data.toList[i] := ⟨_, rfl⟩
      have HSame : Hid ((upTo i s.data.toList).set i u = upTo i s.data.toList) := by
        show _ = _
        apply List.ext_getElem (by simp)
        intro j h1 h2
        rw [List.getElem_set]
        split
        · rename_i e; subst e; rw [hu]; exact (upTo_at i _ hl').symm
        · rfl
      rw [← hu] at c0 HU
      have HU' := Lib.hid HU
      have HBl := Lib.hid hB
      have hu8 := UInt8.toNat_lt u
      have HRR := Lib.hid hR
      clear hu HU hR
      by_cases hup : 97 ≤ u.toNat ∧ u.toNat < 123
      · have hx := upU_up u hup
        have m1 : IntKind.i64.wrap (u.toNat : Int) = u.toNat := IntWalk.i64_in _ (by omega)
        have m2 : IntKind.i64.wrap ((u.toNat : Int) + -32) = (upU u).toNat := by rw [hx]; exact IntWalk.i64_in _ (by omega)
        have m2' : IntKind.i64.wrap ((u.toNat : Int) - 32) = (upU u).toNat := by rw [hx]; exact IntWalk.i64_in _ (by omega)
        have m3 : IntKind.u8.wrap ((upU u).toNat : Int) = (upU u).toNat := IntWalk.u8_in _ (by have := UInt8.toNat_lt (upU u); omega)
        have HX := HS.out (upU u)
        rw [← HU'.out] at HX
        have HX' := Lib.hid HX
        obtain ⟨h97, h123⟩ := hup
        clear HS HX hx
        go_wp2
        go_roundw
        case rel => exact ⟨i + 1, by go_num, by omega, HX'.out, HBl.out.setCell (Nat.le_refl _) _⟩
        case measure => simp [intOf]; omega
      · have HX : Hid (RowB wr w.heap.size (upTo (i + 1) s.data.toList)) := by
          show RowB _ _ _
          rw [HU'.out, upU_same u hup, HSame.out]
          exact HRR.out
        have hcase : u.toNat < 97 ∨ (97 ≤ u.toNat ∧ 123 ≤ u.toNat) := by omega
        clear HS hup
        rcases hcase with h97 | ⟨h97, h123⟩
        all_goals
          go_wp2
          go_roundw
          case rel => exact ⟨i + 1, by go_num, by omega, HX.out, HBl.out⟩
          case measure => simp [intOf]; omega
    · obtain rfl : i = s.size := by omega
      have HR2 : RowB wr w.heap.size (upL s.data.toList) := by rw [← upTo_all, hl]; exact hR
      have hlu : (upL s.data.toList).length = s.size := by simp [upL]
      obtain ⟨lu, hlu'⟩ : ∃ lu, lu = upL s.data.toList := ⟨_, rfl⟩
      rw [← hlu'] at HR2 hlu
      have hcv : ∀ cap, (convert 61 9 (.slice (some ⟨w.heap.size, 0, none⟩) s.size cap)).run Tryd.prog wr = .ok (.string ⟨lu.toArray⟩) wr := by
        intro cap
        rw [← hlu]
        refine run_convert_bytes_back wr _ _ 5 _ cap lu Tryd.underlying61 Tryd.underlying5 Tryd.underlying9 fun j hj => ?_
        have e : (⟨w.heap.size, 0, none⟩ : Addr).add j = ⟨w.heap.size, j, none⟩ := by simp [Addr.add]; intro h; exact h.symm
        rw [e]; exact (HR2 j hj).1
      have HBl := Lib.hid hB
      have HLU := Lib.hid hlu'
      clear hR HR2 hlu'
      go_wp2
      ((try simp only [Exit.inBlock, Exit.then]); first | (refine bodyPost_ret (results_tmp rfl _ _ _) rfl ?_) | (refine bodyPost_ret (results_none rfl _ _ _) rfl ?_) | go_ret2 | go_ret3 | (refine bodyPost_ret (by simp [results, Tryd.results74, go_sem]; try rfl) rfl ?_))
      exact ⟨ret_str (by rw [HLU.out]), HBl.out⟩
theorem Upper_any (s : ByteArray) (w : World) (hs : s.size ≤ 140737488351232) : Calls Tryd.prog 62 #[.string s] w (RetPost w (.string ⟨(upL s.data.toList).toArray⟩)) := by
  have HL := Lib.hid (fun w => letters_up s w hs)
  go_enter Tryd.func62, Tryd.ntmps62
  go_wp2_with (go_at_call 74; refine (HL.out _).mono ?_; rintro e w1 ⟨rfl, hb1⟩)
  ((try simp only [Exit.inBlock, Exit.then]); first | (refine bodyPost_ret (results_tmp rfl _ _ _) rfl ?_) | (refine bodyPost_ret (results_none rfl _ _ _) rfl ?_) | go_ret2 | go_ret3 | (refine bodyPost_ret (by simp [results, Tryd.results62, go_sem]; try rfl) rfl ?_))
  exact ⟨rfl, hb1⟩
end Go.Proofs.YtpljbpndooilgaaDoor
