/- The laws of package addr: the two references that a law builds; AddrGood's walk. -/
import Derived.Test.YtpljbpndooilgaaDoorAl
import Derived.Test.YtpljbpndooilgaaDoorAe
import Derived.Test.YtpljbpndooilgaaDoorAt
import Derived.Deep.DeepCutAuto
import Derived.BigRegion
namespace Go.Proofs.YtpljbpndooilgaaDoor
set_option linter.unusedVariables false
set_option linter.unusedSimpArgs false
open Go.RowKit Go.Sort
open Go.ChangeMaps (setBlock)

def upto (n : Nat) (s : ByteArray) : ByteArray := s.extract 0 (if n < s.size then n else s.size)
theorem upto_size (n : Nat) (s : ByteArray) : (upto n s).size ≤ n := by unfold upto; simp; split <;> omega

set_option maxRecDepth 100000 in
set_option maxHeartbeats 80000000 in
theorem fulls_any (b s : ByteArray) (c r c' r' : Int) (f g f' g' wd : Bool) (w : World) (h1 : s.size ≤ 9223372036854775807) (h2 : b.size ≤ 9223372036854775807) :
    Calls Tryd.prog 8 #[lawV b s c r c' r' f g f' g' wd] w (RetPost w (.tuple #[fullV (upto 20 b) (upto 20 s) c r f g c' r' f' g' wd, fullV (upto 20 b) (upto 20 s) c r f g c' r' f' g' wd])) := by
  obtain ⟨nb, hnb⟩ : ∃ nb, nb = (if 20 < b.size then 20 else b.size) := ⟨_, rfl⟩
  obtain ⟨ns, hns⟩ : ∃ ns, ns = (if 20 < s.size then 20 else s.size) := ⟨_, rfl⟩
  have mb : (if (20 : Int) < (b.size : Int) then (20 : Int) else (b.size : Int)) = (nb : Int) := by rw [hnb]; split <;> split <;> omega
  have ms : (if (20 : Int) < (s.size : Int) then (20 : Int) else (s.size : Int)) = (ns : Int) := by rw [hns]; split <;> split <;> omega
  have mb' : min (b.size : Int) 20 = (nb : Int) := by rw [hnb]; split <;> omega
  have ms' : min (s.size : Int) 20 = (ns : Int) := by rw [hns]; split <;> omega
  have lb : nb ≤ b.size := by rw [hnb]; split <;> omega
  have ls : ns ≤ s.size := by rw [hns]; split <;> omega
  unfold upto
  rw [← hnb, ← hns]
  clear hnb hns
  go_enter Tryd.func8, Tryd.ntmps8
  go_wp2
  have BX := ((Box.new w [.string b, .string s, .int .i64 c, .int .i64 r, .int .i64 c', .int .i64 r', .bool f, .bool g, .bool f', .bool g', .bool wd] 25).alloc (.cells #[.string ⟨#[]⟩, .string ⟨#[]⟩, .int .i64 0, .int .i64 0, .bool false, .bool false, .int .i64 0, .int .i64 0, .bool false, .bool false, .bool false] 31)).alloc (.cells #[.string ⟨#[]⟩, .string ⟨#[]⟩, .int .i64 0, .int .i64 0, .bool false, .bool false, .int .i64 0, .int .i64 0, .bool false, .bool false, .bool false] 35)
  have BR := (Box.new (w.alloc (.cells #[.string b, .string s, .int .i64 c, .int .i64 r, .int .i64 c', .int .i64 r', .bool f, .bool g, .bool f', .bool g', .bool wd] 25)) [.string ⟨#[]⟩, .string ⟨#[]⟩, .int .i64 0, .int .i64 0, .bool false, .bool false, .int .i64 0, .int .i64 0, .bool false, .bool false, .bool false] 31).alloc (.cells #[.string ⟨#[]⟩, .string ⟨#[]⟩, .int .i64 0, .int .i64 0, .bool false, .bool false, .int .i64 0, .int .i64 0, .bool false, .bool false, .bool false] 35)
  have BS := Box.new ((w.alloc (.cells #[.string b, .string s, .int .i64 c, .int .i64 r, .int .i64 c', .int .i64 r', .bool f, .bool g, .bool f', .bool g', .bool wd] 25)).alloc (.cells #[.string ⟨#[]⟩, .string ⟨#[]⟩, .int .i64 0, .int .i64 0, .bool false, .bool false, .int .i64 0, .int .i64 0, .bool false, .bool false, .bool false] 31)) [.string ⟨#[]⟩, .string ⟨#[]⟩, .int .i64 0, .int .i64 0, .bool false, .bool false, .int .i64 0, .int .i64 0, .bool false, .bool false, .bool false] 35
  have e1 : (w.alloc (.cells #[.string b, .string s, .int .i64 c, .int .i64 r, .int .i64 c', .int .i64 r', .bool f, .bool g, .bool f', .bool g', .bool wd] 25)).heap.size = w.heap.size + 1 := by simp
  have e2 : ((w.alloc (.cells #[.string b, .string s, .int .i64 c, .int .i64 r, .int .i64 c', .int .i64 r', .bool f, .bool g, .bool f', .bool g', .bool wd] 25)).alloc (.cells #[.string ⟨#[]⟩, .string ⟨#[]⟩, .int .i64 0, .int .i64 0, .bool false, .bool false, .int .i64 0, .int .i64 0, .bool false, .bool false, .bool false] 31)).heap.size = w.heap.size + 1 + 1 := by simp
  rw [e1] at BR; rw [e2] at BS
  clear e1 e2
  have hb0 : Below w.heap.size w (((w.alloc (.cells #[.string b, .string s, .int .i64 c, .int .i64 r, .int .i64 c', .int .i64 r', .bool f, .bool g, .bool f', .bool g', .bool wd] 25)).alloc (.cells #[.string ⟨#[]⟩, .string ⟨#[]⟩, .int .i64 0, .int .i64 0, .bool false, .bool false, .int .i64 0, .int .i64 0, .bool false, .bool false, .bool false] 31)).alloc (.cells #[.string ⟨#[]⟩, .string ⟨#[]⟩, .int .i64 0, .int .i64 0, .bool false, .bool false, .int .i64 0, .int .i64 0, .bool false, .bool false, .bool false] 35)) := Below.stepBox (Below.stepBox (below_box _ _) _) _
  obtain ⟨W1, hW1⟩ : ∃ W1, (((w.alloc (.cells #[.string b, .string s, .int .i64 c, .int .i64 r, .int .i64 c', .int .i64 r', .bool f, .bool g, .bool f', .bool g', .bool wd] 25)).alloc (.cells #[.string ⟨#[]⟩, .string ⟨#[]⟩, .int .i64 0, .int .i64 0, .bool false, .bool false, .int .i64 0, .int .i64 0, .bool false, .bool false, .bool false] 31)).alloc (.cells #[.string ⟨#[]⟩, .string ⟨#[]⟩, .int .i64 0, .int .i64 0, .bool false, .bool false, .int .i64 0, .int .i64 0, .bool false, .bool false, .bool false] 35)) = W1 := ⟨_, rfl⟩
  rw [hW1] at BX BR BS hb0 ⊢
  obtain ⟨bk, hbk⟩ : ∃ bk, bk = w.heap.size := ⟨_, rfl⟩
  rw [← hbk] at BX BR BS ⊢
  clear hW1
  have HBX := Lib.hid BX
  have HBR := Lib.hid BR
  have HBS := Lib.hid BS
  have HB0 := Lib.hid hb0
  have HBK := Lib.hid hbk
  clear hbk hb0 BR BS
  go_cut [] (fun wx => Box wx bk [.string (b.extract 0 nb), .string (s.extract 0 ns), .int .i64 c, .int .i64 r, .int .i64 c', .int .i64 r', .bool f, .bool g, .bool f', .bool g', .bool wd] ∧ Box wx (bk + 1) [.string ⟨#[]⟩, .string ⟨#[]⟩, .int .i64 0, .int .i64 0, .bool false, .bool false, .int .i64 0, .int .i64 0, .bool false, .bool false, .bool false] ∧ Box wx (bk + 1 + 1) [.string ⟨#[]⟩, .string ⟨#[]⟩, .int .i64 0, .int .i64 0, .bool false, .bool false, .int .i64 0, .int .i64 0, .bool false, .bool false, .bool false] ∧ Below w.heap.size w wx)
  case first =>
    have c0 := BX.at 0 rfl
    have c1 := BX.at 1 rfl
    have d0 := BX.free 0 rfl
    have d1 := BX.free 1 rfl
    have HR : Hid (Box ((W1.setCell ⟨bk, 0, none⟩ (.string (b.extract 0 nb))).setCell ⟨bk, 1, none⟩ (.string (s.extract 0 ns))).drew bk [.string (b.extract 0 nb), .string (s.extract 0 ns), .int .i64 c, .int .i64 r, .int .i64 c', .int .i64 r', .bool f, .bool g, .bool f', .bool g', .bool wd] ∧ Box ((W1.setCell ⟨bk, 0, none⟩ (.string (b.extract 0 nb))).setCell ⟨bk, 1, none⟩ (.string (s.extract 0 ns))).drew (bk + 1) [.string ⟨#[]⟩, .string ⟨#[]⟩, .int .i64 0, .int .i64 0, .bool false, .bool false, .int .i64 0, .int .i64 0, .bool false, .bool false, .bool false] ∧ Box ((W1.setCell ⟨bk, 0, none⟩ (.string (b.extract 0 nb))).setCell ⟨bk, 1, none⟩ (.string (s.extract 0 ns))).drew (bk + 1 + 1) [.string ⟨#[]⟩, .string ⟨#[]⟩, .int .i64 0, .int .i64 0, .bool false, .bool false, .int .i64 0, .int .i64 0, .bool false, .bool false, .bool false] ∧ Below w.heap.size w ((W1.setCell ⟨bk, 0, none⟩ (.string (b.extract 0 nb))).setCell ⟨bk, 1, none⟩ (.string (s.extract 0 ns))).drew) :=
      ⟨((HBX.out.set 0 _).set 1 _).below (Below.stepDrew (Below.refl _ _)), ((HBR.out.other ⟨bk, 0, none⟩ (show bk ≠ bk + 1 by omega) _).other ⟨bk, 1, none⟩ (show bk ≠ bk + 1 by omega) _).below (Below.stepDrew (Below.refl _ _)), ((HBS.out.other ⟨bk, 0, none⟩ (show bk ≠ bk + 1 + 1 by omega) _).other ⟨bk, 1, none⟩ (show bk ≠ bk + 1 + 1 by omega) _).below (Below.stepDrew (Below.refl _ _)), by
        have := HBK.out
        exact Below.stepDrew ((HB0.out.setCell (show w.heap.size ≤ bk by omega) _).setCell (show w.heap.size ≤ bk by omega) _)⟩
    clear BX
    have HMb := Lib.hid mb'; have HMs := Lib.hid ms'
    clear mb' ms' HBX HBR HBS HB0 HBK
    go_big_region
    all_goals (go_wp2_with fail; go_meet; rw [HMb.out, HMs.out, Int.toNat_natCast, Int.toNat_natCast]; exact HR.out)
  case rest =>
    clear BX HBX HBR HBS HB0
    obtain ⟨BX, BR, BS, hbx⟩ := hcut
    have m0 := BX.at 0 rfl; have mf0 := BX.free 0 rfl; have m1 := BX.at 1 rfl; have mf1 := BX.free 1 rfl; have m2 := BX.at 2 rfl; have mf2 := BX.free 2 rfl; have m3 := BX.at 3 rfl; have mf3 := BX.free 3 rfl; have m4 := BX.at 4 rfl; have mf4 := BX.free 4 rfl; have m5 := BX.at 5 rfl; have mf5 := BX.free 5 rfl; have m6 := BX.at 6 rfl; have mf6 := BX.free 6 rfl; have m7 := BX.at 7 rfl; have mf7 := BX.free 7 rfl; have m8 := BX.at 8 rfl; have mf8 := BX.free 8 rfl; have m9 := BX.at 9 rfl; have mf9 := BX.free 9 rfl; have m10 := BX.at 10 rfl; have mf10 := BX.free 10 rfl
    have l0 := fun o => (BX.alloc o).at 0 rfl; have lf0 := fun o => (BX.alloc o).free 0 rfl; have l1 := fun o => (BX.alloc o).at 1 rfl; have lf1 := fun o => (BX.alloc o).free 1 rfl; have l2 := fun o => (BX.alloc o).at 2 rfl; have lf2 := fun o => (BX.alloc o).free 2 rfl; have l3 := fun o => (BX.alloc o).at 3 rfl; have lf3 := fun o => (BX.alloc o).free 3 rfl; have l4 := fun o => (BX.alloc o).at 4 rfl; have lf4 := fun o => (BX.alloc o).free 4 rfl; have l5 := fun o => (BX.alloc o).at 5 rfl; have lf5 := fun o => (BX.alloc o).free 5 rfl; have l6 := fun o => (BX.alloc o).at 6 rfl; have lf6 := fun o => (BX.alloc o).free 6 rfl; have l7 := fun o => (BX.alloc o).at 7 rfl; have lf7 := fun o => (BX.alloc o).free 7 rfl; have l8 := fun o => (BX.alloc o).at 8 rfl; have lf8 := fun o => (BX.alloc o).free 8 rfl; have l9 := fun o => (BX.alloc o).at 9 rfl; have lf9 := fun o => (BX.alloc o).free 9 rfl; have l10 := fun o => (BX.alloc o).at 10 rfl; have lf10 := fun o => (BX.alloc o).free 10 rfl
    go_wp2_with fail
    have BR9 := (BR.alloc (.cells #[.string (b.extract 0 nb), .string (s.extract 0 ns), .int .i64 c, .int .i64 r, .bool f, .bool g, .int .i64 c', .int .i64 r', .bool f', .bool g', .bool wd] 31)).alloc (.cells #[.string (b.extract 0 nb), .string (s.extract 0 ns), .int .i64 c, .int .i64 r, .bool f, .bool g, .int .i64 c', .int .i64 r', .bool f', .bool g', .bool wd] 35)
    have BS9 := (BS.alloc (.cells #[.string (b.extract 0 nb), .string (s.extract 0 ns), .int .i64 c, .int .i64 r, .bool f, .bool g, .int .i64 c', .int .i64 r', .bool f', .bool g', .bool wd] 31)).alloc (.cells #[.string (b.extract 0 nb), .string (s.extract 0 ns), .int .i64 c, .int .i64 r, .bool f, .bool g, .int .i64 c', .int .i64 r', .bool f', .bool g', .bool wd] 35)
    have BA9 := (Box.new wc [.string (b.extract 0 nb), .string (s.extract 0 ns), .int .i64 c, .int .i64 r, .bool f, .bool g, .int .i64 c', .int .i64 r', .bool f', .bool g', .bool wd] 31).alloc (.cells #[.string (b.extract 0 nb), .string (s.extract 0 ns), .int .i64 c, .int .i64 r, .bool f, .bool g, .int .i64 c', .int .i64 r', .bool f', .bool g', .bool wd] 35)
    have BB9 := Box.new (wc.alloc (.cells #[.string (b.extract 0 nb), .string (s.extract 0 ns), .int .i64 c, .int .i64 r, .bool f, .bool g, .int .i64 c', .int .i64 r', .bool f', .bool g', .bool wd] 31)) [.string (b.extract 0 nb), .string (s.extract 0 ns), .int .i64 c, .int .i64 r, .bool f, .bool g, .int .i64 c', .int .i64 r', .bool f', .bool g', .bool wd] 35
    have esz : (wc.alloc (.cells #[.string (b.extract 0 nb), .string (s.extract 0 ns), .int .i64 c, .int .i64 r, .bool f, .bool g, .int .i64 c', .int .i64 r', .bool f', .bool g', .bool wd] 31)).heap.size = wc.heap.size + 1 := by simp
    rw [esz] at BB9
    have hb9 := Below.stepBox (Below.stepBox hbx (.cells #[.string (b.extract 0 nb), .string (s.extract 0 ns), .int .i64 c, .int .i64 r, .bool f, .bool g, .int .i64 c', .int .i64 r', .bool f', .bool g', .bool wd] 31)) (.cells #[.string (b.extract 0 nb), .string (s.extract 0 ns), .int .i64 c, .int .i64 r, .bool f, .bool g, .int .i64 c', .int .i64 r', .bool f', .bool g', .bool wd] 35)
    have lt1 := BR.lt
    have lt2 := BS.lt
    obtain ⟨W9, hW9⟩ : ∃ W9, (wc.alloc (.cells #[.string (b.extract 0 nb), .string (s.extract 0 ns), .int .i64 c, .int .i64 r, .bool f, .bool g, .int .i64 c', .int .i64 r', .bool f', .bool g', .bool wd] 31)).alloc (.cells #[.string (b.extract 0 nb), .string (s.extract 0 ns), .int .i64 c, .int .i64 r, .bool f, .bool g, .int .i64 c', .int .i64 r', .bool f', .bool g', .bool wd] 35) = W9 := ⟨_, rfl⟩
    rw [hW9] at BR9 BS9 BA9 BB9 hb9 ⊢
    clear hW9 esz hbx BX BR BS
    obtain ⟨k9, hk9⟩ : ∃ k9, k9 = wc.heap.size := ⟨_, rfl⟩
    rw [← hk9] at BA9 BB9 lt1 lt2 ⊢
    clear hk9 m0 mf0 m1 mf1 m2 mf2 m3 mf3 m4 mf4 m5 mf5 m6 mf6 m7 mf7 m8 mf8 m9 mf9 m10 mf10 l0 lf0 l1 lf1 l2 lf2 l3 lf3 l4 lf4 l5 lf5 l6 lf6 l7 lf7 l8 lf8 l9 lf9 l10 lf10
    have ne1 : bk + 1 + 1 ≠ bk + 1 := by omega
    have ne2 : bk + 1 ≠ bk + 1 + 1 := by omega
    have HN : ∃ W, ((((((((((((((((((((((W9.setCell ⟨bk + 1, 0, none⟩ (.string (b.extract 0 nb))).setCell ⟨bk + 1, 1, none⟩ (.string (s.extract 0 ns))).setCell ⟨bk + 1, 2, none⟩ (.int .i64 c)).setCell ⟨bk + 1, 3, none⟩ (.int .i64 r)).setCell ⟨bk + 1, 4, none⟩ (.bool f)).setCell ⟨bk + 1, 5, none⟩ (.bool g)).setCell ⟨bk + 1, 6, none⟩ (.int .i64 c')).setCell ⟨bk + 1, 7, none⟩ (.int .i64 r')).setCell ⟨bk + 1, 8, none⟩ (.bool f')).setCell ⟨bk + 1, 9, none⟩ (.bool g')).setCell ⟨bk + 1, 10, none⟩ (.bool wd)).setCell ⟨bk + 1 + 1, 0, none⟩ (.string (b.extract 0 nb))).setCell ⟨bk + 1 + 1, 1, none⟩ (.string (s.extract 0 ns))).setCell ⟨bk + 1 + 1, 2, none⟩ (.int .i64 c)).setCell ⟨bk + 1 + 1, 3, none⟩ (.int .i64 r)).setCell ⟨bk + 1 + 1, 4, none⟩ (.bool f)).setCell ⟨bk + 1 + 1, 5, none⟩ (.bool g)).setCell ⟨bk + 1 + 1, 6, none⟩ (.int .i64 c')).setCell ⟨bk + 1 + 1, 7, none⟩ (.int .i64 r')).setCell ⟨bk + 1 + 1, 8, none⟩ (.bool f')).setCell ⟨bk + 1 + 1, 9, none⟩ (.bool g')).setCell ⟨bk + 1 + 1, 10, none⟩ (.bool wd)).drew = W ∧ Box W (bk + 1) [.string (b.extract 0 nb), .string (s.extract 0 ns), .int .i64 c, .int .i64 r, .bool f, .bool g, .int .i64 c', .int .i64 r', .bool f', .bool g', .bool wd] ∧ Box W (bk + 1 + 1) [.string (b.extract 0 nb), .string (s.extract 0 ns), .int .i64 c, .int .i64 r, .bool f, .bool g, .int .i64 c', .int .i64 r', .bool f', .bool g', .bool wd] ∧ Below w.heap.size w W := by
      have le1 : w.heap.size ≤ bk + 1 := by have := HBK.out; omega
      have le2 : w.heap.size ≤ bk + 1 + 1 := by have := HBK.out; omega
      exact ⟨_, rfl, ((((((((((((((((((((((BR9.set 0 _).set 1 _).set 2 _).set 3 _).set 4 _).set 5 _).set 6 _).set 7 _).set 8 _).set 9 _).set 10 _).other ⟨bk + 1 + 1, 0, none⟩ ne1 _).other ⟨bk + 1 + 1, 1, none⟩ ne1 _).other ⟨bk + 1 + 1, 2, none⟩ ne1 _).other ⟨bk + 1 + 1, 3, none⟩ ne1 _).other ⟨bk + 1 + 1, 4, none⟩ ne1 _).other ⟨bk + 1 + 1, 5, none⟩ ne1 _).other ⟨bk + 1 + 1, 6, none⟩ ne1 _).other ⟨bk + 1 + 1, 7, none⟩ ne1 _).other ⟨bk + 1 + 1, 8, none⟩ ne1 _).other ⟨bk + 1 + 1, 9, none⟩ ne1 _).other ⟨bk + 1 + 1, 10, none⟩ ne1 _).below (Below.stepDrew (Below.refl _ _)), ((((((((((((((((((((((BS9.other ⟨bk + 1, 0, none⟩ ne2 _).other ⟨bk + 1, 1, none⟩ ne2 _).other ⟨bk + 1, 2, none⟩ ne2 _).other ⟨bk + 1, 3, none⟩ ne2 _).other ⟨bk + 1, 4, none⟩ ne2 _).other ⟨bk + 1, 5, none⟩ ne2 _).other ⟨bk + 1, 6, none⟩ ne2 _).other ⟨bk + 1, 7, none⟩ ne2 _).other ⟨bk + 1, 8, none⟩ ne2 _).other ⟨bk + 1, 9, none⟩ ne2 _).other ⟨bk + 1, 10, none⟩ ne2 _).set 0 _).set 1 _).set 2 _).set 3 _).set 4 _).set 5 _).set 6 _).set 7 _).set 8 _).set 9 _).set 10 _).below (Below.stepDrew (Below.refl _ _)), Below.stepDrew ((((((((((((((((((((((hb9.setCell le1 _).setCell le1 _).setCell le1 _).setCell le1 _).setCell le1 _).setCell le1 _).setCell le1 _).setCell le1 _).setCell le1 _).setCell le1 _).setCell le1 _).setCell le2 _).setCell le2 _).setCell le2 _).setCell le2 _).setCell le2 _).setCell le2 _).setCell le2 _).setCell le2 _).setCell le2 _).setCell le2 _).setCell le2 _)⟩
    have n1 : ¬ k9 = bk + 1 := by omega
    have n2 : ¬ k9 = bk + 1 + 1 := by omega
    have n3 : ¬ k9 + 1 = bk + 1 := by omega
    have n4 : ¬ k9 + 1 = bk + 1 + 1 := by omega
    have n5 : ¬ bk + 1 = k9 := by omega
    have n6 : ¬ bk + 1 + 1 = k9 := by omega
    have n7 : ¬ bk + 1 = k9 + 1 := by omega
    have n8 : ¬ bk + 1 + 1 = k9 + 1 := by omega
    have p0 := BA9.at 0 rfl; have pf0 := BA9.free 0 rfl; have p1 := BA9.at 1 rfl; have pf1 := BA9.free 1 rfl; have p2 := BA9.at 2 rfl; have pf2 := BA9.free 2 rfl; have p3 := BA9.at 3 rfl; have pf3 := BA9.free 3 rfl; have p4 := BA9.at 4 rfl; have pf4 := BA9.free 4 rfl; have p5 := BA9.at 5 rfl; have pf5 := BA9.free 5 rfl; have p6 := BA9.at 6 rfl; have pf6 := BA9.free 6 rfl; have p7 := BA9.at 7 rfl; have pf7 := BA9.free 7 rfl; have p8 := BA9.at 8 rfl; have pf8 := BA9.free 8 rfl; have p9 := BA9.at 9 rfl; have pf9 := BA9.free 9 rfl; have p10 := BA9.at 10 rfl; have pf10 := BA9.free 10 rfl
    have q0 := BB9.at 0 rfl; have qf0 := BB9.free 0 rfl; have q1 := BB9.at 1 rfl; have qf1 := BB9.free 1 rfl; have q2 := BB9.at 2 rfl; have qf2 := BB9.free 2 rfl; have q3 := BB9.at 3 rfl; have qf3 := BB9.free 3 rfl; have q4 := BB9.at 4 rfl; have qf4 := BB9.free 4 rfl; have q5 := BB9.at 5 rfl; have qf5 := BB9.free 5 rfl; have q6 := BB9.at 6 rfl; have qf6 := BB9.free 6 rfl; have q7 := BB9.at 7 rfl; have qf7 := BB9.free 7 rfl; have q8 := BB9.at 8 rfl; have qf8 := BB9.free 8 rfl; have q9 := BB9.at 9 rfl; have qf9 := BB9.free 9 rfl; have q10 := BB9.at 10 rfl; have qf10 := BB9.free 10 rfl
    have x0 := BR9.at 0 rfl; have xf0 := BR9.free 0 rfl; have x1 := BR9.at 1 rfl; have xf1 := BR9.free 1 rfl; have x2 := BR9.at 2 rfl; have xf2 := BR9.free 2 rfl; have x3 := BR9.at 3 rfl; have xf3 := BR9.free 3 rfl; have x4 := BR9.at 4 rfl; have xf4 := BR9.free 4 rfl; have x5 := BR9.at 5 rfl; have xf5 := BR9.free 5 rfl; have x6 := BR9.at 6 rfl; have xf6 := BR9.free 6 rfl; have x7 := BR9.at 7 rfl; have xf7 := BR9.free 7 rfl; have x8 := BR9.at 8 rfl; have xf8 := BR9.free 8 rfl; have x9 := BR9.at 9 rfl; have xf9 := BR9.free 9 rfl; have x10 := BR9.at 10 rfl; have xf10 := BR9.free 10 rfl
    have y0 := BS9.at 0 rfl; have yf0 := BS9.free 0 rfl; have y1 := BS9.at 1 rfl; have yf1 := BS9.free 1 rfl; have y2 := BS9.at 2 rfl; have yf2 := BS9.free 2 rfl; have y3 := BS9.at 3 rfl; have yf3 := BS9.free 3 rfl; have y4 := BS9.at 4 rfl; have yf4 := BS9.free 4 rfl; have y5 := BS9.at 5 rfl; have yf5 := BS9.free 5 rfl; have y6 := BS9.at 6 rfl; have yf6 := BS9.free 6 rfl; have y7 := BS9.at 7 rfl; have yf7 := BS9.free 7 rfl; have y8 := BS9.at 8 rfl; have yf8 := BS9.free 8 rfl; have y9 := BS9.at 9 rfl; have yf9 := BS9.free 9 rfl; have y10 := BS9.at 10 rfl; have yf10 := BS9.free 10 rfl
    have HN' := Lib.hid HN
    clear HN BA9 BB9 BR9 BS9 hb9
    go_region_with (fail)
    all_goals
      obtain ⟨W, hW, BRR, BSS, hB⟩ := HN'.out
      rw [hW]
      clear hW HN'
      have z0 := BRR.at 0 rfl; have zf0 := BRR.free 0 rfl; have z1 := BRR.at 1 rfl; have zf1 := BRR.free 1 rfl; have z2 := BRR.at 2 rfl; have zf2 := BRR.free 2 rfl; have z3 := BRR.at 3 rfl; have zf3 := BRR.free 3 rfl; have z4 := BRR.at 4 rfl; have zf4 := BRR.free 4 rfl; have z5 := BRR.at 5 rfl; have zf5 := BRR.free 5 rfl; have z6 := BRR.at 6 rfl; have zf6 := BRR.free 6 rfl; have z7 := BRR.at 7 rfl; have zf7 := BRR.free 7 rfl; have z8 := BRR.at 8 rfl; have zf8 := BRR.free 8 rfl; have z9 := BRR.at 9 rfl; have zf9 := BRR.free 9 rfl; have z10 := BRR.at 10 rfl; have zf10 := BRR.free 10 rfl
      have v0 := BSS.at 0 rfl; have vf0 := BSS.free 0 rfl; have v1 := BSS.at 1 rfl; have vf1 := BSS.free 1 rfl; have v2 := BSS.at 2 rfl; have vf2 := BSS.free 2 rfl; have v3 := BSS.at 3 rfl; have vf3 := BSS.free 3 rfl; have v4 := BSS.at 4 rfl; have vf4 := BSS.free 4 rfl; have v5 := BSS.at 5 rfl; have vf5 := BSS.free 5 rfl; have v6 := BSS.at 6 rfl; have vf6 := BSS.free 6 rfl; have v7 := BSS.at 7 rfl; have vf7 := BSS.free 7 rfl; have v8 := BSS.at 8 rfl; have vf8 := BSS.free 8 rfl; have v9 := BSS.at 9 rfl; have vf9 := BSS.free 9 rfl; have v10 := BSS.at 10 rfl; have vf10 := BSS.free 10 rfl
      go_wp2
      refine bodyPost_ret (v := .tuple #[fullV (b.extract 0 nb) (s.extract 0 ns) c r f g c' r' f' g' wd, fullV (b.extract 0 nb) (s.extract 0 ns) c r f g c' r' f' g' wd]) (by simp [results, Tryd.results8, go_sem, z0, z1, z2, z3, z4, z5, z6, z7, z8, z9, z10, v0, v1, v2, v3, v4, v5, v6, v7, v8, v9, v10]) rfl ?_
      exact ⟨rfl, hB⟩
end Go.Proofs.YtpljbpndooilgaaDoor
