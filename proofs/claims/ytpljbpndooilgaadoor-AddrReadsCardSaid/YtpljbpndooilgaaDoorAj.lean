/- What a text begins with: a column, a row; the cell that it names. -/
import Derived.Test.YtpljbpndooilgaaDoorAi
import Derived.Test.YtpljbpndooilgaaDoorAc
namespace Go.Proofs.YtpljbpndooilgaaDoor
set_option linter.unusedVariables false
set_option linter.unusedSimpArgs false
open Go.RowKit Go.Sort
open Go.ChangeMaps (setBlock)

theorem box_free {w w' : World} {xs : Array Value} {T : Nat} (h : Below (w.alloc (.cells xs T)).heap.size (w.alloc (.cells xs T)) w') (i : Nat) : w'.frozen? ⟨w.heap.size, i, none⟩ = false := by
  have k : (w.alloc (.cells xs T)).heap[w.heap.size]? = some (.cells xs T) := heap_alloc_new w _
  rw [h.frozen (p := ⟨w.heap.size, i, none⟩) (lt_of_block k)]
  simp only [World.frozen?, k]
  simp

def fixOn (s : ByteArray) : Bool := Lib.hasPrefix s.data.toList [36]
def restB (s : ByteArray) : ByteArray := ⟨(Lib.trimPrefix s.data.toList [36]).toArray⟩
theorem restB_size (s : ByteArray) : (restB s).size ≤ s.size := by
  show (Lib.trimPrefix s.data.toList [36]).toArray.size ≤ s.size
  unfold Lib.trimPrefix
  split <;> simp

theorem CutFix (s : ByteArray) (w : World) : Calls Tryd.prog 57 #[.string s, .string ⟨#[36]⟩] w fun e w' => e = .returned (.tuple #[.string (restB s), .bool (fixOn s)]) ∧ w = w' := by
  refine (Tryd.strings_CutPrefix s ⟨#[36]⟩ w).mono ?_
  rintro e w' ⟨rfl, rfl⟩
  exact ⟨rfl, rfl⟩

def partV (set : ByteArray) (most : Nat) (s : ByteArray) : Value :=
  if 1 ≤ pre set (restB s) ∧ pre set (restB s) ≤ most then .tuple #[.string ((restB s).extract 0 (pre set (restB s))), .bool (fixOn s), .string ((restB s).extract (pre set (restB s)) (restB s).size), .bool true]
  else .tuple #[.string ⟨#[]⟩, .bool false, .string ⟨#[]⟩, .bool false]

set_option maxRecDepth 100000 in
theorem part_any (set s : ByteArray) (most : Nat) (w : World) (hset : ∀ b ∈ set.data.toList, b.toNat < 128) (hm : most ≤ 100) (h1 : s.size ≤ 140737488351232) (h2 : set.size ≤ 140737488351232) :
    Calls Tryd.prog 54 #[.string s, .string set, .int .i64 most] w (RetPost w (partV set most s)) := by
  have HC := Lib.hid (fun w => CutFix s w)
  have hr := restB_size s
  have HR := Lib.hid (fun w => run_any set (restB s) w hset (by omega) h2)
  have hp := pre_le set (restB s)
  obtain ⟨q, hq⟩ : ∃ q, q = restB s := ⟨_, rfl⟩
  obtain ⟨on, hon⟩ : ∃ on, on = fixOn s := ⟨_, rfl⟩
  rw [← hq] at HR hp HC hr; rw [← hon] at HC
  obtain ⟨n, hn⟩ : ∃ n, n = pre set q := ⟨_, rfl⟩
  rw [← hn] at HR hp
  have HVe : partV set most s = if 1 ≤ n ∧ n ≤ most then .tuple #[.string (q.extract 0 n), .bool on, .string (q.extract n q.size), .bool true] else .tuple #[.string ⟨#[]⟩, .bool false, .string ⟨#[]⟩, .bool false] := by
    unfold partV; rw [← hq, ← hon, ← hn]
  clear hset hq hon hn
  by_cases hok : 1 ≤ n ∧ n ≤ most
  · have HV2 := Lib.hid (HVe.trans (if_pos hok)).symm
    obtain ⟨a1, a2⟩ := hok
    clear HVe
    go_enter Tryd.func54, Tryd.ntmps54
    go_wp2_with fail
    refine (HC.out _).mono ?_; rintro e w1 ⟨rfl, rfl⟩
    go_wp2_with fail
    refine (HR.out _).mono ?_; rintro e w2 ⟨rfl, hb2⟩
    go_wp2_with fail
    refine wp_region_quiet_below (by kernel_rfl) (by kernel_rfl) ?_
    repeat (quiet_step (fail))
    refine wpQuiet_nil ?_
    intro _ hw'
    obtain ⟨⟨dq, osq⟩, hw''⟩ := hw'
    subst hw''
    have hq := below_regrown w2 dq osq
    go_wp2
    ((try simp only [Exit.inBlock, Exit.then]); first | (refine bodyPost_ret (results_tmp rfl _ _ _) rfl ?_) | (refine bodyPost_ret (results_none rfl _ _ _) rfl ?_) | go_ret2 | go_ret3 | (refine bodyPost_ret (by simp [results, Tryd.results54, go_sem]; try rfl) rfl ?_))
    exact ⟨congrArg Ending.returned HV2.out, by (repeat (first | exact Below.refl _ _ | exact below_box _ _ | refine Below.stepBox ?_ _ | refine Below.stepDrew ?_ | refine Below.stepDrewN ?_ _ | refine Below.step (by assumption) ?_))⟩
  · have HV2 := Lib.hid (HVe.trans (if_neg hok)).symm
    have hcase : n < 1 ∨ (1 ≤ n ∧ most < n) := by omega
    clear HVe hok
    rcases hcase with a1 | ⟨a1, a2⟩
    all_goals
      go_enter Tryd.func54, Tryd.ntmps54
      go_wp2_with fail
      refine (HC.out _).mono ?_; rintro e w1 ⟨rfl, rfl⟩
      go_wp2_with fail
      refine (HR.out _).mono ?_; rintro e w2 ⟨rfl, hb2⟩
      go_wp2_with fail
      ((try simp only [Exit.inBlock, Exit.then]); first | (refine bodyPost_ret (results_tmp rfl _ _ _) rfl ?_) | (refine bodyPost_ret (results_none rfl _ _ _) rfl ?_) | go_ret2 | go_ret3 | (refine bodyPost_ret (by simp [results, Tryd.results54, go_sem]; try rfl) rfl ?_))
      exact ⟨congrArg Ending.returned HV2.out, by (repeat (first | exact Below.refl _ _ | exact below_box _ _ | refine Below.stepBox ?_ _ | refine Below.stepDrew ?_ | refine Below.stepDrewN ?_ _ | refine Below.step (by assumption) ?_))⟩

def setLet : ByteArray := ⟨#[65, 66, 67, 68, 69, 70, 71, 72, 73, 74, 75, 76, 77, 78, 79, 80, 81, 82, 83, 84, 85, 86, 87, 88, 89, 90, 97, 98, 99, 100, 101, 102, 103, 104, 105, 106, 107, 108, 109, 110, 111, 112, 113, 114, 115, 116, 117, 118, 119, 120, 121, 122]⟩
theorem setLet_low : ∀ b ∈ setLet.data.toList, b.toNat < 128 := by decide
theorem setLet_is (b : UInt8) : inSet setLet b = letterB b.toNat := by
  have h : ∀ n, n < 256 → inSet setLet (UInt8.ofNat n) = letterB n := by decide +kernel
  have := h b.toNat (UInt8.toNat_lt b)
  rwa [UInt8.ofNat_toNat] at this

def numF (l : List UInt8) : Nat := l.foldl (fun n b => n * 26 + ((upU b).toNat - 64)) 0
theorem upU_let (b : UInt8) (h : letterB b.toNat = true) : 65 ≤ (upU b).toNat ∧ (upU b).toNat ≤ 90 := by
  have hh : ∀ n : Nat, n < 256 → letterB n = true → 65 ≤ (upU (UInt8.ofNat n)).toNat ∧ (upU (UInt8.ofNat n)).toNat ≤ 90 := by decide +kernel
  have := hh b.toNat (UInt8.toNat_lt b) h
  rwa [UInt8.ofNat_toNat] at this
theorem numF_take (l : List UInt8) (i : Nat) (h : i < l.length) : numF (l.take (i + 1)) = numF (l.take i) * 26 + ((upU l[i]).toNat - 64) := by
  unfold numF
  rw [List.take_succ_eq_append_getElem h, List.foldl_append]; rfl
theorem numF_bound (l : List UInt8) (h : ∀ b ∈ l, letterB b.toNat = true) : numF l < 27 ^ l.length := by
  unfold numF
  suffices ∀ (l : List UInt8) (a k : Nat), (∀ b ∈ l, letterB b.toNat = true) → a < 27 ^ k → l.foldl (fun n b => n * 26 + ((upU b).toNat - 64)) a < 27 ^ (k + l.length) by
    have := this l 0 0 h (by decide); simpa using this
  intro l
  induction l with
  | nil => intro a k _ h; simpa using h
  | cons b r ih =>
    intro a k hl ha
    have hb := upU_let b (hl b (by simp))
    simp only [List.foldl_cons, List.length_cons]
    have := ih (a * 26 + ((upU b).toNat - 64)) (k + 1) (fun x hx => hl x (by simp [hx])) (by rw [Nat.pow_succ]; omega)
    rwa [show k + 1 + r.length = k + (r.length + 1) by omega] at this

set_option maxRecDepth 100000 in
theorem number_any (s : ByteArray) (w : World) (h3 : s.size ≤ 3) (hl : ∀ b ∈ s.data.toList, letterB b.toNat = true) :
    Calls Tryd.prog 56 #[.string s] w (RetPost w (.int .i64 ((numF s.data.toList : Int) - 1))) := by
  have HU := Lib.hid (fun w => Upper_any s w (by omega))
  obtain ⟨u, hu⟩ : ∃ u : ByteArray, u = ⟨(upL s.data.toList).toArray⟩ := ⟨_, rfl⟩
  rw [← hu] at HU
  have hud : u.data.toList = upL s.data.toList := by rw [hu]
  have hus : u.size = s.size := by rw [hu]; show (upL s.data.toList).toArray.size = s.size; simp [upL]
  have hls : s.data.toList.length = s.size := by simp
  have HF : Hid (∀ i (h : i < u.size), 65 ≤ (u.data.toList[i]'(by simpa using h)).toNat ∧ (u.data.toList[i]'(by simpa using h)).toNat ≤ 90 ∧ numF (s.data.toList.take (i + 1)) = numF (s.data.toList.take i) * 26 + ((u.data.toList[i]'(by simpa using h)).toNat - 64) ∧ numF (s.data.toList.take i) ≤ 27 ^ 3) := by
    intro i h
    have hi : i < s.data.toList.length := by omega
    have e : u.data.toList[i]'(by simpa using h) = upU s.data.toList[i] := by simp only [hud, upL, List.getElem_map]
    rw [e]
    have hb := upU_let s.data.toList[i] (hl _ (List.getElem_mem _))
    refine ⟨hb.1, hb.2, numF_take _ _ hi, Nat.le_of_lt (Nat.lt_of_lt_of_le (numF_bound _ fun b hb => hl b (List.mem_of_mem_take hb)) (Nat.pow_le_pow_right (by decide) (by simp; omega)))⟩
  have HBd : Hid (numF s.data.toList ≤ 20000) := by
    have := numF_bound s.data.toList hl
    have := Nat.lt_of_lt_of_le this (Nat.pow_le_pow_right (by decide) (show s.data.toList.length ≤ 3 by omega))
    show _ ≤ _
    omega
  have HA : Hid (numF (s.data.toList.take u.size) = numF s.data.toList) := by show _ = _; rw [List.take_of_length_le (by omega)]
  clear hu hud hl hls
  go_enter Tryd.func56, Tryd.ntmps56
  go_wp2_with fail
  refine (HU.out _).mono ?_; rintro e w1 ⟨rfl, hb1⟩
  have hc := Lib.run_convert_string_bytes (P := Tryd.prog) w1 9 61 5 u Tryd.underlying9 Tryd.underlying61 Tryd.underlying5
  have hB := below_bytes w1 5 u
  have hR := Lib.hid (RowB.start w1 5 u)
  go_wp2_with fail
  clear hc
  obtain ⟨w2, hw2⟩ : ∃ w2, w2 = Lib.bytesWorld w1 5 u := ⟨_, rfl⟩
  rw [← hw2] at hB hR ⊢
  clear hw2
  go_loop [3, 10] (fun v3 v10 => ∃ i : Nat, i ≤ u.size ∧ v3 = .int .i64 (numF (s.data.toList.take i)) ∧ v10 = .int .i64 i) (fun _ v10 => u.size - (intOf v10).toNat)
  case atStart => exact ⟨0, by omega, by simp [numF], rfl⟩
  case round =>
    obtain ⟨i, hi, rfl, rfl⟩ := hrel
    by_cases hlt : i < u.size
    · have hF := HF.out i hlt
      have c0 := (hR.out i (by simpa using hlt)).1
      obtain ⟨x, hx⟩ : ∃ x, x = u.data.toList[i]'(by simpa using hlt) := ⟨_, rfl⟩
      rw [← hx] at hF c0
      obtain ⟨f1, f2, f3, f4⟩ := hF
      obtain ⟨N, hN⟩ : ∃ N, N = numF (s.data.toList.take i) := ⟨_, rfl⟩
      rw [← hN] at f3 f4 ⊢
      have F3 := Lib.hid f3
      clear hx hN f3
      have m1 : IntKind.u8.wrap ((x.toNat : Int) - 65) = x.toNat - 65 := IntWalk.u8_in _ (by omega)
      have m2 : IntKind.i64.wrap ((x.toNat : Int) - 65) = x.toNat - 65 := IntWalk.i64_in _ (by omega)
      have m3 : IntKind.i64.wrap ((N : Int) * 26) = N * 26 := IntWalk.i64_in _ (by omega)
      have m4 : IntKind.i64.wrap ((N : Int) * 26 + ((x.toNat : Int) - 65)) = N * 26 + (x.toNat - 65) := IntWalk.i64_in _ (by omega)
      have m5 : IntKind.i64.wrap ((N : Int) * 26 + ((x.toNat : Int) - 65) + 1) = N * 26 + (x.toNat - 65) + 1 := IntWalk.i64_in _ (by omega)
      go_wp2
      go_round
      case rel => exact ⟨i + 1, by omega, by rw [F3.out]; go_num, by go_num⟩
      case measure => simp [intOf]; omega
    · obtain rfl : i = u.size := by omega
      rw [HA.out]
      have hb27 := HBd.out
      obtain ⟨N, hN⟩ : ∃ N, N = numF s.data.toList := ⟨_, rfl⟩
      rw [← hN] at hb27 ⊢
      have m1 : IntKind.i64.wrap ((N : Int) - 1) = N - 1 := IntWalk.i64_in _ (by omega)
      have HN := Lib.hid hN
      clear hN
      go_wp2
      ((try simp only [Exit.inBlock, Exit.then]); first | (refine bodyPost_ret (results_tmp rfl _ _ _) rfl ?_) | (refine bodyPost_ret (results_none rfl _ _ _) rfl ?_) | go_ret2 | go_ret3 | (refine bodyPost_ret (by simp [results, Tryd.results56, go_sem]; try rfl) rfl ?_))
      exact ⟨ret_int (by rw [HN.out]), by (repeat (first | exact Below.refl _ _ | exact below_box _ _ | refine Below.stepBox ?_ _ | refine Below.stepDrew ?_ | refine Below.stepDrewN ?_ _ | refine Below.step (by assumption) ?_))⟩

def rowF (l : List UInt8) : Nat := l.foldl (fun a b => a * 10 + (b.toNat - 48)) 0
theorem decFrom_digits : ∀ (l : List UInt8) (a : Nat), (∀ b ∈ l, digitB b.toNat = true) → Lib.decFrom a l = some (l.foldl (fun a b => a * 10 + (b.toNat - 48)) a)
  | [], a, _ => rfl
  | b :: r, a, h => by
    have hb : digitB b.toNat = true := h b (by simp)
    unfold digitB at hb
    have hv : Lib.digitVal b = some (b.toNat - 48) := by unfold Lib.digitVal; rw [if_pos (by simp at hb; omega)]
    rw [Lib.decFrom, hv]
    exact decFrom_digits r _ fun x hx => h x (by simp [hx])
theorem atoi_digits (l : List UInt8) (hne : l ≠ []) (h : ∀ b ∈ l, digitB b.toNat = true) : Lib.atoi l = some (rowF l : Int) := by
  cases l with
  | nil => exact absurd rfl hne
  | cons b r =>
    have hb : digitB b.toNat = true := h b (by simp)
    unfold digitB at hb
    have e1 : (b == 45) = false := by
      cases e : b == 45 with
      | false => rfl
      | true => rw [beq_iff_eq] at e; subst e; simp at hb
    have e2 : (b == 43) = false := by
      cases e : b == 43 with
      | false => rfl
      | true => rw [beq_iff_eq] at e; subst e; simp at hb
    show (if (b == 45) = true then _ else if (b == 43) = true then _ else Option.map (fun m : Nat => (m : Int)) (Lib.decNat (b :: r))) = _
    rw [e1, e2, if_neg (by decide), if_neg (by decide)]
    unfold Lib.decNat
    rw [if_neg (by simp), decFrom_digits _ _ h]
    rfl
theorem rowF_bound (l : List UInt8) (h : ∀ b ∈ l, digitB b.toNat = true) : rowF l < 10 ^ l.length := by
  unfold rowF
  suffices ∀ (l : List UInt8) (a k : Nat), (∀ b ∈ l, digitB b.toNat = true) → a < 10 ^ k → l.foldl (fun a b => a * 10 + (b.toNat - 48)) a < 10 ^ (k + l.length) by
    have := this l 0 0 h (by decide); simpa using this
  intro l
  induction l with
  | nil => intro a k _ h; simpa using h
  | cons b r ih =>
    intro a k hl ha
    have hb : digitB b.toNat = true := hl b (by simp)
    unfold digitB at hb
    simp at hb
    simp only [List.foldl_cons, List.length_cons]
    have := ih (a * 10 + (b.toNat - 48)) (k + 1) (fun x hx => hl x (by simp [hx])) (by rw [Nat.pow_succ]; omega)
    rwa [show k + 1 + r.length = k + (r.length + 1) by omega] at this
end Go.Proofs.YtpljbpndooilgaaDoor
