/- The row of TreesNil: for every script and ticket the law returns true and the script reads as it did. Conditions: none. -/
import Derived.Test.YtkjfiofefndgkaaTO
import Derived.Test.YtkjfiofefndgkaaTR
namespace Go.Proofs.Ytkjfiofefndgkaa
set_option linter.unusedVariables false
set_option linter.unusedSimpArgs false
open Go.ChangeShapes Go.WideShapes Go.ChangeAt Go.RowKit Go.Deep
open Go.ChangeMaps (open_string shut_string)

/-- The argument is a row of calls. -/
theorem act_row {H : Type} {enc : TypeId × Value → H} {W : World} {base : Nat} {sp : Nat → Bool} {held : Bool} {A : Option Addr} {len cap : Nat} {d : DataW H} {p : List MemPlace}
    (h : DataW.Trod enc Try.prog W base sp held 39 (.slice A len cap) d p) : ∃ z, ActRow W A len cap z := by
  obtain ⟨fuel, hf⟩ := h
  rcases open_slice_fields Try.underlying39 Try.underlying45 (by kernel_rfl) (by kernel_rfl) hf with ⟨hcs, _⟩ | ⟨a, l, c, m, D, Pl, hcs, hb, hl, hm, hmm, hx, hi⟩
  · simp [Value.cells] at hcs
    obtain ⟨rfl, rfl, rfl⟩ := hcs
    exact ⟨fun _ => (0, 0, ByteArray.empty), Nat.le_refl _, Nat.zero_le _, Or.inl rfl⟩
  · simp [Value.cells] at hcs
    obtain ⟨rfl, rfl, rfl⟩ := hcs
    have hlm : len ≤ m := by rw [hmm]; split <;> omega
    have hcell : ∀ i, ∃ t : Int × Int × ByteArray, i < len → W.cell? (a.add (i * 3)) = some (.int .i64 t.1) ∧ W.cell? (a.add (i * 3 + 1)) = some (.int .i64 t.2.1) ∧ W.cell? (a.add (i * 3 + 2)) = some (.string t.2.2) ∧ (Lit.int .i64 t.1).wf = true ∧ (Lit.int .i64 t.2.1).wf = true ∧ t.2.2.size ≤ maxLen := by
      intro i
      by_cases hil : i < len
      · obtain ⟨ys, n, _, _, _, hfl⟩ := hi i (by omega)
        obtain ⟨v0, y0, c0, _, t0⟩ := hfl 0 _ rfl
        obtain ⟨v1, y1, c1, _, t1⟩ := hfl 1 _ rfl
        obtain ⟨v2, y2, c2, _, t2⟩ := hfl 2 _ rfl
        obtain ⟨k0, e0, _, w0⟩ := DataW.trod_int Try.underlying3 t0
        obtain ⟨k1, e1, _, w1⟩ := DataW.trod_int Try.underlying2 t1
        obtain ⟨k2, e2, _, w2⟩ := DataW.trod_string Try.underlying9 t2
        simp only [List.cons.injEq, and_true] at e0 e1 e2
        subst e0; subst e1; subst e2
        exact ⟨(k0, k1, k2), fun _ => ⟨c0, c1, c2, w0, w1, w2⟩⟩
      · exact ⟨(0, 0, ByteArray.empty), fun h => absurd h hil⟩
    obtain ⟨z, hz⟩ := Classical.axiomOfChoice hcell
    refine ⟨z, hl, hm, ?_⟩
    by_cases h0 : len = 0
    · exact Or.inl h0
    · right
      have hz0 := (hz 0 (by omega)).1
      obtain ⟨g, o, sp⟩ := a
      have e : (⟨g, o, sp⟩ : Addr).add (0 * 3) = ⟨g, o, sp⟩ := by simp [Addr.add]
      rw [e] at hz0
      have hsp : sp = none := by
        cases sp with
        | none => rfl
        | some s => simp [World.cell?] at hz0; split at hz0 <;> simp at hz0
      subst hsp
      refine ⟨g, o, rfl, World.block_lt_of_cell? W _ hz0, fun i hil => ?_⟩
      have hadd : ∀ n, (⟨g, o, none⟩ : Addr).add n = ⟨g, o + n, none⟩ := fun n => by cases n <;> simp [Addr.add]
      have := hz i hil
      simp only [hadd] at this
      exact this

set_option maxRecDepth 100000 in
theorem treesNil_lifted (os : Os) (started : os.Started) (H : Type) (enc : TypeId × Value → H) :
    ReturnsInHanded {} Try.checked os 6 .any (Rows.treesNilSpec.pre6 enc Try.prog Try.f6 Rows.treesNilRow.domain false) (Rows.treesNilSpec.post enc Try.prog Try.f6 false true false false) := by
  refine returnsInHanded_of_change_sized (C := Try.checked) own started (by kernel_rfl) Try.func6
    (ChangeSpec.witness6 (enc := enc) (C := Try.checked) false ⟨#[], #[.slice none 0 0, .int .i64 0], []⟩ 8 (by kernel_rfl) (by kernel_rfl) (by kernel_rfl) (by kernel_rfl)) ?_
  intro W base args ds gs before hval0 hW hcnd hsz0 _
  have hval : ∀ (j : Nat) t v, Try.f6.params[j]? = some t → args[j]? = some v → Value.okWide Try.prog W .any base t v := hval0
  have hW' := hW
  obtain ⟨p, q, hA0, hV, rfl, hfz, hnd⟩ := hW
  have hA : DataW.TrodAll enc Try.prog W 0 (fun _ => true) true Try.f6.params.toList args.toList ds p := hA0
  rw [Try.params6] at hA hval
  obtain ⟨v0, vs0, d0, ds0, p0, q0, hargs, rfl, rfl, h0, r0⟩ := trodAll_cons hA
  obtain ⟨v1, vs1, d1, ds1, p1, q1, rfl, rfl, rfl, h1, r1⟩ := trodAll_cons r0
  obtain ⟨rfl, rfl, rfl⟩ := trodAll_nil r1
  obtain rfl : args = #[v0, v1] := by cases args; simp_all
  obtain ⟨rfl, rfl⟩ := trodVars_none hV
  obtain ⟨a0, len0, cap0, rfl⟩ := okWide_slice Try.underlying39 (hval 0 39 v0 rfl rfl)
  have k0 := h0
  have lt0 : ∀ x ∈ p0, x.block < W.heap.size := by obtain ⟨m, hm⟩ := k0; exact DataW.trod_lt m _ _ _ hm
  obtain ⟨z, hz⟩ := act_row h0
  obtain ⟨a1, rfl, rfl, rfl, w1⟩ := open_int Try.underlying2 (hval 1 2 v1 rfl rfl) h1
  clear hA0 hval0 hsz0
  refine (TreesNil_any a0 len0 cap0 z a1 W hz w1).mono fun e W' ⟨he, bel⟩ => ?_
  subst he
  exact ⟨_, rfl, _, _, _, [], _, [], hW', trodAll_mk1 (shut_bool Try.underlying4 _), (trodAll_cons_mk (Below.trod laidOut (by kernel_rfl) (of_decide_eq_true (by kernel_rfl)) k0 bel lt0) (trodAll_cons_mk (shut_int Try.underlying2 w1) trodAll_mk0)), rfl, bel.frame _, fun h => by cases h⟩

theorem treesNil_holds : Rows.TreesNilSaid :=
  OpenClaim.holds_of_wide 6 Try.f6 rfl rfl rfl rfl rfl rfl rfl ⟨rfl, rfl, rfl, rfl, rfl⟩ rfl rfl rfl rfl rfl (by kernel_rfl) Try.func6 (by kernel_rfl)
    (of_decide_eq_true (by kernel_rfl)) (by unfold Func.isWrapper; first | (rw [if_pos (by decide +kernel)]; kernel_rfl) | (rw [if_neg (by decide +kernel)]; exact ⟨rfl, rfl⟩))
    (fun os started H enc _ => treesNil_lifted os started H enc)
#print axioms treesNil_holds

end Go.Proofs.Ytkjfiofefndgkaa
