/- The call Open: the busy tickets, rising. -/
import Derived.Test.YtkjfiofefndgkaaTSlay
import Derived.Test.YtkjfiofefndgkaaTM
namespace Go.Proofs.Ytkjfiofefndgkaa
set_option linter.unusedVariables false
set_option linter.unusedSimpArgs false
open Go.RowKit Go.Maps Go.Sort Go.Shelf
open Go.ChangeMaps (setBlock)
open Go.WideElems (Fit rd rg pl rd_mk rg_of)
open Go.WideShapes (sorted_perm)

/-- What an element reads as: nothing is asked of it. -/
def noR (v : Value) : Option (DataW Unit × List MemPlace) := some (.nil, [])

theorem MapIs.owns {w : World} {b : Nat} {A : List (Int × TS)} {ve : TS → Value} (h : MapIs Try.prog 2 (fun n : Int => Value.int .i64 n) ve (fun n => (Lit.int .i64 n).wf = true) w b A) (hl : A.length ≤ maxLen) :
    ∃ D0 : DataW Unit, w.ownsMap Try.prog 2 noR b A.length D0 ∧ (Go.intKeys D0).Perm (A.map (·.1)) ∧ Maps.size D0 = A.length := by
  obtain ⟨⟨es, c, hb, he, hs⟩, hok⟩ := h
  have hlen : es.size = A.length := by have := congrArg List.length he; simpa using this
  have hkey : ∀ x ∈ es.toList, ∃ n, x.key = .int .i64 n ∧ keyOf Try.prog 2 x.key = some (.int .i64 n) := by
    intro x hx
    have : (x.key, x.val) ∈ es.toList.map (fun x => (x.key, x.val)) := List.mem_map.2 ⟨x, hx, rfl⟩
    rw [he] at this
    obtain ⟨p, hp, e⟩ := List.mem_map.1 this
    simp only [Prod.mk.injEq] at e
    exact ⟨p.1, e.1.symm, by rw [← e.1]; exact keyOf_int_mk Try.underlying2 (hok p hp)⟩
  have hrd : ∀ x ∈ es.toList, ∃ n, x.key = .int .i64 n ∧ rd Try.prog 2 noR x = some (.int .i64 n, .nil) := by
    intro x hx
    obtain ⟨n, h1, h2⟩ := hkey x hx
    exact ⟨n, h1, rd_mk (R := noR) (key := x.key) (val := x.val) (born := x.born) (yv := (.nil, [])) h2 rfl⟩
  have hF : Fit Try.prog 2 noR es c := ⟨by omega, hs, fun x hx => by obtain ⟨n, _, h2⟩ := hrd x hx; exact ⟨_, h2⟩⟩
  have hperm := sorted_perm (es.toList.map (rg Try.prog 2 noR))
  refine ⟨_, ⟨es, c, hb, hF, by omega, rfl⟩, ?_, ?_⟩
  · show (((es.toList.map (rg Try.prog 2 noR)).foldr DataW.insert []).map fun p => Go.intOf p.1).Perm _
    refine (hperm.map _).trans (List.Perm.of_eq ?_)
    have e1 : es.toList.map (fun x => (x.key, x.val)) = A.map (fun p => (Value.int .i64 p.1, ve p.2)) := he
    have e2 : (es.toList.map (fun x => (x.key, x.val))).map (fun q => match q.1 with | Value.int _ n => n | _ => 0) = A.map (·.1) := by
      rw [e1, List.map_map]; rfl
    rw [← e2, List.map_map, List.map_map]
    refine List.map_congr_left fun x hx => ?_
    obtain ⟨n, h1, h2⟩ := hrd x hx
    simp only [Function.comp_apply, rg_of h2, h1, Go.intOf]
  · show (((es.toList.map (rg Try.prog 2 noR)).foldr DataW.insert [])).length = _
    rw [hperm.length_eq]; simpa using hlen

/-- slices.Sort's two contracts at this translation. -/
theorem sortsA (m : Nat) : AnyZI.SortsIn Try.prog Try.sortedA_ren Fence.wide m :=
  ⟨fun blk off cap ss W hH hblk hsz => callsIn_wide.2 (AnyM.slices_Sort_int Try.sortA blk off cap ss W hH hblk hsz),
   fun p cap W => callsIn_wide.2 (AnyM.slices_Sort_int_none Try.sortA p cap W)⟩

set_option maxHeartbeats 1000000 in
theorem Open_any (t m : Nat) (L : List (Int × TS)) (w : World) (h : TreesAt w t m L) (hmax : L.length ≤ 1000) :
    Calls Try.prog 23 #[.pointer (some ⟨t, 0, none⟩)] w fun e w' => ∃ v : Value, e = .returned v ∧
      w'.ownsRow w.heap.size 2 1 v L.length (((L.map (·.1)).mergeSort (fun x y => decide (x ≤ y))).map encZ) ∧ Below w.heap.size w w' := by
  refine (callsIn_wide (n := 6)).1 ?_
  obtain ⟨D0, hown, hD, hsize⟩ := h.map.owns (by unfold maxLen; omega)
  have hbl := hown.lt
  have htop := cell_top h
  have hseq : SeqGives Fence.wide 2 Try.prog 39 #[.pointer (some ⟨w.heap.size, 0, none⟩)] encZ (fun ss => ss.Perm (Go.intKeys D0)) (Maps.size D0) (w.alloc (.cells #[.map (some m)] 62)) :=
    AnyZI.keys_gives (ρ := Try.keysA_ren) { Try.keysA with } Fence.wide _ trivial rfl (by omega) w.heap.size m _ D0 _ (by simp) (by simp) (by
      obtain ⟨es, clock, hb, Ft, hs, hD⟩ := hown
      exact ⟨es, clock, (Below.heap_alloc _ _ m hbl).trans hb, Ft, hs, hD⟩)
  have cK : ∀ mb W, CallsIn Fence.wide 5 Try.prog 33 #[.map mb] W fun e w' => e = .returned (.func (.func 39) #[] #[.pointer (some ⟨W.heap.size, 0, none⟩)]) ∧ w' = W.alloc (.cells #[.map mb] 62) := fun mb W => AnyZI.keys_in Try.keysA Fence.wide 5 trivial rfl mb W
  have cS := AnyZI.sorted_in Try.sortedA Fence.wide 5 trivial trivial trivial trivial rfl (by omega) (sortsA _) (enters_of Try.func38 (by kernel_rfl) rfl) 39 #[.pointer (some ⟨w.heap.size, 0, none⟩)] trivial (enters_of Try.func39 (by kernel_rfl) rfl) _ _ (by rw [hsize]; unfold maxLen; omega) (by rw [hsize]; omega) _ hseq
  change CallsIn _ _ Try.prog 32 _ _ _ at cS
  have hfK : Fence.wide.fn 33 := trivial
  have hfS : Fence.wide.fn 32 := trivial
  refine callsIn_of_wp Try.func23 rfl trivial ?_ rfl
  simp only [Try.ntmps23, List.size_toArray, List.length_cons, List.length_nil, Nat.reduceAdd, Nat.reduceSub, Array.replicate_succ, Array.replicate_zero, List.push_toArray, List.append_toArray, List.nil_append, List.cons_append]
  gi_wp2_with (first
    | (gi_at_call 33; refine (cK _ _).mono ?_; rintro e w' ⟨rfl, rfl⟩)
    | (gi_at_call 32; refine cS.mono ?_; rintro e w' ⟨v, ss, rfl, hS, hrow, hnil, hb⟩))

  go_ret
  have hlen : ss.length = L.length := by rw [(hS.trans hD).length_eq]; simp
  have hms := mergeSort_of_perm_i (hS.trans hD)
  refine ⟨v, rfl, ?_, ((Below.refl _ w).alloc (Nat.le_refl _) _).trans (hb.mono (by simp))⟩
  have := ownsRow_base_a hrow (by simp : w.heap.size ≤ _)
  rw [← hms, ← hlen]
  exact this
end Go.Proofs.Ytkjfiofefndgkaa
