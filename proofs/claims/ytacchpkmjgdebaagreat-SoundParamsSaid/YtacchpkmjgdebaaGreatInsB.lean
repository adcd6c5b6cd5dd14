/- slices.Insert of this program, walked: what each road of it leaves behind. -/
import Derived.Test.YtacchpkmjgdebaaGreatInsA
import Derived.Test.YtacchpkmjgdebaaGreatExIns
import Derived.Shelf.RegionOpenPlain
import Derived.WalkKit
import Derived.Lib.Walk
import Derived.Lib.SliceRun
import Derived.Lib.JoinLaws
import Derived.Lib.AppendZeros
import Derived.Lib.Overlaps
import Derived.Lib.AppendZerosOnto
import Derived.Laws.NewBlocks
import Derived.Laws.Externs
import Derived.Laws.IdiomCopy
import Derived.Shelf.Spec.SlicesInsert
set_option linter.unusedVariables false
set_option linter.unusedSimpArgs false
namespace Go.Proofs.YtacchpkmjgdebaaGreat
open Go Go.Shelf Go.RowKit Go.Lib Go.Proofs Ex

theorem push_set {α : Type} (a : Array α) (x y : α) : (a.push x).setIfInBounds a.size y = a.push y := by
  apply Array.ext'
  simp
theorem push_twice (a : Array Obj) (x y z : Obj) : ((a.push x).setIfInBounds a.size y).setIfInBounds a.size z = a.push z := by
  rw [push_set, push_set]
set_option maxHeartbeats 4000000 in
set_option maxRecDepth 100000 in
/-- slices.Insert of entries: no room, i < len(s): a new row -/
theorem ins53_grow (w : World) {c q n cap i vb vo m vc : Nat} {cells : Array Value} {e : TypeId} {fr : Nat × Nat} {old new : List Value} (hi : i < n) (hm : 0 < m) (hnc : n ≤ cap) (hroom : cap < n + m) (hbig : n + m ≤ 1048576)
    (hc : w.heap[c]? = some (.cells cells e fr)) (hol : old.length = n * 2) (hnl : new.length = m * 2) (hold : ∀ j v, old[j]? = some v → cells[q + j]? = some v)
    (hnew : ∀ j v, new[j]? = some v → w.cell? ⟨vb, vo + j, none⟩ = some v) (h1o : ∀ v ∈ old, oneCell v = true) (h1n : ∀ v ∈ new, oneCell v = true) :
    Calls Tryz.prog 53 #[.slice (some ⟨c, q, none⟩) n cap, .int .i64 i, .slice (some ⟨vb, vo, none⟩) m vc] w fun x w' =>
      ∃ (ROW : Array Value) (G : Nat), n + m ≤ G ∧ ROW.size = G * 2 ∧ (∀ j v, j < i * 2 → old[j]? = some v → ROW[j]? = some v) ∧ x = .returned (.slice (some ⟨w.heap.size, 0, none⟩) (n + m) G) ∧
      w'.heap = w.heap.push (.cells (splice (splice ROW (i * 2) new) ((i + m) * 2) (old.drop (i * 2))) 119) ∧ w'.tape = w.tape ∧ w'.os = w.os ∧ w'.output = w.output := by
  have hinfo : (Tryz.prog.info? 119).map (fun x => (x.zero, x.size, x.bytes)) = some (some (.agg #[.slice none 0 0, .slice none 0 0]), 2, 48) := by kernel_rfl
  obtain ⟨i0, hi0, hz0, hzs, hzb⟩ : ∃ i0, Tryz.prog.info? 119 = some i0 ∧ i0.zero = some (.agg #[.slice none 0 0, .slice none 0 0]) ∧ i0.size = 2 ∧ i0.bytes = 48 := by
    cases hq : Tryz.prog.info? 119 with
    | none => rw [hq] at hinfo; cases hinfo
    | some i0 =>
      rw [hq] at hinfo
      simp only [Option.map_some, Option.some.injEq, Prod.mk.injEq] at hinfo
      exact ⟨i0, rfl, hinfo.1, hinfo.2.1, hinfo.2.2⟩
  have hz1 : ¬ ((m : Int) = 0) := by omega
  have hz2 : ¬ ((i : Int) = (n : Int)) := by omega
  have hz3 : (cap : Int) < (n : Int) + (m : Int) := by omega
  have hs : (Tryz.prog.info? 119).map (·.size) = some 2 := by rw [hi0]; simp [hzs]
  have hlt : c < w.heap.size := (Array.getElem?_eq_some_iff.1 hc).1
  have hvw : vb < w.heap.size := by
    obtain ⟨v, hv⟩ : ∃ v, new[0]? = some v := ⟨_, List.getElem?_eq_getElem (by omega)⟩
    exact block_lt_of_cell (hnew 0 v hv)
  have hkk : (n : Int) + (m : Int) - (i : Int) = ((n + m - i : Nat) : Int) := by omega
  have hik : i + (n + m - i) = n + m := by omega
  have hcell : ∀ (W : World) (d : Nat) (X : Array Value) (e : TypeId) (fr : Nat × Nat), W.heap[d]? = some (.cells X e fr) → ∀ k v, X[k]? = some v → W.cell? ⟨d, k, none⟩ = some v := fun W d X e fr h k v hk => by simp [World.cell?, h, hk]
  have hfirst : (Builtin.firstCells i0.size i (.slice (some ⟨c, q, none⟩) i cap)).run Tryz.prog w.drew = .ok (old.take (i * 2)).toArray w.drew := by
    rw [hzs]
    exact run_firstCells_some w.drew 2 i ⟨c, q, none⟩ i cap (old.take (i * 2)) (by rw [List.length_take]; omega) (fun j v hj => by
      rw [Addr.add_lit]
      rw [List.getElem?_take] at hj
      split at hj
      · exact hcell w c cells e fr hc _ _ (hold j v hj)
      · cases hj)
  have hrz : ∀ ty, (Builtin.append_ #[120, 3] ty #[.slice (some ⟨c, q, none⟩) i cap, .int .i64 ((n : Int) + (m : Int) - (i : Int))]).run Tryz.prog w =
      .ok (.slice (some ⟨w.heap.size, 0, none⟩) (n + m) (grownCap w (n + m) cap 119)) (w.drew.alloc (.cells ((old.take (i * 2)).toArray ++ Builtin.zeroCells (Value.agg #[.slice none 0 0, .slice none 0 0]).cells (n + m - i) ++ Builtin.zeroCells (Value.agg #[.slice none 0 0, .slice none 0 0]).cells (grownCap w (n + m) cap 119 - (n + m))) 119)) := fun ty => by
    have h := Lib.run_append_grow_zeros w 120 3 ty 119 i0 _ .i64 .i64 Tryz.underlying120 Tryz.underlying3 hi0 hz0 (some ⟨c, q, none⟩) i cap (old.take (i * 2)) hfirst (n + m - i) (by omega) (by omega) (by omega) (by omega) (by rw [hzb]; omega) (by rw [hzb, hik]; exact growslice_fits hroom (by omega))
    rw [hik] at h
    rw [hkk]
    exact h
  have hGn : n + m ≤ grownCap w (n + m) cap 119 := grownCap_ge w _ _ _
  have hG63 : grownCap w (n + m) cap 119 ≤ 9223372036854775807 := by
    have := grownCap_le_maxLen w (n + m) cap 119 (by unfold maxLen; omega)
    unfold maxLen at this
    omega
  obtain ⟨G, hG⟩ : ∃ G, G = grownCap w (n + m) cap 119 := ⟨_, rfl⟩
  obtain ⟨ROW, hROW⟩ : ∃ ROW : Array Value, ROW = (old.take (i * 2)).toArray ++ Builtin.zeroCells (Value.agg #[.slice none 0 0, .slice none 0 0]).cells (n + m - i) ++ Builtin.zeroCells (Value.agg #[.slice none 0 0, .slice none 0 0]).cells (G - (n + m)) := ⟨_, rfl⟩
  rw [← hG] at hrz hGn hG63
  rw [← hROW] at hrz
  have hzl : ∀ k, (Builtin.zeroCells (Value.agg #[.slice none 0 0, .slice none 0 0]).cells k).size = k * 2 := fun k => by
    simp [Builtin.zeroCells, Value.cells]
  have hRs : ROW.size = G * 2 := by
    rw [hROW]
    simp only [Array.size_append, hzl, List.size_toArray, List.length_take]
    omega
  have hN : ROW.size = G * 2 := hRs
  obtain ⟨W1, hW1⟩ : ∃ W1, W1 = w.drew.alloc (.cells ROW 119) := ⟨_, rfl⟩
  rw [← hW1] at hrz
  have hc1 : W1.heap[w.heap.size]? = some (.cells ROW 119) := by rw [hW1]; exact alloc_new w.drew _
  have hother : ∀ d, d < w.heap.size → W1.heap[d]? = w.heap[d]? := fun d hd => by
    rw [hW1]; show (w.heap.push _)[d]? = _; rw [Array.getElem?_push_lt hd]; simp [hd]
  have hcpA : ∀ (W : World), W.heap = W1.heap → ∀ ty dc, (Builtin.copy_ #[120, 120] ty #[.slice (some ⟨w.heap.size, i * 2, none⟩) (n + m - i) dc, .slice (some ⟨vb, vo, none⟩) m vc]).run Tryz.prog W = .ok (goInt (Nat.min m (n + m - i))) (withObj W w.heap.size (.cells (splice ROW (i * 2) new) 119)) := fun W hW ty dc =>
    run_copy_obj W 120 120 ty 119 2 Tryz.underlying120 hs (by rw [hnl]; simp only [Nat.min_def]; split <;> omega)
      (fun j v hj => by
        rw [Addr.add_lit]
        have := hnew j v hj
        simp only [World.cell?] at this ⊢
        rw [hW, hother vb hvw]
        exact this) (by rw [hW]; exact hc1) (by rw [hnl, hN]; omega) (fun o _ => by simp) h1n
  have hdl : (old.drop (i * 2)).length = (n - i) * 2 := by rw [List.length_drop, hol]; omega
  have hcpB : ∀ (W : World), W.heap = (withObj W1 w.heap.size (.cells (splice ROW (i * 2) new) 119)).heap → ∀ ty dc sc, (Builtin.copy_ #[120, 120] ty #[.slice (some ⟨w.heap.size, (i + m) * 2, none⟩) (n + m - (i + m)) dc, .slice (some ⟨c, q + i * 2, none⟩) (n - i) sc]).run Tryz.prog W = .ok (goInt (Nat.min (n - i) (n + m - (i + m)))) (withObj W w.heap.size (.cells (splice (splice ROW (i * 2) new) ((i + m) * 2) (old.drop (i * 2))) 119)) := fun W hW ty dc sc =>
    have hlt1 : w.heap.size < W1.heap.size := (Array.getElem?_eq_some_iff.1 hc1).1
    run_copy_obj W 120 120 ty 119 2 Tryz.underlying120 hs (by rw [hdl]; simp only [Nat.min_def]; split <;> omega)
      (fun j v hj => by
        rw [List.getElem?_drop] at hj
        rw [Addr.add_lit]
        refine hcell W c cells e fr ?_ _ _ (by rw [Nat.add_assoc]; exact hold _ _ hj)
        rw [hW, withObj_heap _ _ _ _ hlt1, if_neg (by omega), hother c hlt]; exact hc) (by rw [hW, withObj_heap _ _ _ _ hlt1, if_pos rfl]) (by rw [hdl, splice_size, hN]; omega) (fun o _ => by simp) (fun v hv => h1o v (List.mem_of_mem_drop hv))
  have hGi : ¬ (G = i) := by omega
  have hGim : ¬ (G = i + m) := by omega
  have hci : ¬ (cap = i) := by omega
  have hw1 : IntKind.i64.wrap ((i : Int) + (m : Int)) = (i : Int) + (m : Int) := by rw [IntKind.wrap_i64]; omega
  have hb1 : (0 : Int) ≤ (i : Int) + (m : Int) := by omega
  have hin : i ≤ n := by omega
  have htn : ((i : Int) + (m : Int)).toNat = i + m := by omega
  have hb3 : (i : Int) ≤ (n : Int) := by omega
  have mixed : Tryz.prog.follows .mixedOrders = true := by kernel_rfl
  have hROWold : ∀ j v, j < i * 2 → old[j]? = some v → ROW[j]? = some v := fun j v hj hv => by
    rw [hROW]
    have hl : (old.take (i * 2)).length = i * 2 := by rw [List.length_take, hol]; omega
    rw [Array.getElem?_append_left (by simp [hol]; omega), Array.getElem?_append_left (by simp [hol]; omega)]
    simp [List.getElem?_take, hj, hv]
  clear hkk hik hROW hG
  go_enter Tryz.func53, Tryz.ntmps53
  go_wp2_with (first
    | (at_builtin; refine Lib.wpList_append_run _ rfl _ _ _ _ rfl _ _ rfl rfl _ _ (hrz _) ?_)
    | (at_builtin; refine wpList_copy_runI _ rfl _ _ 120 120 rfl _ _ rfl rfl (hcpA _ rfl _ _) ?_))
  go_region_law_o (refine step_copy_runI rfl _ _ 120 120 rfl (.slice (some ⟨w.heap.size, (i + m) * 2, none⟩) (n + m - (i + m)) (G - (i + m))) (.slice (some ⟨c, q + i * 2, none⟩) (n - i) (cap - i)) (by simp [Act.eval, Act.put]) (by simp [Act.eval, Act.put]) (hcpB ((withObj (w.alloc (.cells ROW 119)).drew w.heap.size (.cells (splice ROW (i * 2) new) 119)).drew) (by rw [hW1]; rfl) 3 (G - (i + m)) (cap - i)) ?_)
  go_wp2
  go_ret
  refine ⟨ROW, G, hGn, hRs, hROWold, rfl, ?_, rfl, rfl, rfl⟩
  exact push_twice w.heap _ _ _
end Go.Proofs.YtacchpkmjgdebaaGreat
