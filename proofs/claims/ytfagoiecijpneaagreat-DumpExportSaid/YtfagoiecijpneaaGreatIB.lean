/- slices.Insert of this program, walked: what each road of it leaves behind. -/
import Derived.Test.YtfagoiecijpneaaGreatProg
import Derived.Test.YtfagoiecijpneaaGreatXC
import Derived.Laws.Externs
import Derived.KernelRfl
import Derived.Test.YtfagoiecijpneaaGreatIA
import Derived.Shelf.RegionOpenPlain
import Derived.WalkKit
import Derived.Lib.Walk
import Derived.Lib.SliceRun
import Derived.Lib.JoinLaws
import Derived.Lib.AppendZeros
import Derived.Lib.Overlaps
import Derived.Laws.IdiomCopy
import Derived.Shelf.Spec.SlicesInsert
import Derived.Lib.AppendZerosOnto
import Derived.Laws.NewBlocks
set_option linter.unusedVariables false
set_option linter.unusedSimpArgs false
section
open Go Go.Proofs
namespace Go.Proofs.YtfagoiecijpneaaGreat
noncomputable def ovr1 : FuncId → Option (Ex.Heap → List Value → Ex.Out) := fun f => match f with | 56 => some (fun H => Ex.insertA H 2) | 58 => some (fun H => Ex.insertA H 1) | _ => none
def ext1 : FuncId → Ex.ExtK := fun f => match f with | 49 => .add | 73 => .cmp | _ => .pure
noncomputable def E1 : Ex.Env := Ex.envOf Tryz.prog 12 12 3 ext1 ovr1
theorem nogs : (Tryz.prog.funcs.toList.all fun fn => (fn.name == "runtime.NumGoroutine") == false) = true := by decide +kernel
theorem cmp_run (f : FuncId) (h : ext1 f = .cmp) (a b : Value) (w w' : World) (v : Value) (hr : (Extern.BytealgCompare.compare #[a, b]).run Tryz.prog w = .ok v w') : (callFunc f #[a, b]).run Tryz.prog w = .ok (.value v) w' := by
  have hf : f = 73 := by
    unfold ext1 at h
    split at h <;> first | rfl | cases h
  subst hf
  rw [run_callFunc_extern (e := Extern.BytealgCompare.compare) Tryz.func73 (by kernel_rfl) (by kernel_rfl) (by kernel_rfl) (by kernel_rfl), hr]; rfl
theorem add_run (f : FuncId) (h : ext1 f = .add) (a b : Value) (w w' : World) (v : Value) (hr : (Extern.Atomic.update (Op.intArith .add) .i64 true #[a, b]).run Tryz.prog w = .ok v w') : (callFunc f #[a, b]).run Tryz.prog w = .ok (.value v) w' := by
  have hf : f = 49 := by
    unfold ext1 at h
    split at h <;> first | rfl | cases h
  subst hf
  rw [run_callFunc_extern (e := Extern.Atomic.update (Op.intArith .add) .i64 true) Tryz.func49 (by kernel_rfl) (by kernel_rfl) (by kernel_rfl) (by kernel_rfl), hr]; rfl
end Go.Proofs.YtfagoiecijpneaaGreat
end
section
namespace Go.Proofs.YtfagoiecijpneaaGreat
open Go Go.Shelf Go.RowKit Go.Lib Go.Proofs Ex

set_option maxHeartbeats 4000000 in
set_option maxRecDepth 100000 in
/-- slices.Insert of entries: there is room, i < len(s): in place -/
theorem ins56_shift (w : World) {c q n cap i vb vo m vc : Nat} {cells : Array Value} {e : TypeId} {fr : Nat × Nat} {old new : List Value} (hi : i < n) (hm : 0 < m) (hroom : n + m ≤ cap) (hbig : n + m ≤ 1048576) (hvb : vb ≠ c)
    (hc : w.heap[c]? = some (.cells cells e fr)) (hfz : ∀ o, o < cells.size → ¬ (fr.1 ≤ o ∧ o < fr.2)) (hol : old.length = n * 2) (hnl : new.length = m * 2) (hold : ∀ j v, old[j]? = some v → cells[q + j]? = some v) (hfit : q + (n + m) * 2 ≤ cells.size)
    (hnew : ∀ j v, new[j]? = some v → w.cell? ⟨vb, vo + j, none⟩ = some v) (h1o : ∀ v ∈ old, oneCell v = true) (h1n : ∀ v ∈ new, oneCell v = true)
    (tA tB : TypeId) (kA kB : Nat) (hsa : w.shape? vb = some (tA, kA)) (hsb : w.shape? c = some (tB, kB)) (hkB : kB ≠ 0) (hfa : w.frozen? ⟨vb, vo, none⟩ = false) (hfe : w.frozen? ⟨vb, kA, none⟩ = false) :
    Calls Tryz.prog 56 #[.slice (some ⟨c, q, none⟩) n cap, .int .i64 i, .slice (some ⟨vb, vo, none⟩) m vc] w fun x w' =>
      x = .returned (.slice (some ⟨c, q, none⟩) (n + m) cap) ∧ w' = withObj w.drew c (.cells (splice (splice cells (q + (i + m) * 2) (old.drop (i * 2))) (q + i * 2) new) e fr) := by
  have hz1 : ¬ ((m : Int) = 0) := by omega
  have hz2 : ¬ ((i : Int) = (n : Int)) := by omega
  have hov : ∀ lb cb, (callFunc 95 #[.slice (some ⟨vb, vo, none⟩) m vc, .slice (some ⟨c, q + (i + m) * 2, none⟩) lb cb]).run Tryz.prog w = .ok (.value (.bool false)) w := fun lb cb => by
    rw [run_callFunc_extern Tryz.func95 (by kernel_rfl) (by kernel_rfl) (by kernel_rfl) (e := Extern.SlicesOverlaps.overlaps #[124, 124] #[4]) (by kernel_rfl),
      Lib.run_overlaps_apart w 124 4 93 Tryz.underlying124 2 (fun w => by kernel_rfl) ⟨vb, vo, none⟩ ⟨c, q + (i + m) * 2, none⟩ m vc lb cb hvb tA tB kA kB hsa hsb hkB hfa hfe]
    rfl
  have hs : (Tryz.prog.info? 93).map (·.size) = some 2 := by kernel_rfl
  have hw1 : IntKind.i64.wrap ((i : Int) + (m : Int)) = (i : Int) + (m : Int) := by rw [IntKind.wrap_i64]; omega
  have hb1 : (0 : Int) ≤ (i : Int) + (m : Int) := by omega
  have hin : i ≤ n := by omega
  have htn : ((i : Int) + (m : Int)).toNat = i + m := by omega
  have hb2 : ¬ (cap = i + m) := by omega
  have hb3 : (i : Int) ≤ (n : Int) + (m : Int) := by omega
  have hb4 : ¬ (cap = i) := by omega
  have hlt : c < w.drew.heap.size := (Array.getElem?_eq_some_iff.1 hc).1
  have hdl : (old.drop (i * 2)).length = (n - i) * 2 := by rw [List.length_drop, hol]; omega
  have hcell : ∀ (W : World) (X : Array Value), W.heap[c]? = some (.cells X e fr) → ∀ k v, X[k]? = some v → W.cell? ⟨c, k, none⟩ = some v := fun W X h k v hk => by simp [World.cell?, h, hk]
  have hcd : w.drew.heap[c]? = some (.cells cells e fr) := hc
  have hcp1 : ∀ ty dc sc, (Builtin.copy_ #[124, 124] ty #[.slice (some ⟨c, q + (i + m) * 2, none⟩) (n + m - (i + m)) dc, .slice (some ⟨c, q + i * 2, none⟩) (n + m - i) sc]).run Tryz.prog w.drew = .ok (goInt (Nat.min (n + m - i) (n + m - (i + m)))) (withObj w.drew c (.cells (splice cells (q + (i + m) * 2) (old.drop (i * 2))) e fr)) := fun ty dc sc =>
    run_copy_obj w.drew 124 124 ty 93 2 Tryz.underlying124 hs (by rw [hdl]; simp only [Nat.min_def]; split <;> omega)
      (fun j v hj => by
        rw [List.getElem?_drop] at hj
        rw [Addr.add_lit]
        exact hcell _ _ hcd _ _ (by rw [Nat.add_assoc]; exact hold _ _ hj)) hcd (by rw [hdl]; omega) hfz (fun v hv => h1o v (List.mem_of_mem_drop hv))
  obtain ⟨W1, hW1⟩ : ∃ W1, W1 = withObj w.drew c (.cells (splice cells (q + (i + m) * 2) (old.drop (i * 2))) e fr) := ⟨_, rfl⟩
  have hc1 : W1.heap[c]? = some (.cells (splice cells (q + (i + m) * 2) (old.drop (i * 2))) e fr) := by rw [hW1, withObj_heap _ _ _ _ hlt, if_pos rfl]
  have hcp2 : ∀ (W : World), W.heap = W1.heap → ∀ ty dc, (Builtin.copy_ #[124, 124] ty #[.slice (some ⟨c, q + i * 2, none⟩) (n + m - i) dc, .slice (some ⟨vb, vo, none⟩) m vc]).run Tryz.prog W = .ok (goInt (Nat.min m (n + m - i))) (withObj W c (.cells (splice (splice cells (q + (i + m) * 2) (old.drop (i * 2))) (q + i * 2) new) e fr)) := fun W hW ty dc =>
    run_copy_obj W 124 124 ty 93 2 Tryz.underlying124 hs (by rw [hnl]; simp only [Nat.min_def]; split <;> omega)
      (fun j v hj => by
        rw [Addr.add_lit]
        have := hnew j v hj
        simp only [World.cell?] at this ⊢
        rw [hW, hW1, withObj_heap _ _ _ _ hlt, if_neg hvb]
        exact this) (by rw [hW]; exact hc1) (by rw [hnl, splice_size]; omega) (by rw [splice_size]; exact hfz) h1n
  rw [← hW1] at hcp1
  have mixed : Tryz.prog.follows .mixedOrders = true := by kernel_rfl
  go_enter Tryz.func56, Tryz.ntmps56
  go_wp2_with (simp only [hov])
  go_region_law_o (refine step_copy_runI rfl _ _ 124 124 rfl _ _ (by simp [Act.eval, Act.put]) (by simp [Act.eval, Act.put]) (hcp1 _ _ _) ?_)
  go_wp2_with (at_builtin; refine wpList_copy_runI _ rfl _ _ 124 124 rfl _ _ rfl rfl (hcp2 _ rfl _ _) ?_)
  go_ret
  exact ⟨rfl, by first | rw [withObj_twice] | rw [hW1, withObj_twice]⟩
end Go.Proofs.YtfagoiecijpneaaGreat
end
section
namespace Go.Proofs.YtfagoiecijpneaaGreat
open Go Go.Shelf Go.RowKit Go.Lib Go.Proofs Ex

theorem push_set {α : Type} (a : Array α) (x y : α) : (a.push x).setIfInBounds a.size y = a.push y := by
  apply Array.ext'
  simp
theorem push_twice (a : Array Obj) (x y z : Obj) : ((a.push x).setIfInBounds a.size y).setIfInBounds a.size z = a.push z := by
  rw [push_set, push_set]
set_option maxHeartbeats 4000000 in
set_option maxRecDepth 100000 in
/-- slices.Insert of entries: no room, i < len(s): a new row -/
theorem ins56_grow (w : World) {c q n cap i vb vo m vc : Nat} {cells : Array Value} {e : TypeId} {fr : Nat × Nat} {old new : List Value} (hi : i < n) (hm : 0 < m) (hnc : n ≤ cap) (hroom : cap < n + m) (hbig : n + m ≤ 1048576)
    (hc : w.heap[c]? = some (.cells cells e fr)) (hol : old.length = n * 2) (hnl : new.length = m * 2) (hold : ∀ j v, old[j]? = some v → cells[q + j]? = some v)
    (hnew : ∀ j v, new[j]? = some v → w.cell? ⟨vb, vo + j, none⟩ = some v) (h1o : ∀ v ∈ old, oneCell v = true) (h1n : ∀ v ∈ new, oneCell v = true) :
    Calls Tryz.prog 56 #[.slice (some ⟨c, q, none⟩) n cap, .int .i64 i, .slice (some ⟨vb, vo, none⟩) m vc] w fun x w' =>
      ∃ (ROW : Array Value) (G : Nat), G ≤ 9223372036854775807 ∧ n + m ≤ G ∧ ROW.size = G * 2 ∧ (∀ j v, j < i * 2 → old[j]? = some v → ROW[j]? = some v) ∧ x = .returned (.slice (some ⟨w.heap.size, 0, none⟩) (n + m) G) ∧
      w'.heap = w.heap.push (.cells (splice (splice ROW (i * 2) new) ((i + m) * 2) (old.drop (i * 2))) 93) ∧ w'.tape = w.tape ∧ w'.os = w.os ∧ w'.output = w.output := by
  have hinfo : (Tryz.prog.info? 93).map (fun x => (x.zero, x.size, x.bytes)) = some (some (.agg #[.slice none 0 0, .slice none 0 0]), 2, 48) := by kernel_rfl
  obtain ⟨i0, hi0, hz0, hzs, hzb⟩ : ∃ i0, Tryz.prog.info? 93 = some i0 ∧ i0.zero = some (.agg #[.slice none 0 0, .slice none 0 0]) ∧ i0.size = 2 ∧ i0.bytes = 48 := by
    cases hq : Tryz.prog.info? 93 with
    | none => rw [hq] at hinfo; cases hinfo
    | some i0 =>
      rw [hq] at hinfo
      simp only [Option.map_some, Option.some.injEq, Prod.mk.injEq] at hinfo
      exact ⟨i0, rfl, hinfo.1, hinfo.2.1, hinfo.2.2⟩
  have hz1 : ¬ ((m : Int) = 0) := by omega
  have hz2 : ¬ ((i : Int) = (n : Int)) := by omega
  have hz3 : (cap : Int) < (n : Int) + (m : Int) := by omega
  have hs : (Tryz.prog.info? 93).map (·.size) = some 2 := by rw [hi0]; simp [hzs]
  have hlt : c < w.heap.size := (Array.getElem?_eq_some_iff.1 hc).1
  have hvw : vb < w.heap.size := by
    obtain ⟨v, hv⟩ : ∃ v, new[0]? = some v := ⟨_, List.getElem?_eq_getElem (by omega)⟩
    exact block_lt_of_cell (hnew 0 v hv)
  have hkk : (n : Int) + (m : Int) - (i : Int) = ((n + m - i : Nat) : Int) := by omega
  have hik : i + (n + m - i) = n + m := by omega
  have hcell : ∀ (W : World) (d : Nat) (X : Array Value) (e : TypeId) (fr : Nat × Nat), W.heap[d]? = some (.cells X e fr) → ∀ k v, X[k]? = some v → W.cell? ⟨d, k, none⟩ = some v := fun W d X e fr h k v hk => by simp [World.cell?, h, hk]
  have hfirst : (Builtin.firstCells i0.size i (.slice (some ⟨c, q, none⟩) i cap)).run Tryz.prog w.drew = .ok (old.take (i * 2)).toArray w.drew := by
    rw [hzs]
    exact run_firstCells_some w.drew 2 i ⟨c, q, none⟩ i cap (old.take (i * 2)) (by rw [List.length_take]; omega) (fun j v hj => by
      rw [Addr.add_lit]
      rw [List.getElem?_take] at hj
      split at hj
      · exact hcell w c cells e fr hc _ _ (hold j v hj)
      · cases hj)
  have hrz : ∀ ty, (Builtin.append_ #[124, 3] ty #[.slice (some ⟨c, q, none⟩) i cap, .int .i64 ((n : Int) + (m : Int) - (i : Int))]).run Tryz.prog w =
      .ok (.slice (some ⟨w.heap.size, 0, none⟩) (n + m) (grownCap w (n + m) cap 93)) (w.drew.alloc (.cells ((old.take (i * 2)).toArray ++ Builtin.zeroCells (Value.agg #[.slice none 0 0, .slice none 0 0]).cells (n + m - i) ++ Builtin.zeroCells (Value.agg #[.slice none 0 0, .slice none 0 0]).cells (grownCap w (n + m) cap 93 - (n + m))) 93)) := fun ty => by
    have h := Lib.run_append_grow_zeros w 124 3 ty 93 i0 _ .i64 .i64 Tryz.underlying124 Tryz.underlying3 hi0 hz0 (some ⟨c, q, none⟩) i cap (old.take (i * 2)) hfirst (n + m - i) (by omega) (by omega) (by omega) (by omega) (by rw [hzb]; omega) (by rw [hzb, hik]; exact growslice_fits hroom (by omega))
    rw [hik] at h
    rw [hkk]
    exact h
  have hGn : n + m ≤ grownCap w (n + m) cap 93 := grownCap_ge w _ _ _
  have hG63 : grownCap w (n + m) cap 93 ≤ 9223372036854775807 := by
    have := grownCap_le_maxLen w (n + m) cap 93 (by unfold maxLen; omega)
    unfold maxLen at this
    omega
  obtain ⟨G, hG⟩ : ∃ G, G = grownCap w (n + m) cap 93 := ⟨_, rfl⟩
  obtain ⟨ROW, hROW⟩ : ∃ ROW : Array Value, ROW = (old.take (i * 2)).toArray ++ Builtin.zeroCells (Value.agg #[.slice none 0 0, .slice none 0 0]).cells (n + m - i) ++ Builtin.zeroCells (Value.agg #[.slice none 0 0, .slice none 0 0]).cells (G - (n + m)) := ⟨_, rfl⟩
  rw [← hG] at hrz hGn hG63
  rw [← hROW] at hrz
  have hzl : ∀ k, (Builtin.zeroCells (Value.agg #[.slice none 0 0, .slice none 0 0]).cells k).size = k * 2 := fun k => by
    simp [Builtin.zeroCells, Value.cells]
  have hRs : ROW.size = G * 2 := by
    rw [hROW]
    simp only [Array.size_append, hzl, List.size_toArray, List.length_take]
    omega
  have hN : ROW.size = G * 2 := hRs
  obtain ⟨W1, hW1⟩ : ∃ W1, W1 = w.drew.alloc (.cells ROW 93) := ⟨_, rfl⟩
  rw [← hW1] at hrz
  have hc1 : W1.heap[w.heap.size]? = some (.cells ROW 93) := by rw [hW1]; exact alloc_new w.drew _
  have hother : ∀ d, d < w.heap.size → W1.heap[d]? = w.heap[d]? := fun d hd => by
    rw [hW1]; show (w.heap.push _)[d]? = _; rw [Array.getElem?_push_lt hd]; simp [hd]
  have hcpA : ∀ (W : World), W.heap = W1.heap → ∀ ty dc, (Builtin.copy_ #[124, 124] ty #[.slice (some ⟨w.heap.size, i * 2, none⟩) (n + m - i) dc, .slice (some ⟨vb, vo, none⟩) m vc]).run Tryz.prog W = .ok (goInt (Nat.min m (n + m - i))) (withObj W w.heap.size (.cells (splice ROW (i * 2) new) 93)) := fun W hW ty dc =>
    run_copy_obj W 124 124 ty 93 2 Tryz.underlying124 hs (by rw [hnl]; simp only [Nat.min_def]; split <;> omega)
      (fun j v hj => by
        rw [Addr.add_lit]
        have := hnew j v hj
        simp only [World.cell?] at this ⊢
        rw [hW, hother vb hvw]
        exact this) (by rw [hW]; exact hc1) (by rw [hnl, hN]; omega) (fun o _ => by simp) h1n
  have hdl : (old.drop (i * 2)).length = (n - i) * 2 := by rw [List.length_drop, hol]; omega
  have hcpB : ∀ (W : World), W.heap = (withObj W1 w.heap.size (.cells (splice ROW (i * 2) new) 93)).heap → ∀ ty dc sc, (Builtin.copy_ #[124, 124] ty #[.slice (some ⟨w.heap.size, (i + m) * 2, none⟩) (n + m - (i + m)) dc, .slice (some ⟨c, q + i * 2, none⟩) (n - i) sc]).run Tryz.prog W = .ok (goInt (Nat.min (n - i) (n + m - (i + m)))) (withObj W w.heap.size (.cells (splice (splice ROW (i * 2) new) ((i + m) * 2) (old.drop (i * 2))) 93)) := fun W hW ty dc sc =>
    have hlt1 : w.heap.size < W1.heap.size := (Array.getElem?_eq_some_iff.1 hc1).1
    run_copy_obj W 124 124 ty 93 2 Tryz.underlying124 hs (by rw [hdl]; simp only [Nat.min_def]; split <;> omega)
      (fun j v hj => by
        rw [List.getElem?_drop] at hj
        rw [Addr.add_lit]
        refine hcell W c cells e fr ?_ _ _ (by rw [Nat.add_assoc]; exact hold _ _ hj)
        rw [hW, withObj_heap _ _ _ _ hlt1, if_neg (by omega), hother c hlt]; exact hc) (by rw [hW, withObj_heap _ _ _ _ hlt1, if_pos rfl]) (by rw [hdl, splice_size, hN]; omega) (fun o _ => by simp) (fun v hv => h1o v (List.mem_of_mem_drop hv))
  have hGi : ¬ (G = i) := by omega
  have hGim : ¬ (G = i + m) := by omega
  have hci : ¬ (cap = i) := by omega
  have hw1 : IntKind.i64.wrap ((i : Int) + (m : Int)) = (i : Int) + (m : Int) := by rw [IntKind.wrap_i64]; omega
  have hb1 : (0 : Int) ≤ (i : Int) + (m : Int) := by omega
  have hin : i ≤ n := by omega
  have htn : ((i : Int) + (m : Int)).toNat = i + m := by omega
  have hb3 : (i : Int) ≤ (n : Int) := by omega
  have mixed : Tryz.prog.follows .mixedOrders = true := by kernel_rfl
  have hROWold : ∀ j v, j < i * 2 → old[j]? = some v → ROW[j]? = some v := fun j v hj hv => by
    rw [hROW]
    have hl : (old.take (i * 2)).length = i * 2 := by rw [List.length_take, hol]; omega
    rw [Array.getElem?_append_left (by simp [hol]; omega), Array.getElem?_append_left (by simp [hol]; omega)]
    simp [List.getElem?_take, hj, hv]
  clear hkk hik hROW hG
  go_enter Tryz.func56, Tryz.ntmps56
  go_wp2_with (first
    | (at_builtin; refine Lib.wpList_append_run _ rfl _ _ _ _ rfl _ _ rfl rfl _ _ (hrz _) ?_)
    | (at_builtin; refine wpList_copy_runI _ rfl _ _ 124 124 rfl _ _ rfl rfl (hcpA _ rfl _ _) ?_))
  go_region_law_o (refine step_copy_runI rfl _ _ 124 124 rfl (.slice (some ⟨w.heap.size, (i + m) * 2, none⟩) (n + m - (i + m)) (G - (i + m))) (.slice (some ⟨c, q + i * 2, none⟩) (n - i) (cap - i)) (by simp [Act.eval, Act.put]) (by simp [Act.eval, Act.put]) (hcpB ((withObj (w.alloc (.cells ROW 93)).drew w.heap.size (.cells (splice ROW (i * 2) new) 93)).drew) (by rw [hW1]; rfl) 3 (G - (i + m)) (cap - i)) ?_)
  go_wp2
  go_ret
  refine ⟨ROW, G, hG63, hGn, hRs, hROWold, rfl, ?_, rfl, rfl, rfl⟩
  exact push_twice w.heap _ _ _
end Go.Proofs.YtfagoiecijpneaaGreat
end
section
namespace Go.Proofs.YtfagoiecijpneaaGreat
open Go Go.Shelf Go.RowKit Go.Lib Go.Proofs Ex

set_option maxHeartbeats 4000000 in
set_option maxRecDepth 100000 in
/-- slices.Insert of entries: at the end: append -/
theorem ins56_end (w w1 : World) {c q n cap vb vo m vc : Nat} {r : Value} (hm : 0 < m) (hnc : n ≤ cap)
    (hr : (Builtin.append_ #[124, 124] 124 #[.slice (some ⟨c, q, none⟩) n cap, .slice (some ⟨vb, vo, none⟩) m vc]).run Tryz.prog w = .ok r w1) :
    Calls Tryz.prog 56 #[.slice (some ⟨c, q, none⟩) n cap, .int .i64 n, .slice (some ⟨vb, vo, none⟩) m vc] w fun x w' => x = .returned r ∧ w' = w1 := by
  have hz1 : ¬ ((m : Int) = 0) := by omega
  go_enter Tryz.func56, Tryz.ntmps56
  go_wp2_with (at_builtin; refine Lib.wpList_append_run _ rfl _ _ _ _ rfl _ _ rfl rfl _ _ hr ?_)
  all_goals go_ret
  all_goals exact ⟨rfl, rfl⟩
end Go.Proofs.YtfagoiecijpneaaGreat
end
section
namespace Go.Proofs.YtfagoiecijpneaaGreat
open Go Go.Shelf Go.RowKit Go.Lib Go.Proofs Ex

set_option maxHeartbeats 4000000 in
set_option maxRecDepth 100000 in
/-- slices.Insert of entries: there is room, i < len(s): in place -/
theorem ins58_shift (w : World) {c q n cap i vb vo m vc : Nat} {cells : Array Value} {e : TypeId} {fr : Nat × Nat} {old new : List Value} (hi : i < n) (hm : 0 < m) (hroom : n + m ≤ cap) (hbig : n + m ≤ 1048576) (hvb : vb ≠ c)
    (hc : w.heap[c]? = some (.cells cells e fr)) (hfz : ∀ o, o < cells.size → ¬ (fr.1 ≤ o ∧ o < fr.2)) (hol : old.length = n) (hnl : new.length = m) (hold : ∀ j v, old[j]? = some v → cells[q + j]? = some v) (hfit : q + (n + m) ≤ cells.size)
    (hnew : ∀ j v, new[j]? = some v → w.cell? ⟨vb, vo + j, none⟩ = some v) (h1o : ∀ v ∈ old, oneCell v = true) (h1n : ∀ v ∈ new, oneCell v = true)
    (tA tB : TypeId) (kA kB : Nat) (hsa : w.shape? vb = some (tA, kA)) (hsb : w.shape? c = some (tB, kB)) (hkB : kB ≠ 0) (hfa : w.frozen? ⟨vb, vo, none⟩ = false) (hfe : w.frozen? ⟨vb, kA, none⟩ = false) :
    Calls Tryz.prog 58 #[.slice (some ⟨c, q, none⟩) n cap, .int .i64 i, .slice (some ⟨vb, vo, none⟩) m vc] w fun x w' =>
      x = .returned (.slice (some ⟨c, q, none⟩) (n + m) cap) ∧ w' = withObj w.drew c (.cells (splice (splice cells (q + (i + m)) (old.drop (i))) (q + i) new) e fr) := by
  have hz1 : ¬ ((m : Int) = 0) := by omega
  have hz2 : ¬ ((i : Int) = (n : Int)) := by omega
  have hov : ∀ lb cb, (callFunc 97 #[.slice (some ⟨vb, vo, none⟩) m vc, .slice (some ⟨c, q + (i + m), none⟩) lb cb]).run Tryz.prog w = .ok (.value (.bool false)) w := fun lb cb => by
    rw [run_callFunc_extern Tryz.func97 (by kernel_rfl) (by kernel_rfl) (by kernel_rfl) (e := Extern.SlicesOverlaps.overlaps #[99, 99] #[4]) (by kernel_rfl),
      Lib.run_overlaps_apart w 99 4 124 Tryz.underlying99 1 (fun w => by kernel_rfl) ⟨vb, vo, none⟩ ⟨c, q + (i + m), none⟩ m vc lb cb hvb tA tB kA kB hsa hsb hkB hfa hfe]
    rfl
  have hs : (Tryz.prog.info? 124).map (·.size) = some 1 := by kernel_rfl
  have hw1 : IntKind.i64.wrap ((i : Int) + (m : Int)) = (i : Int) + (m : Int) := by rw [IntKind.wrap_i64]; omega
  have hb1 : (0 : Int) ≤ (i : Int) + (m : Int) := by omega
  have hin : i ≤ n := by omega
  have htn : ((i : Int) + (m : Int)).toNat = i + m := by omega
  have hb2 : ¬ (cap = i + m) := by omega
  have hb3 : (i : Int) ≤ (n : Int) + (m : Int) := by omega
  have hb4 : ¬ (cap = i) := by omega
  have hlt : c < w.drew.heap.size := (Array.getElem?_eq_some_iff.1 hc).1
  have hdl : (old.drop (i)).length = (n - i) := by rw [List.length_drop, hol]
  have hcell : ∀ (W : World) (X : Array Value), W.heap[c]? = some (.cells X e fr) → ∀ k v, X[k]? = some v → W.cell? ⟨c, k, none⟩ = some v := fun W X h k v hk => by simp [World.cell?, h, hk]
  have hcd : w.drew.heap[c]? = some (.cells cells e fr) := hc
  have hcp1 : ∀ ty dc sc, (Builtin.copy_ #[99, 99] ty #[.slice (some ⟨c, q + (i + m), none⟩) (n + m - (i + m)) dc, .slice (some ⟨c, q + i, none⟩) (n + m - i) sc]).run Tryz.prog w.drew = .ok (goInt (Nat.min (n + m - i) (n + m - (i + m)))) (withObj w.drew c (.cells (splice cells (q + (i + m)) (old.drop (i))) e fr)) := fun ty dc sc =>
    run_copy_obj w.drew 99 99 ty 124 1 Tryz.underlying99 hs (by rw [hdl]; simp only [Nat.min_def]; split <;> omega)
      (fun j v hj => by
        rw [List.getElem?_drop] at hj
        rw [Addr.add_lit]
        exact hcell _ _ hcd _ _ (by rw [Nat.add_assoc]; exact hold _ _ hj)) hcd (by rw [hdl]; omega) hfz (fun v hv => h1o v (List.mem_of_mem_drop hv))
  obtain ⟨W1, hW1⟩ : ∃ W1, W1 = withObj w.drew c (.cells (splice cells (q + (i + m)) (old.drop (i))) e fr) := ⟨_, rfl⟩
  have hc1 : W1.heap[c]? = some (.cells (splice cells (q + (i + m)) (old.drop (i))) e fr) := by rw [hW1, withObj_heap _ _ _ _ hlt, if_pos rfl]
  have hcp2 : ∀ (W : World), W.heap = W1.heap → ∀ ty dc, (Builtin.copy_ #[99, 99] ty #[.slice (some ⟨c, q + i, none⟩) (n + m - i) dc, .slice (some ⟨vb, vo, none⟩) m vc]).run Tryz.prog W = .ok (goInt (Nat.min m (n + m - i))) (withObj W c (.cells (splice (splice cells (q + (i + m)) (old.drop (i))) (q + i) new) e fr)) := fun W hW ty dc =>
    run_copy_obj W 99 99 ty 124 1 Tryz.underlying99 hs (by rw [hnl]; simp only [Nat.min_def]; split <;> omega)
      (fun j v hj => by
        rw [Addr.add_lit]
        have := hnew j v hj
        simp only [World.cell?] at this ⊢
        rw [hW, hW1, withObj_heap _ _ _ _ hlt, if_neg hvb]
        exact this) (by rw [hW]; exact hc1) (by rw [hnl, splice_size]; omega) (by rw [splice_size]; exact hfz) h1n
  rw [← hW1] at hcp1
  have mixed : Tryz.prog.follows .mixedOrders = true := by kernel_rfl
  go_enter Tryz.func58, Tryz.ntmps58
  go_wp2_with (simp only [hov])
  go_region_law_o (refine step_copy_runI rfl _ _ 99 99 rfl _ _ (by simp [Act.eval, Act.put]) (by simp [Act.eval, Act.put]) (hcp1 _ _ _) ?_)
  go_wp2_with (at_builtin; refine wpList_copy_runI _ rfl _ _ 99 99 rfl _ _ rfl rfl (hcp2 _ rfl _ _) ?_)
  go_ret
  exact ⟨rfl, by first | rw [withObj_twice] | rw [hW1, withObj_twice]⟩
end Go.Proofs.YtfagoiecijpneaaGreat
end
section
namespace Go.Proofs.YtfagoiecijpneaaGreat
open Go Go.Shelf Go.RowKit Go.Lib Go.Proofs Ex

set_option maxHeartbeats 4000000 in
set_option maxRecDepth 100000 in
/-- slices.Insert of entries: no room, i < len(s): a new row -/
theorem ins58_grow (w : World) {c q n cap i vb vo m vc : Nat} {cells : Array Value} {e : TypeId} {fr : Nat × Nat} {old new : List Value} (hi : i < n) (hm : 0 < m) (hnc : n ≤ cap) (hroom : cap < n + m) (hbig : n + m ≤ 1048576)
    (hc : w.heap[c]? = some (.cells cells e fr)) (hol : old.length = n) (hnl : new.length = m) (hold : ∀ j v, old[j]? = some v → cells[q + j]? = some v)
    (hnew : ∀ j v, new[j]? = some v → w.cell? ⟨vb, vo + j, none⟩ = some v) (h1o : ∀ v ∈ old, oneCell v = true) (h1n : ∀ v ∈ new, oneCell v = true) :
    Calls Tryz.prog 58 #[.slice (some ⟨c, q, none⟩) n cap, .int .i64 i, .slice (some ⟨vb, vo, none⟩) m vc] w fun x w' =>
      ∃ (ROW : Array Value) (G : Nat), G ≤ 9223372036854775807 ∧ n + m ≤ G ∧ ROW.size = G ∧ (∀ j v, j < i → old[j]? = some v → ROW[j]? = some v) ∧ x = .returned (.slice (some ⟨w.heap.size, 0, none⟩) (n + m) G) ∧
      w'.heap = w.heap.push (.cells (splice (splice ROW (i) new) ((i + m)) (old.drop (i))) 124) ∧ w'.tape = w.tape ∧ w'.os = w.os ∧ w'.output = w.output := by
  have hinfo : (Tryz.prog.info? 124).map (fun x => (x.zero, x.size, x.bytes)) = some (some (.slice none 0 0), 1, 24) := by kernel_rfl
  obtain ⟨i0, hi0, hz0, hzs, hzb⟩ : ∃ i0, Tryz.prog.info? 124 = some i0 ∧ i0.zero = some (.slice none 0 0) ∧ i0.size = 1 ∧ i0.bytes = 24 := by
    cases hq : Tryz.prog.info? 124 with
    | none => rw [hq] at hinfo; cases hinfo
    | some i0 =>
      rw [hq] at hinfo
      simp only [Option.map_some, Option.some.injEq, Prod.mk.injEq] at hinfo
      exact ⟨i0, rfl, hinfo.1, hinfo.2.1, hinfo.2.2⟩
  have hz1 : ¬ ((m : Int) = 0) := by omega
  have hz2 : ¬ ((i : Int) = (n : Int)) := by omega
  have hz3 : (cap : Int) < (n : Int) + (m : Int) := by omega
  have hs : (Tryz.prog.info? 124).map (·.size) = some 1 := by rw [hi0]; simp [hzs]
  have hlt : c < w.heap.size := (Array.getElem?_eq_some_iff.1 hc).1
  have hvw : vb < w.heap.size := by
    obtain ⟨v, hv⟩ : ∃ v, new[0]? = some v := ⟨_, List.getElem?_eq_getElem (by omega)⟩
    exact block_lt_of_cell (hnew 0 v hv)
  have hkk : (n : Int) + (m : Int) - (i : Int) = ((n + m - i : Nat) : Int) := by omega
  have hik : i + (n + m - i) = n + m := by omega
  have hcell : ∀ (W : World) (d : Nat) (X : Array Value) (e : TypeId) (fr : Nat × Nat), W.heap[d]? = some (.cells X e fr) → ∀ k v, X[k]? = some v → W.cell? ⟨d, k, none⟩ = some v := fun W d X e fr h k v hk => by simp [World.cell?, h, hk]
  have hfirst : (Builtin.firstCells i0.size i (.slice (some ⟨c, q, none⟩) i cap)).run Tryz.prog w.drew = .ok (old.take (i)).toArray w.drew := by
    rw [hzs]
    exact run_firstCells_some w.drew 1 i ⟨c, q, none⟩ i cap (old.take (i)) (by rw [List.length_take]; omega) (fun j v hj => by
      rw [Addr.add_lit]
      rw [List.getElem?_take] at hj
      split at hj
      · exact hcell w c cells e fr hc _ _ (hold j v hj)
      · cases hj)
  have hrz : ∀ ty, (Builtin.append_ #[99, 3] ty #[.slice (some ⟨c, q, none⟩) i cap, .int .i64 ((n : Int) + (m : Int) - (i : Int))]).run Tryz.prog w =
      .ok (.slice (some ⟨w.heap.size, 0, none⟩) (n + m) (grownCap w (n + m) cap 124)) (w.drew.alloc (.cells ((old.take (i)).toArray ++ Builtin.zeroCells (Value.slice none 0 0).cells (n + m - i) ++ Builtin.zeroCells (Value.slice none 0 0).cells (grownCap w (n + m) cap 124 - (n + m))) 124)) := fun ty => by
    have h := Lib.run_append_grow_zeros w 99 3 ty 124 i0 _ .i64 .i64 Tryz.underlying99 Tryz.underlying3 hi0 hz0 (some ⟨c, q, none⟩) i cap (old.take (i)) hfirst (n + m - i) (by omega) (by omega) (by omega) (by omega) (by rw [hzb]; omega) (by rw [hzb, hik]; exact growslice_fits hroom (by omega))
    rw [hik] at h
    rw [hkk]
    exact h
  have hGn : n + m ≤ grownCap w (n + m) cap 124 := grownCap_ge w _ _ _
  have hG63 : grownCap w (n + m) cap 124 ≤ 9223372036854775807 := by
    have := grownCap_le_maxLen w (n + m) cap 124 (by unfold maxLen; omega)
    unfold maxLen at this
    omega
  obtain ⟨G, hG⟩ : ∃ G, G = grownCap w (n + m) cap 124 := ⟨_, rfl⟩
  obtain ⟨ROW, hROW⟩ : ∃ ROW : Array Value, ROW = (old.take (i)).toArray ++ Builtin.zeroCells (Value.slice none 0 0).cells (n + m - i) ++ Builtin.zeroCells (Value.slice none 0 0).cells (G - (n + m)) := ⟨_, rfl⟩
  rw [← hG] at hrz hGn hG63
  rw [← hROW] at hrz
  have hzl : ∀ k, (Builtin.zeroCells (Value.slice none 0 0).cells k).size = k := fun k => by
    simp [Builtin.zeroCells, Value.cells]
  have hRs : ROW.size = G := by
    rw [hROW]
    simp only [Array.size_append, hzl, List.size_toArray, List.length_take]
    omega
  have hN : ROW.size = G := hRs
  obtain ⟨W1, hW1⟩ : ∃ W1, W1 = w.drew.alloc (.cells ROW 124) := ⟨_, rfl⟩
  rw [← hW1] at hrz
  have hc1 : W1.heap[w.heap.size]? = some (.cells ROW 124) := by rw [hW1]; exact alloc_new w.drew _
  have hother : ∀ d, d < w.heap.size → W1.heap[d]? = w.heap[d]? := fun d hd => by
    rw [hW1]; show (w.heap.push _)[d]? = _; rw [Array.getElem?_push_lt hd]; simp [hd]
  have hcpA : ∀ (W : World), W.heap = W1.heap → ∀ ty dc, (Builtin.copy_ #[99, 99] ty #[.slice (some ⟨w.heap.size, i, none⟩) (n + m - i) dc, .slice (some ⟨vb, vo, none⟩) m vc]).run Tryz.prog W = .ok (goInt (Nat.min m (n + m - i))) (withObj W w.heap.size (.cells (splice ROW (i) new) 124)) := fun W hW ty dc =>
    run_copy_obj W 99 99 ty 124 1 Tryz.underlying99 hs (by rw [hnl]; simp only [Nat.min_def]; split <;> omega)
      (fun j v hj => by
        rw [Addr.add_lit]
        have := hnew j v hj
        simp only [World.cell?] at this ⊢
        rw [hW, hother vb hvw]
        exact this) (by rw [hW]; exact hc1) (by rw [hnl, hN]; omega) (fun o _ => by simp) h1n
  have hdl : (old.drop (i)).length = (n - i) := by rw [List.length_drop, hol]
  have hcpB : ∀ (W : World), W.heap = (withObj W1 w.heap.size (.cells (splice ROW (i) new) 124)).heap → ∀ ty dc sc, (Builtin.copy_ #[99, 99] ty #[.slice (some ⟨w.heap.size, (i + m), none⟩) (n + m - (i + m)) dc, .slice (some ⟨c, q + i, none⟩) (n - i) sc]).run Tryz.prog W = .ok (goInt (Nat.min (n - i) (n + m - (i + m)))) (withObj W w.heap.size (.cells (splice (splice ROW (i) new) ((i + m)) (old.drop (i))) 124)) := fun W hW ty dc sc =>
    have hlt1 : w.heap.size < W1.heap.size := (Array.getElem?_eq_some_iff.1 hc1).1
    run_copy_obj W 99 99 ty 124 1 Tryz.underlying99 hs (by rw [hdl]; simp only [Nat.min_def]; split <;> omega)
      (fun j v hj => by
        rw [List.getElem?_drop] at hj
        rw [Addr.add_lit]
        refine hcell W c cells e fr ?_ _ _ (by rw [Nat.add_assoc]; exact hold _ _ hj)
        rw [hW, withObj_heap _ _ _ _ hlt1, if_neg (by omega), hother c hlt]; exact hc) (by rw [hW, withObj_heap _ _ _ _ hlt1, if_pos rfl]) (by rw [hdl, splice_size, hN]; omega) (fun o _ => by simp) (fun v hv => h1o v (List.mem_of_mem_drop hv))
  have hGi : ¬ (G = i) := by omega
  have hGim : ¬ (G = i + m) := by omega
  have hci : ¬ (cap = i) := by omega
  have hw1 : IntKind.i64.wrap ((i : Int) + (m : Int)) = (i : Int) + (m : Int) := by rw [IntKind.wrap_i64]; omega
  have hb1 : (0 : Int) ≤ (i : Int) + (m : Int) := by omega
  have hin : i ≤ n := by omega
  have htn : ((i : Int) + (m : Int)).toNat = i + m := by omega
  have hb3 : (i : Int) ≤ (n : Int) := by omega
  have mixed : Tryz.prog.follows .mixedOrders = true := by kernel_rfl
  have hROWold : ∀ j v, j < i → old[j]? = some v → ROW[j]? = some v := fun j v hj hv => by
    rw [hROW]
    have hl : (old.take (i)).length = i := by rw [List.length_take, hol]; omega
    rw [Array.getElem?_append_left (by simp [hol]; omega), Array.getElem?_append_left (by simp [hol]; omega)]
    simp [List.getElem?_take, hj, hv]
  clear hkk hik hROW hG
  go_enter Tryz.func58, Tryz.ntmps58
  go_wp2_with (first
    | (at_builtin; refine Lib.wpList_append_run _ rfl _ _ _ _ rfl _ _ rfl rfl _ _ (hrz _) ?_)
    | (at_builtin; refine wpList_copy_runI _ rfl _ _ 99 99 rfl _ _ rfl rfl (hcpA _ rfl _ _) ?_))
  go_region_law_o (refine step_copy_runI rfl _ _ 99 99 rfl (.slice (some ⟨w.heap.size, (i + m), none⟩) (n + m - (i + m)) (G - (i + m))) (.slice (some ⟨c, q + i, none⟩) (n - i) (cap - i)) (by simp [Act.eval, Act.put]) (by simp [Act.eval, Act.put]) (hcpB ((withObj (w.alloc (.cells ROW 124)).drew w.heap.size (.cells (splice ROW (i) new) 124)).drew) (by rw [hW1]; rfl) 3 (G - (i + m)) (cap - i)) ?_)
  go_wp2
  go_ret
  refine ⟨ROW, G, hG63, hGn, hRs, hROWold, rfl, ?_, rfl, rfl, rfl⟩
  exact push_twice w.heap _ _ _
end Go.Proofs.YtfagoiecijpneaaGreat
end
section
namespace Go.Proofs.YtfagoiecijpneaaGreat
open Go Go.Shelf Go.RowKit Go.Lib Go.Proofs Ex

set_option maxHeartbeats 4000000 in
set_option maxRecDepth 100000 in
/-- slices.Insert of entries: at the end: append -/
theorem ins58_end (w w1 : World) {c q n cap vb vo m vc : Nat} {r : Value} (hm : 0 < m) (hnc : n ≤ cap)
    (hr : (Builtin.append_ #[99, 99] 99 #[.slice (some ⟨c, q, none⟩) n cap, .slice (some ⟨vb, vo, none⟩) m vc]).run Tryz.prog w = .ok r w1) :
    Calls Tryz.prog 58 #[.slice (some ⟨c, q, none⟩) n cap, .int .i64 n, .slice (some ⟨vb, vo, none⟩) m vc] w fun x w' => x = .returned r ∧ w' = w1 := by
  have hz1 : ¬ ((m : Int) = 0) := by omega
  go_enter Tryz.func58, Tryz.ntmps58
  go_wp2_with (at_builtin; refine Lib.wpList_append_run _ rfl _ _ _ _ rfl _ _ rfl rfl _ _ hr ?_)
  all_goals go_ret
  all_goals exact ⟨rfl, rfl⟩
end Go.Proofs.YtfagoiecijpneaaGreat
end
section
namespace Go.Proofs.YtfagoiecijpneaaGreat
open Go Go.Shelf Go.RowKit Go.Lib Go.Proofs Ex

theorem walks56 : InsWalks Tryz.prog 56 2 124 where
  shift w c q n cap i vb vo m vc cells e fr old new h1 h2 h3 h4 h5 h6 h7 h8 h9 h10 h11 h12 h13 h14 tA tB kA kB h15 h16 h17 h18 h19 :=
    ins56_shift w h1 h2 h3 h4 h5 h6 h7 h8 h9 h10 h11 h12 h13 h14 tA tB kA kB h15 h16 h17 h18 h19
  grow w c q n cap i vb vo m vc cells e fr old new h1 h2 h3 h4 h5 h6 h7 h8 h9 h10 h11 h12 :=
    (ins56_grow w (vc := vc) h1 h2 h3 h4 h5 h6 h7 h8 h9 h10 h11 h12).mono fun x w' ⟨ROW, G, _, a⟩ => ⟨ROW, G, 93, a⟩
  atEnd w w1 c q n cap vb vo m vc r h1 h2 h3 := ins56_end w w1 h1 h2 h3
theorem walks58 : InsWalks Tryz.prog 58 1 99 where
  shift w c q n cap i vb vo m vc cells e fr old new h1 h2 h3 h4 h5 h6 h7 h8 h9 h10 h11 h12 h13 h14 tA tB kA kB h15 h16 h17 h18 h19 := by
    simp only [Nat.mul_one] at *
    exact ins58_shift w h1 h2 h3 h4 h5 h6 h7 h8 h9 h10 h11 h12 h13 h14 tA tB kA kB h15 h16 h17 h18 h19
  grow w c q n cap i vb vo m vc cells e fr old new h1 h2 h3 h4 h5 h6 h7 h8 h9 h10 h11 h12 := by
    simp only [Nat.mul_one] at *
    exact (ins58_grow w (vc := vc) h1 h2 h3 h4 h5 h6 h7 h8 h9 h10 h11 h12).mono fun x w' ⟨ROW, G, _, a⟩ => ⟨ROW, G, 124, a⟩
  atEnd w w1 c q n cap vb vo m vc r h1 h2 h3 := ins58_end w w1 h1 h2 h3

/-- a contract that has been proved serves the executor -/
theorem ovr_of_calls {P : Program} {f : FuncId} {args : List Value} {w : World} {Q : World → World → Value → Prop} (hf : (callFunc f ⟨args⟩).run P w = .ok (.enter f ⟨args⟩) w)
    (h : Calls P f ⟨args⟩ w fun x w' => ∃ v, x = .returned v ∧ Q w w' v) :
    (callFunc f ⟨args⟩).run P w = .ok (.enter f ⟨args⟩) w ∧ ∀ cs, ∃ v w' fr, Steps P (lone (Frame.enter P f ⟨args⟩ .normal) cs w) (lone fr cs w') ∧ fr.fn = f ∧ fr.leaving P w' (.returned v) ∧ Q w w' v := by
  refine ⟨hf, fun cs => ?_⟩
  obtain ⟨e, w', fr, ⟨v, rfl, hq⟩, h1, h2, h3⟩ := h cs
  exact ⟨v, w', fr, h1, h2, h3, hq⟩
theorem enters {P : Program} {f : FuncId} {fn : Func} (hf : P.funcs[f]? = some fn) (hn : (fn.name == "runtime.NumGoroutine") = false) (hb : fn.body.isNone = false) (args : List Value) (w : World) : (callFunc f ⟨args⟩).run P w = .ok (.enter f ⟨args⟩) w := by
  have h1 : fn.name ≠ "runtime.NumGoroutine" := by simpa using hn
  have h2 : fn.body ≠ none := fun e => by rw [e] at hb; cases hb
  simp [callFunc, hf, h1, h2]
theorem E1ok : EnvOk E1 := envOf_ok _ _ _ _ _ _
theorem size56 : appSize E1.tt 124 = some 2 := by decide +kernel
theorem size58 : appSize E1.tt 99 = some 1 := by decide +kernel
theorem nint56 : isInt (E1.tt.und 124) = some false := by decide +kernel
theorem nint58 : isInt (E1.tt.und 99) = some false := by decide +kernel
theorem good1 : EnvGood E1 where
  toEnvOk := E1ok
  nog f fn h := envOf_nog (m := 12) nogs f fn h
  cmp f h a b w w' v hr := cmp_run f h a b w w' v hr
  add f h a b w w' v hr := add_run f h a b w w' v hr
  ovr f g hg args args' ρ H w v' H' h ha hc := by
    have hg : ovr1 f = some g := hg
    unfold ovr1 at hg
    split at hg
    · cases hg
      obtain ⟨a, b⟩ := ovr_of_calls (Q := fun w w' v => ∃ ρ', VR ρ' v v' ∧ HR E1.ng ρ' H' w' ∧ Ext ρ H w ρ' H' w') (enters Tryz.func56 (by kernel_rfl) (by kernel_rfl) _ _) ((insert_sound E1ok walks56 size56 nint56 h ha hc).mono fun x w1 ⟨ρ', v, a, b⟩ => ⟨v, a, ρ', b⟩)
      exact ⟨a, fun cs => let ⟨v, w', fr, c1, c2, c3, ρ', c4⟩ := b cs; ⟨ρ', v, w', fr, c1, c2, c3, c4⟩⟩
    · cases hg
      obtain ⟨a, b⟩ := ovr_of_calls (Q := fun w w' v => ∃ ρ', VR ρ' v v' ∧ HR E1.ng ρ' H' w' ∧ Ext ρ H w ρ' H' w') (enters Tryz.func58 (by kernel_rfl) (by kernel_rfl) _ _) ((insert_sound E1ok walks58 size58 nint58 h ha hc).mono fun x w1 ⟨ρ', v, a, b⟩ => ⟨v, a, ρ', b⟩)
      exact ⟨a, fun cs => let ⟨v, w', fr, c1, c2, c3, ρ', c4⟩ := b cs; ⟨ρ', v, w', fr, c1, c2, c3, c4⟩⟩
    · cases hg
end Go.Proofs.YtfagoiecijpneaaGreat
end
