/- slices.Insert of this program, walked: what each road of it leaves behind. -/
import Derived.Test.YtacchpkmjgdebaaGreatKnA
import Derived.Test.YtacchpkmjgdebaaGreatExIns
import Derived.Shelf.RegionOpenPlain
import Derived.WalkKit
import Derived.Lib.Walk
import Derived.Lib.SliceRun
import Derived.Lib.JoinLaws
import Derived.Lib.AppendZeros
import Derived.Lib.Overlaps
import Derived.Laws.Externs
import Derived.Laws.IdiomCopy
import Derived.Shelf.Spec.SlicesInsert
set_option linter.unusedVariables false
set_option linter.unusedSimpArgs false
namespace Go.Proofs.YtacchpkmjgdebaaGreat
open Go Go.Shelf Go.RowKit Go.Lib Go.Proofs Ex

set_option maxHeartbeats 4000000 in
set_option maxRecDepth 100000 in
/-- slices.Insert of entries: there is room, i < len(s): in place -/
theorem ins53_shift (w : World) {c q n cap i vb vo m vc : Nat} {cells : Array Value} {e : TypeId} {fr : Nat × Nat} {old new : List Value} (hi : i < n) (hm : 0 < m) (hroom : n + m ≤ cap) (hbig : n + m ≤ 1048576) (hvb : vb ≠ c)
    (hc : w.heap[c]? = some (.cells cells e fr)) (hfz : ∀ o, o < cells.size → ¬ (fr.1 ≤ o ∧ o < fr.2)) (hol : old.length = n * 2) (hnl : new.length = m * 2) (hold : ∀ j v, old[j]? = some v → cells[q + j]? = some v) (hfit : q + (n + m) * 2 ≤ cells.size)
    (hnew : ∀ j v, new[j]? = some v → w.cell? ⟨vb, vo + j, none⟩ = some v) (h1o : ∀ v ∈ old, oneCell v = true) (h1n : ∀ v ∈ new, oneCell v = true)
    (tA tB : TypeId) (kA kB : Nat) (hsa : w.shape? vb = some (tA, kA)) (hsb : w.shape? c = some (tB, kB)) (hkB : kB ≠ 0) (hfa : w.frozen? ⟨vb, vo, none⟩ = false) (hfe : w.frozen? ⟨vb, kA, none⟩ = false) :
    Calls Tryz.prog 53 #[.slice (some ⟨c, q, none⟩) n cap, .int .i64 i, .slice (some ⟨vb, vo, none⟩) m vc] w fun x w' =>
      x = .returned (.slice (some ⟨c, q, none⟩) (n + m) cap) ∧ w' = withObj w.drew c (.cells (splice (splice cells (q + (i + m) * 2) (old.drop (i * 2))) (q + i * 2) new) e fr) := by
  have hz1 : ¬ ((m : Int) = 0) := by omega
  have hz2 : ¬ ((i : Int) = (n : Int)) := by omega
  have hov : ∀ lb cb, (callFunc 124 #[.slice (some ⟨vb, vo, none⟩) m vc, .slice (some ⟨c, q + (i + m) * 2, none⟩) lb cb]).run Tryz.prog w = .ok (.value (.bool false)) w := fun lb cb => by
    rw [run_callFunc_extern Tryz.func124 (by kernel_rfl) (by kernel_rfl) (by kernel_rfl) (e := Extern.SlicesOverlaps.overlaps #[120, 120] #[4]) (by kernel_rfl),
      Lib.run_overlaps_apart w 120 4 119 Tryz.underlying120 2 (fun w => by kernel_rfl) ⟨vb, vo, none⟩ ⟨c, q + (i + m) * 2, none⟩ m vc lb cb hvb tA tB kA kB hsa hsb hkB hfa hfe]
    rfl
  have hs : (Tryz.prog.info? 119).map (·.size) = some 2 := by kernel_rfl
  have hw1 : IntKind.i64.wrap ((i : Int) + (m : Int)) = (i : Int) + (m : Int) := by rw [IntKind.wrap_i64]; omega
  have hb1 : (0 : Int) ≤ (i : Int) + (m : Int) := by omega
  have hin : i ≤ n := by omega
  have htn : ((i : Int) + (m : Int)).toNat = i + m := by omega
  have hb2 : ¬ (cap = i + m) := by omega
  have hb3 : (i : Int) ≤ (n : Int) + (m : Int) := by omega
  have hb4 : ¬ (cap = i) := by omega
  have hlt : c < w.drew.heap.size := (Array.getElem?_eq_some_iff.1 hc).1
  have hdl : (old.drop (i * 2)).length = (n - i) * 2 := by rw [List.length_drop, hol]; omega
  have hcell : ∀ (W : World) (X : Array Value), W.heap[c]? = some (.cells X e fr) → ∀ k v, X[k]? = some v → W.cell? ⟨c, k, none⟩ = some v := fun W X h k v hk => by simp [World.cell?, h, hk]
  have hcd : w.drew.heap[c]? = some (.cells cells e fr) := hc
  have hcp1 : ∀ ty dc sc, (Builtin.copy_ #[120, 120] ty #[.slice (some ⟨c, q + (i + m) * 2, none⟩) (n + m - (i + m)) dc, .slice (some ⟨c, q + i * 2, none⟩) (n + m - i) sc]).run Tryz.prog w.drew = .ok (goInt (Nat.min (n + m - i) (n + m - (i + m)))) (withObj w.drew c (.cells (splice cells (q + (i + m) * 2) (old.drop (i * 2))) e fr)) := fun ty dc sc =>
    run_copy_obj w.drew 120 120 ty 119 2 Tryz.underlying120 hs (by rw [hdl]; simp only [Nat.min_def]; split <;> omega)
      (fun j v hj => by
        rw [List.getElem?_drop] at hj
        rw [Addr.add_lit]
        exact hcell _ _ hcd _ _ (by rw [Nat.add_assoc]; exact hold _ _ hj)) hcd (by rw [hdl]; omega) hfz (fun v hv => h1o v (List.mem_of_mem_drop hv))
  obtain ⟨W1, hW1⟩ : ∃ W1, W1 = withObj w.drew c (.cells (splice cells (q + (i + m) * 2) (old.drop (i * 2))) e fr) := ⟨_, rfl⟩
  have hc1 : W1.heap[c]? = some (.cells (splice cells (q + (i + m) * 2) (old.drop (i * 2))) e fr) := by rw [hW1, withObj_heap _ _ _ _ hlt, if_pos rfl]
  have hcp2 : ∀ (W : World), W.heap = W1.heap → ∀ ty dc, (Builtin.copy_ #[120, 120] ty #[.slice (some ⟨c, q + i * 2, none⟩) (n + m - i) dc, .slice (some ⟨vb, vo, none⟩) m vc]).run Tryz.prog W = .ok (goInt (Nat.min m (n + m - i))) (withObj W c (.cells (splice (splice cells (q + (i + m) * 2) (old.drop (i * 2))) (q + i * 2) new) e fr)) := fun W hW ty dc =>
    run_copy_obj W 120 120 ty 119 2 Tryz.underlying120 hs (by rw [hnl]; simp only [Nat.min_def]; split <;> omega)
      (fun j v hj => by
        rw [Addr.add_lit]
        have := hnew j v hj
        simp only [World.cell?] at this ⊢
        rw [hW, hW1, withObj_heap _ _ _ _ hlt, if_neg hvb]
        exact this) (by rw [hW]; exact hc1) (by rw [hnl, splice_size]; omega) (by rw [splice_size]; exact hfz) h1n
  rw [← hW1] at hcp1
  have mixed : Tryz.prog.follows .mixedOrders = true := by kernel_rfl
  go_enter Tryz.func53, Tryz.ntmps53
  go_wp2_with (simp only [hov])
  go_region_law_o (refine step_copy_runI rfl _ _ 120 120 rfl _ _ (by simp [Act.eval, Act.put]) (by simp [Act.eval, Act.put]) (hcp1 _ _ _) ?_)
  go_wp2_with (at_builtin; refine wpList_copy_runI _ rfl _ _ 120 120 rfl _ _ rfl rfl (hcp2 _ rfl _ _) ?_)
  go_ret
  exact ⟨rfl, by first | rw [withObj_twice] | rw [hW1, withObj_twice]⟩
end Go.Proofs.YtacchpkmjgdebaaGreat
