/- A part of the proof of the statement of this seat: no condition. -/
import Derived.Test.YtjfmbamiampjmaaGreatLawI
import Derived.Test.YtjfmbamiampjmaaGreatOA
import Derived.Test.YtjfmbamiampjmaaGreatRows
import Derived.Test.YtjfmbamiampjmaaGreatChecked
import Derived.Deep.Strs
set_option linter.unusedVariables false
set_option linter.unusedSimpArgs false
open Go Go.Proofs
namespace Go.Proofs.YtjfmbamiampjmaaGreat
open Go.ChangeShapes Go.WideShapes Go.ChangeAt Go.RowKit Go.Joins Go.Deep Gl
theorem Tryz.own : ownKnob Tryz.prog.godebug = none := by kernel_rfl
theorem Tryz.kids : Kids Tryz.prog (· < Tryz.prog.types.size) := kids_rows (by kernel_rfl) (by kernel_rfl)
theorem Tryz.full : ∀ t e, t < Tryz.prog.types.size → Tryz.prog.underlying t = some (.slice e) → 0 < Tryz.prog.cellsOf e := slices_full_of Tryz.prog (by kernel_rfl)
theorem cells28 : Tryz.prog.cellsOf 28 = 12 := by kernel_rfl
theorem cells24 : Tryz.prog.cellsOf 24 = 10 := by kernel_rfl
theorem cells25 : Tryz.prog.cellsOf 25 = 1 := by kernel_rfl
theorem cells26 : Tryz.prog.cellsOf 26 = 1 := by kernel_rfl
theorem cells43 : Tryz.prog.cellsOf 43 = 2 := by kernel_rfl
theorem cells45 : Tryz.prog.cellsOf 45 = 3 := by kernel_rfl
theorem cells5 : Tryz.prog.cellsOf 5 = 1 := by kernel_rfl
noncomputable def fsOf (t : TypeId) : Array Field := match Tryz.prog.underlying t with
  | some (.struct fs) => fs
  | _ => #[]
theorem size24 : (fsOf 24).size = 10 := by kernel_rfl
theorem size43 : (fsOf 43).size = 2 := by kernel_rfl
theorem size45 : (fsOf 45).size = 3 := by kernel_rfl
theorem ten {xs : List Nat} (h : xs.length = 10) : ∃ a0 a1 a2 a3 a4 a5 a6 a7 a8 a9, xs = [a0, a1, a2, a3, a4, a5, a6, a7, a8, a9] := by
  match xs, h with
  | [a0, a1, a2, a3, a4, a5, a6, a7, a8, a9], _ => exact ⟨a0, a1, a2, a3, a4, a5, a6, a7, a8, a9, rfl⟩
theorem join12 {cs : List Value} (h : cs.length = 12) : cs = (cs.drop 0).take 10 ++ ((cs.drop 10).take 1 ++ (cs.drop 11).take 1) := by
  match cs, h with
  | [a0, a1, a2, a3, a4, a5, a6, a7, a8, a9, a10, a11], _ => rfl
/-- A beginning that came in, read as data: its numbers and its two lists. -/
theorem open_gen {H : Type} {enc : TypeId × Value → H} {w : World} {fuel : Nat} {cs : List Value} {x : DataW H × List MemPlace} (h : DataW.trod enc Tryz.prog w 0 (fun _ => true) true fuel 28 cs = some x) :
    ∃ (p0 p1 p2 p3 p4 p5 p6 p7 p8 p9 : Nat) (Aa : Option Addr) (na ca : Nat) (Av : Option Addr) (nv cv : Nat) (xs ys : List Nat), cs = (gen p0 p1 p2 p3 p4 p5 p6 p7 p8 p9 Aa na ca Av nv cv).toList ∧ Big [p0, p1, p2, p3, p4, p5, p6, p7, p8, p9] ∧ Sl 2 w Aa na ca (xs.map u64) ∧ Sl 3 w Av nv cv (ys.map u64) ∧ Big xs ∧ Big ys := by
  obtain ⟨y0, y1, y2, n, _, hl, h0, h1, h2⟩ := trod_struct3 Tryz.underlying28 h
  rw [cells28] at hl
  dsimp only at h0 h1 h2
  rw [cells24] at h0
  rw [cells25] at h1
  rw [cells26] at h2
  obtain ⟨ns, g1, g2, g3⟩ := struct_ints (fs := fsOf 24) (ft := 22) (k := .u64) (by kernel_rfl) (by kernel_rfl) (by kernel_rfl) (by kernel_rfl) (by kernel_rfl) h0
  obtain ⟨ps, e1, e2, e3⟩ := nats_u64 g3
  rw [size24] at g1
  obtain ⟨p0, p1, p2, p3, p4, p5, p6, p7, p8, p9, rfl⟩ := ten (e2.trans g1)
  obtain ⟨Aa, na, ca, zs, a1, a2, a3⟩ := slice_ints (e := 43) (fs := fsOf 43) (ft := 22) (k := .u64) (by kernel_rfl) (by kernel_rfl) (by kernel_rfl) (by kernel_rfl) (by kernel_rfl) (by kernel_rfl) (by rw [size43]; omega) h1
  obtain ⟨xs, x1, _, x3⟩ := nats_u64 a3
  obtain ⟨Av, nv, cv, zv, b1, b2, b3⟩ := slice_ints (e := 45) (fs := fsOf 45) (ft := 22) (k := .u64) (by kernel_rfl) (by kernel_rfl) (by kernel_rfl) (by kernel_rfl) (by kernel_rfl) (by kernel_rfl) (by rw [size45]; omega) h2
  obtain ⟨ys, y1', _, y3⟩ := nats_u64 b3
  rw [size43, x1] at a2
  rw [size45, y1'] at b2
  refine ⟨p0, p1, p2, p3, p4, p5, p6, p7, p8, p9, Aa, na, ca, Av, nv, cv, xs, ys, ?_, e3, a2, b2, x3, y3⟩
  rw [join12 hl, g2, a1, b1, e1]
  rfl

end Go.Proofs.YtjfmbamiampjmaaGreat
