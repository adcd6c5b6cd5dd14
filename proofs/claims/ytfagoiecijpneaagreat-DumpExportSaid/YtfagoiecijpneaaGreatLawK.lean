/- A part of the proof of the statement of this seat: no condition. -/
import Derived.Test.YtfagoiecijpneaaGreatXP
import Derived.Test.YtfagoiecijpneaaGreatPA
import Derived.Test.YtfagoiecijpneaaGreatRows
import Derived.Test.YtfagoiecijpneaaGreatChecked
import Derived.Deep.Strs
set_option linter.unusedVariables false
set_option linter.unusedSimpArgs false
open Go Go.Proofs
namespace Go.Proofs.YtfagoiecijpneaaGreat
open Go.ChangeShapes Go.WideShapes Go.ChangeAt Go.RowKit Go.Joins Go.Deep Gl
theorem Tryz.own : ownKnob Tryz.prog.godebug = none := by kernel_rfl
theorem Tryz.kids : Kids Tryz.prog (· < Tryz.prog.types.size) := kids_rows (by kernel_rfl) (by kernel_rfl)
theorem Tryz.full : ∀ t e, t < Tryz.prog.types.size → Tryz.prog.underlying t = some (.slice e) → 0 < Tryz.prog.cellsOf e := slices_full_of Tryz.prog (by kernel_rfl)
theorem cells42 : Tryz.prog.cellsOf 42 = 2 := by kernel_rfl
theorem cells28 : Tryz.prog.cellsOf 28 = 1 := by kernel_rfl
theorem cells5 : Tryz.prog.cellsOf 5 = 1 := by kernel_rfl
set_option maxRecDepth 100000 in
theorem liftedExport (os : Os) (started : os.Started) (H : Type) (enc : TypeId × Value → H) :
    ReturnsInHanded {} Tryz.checked os 3 .any (Rows.dumpExportSpec.pre6 enc Tryz.prog Tryz.f3 Rows.dumpExportRow.domain false) (Rows.dumpExportSpec.post enc Tryz.prog Tryz.f3 false true false false) := by
  refine returnsInHanded_of_change (C := Tryz.checked) Tryz.own started (by kernel_rfl) Tryz.func3
    (ChangeSpec.witness6 (enc := enc) (C := Tryz.checked) false ⟨#[], #[.slice none 0 0], []⟩ 8 (by kernel_rfl) (by kernel_rfl) (by kernel_rfl) (by kernel_rfl)) ?_
  intro W base args ds gs before hval0 hW _ _
  have hval : ∀ (j : Nat) t v, Tryz.f3.params[j]? = some t → args[j]? = some v → Value.okWide Tryz.prog W .any base t v := hval0
  have hW' := hW
  obtain ⟨p, q, hA0, hV, rfl, _, _⟩ := hW
  have hA : DataW.TrodAll enc Tryz.prog W 0 (fun _ => true) true Tryz.f3.params.toList args.toList ds p := hA0
  rw [Tryz.params3] at hA hval
  obtain ⟨v0, d0, rfl, rfl, h0⟩ := trodAll_one hA
  obtain ⟨rfl, rfl⟩ := trodVars_none hV
  obtain ⟨A0, n0, c0, rfl⟩ := okWide_slice Tryz.underlying22 (hval 0 22 v0 rfl rfl)
  obtain ⟨fuel0, h0⟩ := h0
  obtain ⟨A, n, c, vs, l, hcs, hs, he, hl⟩ := slice_pairs Tryz.underlying22 Tryz.underlying42 ⟨rfl, rfl⟩ ⟨rfl, rfl⟩ Tryz.underlying28 Tryz.underlying5 cells28 cells5 cells42 h0
  cases hcs
  simp only [List.append_nil] at hW'
  have hlaw := law3 (w := W) hs hl.symm he
  refine hlaw.mono fun e W' ⟨he, hF⟩ => ?_
  subst he
  exact ⟨_, rfl, post_fresh hW' rfl Tryz.kids Tryz.full (by rw [Tryz.params3]; intro t ht; simp only [List.mem_cons, List.not_mem_nil, or_false] at ht; rcases ht with rfl <;> exact of_decide_eq_true (by kernel_rfl)) rfl rfl (fun _ _ _ => trodAll_mk1 (shut_bool Tryz.underlying4 _)) (fresh_of_new hF) (ok_one (by kernel_rfl) rfl (okWide_bool_mk Tryz.underlying4 _))⟩
end Go.Proofs.YtfagoiecijpneaaGreat
