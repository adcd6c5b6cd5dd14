/- A part of the proof of the statement of this seat: no condition. -/
import Derived.Test.YtacchpkmjgdebaaGreatKnE
set_option linter.unusedSimpArgs false
open Go Go.Proofs
set_option linter.unusedVariables false
namespace Go.Proofs.YtacchpkmjgdebaaGreat
open Go.ChangeShapes Go.WideShapes Go.ChangeAt Go.RowKit Go.Joins Go.Deep
noncomputable def fs24 : Array Field := match Tryz.prog.underlying 24 with
  | some (.struct fs) => fs
  | _ => #[]
theorem ten {ns : List Int} (h : ns.length = 10) : ∃ a0 a1 a2 a3 a4 a5 a6 a7 a8 a9, ns = [a0, a1, a2, a3, a4, a5, a6, a7, a8, a9] := by
  match ns, h with
  | [a0, a1, a2, a3, a4, a5, a6, a7, a8, a9], _ => exact ⟨a0, a1, a2, a3, a4, a5, a6, a7, a8, a9, rfl⟩
set_option maxRecDepth 100000 in
theorem lifted (os : Os) (started : os.Started) (H : Type) (enc : TypeId × Value → H) :
    ReturnsInHanded {} Tryz.checked os 3 .any (Rows.soundParamsSpec.pre6 enc Tryz.prog Tryz.f3 Rows.soundParamsRow.domain false) (Rows.soundParamsSpec.post enc Tryz.prog Tryz.f3 false true false false) := by
  refine returnsInHanded_of_change (C := Tryz.checked) Tryz.own started (by kernel_rfl) Tryz.func3
    (ChangeSpec.witness6 (enc := enc) (C := Tryz.checked) false ⟨#[], #[.agg #[.int .u64 0, .int .u64 0, .int .u64 0, .int .u64 0, .int .u64 0, .int .u64 0, .int .u64 0, .int .u64 0, .int .u64 0, .int .u64 0]], []⟩ 8 (by kernel_rfl) (by kernel_rfl) (by kernel_rfl) (by kernel_rfl)) ?_
  intro W base args ds gs before hval0 hW _ _
  have hval : ∀ (j : Nat) t v, Tryz.f3.params[j]? = some t → args[j]? = some v → Value.okWide Tryz.prog W .any base t v := hval0
  have hW' := hW
  obtain ⟨p, q, hA0, hV, rfl, _, _⟩ := hW
  have hA : DataW.TrodAll enc Tryz.prog W 0 (fun _ => true) true Tryz.f3.params.toList args.toList ds p := hA0
  rw [Tryz.params3] at hA hval
  obtain ⟨v0, d0, rfl, rfl, h0⟩ := trodAll_one hA
  obtain ⟨rfl, rfl⟩ := trodVars_none hV
  obtain ⟨ns, hl, rfl, rfl, rfl, hw⟩ := open_ints (ft := 22) (k := .u64) (fs := fs24) (by kernel_rfl) (by kernel_rfl) (by kernel_rfl) (by kernel_rfl) (by kernel_rfl) (hval 0 24 v0 rfl rfl) h0
  have hl10 : fs24.size = 10 := by kernel_rfl
  obtain ⟨a0, a1, a2, a3, a4, a5, a6, a7, a8, a9, hns⟩ := ten (hl.trans hl10)
  clear hA0 hval0 hval hA h0
  simp only [List.append_nil] at hW'
  have structReads : ∀ (W' : World) (sp : Nat → Bool), DataW.Trod enc Tryz.prog W' 0 sp true 24 (.agg ⟨ns.map (.int .u64)⟩) (.agg (ns.map fun a => .lit (.int .u64 a))) [] := fun W' sp =>
    shut_ints (ft := 22) (k := .u64) (fs := fs24) (by kernel_rfl) (by kernel_rfl) (by kernel_rfl) (by kernel_rfl) (by kernel_rfl) hl hw
  have hf3 := f3 W a0 a1 a2 a3 a4 a5 a6 a7 a8 a9
  have e : (#[Value.agg ⟨ns.map (.int .u64)⟩] : Array Value) = #[.agg #[.int .u64 a0, .int .u64 a1, .int .u64 a2, .int .u64 a3, .int .u64 a4, .int .u64 a5, .int .u64 a6, .int .u64 a7, .int .u64 a8, .int .u64 a9]] := by rw [hns]; rfl
  rw [← e] at hf3
  refine hf3.mono fun e W' ⟨he, hF⟩ => ?_
  subst he
  exact ⟨_, rfl, post_of_fresh (pa := []) (pv := []) hW' (fun _ _ _ => trodAll_mk1 (shut_bool Tryz.underlying4 _)) (fun sp _ => trodAll_mk1 (structReads _ sp)) (fun _ _ => rfl) rfl hF (ok_one (by kernel_rfl) rfl (okWide_bool_mk Tryz.underlying4 _))⟩

end Go.Proofs.YtacchpkmjgdebaaGreat
