/- A part of the proof of the statement of this seat: no condition. -/
import Derived.Test.YtacchpkmjgdebaaGreatKnD
import Derived.Test.YtacchpkmjgdebaaGreatRows
import Derived.Test.YtacchpkmjgdebaaGreatChecked
import Derived.ProofKit
import Derived.OpenShut
import Derived.Lib.SmallJoins
set_option linter.unusedSimpArgs false
open Go Go.Proofs
set_option linter.unusedVariables false
namespace Go.Proofs.YtacchpkmjgdebaaGreat
open Go.ChangeShapes Go.WideShapes Go.ChangeAt Go.RowKit Go.Joins Go.Deep

theorem Tryz.own : ownKnob Tryz.prog.godebug = none := by kernel_rfl

section
variable {H : Type} {enc : TypeId × Value → H} {P : Program}
/-- as the kit's 'post_of_same', where only what lay before is asked to be as it was -/
theorem post_of_fresh {f : Func} {s : ChangeSpec} {apart fresh handsOn again : Bool} {W W' : World} {args : Array Value} {v : Value} {ds gs : List (DataW H)} {before pa pv : List MemPlace}
    (hW : DataW.Whole enc P f.params.toList s.vars apart W args.toList ds gs before)
    (hres : ∀ (b : Nat) (sp : Nat → Bool) (hd : Bool), DataW.TrodAll enc P W' b sp hd f.resultTypes.toList (v.resultList f.resultTypes.size) (s.fn H (ds ++ gs)).results [])
    (hargs : ∀ sp : Nat → Bool, (∀ p ∈ before, sp p.block = true) → DataW.TrodAll enc P W' 0 sp true f.params.toList args.toList (s.fn H (ds ++ gs)).args pa)
    (hvars : ∀ sp : Nat → Bool, (∀ p ∈ before, sp p.block = true) → DataW.TrodVars enc P W' sp s.vars (s.fn H (ds ++ gs)).vars pv)
    (hps : before = pa ++ pv) (hF : Ex.Fresh W W')
    (hok : ∀ (j : Nat) (t : TypeId) (r : Value), f.resultTypes[j]? = some t → (v.resultList f.resultTypes.size)[j]? = some r → Value.okWide P W' .any 0 t r) :
    s.post enc P f apart fresh handsOn again W args v W' := by
  have hold : ∀ p ∈ before, (fun b => decide (b < W.heap.size)) p.block = true := fun p hp => by simpa using hW.lt p hp
  have hlt := hW.lt
  refine ⟨ds, gs, before, [], pa, pv, hW, hres _ _ _, hargs _ hold, hvars _ hold, World.keptBut_mono (fun p hp => ⟨hp, ?_⟩) (hF.kept (· ∈ before)), fun _ => ?_⟩
  · rw [hps, List.mem_append] at hp
    exact Or.inr hp
  · obtain ⟨_, _, _, _, _, hz, hn⟩ := hW
    refine ⟨hok, _, _, ([] ++ pa) ++ pv, ⟨[] ++ pa, pv, trodAll_append (hargs _ (fun _ _ => rfl)) (hres _ _ _), hvars _ (fun _ _ => rfl), rfl, ?_, ?_⟩, ?_⟩
    · intro b off hp
      have hp' : MemPlace.cell b off ∈ before := by rw [hps]; simpa using hp
      rw [hF.frozen _ (hlt _ hp')]
      exact hz b off hp'
    · intro ha
      have := hn ha
      rw [hps] at this
      simpa using this
    · intro p hp _
      rw [hps]
      simpa using hp

theorem ints_of {k : IntKind} : ∀ {N : Nat} {cs : List Value} {xs : List (DataW H × List MemPlace)}, cs.length = N → xs.length = N →
    (∀ i, i < N → ∃ a, cs[i]? = some (.int k a) ∧ xs[i]? = some (.lit (.int k a), []) ∧ (Lit.int k a).wf = true) → ∃ ns : List Int, cs = ns.map (.int k) ∧ xs = (ns.map fun a => ((.lit (.int k a) : DataW H), ([] : List MemPlace))) ∧ ∀ a ∈ ns, (Lit.int k a).wf = true
  | 0, cs, xs, hcl, hlen, _ => by
    have e1 : cs = [] := List.length_eq_zero_iff.1 hcl
    have e2 : xs = [] := List.length_eq_zero_iff.1 hlen
    exact ⟨[], by simp [e1], by simp [e2], by simp⟩
  | N + 1, [], _, hcl, _, _ => by simp at hcl
  | N + 1, _ :: _, [], _, hlen, _ => by simp at hlen
  | N + 1, c :: cs, x :: xs, hcl, hlen, each => by
    obtain ⟨ns, g1, g2, g3⟩ := ints_of (N := N) (cs := cs) (xs := xs) (by simpa using hcl) (by simpa using hlen) (fun i hlt => by simpa using each (i + 1) (by omega))
    obtain ⟨a, f1, f2, f3⟩ := each 0 (by omega)
    simp only [List.getElem?_cons_zero, Option.some.injEq] at f1 f2
    exact ⟨a :: ns, by rw [List.map_cons, ← g1, f1], by rw [List.map_cons, ← g2, f2], fun y hy => by
      rcases List.mem_cons.1 hy with e | hy
      · rw [e]; exact f3
      · exact g3 y hy⟩
theorem open_ints {w : World} {base b0 : Nat} {spare : Nat → Bool} {held : Bool} {r : Reach} {t ft : TypeId} {k : IntKind} {fs : Array Field} {v : Value} {d : DataW H} {p : List MemPlace} (hs : P.underlying t = some (.struct fs)) (hone : oneCellFields P fs = true)
    (hft : (List.range fs.size).all (fun i => (fs[i]?.map (·.type)) == some ft) = true) (hi : P.underlying ft = some (.int k)) (hC : P.cellsOf t = fs.size) (hv : Value.okWide P w r b0 t v) (h : DataW.Trod enc P w base spare held t v d p) :
    ∃ ns : List Int, ns.length = fs.size ∧ v = .agg ⟨ns.map (.int k)⟩ ∧ d = .agg (ns.map fun a => .lit (.int k a)) ∧ p = [] ∧ ∀ a ∈ ns, (Lit.int k a).wf = true := by
  obtain ⟨⟨cs⟩, rfl, hsz⟩ := okWide_struct hs hv
  obtain ⟨fuel, h⟩ := h
  have hf := h
  clear h
  obtain ⟨xs, n, _, hx, hl, hlen, hf⟩ := DataW.trod_struct hs hf
  have hcl : cs.length = fs.size := by rw [← hC, ← hsz]; rfl
  have each : ∀ i, i < fs.size → ∃ a, cs[i]? = some (.int k a) ∧ xs[i]? = some (.lit (.int k a), []) ∧ (Lit.int k a).wf = true := fun i hlt => by
    have h1 := List.all_eq_true.1 hft i (List.mem_range.2 hlt)
    have hfi : fs[i]? = some fs[i] := Array.getElem?_eq_getElem hlt
    obtain ⟨h2, h3⟩ := hone_of hone i _ hfi
    have h4 := hf i _ hfi
    rw [hfi] at h1
    have h1 : fs[i].type = ft := by simpa using h1
    rw [h2, h3, h1] at h4
    have hci : cs[i]? = some (cs[i]'(by omega)) := List.getElem?_eq_getElem (by omega)
    have hd : ((Value.agg ⟨cs⟩).cells.toList.drop i).take 1 = [cs[i]'(by omega)] := by
      show (cs.drop i).take 1 = _
      rw [List.drop_eq_getElem_cons (by omega)]; rfl
    rw [hd] at h4
    have hxi : xs[i]? = some (xs[i]'(by omega)) := List.getElem?_eq_getElem (by omega)
    rw [hxi] at h4
    obtain ⟨a, e1, e2, e3⟩ := DataW.trod_int hi h4
    refine ⟨a, ?_, ?_, e3⟩
    · rw [hci]; simpa using e1
    · rw [hxi, e2]
  obtain ⟨ns, g1, g2, g3⟩ := ints_of hcl hlen each
  simp only [Prod.mk.injEq] at hx
  refine ⟨ns, by rw [← hcl, g1, List.length_map], by rw [g1], ?_, ?_, g3⟩
  · rw [hx.1, g2, List.map_map]; rfl
  · rw [hx.2, g2]; induction ns <;> simp_all

theorem mapM_ofGet {α β : Type} {f : α → Option β} : ∀ {l : List α} {xs : List β}, l.length = xs.length → (∀ (i : Nat) (a : α), l[i]? = some a → f a = xs[i]?) → l.mapM f = some xs
  | [], [], _, _ => rfl
  | a :: l, x :: xs, hl, h => by
    rw [List.mapM_cons, h 0 a rfl, mapM_ofGet (l := l) (xs := xs) (by simpa using hl) (fun i b hb => h (i + 1) b hb)]
    rfl
theorem shut_ints {w : World} {base : Nat} {spare : Nat → Bool} {held : Bool} {t ft : TypeId} {k : IntKind} {fs : Array Field} (hs : P.underlying t = some (.struct fs)) (hone : oneCellFields P fs = true)
    (hft : (List.range fs.size).all (fun i => (fs[i]?.map (·.type)) == some ft) = true) (hi : P.underlying ft = some (.int k)) (hC : P.cellsOf t = fs.size) {ns : List Int} (hl : ns.length = fs.size) (hw : ∀ a ∈ ns, (Lit.int k a).wf = true) :
    DataW.Trod enc P w base spare held t (.agg ⟨ns.map (.int k)⟩) (.agg (ns.map fun a => .lit (.int k a))) [] := by
  have hm : fs.toList.mapM (fun f => DataW.trod enc P w base spare held 1 f.type (((ns.map (Value.int k)).drop f.offset).take (P.cellsOf f.type))) = some (ns.map fun a => ((.lit (.int k a) : DataW H), ([] : List MemPlace))) := by
    refine mapM_ofGet (by rw [List.length_map, hl]; simp) fun i f hf => ?_
    have hf : fs[i]? = some f := by simpa using hf
    obtain ⟨hlt, hfe⟩ := Array.getElem?_eq_some_iff.1 hf
    obtain ⟨h2, h3⟩ := hone_of hone i _ hf
    have h1 := List.all_eq_true.1 hft i (List.mem_range.2 hlt)
    rw [hf] at h1
    have h1 : f.type = ft := by simpa using h1
    have hn : ns[i]? = some (ns[i]'(by omega)) := List.getElem?_eq_getElem (by omega)
    have hd : ((ns.map (Value.int k)).drop i).take 1 = [.int k (ns[i]'(by omega))] := by
      rw [← List.map_drop, List.drop_eq_getElem_cons (by omega)]; rfl
    rw [h2, h3, h1, hd, List.getElem?_map, hn]
    have := hw _ (List.getElem_mem (l := ns) (n := i) (by omega))
    simp [DataW.trod, hi, this]
  have := trod_struct_mk (enc := enc) (w := w) (base := base) (spare := spare) (held := held) hs (by rw [List.length_map, hl, hC]) hm
  refine ⟨2, ?_⟩
  rw [show (Value.agg ⟨ns.map (.int k)⟩).cells.toList = ns.map (Value.int k) from rfl, this]
  congr 2
  · rw [List.map_map]; rfl
  · clear this hm hl hw; induction ns <;> simp_all
end
end Go.Proofs.YtacchpkmjgdebaaGreat
