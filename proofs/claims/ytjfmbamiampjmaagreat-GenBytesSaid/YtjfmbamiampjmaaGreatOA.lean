/- A part of the proof of the statement of this seat: no condition. -/
import Derived.Test.YtjfmbamiampjmaaGreatXC
import Derived.ProofKit
import Derived.ReadAgain
import Derived.Lib.SmallJoins
import Derived.Test.YtjfmbamiampjmaaGreatG
import Derived.OpenShut
set_option linter.unusedVariables false
set_option linter.unusedSimpArgs false
section
namespace Gl
open Go Go.Proofs Go.ChangeShapes Go.WideShapes Go.ChangeAt Go.RowKit Go.Joins
section
variable {H : Type} {enc : TypeId × Value → H} {P : Program}
theorem trodAll_carry {w w' : World} {base : Nat} {spare : Nat → Bool} {held : Bool} : ∀ {ts : List TypeId} {vs : List Value} {ds : List (DataW H)} {ps : List MemPlace}, DataW.TrodAll enc P w base spare held ts vs ds ps → (∀ p ∈ ps, w.sameAt w' p) → DataW.TrodAll enc P w' base spare held ts vs ds ps
  | [], [], [], _, h, _ => h
  | _ :: _, _ :: _, _ :: _, _, ⟨p, q, ⟨n, h1⟩, h2, e⟩, hs => ⟨p, q, ⟨n, DataW.trod_carry n _ _ _ h1 (fun x hx => hs x (by rw [e]; exact List.mem_append_left _ hx))⟩, trodAll_carry h2 (fun x hx => hs x (by rw [e]; exact List.mem_append_right _ hx)), e⟩
theorem same_of_fresh {W W' : World} (hF : Ex.Fresh W W') {p : MemPlace} (hp : p.block < W.heap.size) : W.sameAt W' p := by
  have h := hF.2.2.2.2 p.block hp
  cases p with
  | cell b off => unfold World.sameAt; simp only [World.cell?, MemPlace.block] at h ⊢; rw [h]
  | map b => exact h
/-- A call that leaves what lay before as it was and whose results need no memory: what a row asks of its end, with the arguments as they came in. -/
theorem post_fresh {f : Func} {s : ChangeSpec} {apart fresh handsOn again : Bool} {W W' : World} {args : Array Value} {v : Value} {ds : List (DataW H)} {before : List MemPlace} {T : TypeId → Prop}
    (hW : DataW.Whole enc P f.params.toList s.vars apart W args.toList ds [] before) (hv : s.vars = [])
    (K : Kids P T) (hz : ∀ t e, T t → P.underlying t = some (.slice e) → 0 < P.cellsOf e) (hT : ∀ t ∈ f.params.toList, T t)
    (hfa : (s.fn H (ds ++ [])).args = ds) (hfv : (s.fn H (ds ++ [])).vars = [])
    (hres : ∀ (b : Nat) (sp : Nat → Bool) (hd : Bool), DataW.TrodAll enc P W' b sp hd f.resultTypes.toList (v.resultList f.resultTypes.size) (s.fn H (ds ++ [])).results [])
    (hF : Ex.Fresh W W')
    (hok : ∀ (j : Nat) (t : TypeId) (r : Value), f.resultTypes[j]? = some t → (v.resultList f.resultTypes.size)[j]? = some r → Value.okWide P W' .any 0 t r) :
    s.post enc P f apart fresh handsOn again W args v W' := by
  have hold : ∀ p ∈ before, (fun b => decide (b < W.heap.size)) p.block = true := fun p hp => by simpa using hW.lt p hp
  have hlt := hW.lt
  obtain ⟨pa, pv, hA, hV, hps, hz0, hn⟩ := id hW
  rw [hv] at hV
  have hpv : pv = [] := by
    have hV' : DataW.TrodVars enc P W (fun _ => true) [] [] pv := hV
    exact hV'
  subst hpv
  rw [List.append_nil] at hps
  subst hps
  have hargs : ∀ sp : Nat → Bool, (∀ p ∈ before, sp p.block = true) → DataW.TrodAll enc P W' 0 sp true f.params.toList args.toList (s.fn H (ds ++ [])).args before := fun sp hsp => by
    rw [hfa]
    exact trodAll_carry (hA.respare K hz hT hsp) (fun p hp => same_of_fresh hF (hlt p hp))
  have hvars : ∀ sp : Nat → Bool, DataW.TrodVars enc P W' sp s.vars (s.fn H (ds ++ [])).vars [] := fun sp => by
    rw [hv, hfv]; rfl
  refine ⟨ds, [], before, [], before, [], hW, hres _ _ _, hargs _ hold, hvars _, World.keptBut_mono (fun p hp => ⟨hp, Or.inr (Or.inl hp)⟩) (hF.kept (· ∈ before)), fun _ => ?_⟩
  refine ⟨hok, _, _, ([] ++ before) ++ [], ⟨[] ++ before, [], trodAll_append (hargs _ (fun _ _ => rfl)) (hres _ _ _), hvars _, rfl, ?_, ?_⟩, ?_⟩
  · intro b off hp
    have hp' : MemPlace.cell b off ∈ before := by simpa using hp
    rw [hF.frozen _ (hlt _ hp')]
    exact hz0 b off (by simpa using hp')
  · intro ha
    have := hn ha
    simpa using this
  · intro p hp _
    simpa using hp
end
end Gl
end
section
namespace Gl
open Go Go.Proofs Go.ChangeShapes Go.WideShapes Go.ChangeAt Go.RowKit Go.Joins Go.Deep
section
variable {H : Type} {enc : TypeId × Value → H} {P : Program} {w : World} {base : Nat} {spare : Nat → Bool} {held : Bool}
theorem ints_of {k : IntKind} : ∀ {N : Nat} {cs : List Value} {xs : List (DataW H × List MemPlace)}, cs.length = N → xs.length = N →
    (∀ i, i < N → ∃ a, cs[i]? = some (.int k a) ∧ xs[i]? = some (.lit (.int k a), []) ∧ (Lit.int k a).wf = true) → ∃ ns : List Int, cs = ns.map (.int k) ∧ xs = (ns.map fun a => ((.lit (.int k a) : DataW H), ([] : List MemPlace))) ∧ ∀ a ∈ ns, (Lit.int k a).wf = true
  | 0, cs, xs, hcl, hlen, _ => by
    have e1 : cs = [] := List.length_eq_zero_iff.1 hcl
    have e2 : xs = [] := List.length_eq_zero_iff.1 hlen
    exact ⟨[], by simp [e1], by simp [e2], by simp⟩
  | N + 1, [], _, hcl, _, _ => by simp at hcl
  | N + 1, _ :: _, [], _, hlen, _ => by simp at hlen
  | N + 1, c :: cs, x :: xs, hcl, hlen, each => by
    obtain ⟨ns, g1, g2, g3⟩ := ints_of (N := N) (cs := cs) (xs := xs) (by simpa using hcl) (by simpa using hlen) (fun i hlt => by simpa using each (i + 1) (by omega))
    obtain ⟨a, f1, f2, f3⟩ := each 0 (by omega)
    simp only [List.getElem?_cons_zero, Option.some.injEq] at f1 f2
    exact ⟨a :: ns, by rw [List.map_cons, ← g1, f1], by rw [List.map_cons, ← g2, f2], fun y hy => by
      rcases List.mem_cons.1 hy with e | hy
      · rw [e]; exact f3
      · exact g3 y hy⟩
/-- a struct of integers, from its cells -/
theorem struct_ints {fuel : Nat} {t ft : TypeId} {k : IntKind} {fs : Array Field} {cs : List Value} {x : DataW H × List MemPlace} (hs : P.underlying t = some (.struct fs)) (hone : oneCellFields P fs = true)
    (hft : (List.range fs.size).all (fun i => (fs[i]?.map (·.type)) == some ft) = true) (hi : P.underlying ft = some (.int k)) (hC : P.cellsOf t = fs.size) (h : DataW.trod enc P w base spare held fuel t cs = some x) :
    ∃ ns : List Int, ns.length = fs.size ∧ cs = ns.map (.int k) ∧ ∀ a ∈ ns, (Lit.int k a).wf = true := by
  obtain ⟨xs, n, _, hx, hl, hlen, hf⟩ := DataW.trod_struct hs h
  have hcl : cs.length = fs.size := hl.trans hC
  have each : ∀ i, i < fs.size → ∃ a, cs[i]? = some (.int k a) ∧ xs[i]? = some (.lit (.int k a), []) ∧ (Lit.int k a).wf = true := fun i hlt => by
    have h1 := List.all_eq_true.1 hft i (List.mem_range.2 hlt)
    have hfi : fs[i]? = some fs[i] := Array.getElem?_eq_getElem hlt
    obtain ⟨h2, h3⟩ := hone_of hone i _ hfi
    have h4 := hf i _ hfi
    rw [hfi] at h1
    have h1 : fs[i].type = ft := by simpa using h1
    rw [h2, h3, h1] at h4
    have hci : cs[i]? = some (cs[i]'(by omega)) := List.getElem?_eq_getElem (by omega)
    have hd : (cs.drop i).take 1 = [cs[i]'(by omega)] := by
      rw [List.drop_eq_getElem_cons (by omega)]; rfl
    rw [hd] at h4
    have hxi : xs[i]? = some (xs[i]'(by omega)) := List.getElem?_eq_getElem (by omega)
    rw [hxi] at h4
    obtain ⟨a, e1, e2, e3⟩ := DataW.trod_int hi h4
    refine ⟨a, ?_, ?_, e3⟩
    · rw [hci]; simpa using e1
    · rw [hxi, e2]
  obtain ⟨ns, g1, g2, g3⟩ := ints_of hcl hlen each
  exact ⟨ns, by rw [← hcl, g1, List.length_map], g1, g3⟩
theorem lists_of {N m : Nat} (hm : 0 < m) {R : Nat → List Int → Prop} (h : ∀ i, i < N → ∃ l, l.length = m ∧ R i l) : ∃ L : List Int, L.length = N * m ∧ ∀ i, i < N → R i ((L.drop (i * m)).take m) := by
  induction N with
  | zero => exact ⟨[], by simp, fun i hi => by omega⟩
  | succ N ih =>
    obtain ⟨L, h1, h2⟩ := ih (fun i hi => h i (by omega))
    obtain ⟨l, hl, hr⟩ := h N (by omega)
    refine ⟨L ++ l, by rw [List.length_append, h1, hl, Nat.succ_mul], fun i hi => ?_⟩
    by_cases hN : i < N
    · have : i * m + m ≤ L.length := by rw [h1, ← Nat.succ_mul]; exact Nat.mul_le_mul_right _ hN
      rw [List.drop_append_of_le_length (by omega), List.take_append_of_le_length (by rw [List.length_drop]; omega)]
      exact h2 i hN
    · obtain rfl : i = N := by omega
      rw [← h1, List.drop_left, ← hl, List.take_length]
      exact hr
/-- a slice of structs of integers -/
theorem slice_ints {fuel : Nat} {t e ft : TypeId} {k : IntKind} {fs : Array Field} {cs : List Value} {x : DataW H × List MemPlace} (ht : P.underlying t = some (.slice e)) (hs : P.underlying e = some (.struct fs)) (hone : oneCellFields P fs = true)
    (hft : (List.range fs.size).all (fun i => (fs[i]?.map (·.type)) == some ft) = true) (hi : P.underlying ft = some (.int k)) (hC : P.cellsOf e = fs.size) (hpos : 0 < fs.size) (h : DataW.trod enc P w base spare held fuel t cs = some x) :
    ∃ (A : Option Addr) (n c : Nat) (xs : List Int), cs = [.slice A n c] ∧ Sl fs.size w A n c (xs.map (.int k)) ∧ ∀ a ∈ xs, (Lit.int k a).wf = true := by
  rcases DataW.trod_slice ht h with ⟨rfl, _⟩ | ⟨a, len, cap, elems, rest, n, _, rfl, _, _, hle, hmax, hlen, hel, _, _⟩
  · exact ⟨none, 0, 0, [], rfl, Sl.nilS _ _, by simp⟩
  · have each : ∀ i, i < len → ∃ l : List Int, l.length = fs.size ∧ ((∀ a ∈ l, (Lit.int k a).wf = true) ∧ ∀ j, j < fs.size → w.cell? ((a.add (i * fs.size)).add j) = (l.map (Value.int k))[j]?) := fun i hi => by
      have h1 := hel i hi
      rw [hC, List.getElem?_eq_getElem (by omega), Option.bind_eq_some_iff] at h1
      obtain ⟨cs', h2, h3⟩ := h1
      obtain ⟨ns, g1, g2, g3⟩ := struct_ints hs hone hft ‹_› hC h3
      refine ⟨ns, g1, g3, fun j hj => ?_⟩
      rw [(World.cells?_some h2).2.2 j hj, g2]
    obtain ⟨L, hL, hR⟩ := lists_of (R := fun i l => (∀ a ∈ l, (Lit.int k a).wf = true) ∧ ∀ j, j < fs.size → w.cell? ((a.add (i * fs.size)).add j) = (l.map (Value.int k))[j]?) hpos each
    have hdiv : ∀ q, q < L.length → ∃ i j, i < len ∧ j < fs.size ∧ q = i * fs.size + j := fun q hq =>
      ⟨q / fs.size, q % fs.size, (Nat.div_lt_iff_lt_mul hpos).2 (by rw [← hL]; exact hq), Nat.mod_lt _ hpos, by rw [Nat.mul_comm]; exact (Nat.div_add_mod q fs.size).symm⟩
    refine ⟨some a, len, cap, L, rfl, ⟨by rw [List.length_map, hL], hle, hmax, fun h0 => ?_, fun h => by cases h⟩, fun z hz => ?_⟩
    · obtain ⟨b, off, spot⟩ := a
      have h00 := (hR 0 h0).2 0 hpos
      have hLp : 0 < L.length := by rw [hL]; exact Nat.mul_pos h0 hpos
      have h01 : w.cell? ⟨b, off, spot⟩ = some (.int k (L[0]'hLp)) := by
        rw [Nat.zero_mul] at h00
        simp only [Addr.add, if_pos] at h00
        rw [h00, List.getElem?_map, List.drop_zero, List.getElem?_take, if_pos hpos, List.getElem?_eq_getElem hLp]; rfl
      have hspot : spot = none := by simpa using World.cell?_spot h01
      subst hspot
      refine ⟨b, off, rfl, ?_, fun q v hv => ?_⟩
      · have h := h01
        unfold World.cell? at h
        split at h
        · rename_i hh
          exact (Array.getElem?_eq_some_iff.1 hh).1
        · cases h
      · have hq : q < L.length := by
          have := (List.getElem?_eq_some_iff.1 hv).1
          simpa using this
        obtain ⟨i, j, hi', hj, rfl⟩ := hdiv q hq
        have h2 := (hR i hi').2 j hj
        rw [add_plain, add_plain, Nat.add_assoc] at h2
        rw [h2, ← hv, List.getElem?_map, List.getElem?_map, List.getElem?_take, if_pos hj, List.getElem?_drop]
    · obtain ⟨q, hq⟩ := List.getElem?_of_mem hz
      obtain ⟨i, j, hi', hj, rfl⟩ := hdiv q (List.getElem?_eq_some_iff.1 hq).1
      refine (hR i hi').1 z ?_
      apply List.mem_of_getElem? (i := j)
      rw [List.getElem?_take, if_pos hj, List.getElem?_drop]; exact hq
theorem nats_u64 {ns : List Int} (h : ∀ a ∈ ns, (Lit.int .u64 a).wf = true) : ∃ xs : List Nat, ns.map (Value.int .u64) = xs.map u64 ∧ xs.length = ns.length ∧ ∀ x ∈ xs, x < 18446744073709551616 := by
  refine ⟨ns.map Int.toNat, ?_, by simp, fun x hx => ?_⟩
  · rw [List.map_map]
    refine List.map_congr_left (fun a ha => ?_)
    have := bounds_u64 (h a ha)
    show Value.int .u64 a = Value.int .u64 ((a.toNat : Nat) : Int)
    rw [Int.toNat_of_nonneg this.1]
  · obtain ⟨a, ha, rfl⟩ := List.mem_map.1 hx
    have := bounds_u64 (h a ha)
    omega
/-- a []byte argument -/
theorem open_bytes {fuel : Nat} {t e : TypeId} {cs : List Value} {x : DataW H × List MemPlace} (ht : P.underlying t = some (.slice e)) (he : P.underlying e = some (.int .u8)) (hc : P.cellsOf e = 1)
    (h : DataW.trod enc P w base (fun _ => true) held fuel t cs = some x) : ∃ (A : Option Addr) (n c : Nat) (bs : List Nat), cs = [.slice A n c] ∧ By w A n c bs := by
  rcases ChangeShapes.open_ints ht he hc h with ⟨rfl, _⟩ | ⟨a, len, cap, zs, rfl, _, hle, hmax, hlen, _, hcell, hw⟩
  · exact ⟨none, 0, 0, [], rfl, By.nil _⟩
  · rw [if_pos rfl] at hlen
    have hb : ∀ z ∈ zs, 0 ≤ z ∧ z ≤ 255 := fun z hz => bounds_u8 (hw z hz)
    refine ⟨some a, len, cap, (zs.take len).map Int.toNat, rfl, ⟨⟨by simp; omega, hle, hmax, fun h0 => ?_, fun h => by cases h⟩, fun x hx => ?_⟩⟩
    · obtain ⟨b, off, rfl, hc'⟩ := ints_at hcell (by omega)
      refine ⟨b, off, rfl, ?_, fun i v hv => ?_⟩
      · have h := hc' 0 (by omega)
        unfold World.cell? at h
        split at h
        · rename_i hh
          exact (Array.getElem?_eq_some_iff.1 hh).1
        · cases h
      · have hi : i < len := by
          have := (List.getElem?_eq_some_iff.1 hv).1
          simp at this; omega
        rw [hc' i (by omega), ← hv]
        have hz : i < zs.length := by omega
        have := hb _ (List.getElem_mem hz)
        simp [List.getD, List.getElem?_take, hi, hz, u8]
        omega
    · obtain ⟨a, ha, rfl⟩ := List.mem_map.1 hx
      have := hb a (List.mem_of_mem_take ha)
      omega
end
end Gl
end
