/- A part of the proof of the statement of this seat: no condition. -/
import Derived.Test.YtjfmbamiampjmaaGreatRefB
import Derived.Deep.RegionHeld
set_option linter.unusedVariables false
set_option linter.unusedSimpArgs false
namespace Go.Proofs.YtjfmbamiampjmaaGreat
open Go Go.RowKit Go.Proofs Gl
/-- the reference's Encode at work: the beginning's own block is kept -/
structure Enr (b0 : Nat) (G : Array Value) (w0 w : World) (A : Option Addr) (n c : Nat) (bs : List Nat) : Prop where
  mine : Mine w0 w A n c bs
  kept : w.heap[b0]? = some (.cells G 28 (0, 0))
  lt : b0 < w0.heap.size
section
variable {b0 : Nat} {G : Array Value} {w0 w w' : World} {A : Option Addr} {n c : Nat} {bs : List Nat}
theorem Enr.fresh (h : Enr b0 G w0 w A n c bs) (hu : New w w') : Enr b0 G w0 w' A n c bs := ⟨h.mine.fresh hu, (hu.block _ (Array.getElem?_eq_some_iff.1 h.kept).1 id).trans h.kept, h.lt⟩
theorem Enr.drew (h : Enr b0 G w0 w A n c bs) : Enr b0 G w0 w.drew A n c bs := h.fresh (Upd.refl _ w).drew
theorem Enr.put (h : Enr b0 G w0 w A n c bs) (x k : Nat) (hx : x < 18446744073709551616) (hk : k ≤ 8) (hn : n + 8 ≤ 1073741824) :
    Calls Tryz.prog 33 #[.slice A n c, .int .i64 (k : Int), .int .u64 (x : Int)] w fun e w' => ∃ A' c', e = .returned (.slice A' (n + k) c') ∧ Enr b0 G w0 w' A' (n + k) c' (bs ++ be k x) :=
  (h.mine.put x k hx hk hn).mono fun e w' ⟨A', c', he, hm, hu⟩ => ⟨A', c', he, hm, (hu.block _ (Array.getElem?_eq_some_iff.1 h.kept).1 (by have := h.lt; omega)).trans h.kept, h.lt⟩
theorem Enr.cell (h : Enr b0 G w0 w A n c bs) (i : Nat) (v : Value) (hv : G[i]? = some v) : w.cell? ⟨b0, i, none⟩ = some v := cells_at h.kept i v hv
theorem Enr.row (h : Enr b0 G w0 w A n c bs) {b off : Nat} {xs : List Value} (hr : Row w0 b off xs) (i : Nat) (v : Value) (hv : xs[i]? = some v) : w.cell? ⟨b, off + i, none⟩ = some v := (hr.upd h.mine.new id).2 i v hv
theorem Enr.grow (h : Enr b0 G w0 w A n c bs) (hg : w.grownBy w' (Value.slice A n c).ownBlock) {A' : Option Addr} {n' c' : Nat} {bs' : List Nat} (ho : w'.ownsRow w0.heap.size 5 1 (.slice A' n' c') n' (bs'.map u8)) : Enr b0 G w0 w' A' n' c' bs' :=
  let ⟨h1, h2⟩ := h.mine.grow hg ho
  ⟨h1, (h2.block _ (Array.getElem?_eq_some_iff.1 h.kept).1 (by have := h.lt; omega)).trans h.kept, h.lt⟩
end
set_option maxHeartbeats 8000000 in
set_option maxRecDepth 100000 in
theorem refenc_c {w : World} {p0 p1 p2 p3 p4 p5 p6 p7 p8 p9 : Nat} {Aa Av : Option Addr} {na ca nv cv : Nat} {xs ys : List Nat} (hp : Big [p0, p1, p2, p3, p4, p5, p6, p7, p8, p9]) (hx : Sl 2 w Aa na ca (xs.map u64)) (hy : Sl 3 w Av nv cv (ys.map u64)) (hxb : Big xs) (hyb : Big ys) (hna : na ≤ 1048576) (hnv : nv ≤ 1048576) :
    Calls Tryz.prog 12 #[.agg (gen p0 p1 p2 p3 p4 p5 p6 p7 p8 p9 Aa na ca Av nv cv)] w fun e w' => ∃ A n c, e = .returned (.slice A n c) ∧ By w' A n c (genBytes [p0, p1, p2, p3, p4, p5, p6, p7, p8, p9] xs ys na nv) ∧ New w w' := by
  obtain ⟨i0, hi0, hz0, hz1, hz2⟩ := info_parts info5
  obtain ⟨G, hG⟩ : ∃ G, G = gen p0 p1 p2 p3 p4 p5 p6 p7 p8 p9 Aa na ca Av nv cv := ⟨_, rfl⟩
  obtain ⟨W0, hW0⟩ : ∃ W0, W0 = w.alloc (.cells G 28) := ⟨_, rfl⟩
  have hE0 : Enr w.heap.size G W0 W0 none 0 0 [] := ⟨Mine.start _, by rw [hW0]; exact Ex.alloc_new w _, by rw [hW0]; show w.heap.size < (w.heap.push _).size; simp⟩
  have hnw : New w W0 := by rw [hW0]; exact Upd.alloc _ _ _
  have h33 := hE0.put 1196183089 4 (by omega) (by omega) (by omega)
  have H33 := Lib.hid h33; have HX := Lib.hid (hx.new hnw); have HY := Lib.hid (hy.new hnw); have HXB := Lib.hid hxb; have HYB := Lib.hid hyb; have HP := Lib.hid hp; have HNA := Lib.hid hna; have HNV := Lib.hid hnv; have HNW := Lib.hid hnw
  have hg10 : G[10]? = some (.slice Aa na ca) := by rw [hG]; rfl
  have hg11 : G[11]? = some (.slice Av nv cv) := by rw [hG]; rfl
  have HG10 := Lib.hid hg10; have HG11 := Lib.hid hg11
  have HG := Lib.hid hG
  clear hg10 hg11 hE0 h33 hx hy hxb hyb hp hna hnv hnw
  rw [← hG]
  clear hG
  subst hW0
  go_enter Tryz.func12, Tryz.ntmps12
  go_wp2_with (first
    | (go_at_call 33; refine H33.out.mono ?_; rintro e w1 ⟨A1, c1, rfl, hE1⟩; clear H33; have a0 := hE1.cell 0 (u64 p0) (by rw [HG.out]; rfl); have a1 := hE1.cell 1 (u64 p1) (by rw [HG.out]; rfl); have a2 := hE1.cell 2 (u64 p2) (by rw [HG.out]; rfl); have a3 := hE1.cell 3 (u64 p3) (by rw [HG.out]; rfl); have a4 := hE1.cell 4 (u64 p4) (by rw [HG.out]; rfl); have a5 := hE1.cell 5 (u64 p5) (by rw [HG.out]; rfl); have a6 := hE1.cell 6 (u64 p6) (by rw [HG.out]; rfl); have a7 := hE1.cell 7 (u64 p7) (by rw [HG.out]; rfl); have a8 := hE1.cell 8 (u64 p8) (by rw [HG.out]; rfl); have a9 := hE1.cell 9 (u64 p9) (by rw [HG.out]; rfl); have HE1 := Lib.hid hE1; clear hE1; trace "one")
    | (go_at_call 34; refine (params_c HP.out).mono ?_; rintro e w2 ⟨A2, c2, rfl, hby2, hn2⟩; have hE2 := HE1.out.fresh hn2; have HE2 := Lib.hid hE2; have HBY2 := Lib.hid hby2; have HSRC := Lib.hid (Gl.Src.of_sl hby2.sl); have hbl := hby2.len; clear hE2 hby2 hn2 a0 a1 a2 a3 a4 a5 a6 a7 a8 a9; trace "two")
    | (at_builtin
       refine wpList_append_src _ rfl _ _ _ rfl (w.alloc (.cells G 28)).heap.size 5 i0 _ 1 1 Tryz.underlying29 hi0 hz0 hz1 hz2 rfl (by omega) (.slice A1 4 c1) 4 ((be 4 1196183089).map Gl.u8) rfl HE2.out.mine.own _ _ _ (([p0, p1, p2, p3, p4, p5, p6, p7, p8, p9].flatMap (be 8)).map u8) rfl (by rw [List.length_map]; exact hbl) HSRC.out (oneCell_u8 _) (by simp only [maxLen]; omega) (by omega) HE2.out.mine.new.size ?_
       intro A3 c3 w3 hown3 hg3 hat3
       have hE3 : Enr w.heap.size G (w.alloc (.cells G 28)) w3 A3 (4 + 80) c3 (be 4 1196183089 ++ [p0, p1, p2, p3, p4, p5, p6, p7, p8, p9].flatMap (be 8)) := HE2.out.grow hg3 (by rw [List.map_append]; exact hown3)
       have b10 := hE3.cell 10 _ HG10.out
       have h33b := hE3.put na 4 (by have := HNA.out; omega) (by omega) (by omega)
       have hwa : IntKind.u64.wrap (na : Int) = (na : Int) := (by have := HNA.out; simp [IntKind.wrap, IntKind.bits, IntKind.signed]; omega)
       clear hE3 hown3 hg3 hat3 hbl)
    | (go_at_call 33; refine h33b.mono ?_; rintro e w4 ⟨A4, c4, rfl, hE4⟩; have HE4 := Lib.hid hE4; have c10 := hE4.cell 10 _ HG10.out; clear hE4 h33b b10))
  obtain ⟨ps, hps⟩ : ∃ ps, ps = [p0, p1, p2, p3, p4, p5, p6, p7, p8, p9] := ⟨_, rfl⟩
  rw [← hps] at HE4
  obtain ⟨bs4, hbs4⟩ : ∃ bs4, bs4 = be 4 1196183089 ++ ps.flatMap (be 8) ++ be 4 na := ⟨_, rfl⟩
  rw [← hbs4] at HE4
  have HB4 := Lib.hid hbs4; have HPS := Lib.hid hps
  clear hbs4 hps
  have hca : ca ≤ maxLen ∧ na ≤ ca := ⟨HX.out.max, HX.out.le⟩
  have hxl := HX.out.len
  rw [List.length_map] at hxl
  go_loopw [3, 4] (fun b i wr => ∃ (j : Nat) (A : Option Addr) (c : Nat), j ≤ na ∧ i = .int .i64 (j : Int) ∧ b = .slice A (88 + 16 * j) c ∧ Hid (Enr w.heap.size G (w.alloc (.cells G 28)) wr A (88 + 16 * j) c (bs4 ++ (xs.take (2 * j)).flatMap (be 8)))) (fun _ i _ => na - (intOf i).toNat)
  case atStart => exact ⟨0, A4, c4, Nat.zero_le _, rfl, rfl, Lib.hid (by simpa using HE4.out)⟩
  case round =>
    obtain ⟨j, A, c, hj, rfl, rfl, hI⟩ := hrel
    have d10 := hI.out.cell 10 _ HG10.out
    have hna := HNA.out
    by_cases hjn : j < na
    · obtain ⟨b, off, rfl, hrow⟩ := HX.out.row (by omega)
      obtain ⟨x0, hx0⟩ : ∃ x0, x0 = xs[2 * j]'(by omega) := ⟨_, rfl⟩
      obtain ⟨x1, hx1⟩ : ∃ x1, x1 = xs[2 * j + 1]'(by omega) := ⟨_, rfl⟩
      have hr : ∀ (W : World) (A : Option Addr) (n c : Nat) (bs : List Nat), Enr w.heap.size G (w.alloc (.cells G 28)) W A n c bs → W.cell? ⟨b, off + j * 2, none⟩ = some (.int .u64 (x0 : Int)) ∧ W.cell? ⟨b, off + j * 2 + 1, none⟩ = some (.int .u64 (x1 : Int)) := fun W A n c bs h => by
        refine ⟨?_, ?_⟩
        · rw [hx0, Nat.mul_comm j 2]; exact h.row hrow (2 * j) _ (by simp [show 2 * j < xs.length by omega])
        · rw [hx1, Nat.mul_comm j 2, Nat.add_assoc]; exact h.row hrow (2 * j + 1) _ (by simp [show 2 * j + 1 < xs.length by omega])
      have HR := Lib.hid hr
      obtain ⟨e0, e1⟩ := HR.out _ _ _ _ _ hI.out
      obtain ⟨e2, e3⟩ := HR.out _ _ _ _ _ hI.out.drew
      have d10' := hI.out.drew.cell 10 _ HG10.out
      have hb0 : x0 < 18446744073709551616 := by rw [hx0]; exact HXB.out _ (List.getElem_mem _)
      have hb1 : x1 < 18446744073709551616 := by rw [hx1]; exact HXB.out _ (List.getElem_mem _)
      have hcA := hI.out.drew.put x0 8 hb0 (Nat.le_refl _) (by omega)
      have HCA := Lib.hid hcA
      have HX0 := Lib.hid hx0; have HX1 := Lib.hid hx1; have HB1 := Lib.hid hb1
      clear hx0 hx1 hb0 hb1 hcA hr hrow
      go_wp2
      go_region_held (fun w' => w'.cell? ⟨w.heap.size, 10, none⟩ = some (.slice (some ⟨b, off, none⟩) na ca) ∧ w'.cell? ⟨b, off + j * 2, none⟩ = some (.int .u64 (x0 : Int)) ∧ w'.cell? ⟨b, off + j * 2 + 1, none⟩ = some (.int .u64 (x1 : Int))) (go_keep) (first
        | (go_at_call 33; refine HCA.out.mono ?_; rintro e w5 ⟨A5, c5, rfl, hE5⟩; clear HCA; obtain ⟨f0, f1⟩ := HR.out _ _ _ _ _ hE5; have f10 := hE5.cell 10 _ HG10.out; have HCB := Lib.hid (hE5.put x1 8 HB1.out (Nat.le_refl _) (by omega)); clear hE5)
        | (go_at_call 33; refine HCB.out.mono ?_; rintro e w6 ⟨A6, c6, rfl, hE6⟩; obtain ⟨g0, g1⟩ := HR.out _ _ _ _ _ hE6; have g10 := hE6.cell 10 _ HG10.out))
      all_goals go_wp2
      all_goals refine ⟨⟨j + 1, A6, c6, by omega, by congr 1, rfl, Lib.hid ?_⟩, by simp [intOf]; omega⟩
      all_goals
        rw [HX0.out, HX1.out, List.append_assoc, List.append_assoc, ← List.append_assoc (List.flatMap _ _), flat_take xs (2 * j) (by omega), flat_take xs (2 * j + 1) (by omega)] at hE6
        exact hE6
    · obtain rfl : j = na := by omega
      have hE := hI.out
      rw [List.take_of_length_le (by omega)] at hE
      obtain ⟨bs5, hbs5⟩ : ∃ bs5, bs5 = bs4 ++ xs.flatMap (be 8) := ⟨_, rfl⟩
      rw [← hbs5] at hE
      have HB5 := Lib.hid hbs5
      clear hbs5
      have d11 := hE.cell 11 _ HG11.out
      have hwv : IntKind.u64.wrap (nv : Int) = (nv : Int) := by have := HNV.out; simp [IntKind.wrap, IntKind.bits, IntKind.signed]; omega
      have h33c := hE.put nv 4 (by have := HNV.out; omega) (by omega) (by omega)
      clear hE hI
      go_wp2_with (go_at_call 33; refine h33c.mono ?_; rintro e w8 ⟨A8, c8, rfl, hE8⟩; have HE8 := Lib.hid hE8; have d11' := hE8.cell 11 _ HG11.out; clear hE8 h33c)
      obtain ⟨bs8, hbs8⟩ : ∃ bs8, bs8 = bs5 ++ be 4 nv := ⟨_, rfl⟩
      rw [← hbs8] at HE8
      have HB8 := Lib.hid hbs8
      clear hbs8
      have hyl := HY.out.len
      rw [List.length_map] at hyl
      have hcv : cv ≤ maxLen ∧ nv ≤ cv := ⟨HY.out.max, HY.out.le⟩
      have hnv := HNV.out
      obtain ⟨m0, hm0⟩ : ∃ m0, m0 = 88 + 16 * j + 4 := ⟨_, rfl⟩
      rw [← hm0] at HE8 ⊢
      have hm1 : m0 ≤ 16777308 := by omega
      clear hm0
      go_loopw [3, 5] (fun b i wr => ∃ (k : Nat) (A : Option Addr) (c : Nat), k ≤ nv ∧ i = .int .i64 (k : Int) ∧ b = .slice A (m0 + 24 * k) c ∧ Hid (Enr w.heap.size G (w.alloc (.cells G 28)) wr A (m0 + 24 * k) c (bs8 ++ (ys.take (3 * k)).flatMap (be 8)))) (fun _ i _ => nv - (intOf i).toNat)
      case atStart => exact ⟨0, A8, c8, Nat.zero_le _, rfl, rfl, Lib.hid (by simpa using HE8.out)⟩
      case round =>
        obtain ⟨k, A, c, hk, rfl, rfl, hI⟩ := hrel
        have d11 := hI.out.cell 11 _ HG11.out
        by_cases hkn : k < nv
        · obtain ⟨b, off, rfl, hrow⟩ := HY.out.row (by omega)
          obtain ⟨x0, hx0⟩ : ∃ x0, x0 = ys[3 * k]'(by omega) := ⟨_, rfl⟩
          obtain ⟨x1, hx1⟩ : ∃ x1, x1 = ys[3 * k + 1]'(by omega) := ⟨_, rfl⟩
          obtain ⟨x2, hx2⟩ : ∃ x2, x2 = ys[3 * k + 2]'(by omega) := ⟨_, rfl⟩
          have hr : ∀ (W : World) (A : Option Addr) (n c : Nat) (bs : List Nat), Enr w.heap.size G (w.alloc (.cells G 28)) W A n c bs → W.cell? ⟨b, off + k * 3, none⟩ = some (.int .u64 (x0 : Int)) ∧ W.cell? ⟨b, off + k * 3 + 1, none⟩ = some (.int .u64 (x1 : Int)) ∧ W.cell? ⟨b, off + k * 3 + 2, none⟩ = some (.int .u64 (x2 : Int)) := fun W A n c bs h => by
            refine ⟨?_, ?_, ?_⟩
            · rw [hx0, Nat.mul_comm k 3]; exact h.row hrow (3 * k) _ (by simp [show 3 * k < ys.length by omega])
            · rw [hx1, Nat.mul_comm k 3, Nat.add_assoc]; exact h.row hrow (3 * k + 1) _ (by simp [show 3 * k + 1 < ys.length by omega])
            · rw [hx2, Nat.mul_comm k 3, Nat.add_assoc]; exact h.row hrow (3 * k + 2) _ (by simp [show 3 * k + 2 < ys.length by omega])
          have HR := Lib.hid hr
          obtain ⟨e0, e1, e2⟩ := HR.out _ _ _ _ _ hI.out
          obtain ⟨e3, e4, e5⟩ := HR.out _ _ _ _ _ hI.out.drew
          have d11' := hI.out.drew.cell 11 _ HG11.out
          have hb0 : x0 < 18446744073709551616 := by rw [hx0]; exact HYB.out _ (List.getElem_mem _)
          have hb1 : x1 < 18446744073709551616 := by rw [hx1]; exact HYB.out _ (List.getElem_mem _)
          have hb2 : x2 < 18446744073709551616 := by rw [hx2]; exact HYB.out _ (List.getElem_mem _)
          have hcA := hI.out.drew.put x0 8 hb0 (Nat.le_refl _) (by omega)
          have HCA := Lib.hid hcA
          have HX0 := Lib.hid hx0; have HX1 := Lib.hid hx1; have HX2 := Lib.hid hx2; have HB1 := Lib.hid hb1; have HB2 := Lib.hid hb2
          clear hx0 hx1 hx2 hb0 hb1 hb2 hcA hr hrow
          go_wp2
          go_region_held (fun w' => w'.cell? ⟨w.heap.size, 11, none⟩ = some (.slice (some ⟨b, off, none⟩) nv cv) ∧ w'.cell? ⟨b, off + k * 3, none⟩ = some (.int .u64 (x0 : Int)) ∧ w'.cell? ⟨b, off + k * 3 + 1, none⟩ = some (.int .u64 (x1 : Int)) ∧ w'.cell? ⟨b, off + k * 3 + 2, none⟩ = some (.int .u64 (x2 : Int))) (go_keep) (first
            | (go_at_call 33; refine HCA.out.mono ?_; rintro e w5 ⟨A5, c5, rfl, hE5⟩; clear HCA; obtain ⟨f0, f1, f2⟩ := HR.out _ _ _ _ _ hE5; have f10 := hE5.cell 11 _ HG11.out; have HCB := Lib.hid (hE5.put x1 8 HB1.out (Nat.le_refl _) (by omega)); clear hE5)
            | (go_at_call 33; refine HCB.out.mono ?_; rintro e w6 ⟨A6, c6, rfl, hE6⟩; clear HCB; obtain ⟨g0, g1, g2⟩ := HR.out _ _ _ _ _ hE6; have g10 := hE6.cell 11 _ HG11.out; have HCC := Lib.hid (hE6.put x2 8 HB2.out (Nat.le_refl _) (by omega)); clear hE6)
            | (go_at_call 33; refine HCC.out.mono ?_; rintro e w7 ⟨A7, c7, rfl, hE7⟩; clear HCC; obtain ⟨k0, k1, k2⟩ := HR.out _ _ _ _ _ hE7; have k10 := hE7.cell 11 _ HG11.out))
          all_goals go_wp2
          all_goals refine ⟨⟨k + 1, A7, c7, by omega, by congr 1, rfl, Lib.hid ?_⟩, by simp [intOf]; omega⟩
          all_goals
            rw [HX0.out, HX1.out, HX2.out, List.append_assoc, List.append_assoc, List.append_assoc, ← List.append_assoc (List.flatMap _ _), flat_take ys (3 * k) (by omega), ← List.append_assoc (List.flatMap _ _), flat_take ys (3 * k + 1) (by omega), flat_take ys (3 * k + 2) (by omega)] at hE7
            exact hE7
        · obtain rfl : k = nv := by omega
          have hE := hI.out
          rw [List.take_of_length_le (by omega), HB8.out, HB5.out, HB4.out] at hE
          clear hI
          go_wp2
          go_ret
          have e : genBytes [p0, p1, p2, p3, p4, p5, p6, p7, p8, p9] xs ys j k = be 4 1196183089 ++ ps.flatMap (be 8) ++ be 4 j ++ xs.flatMap (be 8) ++ be 4 k ++ ys.flatMap (be 8) := by rw [HPS.out]; rfl
          refine ⟨A, _, c, rfl, ?_, HNW.out.trans hE.mine.new⟩
          rw [e]
          refine hE.mine.by_ (fun b hb => ?_)
          simp only [List.mem_append, List.mem_flatMap] at hb
          rcases hb with ((((h | ⟨x, _, h⟩) | h) | ⟨x, _, h⟩) | h) | ⟨x, _, h⟩ <;> exact be_small _ _ b h
end Go.Proofs.YtjfmbamiampjmaaGreat
