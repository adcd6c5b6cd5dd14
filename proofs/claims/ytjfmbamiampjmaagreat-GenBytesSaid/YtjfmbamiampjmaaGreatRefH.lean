/- A part of the proof of the statement of this seat: no condition. -/
import Derived.Test.YtjfmbamiampjmaaGreatRefG
import Derived.Test.YtjfmbamiampjmaaGreatKMok
import Derived.Deep.RegionHeld
import Derived.Deep.DeepCutAuto
set_option linter.unusedVariables false
set_option linter.unusedSimpArgs false
namespace Go.Proofs.YtjfmbamiampjmaaGreat
open Go Go.RowKit Go.Proofs Gl
/-- three beginnings in memory -/
def Three (W : World) (b0 b1 b2 : Nat) (G0 G1 G2 : Array Value) : Prop := W.heap[b0]? = some (.cells G0 28 (0, 0)) ∧ W.heap[b1]? = some (.cells G1 28 (0, 0)) ∧ W.heap[b2]? = some (.cells G2 28 (0, 0))
theorem Three.new {W W' : World} {b0 b1 b2 : Nat} {G0 G1 G2 : Array Value} (h : Three W b0 b1 b2 G0 G1 G2) (hu : New W W') : Three W' b0 b1 b2 G0 G1 G2 :=
  ⟨(hu.block _ (Array.getElem?_eq_some_iff.1 h.1).1 id).trans h.1, (hu.block _ (Array.getElem?_eq_some_iff.1 h.2.1).1 id).trans h.2.1, (hu.block _ (Array.getElem?_eq_some_iff.1 h.2.2).1 id).trans h.2.2⟩
set_option maxHeartbeats 16000000 in
set_option maxRecDepth 100000 in
theorem law3_good {w : World} {p0 p1 p2 p3 p4 p5 p6 p7 p8 p9 : Nat} {Aa Av Ab : Option Addr} {na ca nv cv nb cb : Nat} {xs ys bs : List Nat} (hp : Big [p0, p1, p2, p3, p4, p5, p6, p7, p8, p9]) (hx : Sl 2 w Aa na ca (xs.map u64)) (hy : Sl 3 w Av nv cv (ys.map u64)) (hxb : Big xs) (hyb : Big ys) (hb : By w Ab nb cb bs) (hna : na ≤ 300) (hnv : nv ≤ 70) (hnb : nb ≤ 65546) :
    Calls Tryz.prog 3 #[.agg (gen p0 p1 p2 p3 p4 p5 p6 p7 p8 p9 Aa na ca Av nv cv), .slice Ab nb cb] w fun e w' => e = .returned (.bool true) ∧ New w w' := by
  obtain ⟨s0, s1, s2, s3, s4, s5, s6, s7, s8, s9, ma, mv, us, vs, er, HT⟩ := told_of (bs := bs) (n := nb)
  have hd3 : decide ((65546 : Int) < (nb : Int)) = false := decide_eq_false (by omega)
  obtain ⟨W0, hW0⟩ : ∃ W0, W0 = w.alloc (.cells (gen p0 p1 p2 p3 p4 p5 p6 p7 p8 p9 Aa na ca Av nv cv) 28) := ⟨_, rfl⟩
  have h5 := known_true W0
  have hn0 : New w W0 := by rw [hW0]; exact Upd.alloc _ _ _
  have hh0 : W0.heap[w.heap.size]? = some (.cells (gen p0 p1 p2 p3 p4 p5 p6 p7 p8 p9 Aa na ca Av nv cv) 28 (0, 0)) := by rw [hW0]; exact Ex.alloc_new w _
  rw [hW0] at h5
  have h6 := fun W => light_c (w := W) (p0 := p0) (p1 := p1) (p2 := p2) (p3 := p3) (p4 := p4) (p5 := p5) (p6 := p6) (p7 := p7) (p8 := p8) (p9 := p9) (Aa := Aa) (na := na) (ca := ca) (Av := Av) (nv := nv) (cv := cv)
  rw [decide_eq_true hna, decide_eq_true hnv] at h6
  have HP := Lib.hid hp; have HX := Lib.hid hx; have HY := Lib.hid hy; have HXB := Lib.hid hxb; have HYB := Lib.hid hyb; have HB := Lib.hid hb; have H5 := Lib.hid h5; have HN0 := Lib.hid hn0; have HH0 := Lib.hid hh0; have HTT := Lib.hid HT; have HW0 := Lib.hid hW0; have H6 := Lib.hid h6
  clear hp hx hy hxb hyb hb h5 hn0 hh0 HT hW0 h6
  unfold gen at H5 H6 HW0 ⊢
  go_enter Tryz.func3, Tryz.ntmps3
  go_upto_region 8 with (first
    | (go_at_call 5; refine H5.out.mono ?_; rintro e W1 ⟨rfl, hf1⟩; clear H5; rw [← HW0.out] at hf1; have hn1 := new_of_fresh hf1; have hh1 := (hn1.block _ (Array.getElem?_eq_some_iff.1 HH0.out).1 id).trans HH0.out; obtain ⟨⟨a0, a1, a2, a3, a4, a5, a6, a7, a8, a9, a10, a11⟩, -⟩ := c12 hh1; have HH1 := Lib.hid hh1; have HN1 := Lib.hid (HN0.out.trans hn1); clear hf1 hn1 hh1)
    | (go_at_call 6; refine (H6.out _).mono ?_; rintro e W2 ⟨rfl, hn2⟩; clear H6 a0 a1 a2 a3 a4 a5 a6 a7 a8 a9 a10 a11; have h7 := copy_c ((HB.out.new HN1.out).new hn2) (by omega); have HN2 := Lib.hid (HN1.out.trans hn2); have HN12 := Lib.hid hn2; clear hn2)
    | (go_at_call 7; refine h7.mono ?_; rintro e W3 ⟨A3, c3, rfl, hby3, hn3⟩; clear h7; have h8 := (HTT.out W3 A3 c3 hby3).1; have HBY3 := Lib.hid hby3; have HN3 := Lib.hid (HN2.out.trans hn3); have HN23 := Lib.hid hn3; clear hby3 hn3)
    | (go_at_call 8; refine h8.mono ?_; rintro e W4 ⟨hn4, Da, da, Dv, dv, he, hdx, hdy⟩; clear h8; unfold gen at he; subst he; have hn5 : New W4 (W4.alloc (.cells #[u64 s0, u64 s1, u64 s2, u64 s3, u64 s4, u64 s5, u64 s6, u64 s7, u64 s8, u64 s9, .slice Da ma da, .slice Dv mv dv] 28)) := Upd.alloc _ _ _; have h9 := (HTT.out _ Ab cb (((HB.out.new HN3.out).new hn4).new hn5)).2; have HN4 := Lib.hid hn4; have HN5 := Lib.hid hn5; have HDX := Lib.hid (hdx.new hn5); have HDY := Lib.hid (hdy.new hn5); have HD1 := Lib.hid (Ex.alloc_new W4 (.cells #[u64 s0, u64 s1, u64 s2, u64 s3, u64 s4, u64 s5, u64 s6, u64 s7, u64 s8, u64 s9, .slice Da ma da, .slice Dv mv dv] 28)); clear hn4 hn5 hdx hdy)
    | (go_at_call 9; refine h9.mono ?_; rintro e W6 ⟨hn6, Ea, ea, Ev, ev, he, hex, hey⟩; clear h9; unfold gen at he; subst he; have HN6 := Lib.hid hn6; have HEX := Lib.hid hex; have HEY := Lib.hid hey; clear hn6 hex hey))
  obtain ⟨D1, hD1⟩ : ∃ D1, D1 = W4.heap.size := ⟨_, rfl⟩
  obtain ⟨D2, hD2⟩ : ∃ D2, D2 = W6.heap.size := ⟨_, rfl⟩
  obtain ⟨W7, hW7⟩ : ∃ W7, W7 = W6.alloc (.cells #[u64 s0, u64 s1, u64 s2, u64 s3, u64 s4, u64 s5, u64 s6, u64 s7, u64 s8, u64 s9, .slice Ea ma ea, .slice Ev mv ev] 28) := ⟨_, rfl⟩
  have hn67 : New W6 W7 := by rw [hW7]; exact Upd.alloc _ _ _
  have hD1c := HD1.out
  rw [← hD1] at hD1c
  have hw1 : New w W7 := (((HN3.out.trans HN4.out).trans HN5.out).trans HN6.out).trans hn67
  have hthree : Three W7 w.heap.size D1 D2 #[u64 p0, u64 p1, u64 p2, u64 p3, u64 p4, u64 p5, u64 p6, u64 p7, u64 p8, u64 p9, .slice Aa na ca, .slice Av nv cv] #[u64 s0, u64 s1, u64 s2, u64 s3, u64 s4, u64 s5, u64 s6, u64 s7, u64 s8, u64 s9, .slice Da ma da, .slice Dv mv dv] #[u64 s0, u64 s1, u64 s2, u64 s3, u64 s4, u64 s5, u64 s6, u64 s7, u64 s8, u64 s9, .slice Ea ma ea, .slice Ev mv ev] := by
    refine ⟨?_, ?_, ?_⟩
    · have h1 := HH1.out
      have h2 : New W1 W7 := ((((HN12.out.trans HN23.out).trans HN4.out).trans HN5.out).trans HN6.out).trans hn67
      exact (h2.block _ (Array.getElem?_eq_some_iff.1 h1).1 id).trans h1
    · exact ((HN6.out.trans hn67).block _ (Array.getElem?_eq_some_iff.1 hD1c).1 id).trans hD1c
    · rw [hW7, hD2]; exact Ex.alloc_new W6 _
  rw [← hD1, ← hD2, ← hW7]
  have HT7 := Lib.hid hthree; have HW7 := Lib.hid hw1; have HDX7 := Lib.hid ((HDX.out.new HN6.out).new hn67); have HDY7 := Lib.hid ((HDY.out.new HN6.out).new hn67); have HEX7 := Lib.hid (HEX.out.new hn67); have HEY7 := Lib.hid (HEY.out.new hn67); have HBI7 := Lib.hid ((((HBY3.out.new HN4.out).new HN5.out).new HN6.out).new hn67)
  clear hD1 hD2 hW7 hn67 hD1c hw1 hthree HDX HDY HEX HEY HD1 HH0 HH1 HBY3
  have hdr : New W7 W7.drew := (Upd.refl _ _).drew
  obtain ⟨⟨a0_0, a0_1, a0_2, a0_3, a0_4, a0_5, a0_6, a0_7, a0_8, a0_9, a0_10, a0_11⟩, -⟩ := c12 (HT7.out).1; obtain ⟨⟨b0_0, b0_1, b0_2, b0_3, b0_4, b0_5, b0_6, b0_7, b0_8, b0_9, b0_10, b0_11⟩, -⟩ := c12 (HT7.out).2.1; obtain ⟨⟨e0_0, e0_1, e0_2, e0_3, e0_4, e0_5, e0_6, e0_7, e0_8, e0_9, e0_10, e0_11⟩, -⟩ := c12 (HT7.out).2.2
  obtain ⟨⟨a1_0, a1_1, a1_2, a1_3, a1_4, a1_5, a1_6, a1_7, a1_8, a1_9, a1_10, a1_11⟩, -⟩ := c12 (HT7.out.new hdr).1; obtain ⟨⟨b1_0, b1_1, b1_2, b1_3, b1_4, b1_5, b1_6, b1_7, b1_8, b1_9, b1_10, b1_11⟩, -⟩ := c12 (HT7.out.new hdr).2.1; obtain ⟨⟨e1_0, e1_1, e1_2, e1_3, e1_4, e1_5, e1_6, e1_7, e1_8, e1_9, e1_10, e1_11⟩, -⟩ := c12 (HT7.out.new hdr).2.2
  have h11 := encode_c HP.out ((HX.out.new HW7.out).new hdr) ((HY.out.new HW7.out).new hdr) HXB.out HYB.out (by omega) (by omega)
  unfold gen at h11
  have H11 := Lib.hid h11; have HDR := Lib.hid hdr
  clear h11 hdr
  go_region_held (fun w' => w'.cell? ⟨w.heap.size, 0, none⟩ = some (u64 p0) ∧ w'.cell? ⟨w.heap.size, 1, none⟩ = some (u64 p1) ∧ w'.cell? ⟨w.heap.size, 2, none⟩ = some (u64 p2) ∧ w'.cell? ⟨w.heap.size, 3, none⟩ = some (u64 p3) ∧ w'.cell? ⟨w.heap.size, 4, none⟩ = some (u64 p4) ∧ w'.cell? ⟨w.heap.size, 5, none⟩ = some (u64 p5) ∧ w'.cell? ⟨w.heap.size, 6, none⟩ = some (u64 p6) ∧ w'.cell? ⟨w.heap.size, 7, none⟩ = some (u64 p7) ∧ w'.cell? ⟨w.heap.size, 8, none⟩ = some (u64 p8) ∧ w'.cell? ⟨w.heap.size, 9, none⟩ = some (u64 p9) ∧ w'.cell? ⟨w.heap.size, 10, none⟩ = some (.slice Aa na ca) ∧ w'.cell? ⟨w.heap.size, 11, none⟩ = some (.slice Av nv cv) ∧ w'.cell? ⟨D1, 0, none⟩ = some (u64 s0) ∧ w'.cell? ⟨D1, 1, none⟩ = some (u64 s1) ∧ w'.cell? ⟨D1, 2, none⟩ = some (u64 s2) ∧ w'.cell? ⟨D1, 3, none⟩ = some (u64 s3) ∧ w'.cell? ⟨D1, 4, none⟩ = some (u64 s4) ∧ w'.cell? ⟨D1, 5, none⟩ = some (u64 s5) ∧ w'.cell? ⟨D1, 6, none⟩ = some (u64 s6) ∧ w'.cell? ⟨D1, 7, none⟩ = some (u64 s7) ∧ w'.cell? ⟨D1, 8, none⟩ = some (u64 s8) ∧ w'.cell? ⟨D1, 9, none⟩ = some (u64 s9) ∧ w'.cell? ⟨D1, 10, none⟩ = some (.slice Da ma da) ∧ w'.cell? ⟨D1, 11, none⟩ = some (.slice Dv mv dv) ∧ w'.cell? ⟨D2, 0, none⟩ = some (u64 s0) ∧ w'.cell? ⟨D2, 1, none⟩ = some (u64 s1) ∧ w'.cell? ⟨D2, 2, none⟩ = some (u64 s2) ∧ w'.cell? ⟨D2, 3, none⟩ = some (u64 s3) ∧ w'.cell? ⟨D2, 4, none⟩ = some (u64 s4) ∧ w'.cell? ⟨D2, 5, none⟩ = some (u64 s5) ∧ w'.cell? ⟨D2, 6, none⟩ = some (u64 s6) ∧ w'.cell? ⟨D2, 7, none⟩ = some (u64 s7) ∧ w'.cell? ⟨D2, 8, none⟩ = some (u64 s8) ∧ w'.cell? ⟨D2, 9, none⟩ = some (u64 s9) ∧ w'.cell? ⟨D2, 10, none⟩ = some (.slice Ea ma ea) ∧ w'.cell? ⟨D2, 11, none⟩ = some (.slice Ev mv ev)) (go_keep) (first
    | (go_at_call 11; refine H11.out.mono ?_; rintro e W8 ⟨A8, n8, c8, rfl, hby8, hn8, -, -⟩; clear H11; have hu8 := HDR.out.trans hn8; obtain ⟨⟨a8_0, a8_1, a8_2, a8_3, a8_4, a8_5, a8_6, a8_7, a8_8, a8_9, a8_10, a8_11⟩, -⟩ := c12 (HT7.out.new hu8).1; obtain ⟨⟨b8_0, b8_1, b8_2, b8_3, b8_4, b8_5, b8_6, b8_7, b8_8, b8_9, b8_10, b8_11⟩, -⟩ := c12 (HT7.out.new hu8).2.1; obtain ⟨⟨e8_0, e8_1, e8_2, e8_3, e8_4, e8_5, e8_6, e8_7, e8_8, e8_9, e8_10, e8_11⟩, -⟩ := c12 (HT7.out.new hu8).2.2; have h12 := refenc_c HP.out ((HX.out.new HW7.out).new hu8) ((HY.out.new HW7.out).new hu8) HXB.out HYB.out (by omega) (by omega); unfold gen at h12; have H12 := Lib.hid h12; have HU8 := Lib.hid hu8; have HB8 := Lib.hid hby8; clear h12 hby8 hn8 hu8)
    | (go_at_call 12; refine H12.out.mono ?_; rintro e W9 ⟨A9, n9, c9, rfl, hby9, hn9⟩; clear H12; have hu9 := HU8.out.trans hn9; obtain ⟨⟨a9_0, a9_1, a9_2, a9_3, a9_4, a9_5, a9_6, a9_7, a9_8, a9_9, a9_10, a9_11⟩, -⟩ := c12 (HT7.out.new hu9).1; obtain ⟨⟨b9_0, b9_1, b9_2, b9_3, b9_4, b9_5, b9_6, b9_7, b9_8, b9_9, b9_10, b9_11⟩, -⟩ := c12 (HT7.out.new hu9).2.1; obtain ⟨⟨e9_0, e9_1, e9_2, e9_3, e9_4, e9_5, e9_6, e9_7, e9_8, e9_9, e9_10, e9_11⟩, -⟩ := c12 (HT7.out.new hu9).2.2; have h10 := bytes_c (HB8.out.new hn9) hby9; rw [decide_eq_true rfl] at h10; have H10 := Lib.hid h10; have HU9 := Lib.hid hu9; clear h10 hby9 hn9 hu9)
    | (go_at_call 10; refine H10.out.mono ?_; rintro e W10 ⟨rfl, hq⟩; clear H10; have hn10 : New W9 W10 := (by obtain ⟨q, rfl⟩ := hq; exact (Upd.refl _ _).drewN q); have hu10 := HU9.out.trans hn10; obtain ⟨⟨a10_0, a10_1, a10_2, a10_3, a10_4, a10_5, a10_6, a10_7, a10_8, a10_9, a10_10, a10_11⟩, -⟩ := c12 (HT7.out.new hu10).1; obtain ⟨⟨b10_0, b10_1, b10_2, b10_3, b10_4, b10_5, b10_6, b10_7, b10_8, b10_9, b10_10, b10_11⟩, -⟩ := c12 (HT7.out.new hu10).2.1; obtain ⟨⟨e10_0, e10_1, e10_2, e10_3, e10_4, e10_5, e10_6, e10_7, e10_8, e10_9, e10_10, e10_11⟩, -⟩ := c12 (HT7.out.new hu10).2.2; have h13 := same_c (p0 := s0) (p1 := s1) (p2 := s2) (p3 := s3) (p4 := s4) (p5 := s5) (p6 := s6) (p7 := s7) (p8 := s8) (p9 := s9) (HDX7.out.new hu10) (HDY7.out.new hu10) (HEX7.out.new hu10) (HEY7.out.new hu10); unfold gen at h13; have H13 := Lib.hid h13; have HU10 := Lib.hid hu10; clear h13 hq hn10 hu10)
    | (go_at_call 13; refine H13.out.mono ?_; rintro e W11 ⟨rfl, hn11⟩; clear H13; have hu11 := HU10.out.trans hn11; obtain ⟨⟨a11_0, a11_1, a11_2, a11_3, a11_4, a11_5, a11_6, a11_7, a11_8, a11_9, a11_10, a11_11⟩, -⟩ := c12 (HT7.out.new hu11).1; obtain ⟨⟨b11_0, b11_1, b11_2, b11_3, b11_4, b11_5, b11_6, b11_7, b11_8, b11_9, b11_10, b11_11⟩, -⟩ := c12 (HT7.out.new hu11).2.1; obtain ⟨⟨e11_0, e11_1, e11_2, e11_3, e11_4, e11_5, e11_6, e11_7, e11_8, e11_9, e11_10, e11_11⟩, -⟩ := c12 (HT7.out.new hu11).2.2; have h10 := bytes_c (HBI7.out.new hu11) ((HB.out.new HW7.out).new hu11); rw [decide_eq_true rfl] at h10; have H10b := Lib.hid h10; have HU11 := Lib.hid hu11; clear h10 hn11 hu11)
    | (go_at_call 10; refine H10b.out.mono ?_; rintro e W12 ⟨rfl, hq⟩; clear H10b; have hn12 : New W11 W12 := (by obtain ⟨q, rfl⟩ := hq; exact (Upd.refl _ _).drewN q); have hu12 := HU11.out.trans hn12; obtain ⟨⟨a12_0, a12_1, a12_2, a12_3, a12_4, a12_5, a12_6, a12_7, a12_8, a12_9, a12_10, a12_11⟩, -⟩ := c12 (HT7.out.new hu12).1; obtain ⟨⟨b12_0, b12_1, b12_2, b12_3, b12_4, b12_5, b12_6, b12_7, b12_8, b12_9, b12_10, b12_11⟩, -⟩ := c12 (HT7.out.new hu12).2.1; obtain ⟨⟨e12_0, e12_1, e12_2, e12_3, e12_4, e12_5, e12_6, e12_7, e12_8, e12_9, e12_10, e12_11⟩, -⟩ := c12 (HT7.out.new hu12).2.2; have HU12 := Lib.hid hu12; clear hq hn12 hu12))
  all_goals go_wp2
  all_goals go_ret
  all_goals exact ⟨rfl, HW7.out.trans HU12.out⟩
set_option maxHeartbeats 4000000 in
set_option maxRecDepth 100000 in
theorem law3_big {w : World} {p0 p1 p2 p3 p4 p5 p6 p7 p8 p9 : Nat} {Aa Av Ab : Option Addr} {na ca nv cv nb cb : Nat} (h : ¬ (na ≤ 300 ∧ nv ≤ 70) ∨ ((na ≤ 300 ∧ nv ≤ 70) ∧ 65546 < nb)) :
    Calls Tryz.prog 3 #[.agg (gen p0 p1 p2 p3 p4 p5 p6 p7 p8 p9 Aa na ca Av nv cv), .slice Ab nb cb] w fun e w' => e = .returned (.bool true) ∧ New w w' := by
  obtain ⟨W0, hW0⟩ : ∃ W0, W0 = w.alloc (.cells (gen p0 p1 p2 p3 p4 p5 p6 p7 p8 p9 Aa na ca Av nv cv) 28) := ⟨_, rfl⟩
  have h5 := known_true W0
  have hn0 : New w W0 := by rw [hW0]; exact Upd.alloc _ _ _
  have hh0 : W0.heap[w.heap.size]? = some (.cells (gen p0 p1 p2 p3 p4 p5 p6 p7 p8 p9 Aa na ca Av nv cv) 28 (0, 0)) := by rw [hW0]; exact Ex.alloc_new w _
  rw [hW0] at h5
  have h6 := fun W => light_c (w := W) (p0 := p0) (p1 := p1) (p2 := p2) (p3 := p3) (p4 := p4) (p5 := p5) (p6 := p6) (p7 := p7) (p8 := p8) (p9 := p9) (Aa := Aa) (na := na) (ca := ca) (Av := Av) (nv := nv) (cv := cv)
  have hl : (decide (na ≤ 300) && decide (nv ≤ 70)) = decide (na ≤ 300 ∧ nv ≤ 70) := by rw [Bool.decide_and]
  rw [hl] at h6
  have H5 := Lib.hid h5; have HN0 := Lib.hid hn0; have HH0 := Lib.hid hh0; have HW0 := Lib.hid hW0
  clear h5 hn0 hh0 hW0 hl
  rcases h with h | ⟨h, hb⟩
  · rw [decide_eq_false h] at h6
    have H6 := Lib.hid h6
    clear h6 h
    unfold gen at H5 H6 HW0 ⊢
    go_enter Tryz.func3, Tryz.ntmps3
    go_wp2_with (first
      | (go_at_call 5; refine H5.out.mono ?_; rintro e W1 ⟨rfl, hf1⟩; clear H5; rw [← HW0.out] at hf1; have hn1 := new_of_fresh hf1; have hh1 := (hn1.block _ (Array.getElem?_eq_some_iff.1 HH0.out).1 id).trans HH0.out; obtain ⟨⟨a0, a1, a2, a3, a4, a5, a6, a7, a8, a9, a10, a11⟩, -⟩ := c12 hh1; have HN1 := Lib.hid (HN0.out.trans hn1); clear hf1 hn1 hh1)
      | (go_at_call 6; refine (H6.out _).mono ?_; rintro e W2 ⟨rfl, hn2⟩; clear H6; have HN2 := Lib.hid (HN1.out.trans hn2); clear hn2))
    go_ret
    exact ⟨rfl, HN2.out⟩
  · have hd3 : decide ((65546 : Int) < (nb : Int)) = true := decide_eq_true (by omega)
    rw [decide_eq_true h] at h6
    have H6 := Lib.hid h6
    clear h6 h
    unfold gen at H5 H6 HW0 ⊢
    go_enter Tryz.func3, Tryz.ntmps3
    go_wp2_with (first
      | (go_at_call 5; refine H5.out.mono ?_; rintro e W1 ⟨rfl, hf1⟩; clear H5; rw [← HW0.out] at hf1; have hn1 := new_of_fresh hf1; have hh1 := (hn1.block _ (Array.getElem?_eq_some_iff.1 HH0.out).1 id).trans HH0.out; obtain ⟨⟨a0, a1, a2, a3, a4, a5, a6, a7, a8, a9, a10, a11⟩, -⟩ := c12 hh1; have HN1 := Lib.hid (HN0.out.trans hn1); clear hf1 hn1 hh1)
      | (go_at_call 6; refine (H6.out _).mono ?_; rintro e W2 ⟨rfl, hn2⟩; clear H6; have HN2 := Lib.hid (HN1.out.trans hn2); clear hn2))
    go_ret
    exact ⟨rfl, HN2.out⟩
theorem law3 {w : World} {p0 p1 p2 p3 p4 p5 p6 p7 p8 p9 : Nat} {Aa Av Ab : Option Addr} {na ca nv cv nb cb : Nat} {xs ys bs : List Nat} (hp : Big [p0, p1, p2, p3, p4, p5, p6, p7, p8, p9]) (hx : Sl 2 w Aa na ca (xs.map u64)) (hy : Sl 3 w Av nv cv (ys.map u64)) (hxb : Big xs) (hyb : Big ys) (hb : By w Ab nb cb bs) :
    Calls Tryz.prog 3 #[.agg (gen p0 p1 p2 p3 p4 p5 p6 p7 p8 p9 Aa na ca Av nv cv), .slice Ab nb cb] w fun e w' => e = .returned (.bool true) ∧ New w w' := by
  by_cases h : na ≤ 300 ∧ nv ≤ 70
  · by_cases hn : nb ≤ 65546
    · exact law3_good hp hx hy hxb hyb hb h.1 h.2 hn
    · exact law3_big (.inr ⟨h, by omega⟩)
  · exact law3_big (.inl h)
end Go.Proofs.YtjfmbamiampjmaaGreat
