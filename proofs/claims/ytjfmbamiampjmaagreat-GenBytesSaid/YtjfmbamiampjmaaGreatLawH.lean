/- A part of the proof of the statement of this seat: no condition. -/
import Derived.Test.YtjfmbamiampjmaaGreatLC
set_option linter.unusedVariables false
set_option linter.unusedSimpArgs false
namespace Go.Proofs.YtjfmbamiampjmaaGreat
open Go Go.RowKit Go.Proofs Gl
set_option maxHeartbeats 8000000 in
set_option maxRecDepth 100000 in
theorem law4_good {w : World} {p0 p1 p2 p3 p4 p5 p6 p7 p8 p9 : Nat} {Aa Av Ab : Option Addr} {na ca nv cv nb cb : Nat} {xs ys bs : List Nat} (hp : Big [p0, p1, p2, p3, p4, p5, p6, p7, p8, p9]) (hx : Sl 2 w Aa na ca (xs.map u64)) (hy : Sl 3 w Av nv cv (ys.map u64)) (hxb : Big xs) (hyb : Big ys) (hb : By w Ab nb cb bs) (hna : na ≤ 256) (hnv : nv ≤ 64) (hnb : nb ≤ 65546) (hdb : ∀ W, By W Ab nb cb bs → Calls Tryz.prog 8 #[.slice Ab nb cb] W fun e w' => New W w' ∧ ∃ s0 s1 s2 s3 s4 s5 s6 s7 s8 s9 Ca ka ea Cv kv ev us vs, e = .returned (.tuple #[.agg (gen s0 s1 s2 s3 s4 s5 s6 s7 s8 s9 Ca ka ea Cv kv ev), .int .i64 0]) ∧ Sl 2 w' Ca ka ea (us.map u64) ∧ Sl 3 w' Cv kv ev (vs.map u64) ∧ Big [s0, s1, s2, s3, s4, s5, s6, s7, s8, s9] ∧ Big us ∧ Big vs ∧ ka ≤ 256 ∧ kv ≤ 256 ∧ (∀ a, Ca = some a → W.heap.size ≤ a.block) ∧ (∀ a, Cv = some a → W.heap.size ≤ a.block) ∧ genBytes [s0, s1, s2, s3, s4, s5, s6, s7, s8, s9] us vs ka kv = bs) :
    Calls Tryz.prog 4 #[.agg (gen p0 p1 p2 p3 p4 p5 p6 p7 p8 p9 Aa na ca Av nv cv), .slice Ab nb cb] w fun e w' => e = .returned (.bool true) ∧ New w w' := by
  have hc1 : (na : Int) ≤ 256 := by omega
  have hc2 : (nv : Int) ≤ 64 := by omega
  have hc3 : (nb : Int) ≤ 65546 := by omega
  have hd1 : decide ((256 : Int) < (na : Int)) = false := decide_eq_false (by omega)
  have hd2 : decide ((64 : Int) < (nv : Int)) = false := decide_eq_false (by omega)
  have hd3 : decide ((65546 : Int) < (nb : Int)) = false := decide_eq_false (by omega)
  have hxl := hx.len; have hyl := hy.len
  rw [List.length_map] at hxl hyl
  obtain ⟨gb, hgb⟩ : ∃ gb, gb = genBytes [p0, p1, p2, p3, p4, p5, p6, p7, p8, p9] xs ys na nv := ⟨_, rfl⟩
  have hdg : dec gb = some ([p0, p1, p2, p3, p4, p5, p6, p7, p8, p9], xs, ys) := by rw [hgb]; exact dec_gen rfl hp hxb hyb hxl hyl hna hnv
  have hdm : dec (gb ++ [0]) = none := by rw [hgb]; exact dec_more rfl hp hxb hyb hxl hyl hna hnv
  have hgl : gb.length ≤ 5724 := by rw [hgb, gen_length]; simp only [List.length_cons, List.length_nil]; omega
  have h5 := known_true (w.alloc (.cells (gen p0 p1 p2 p3 p4 p5 p6 p7 p8 p9 Aa na ca Av nv cv) 28))
  have Hen : ∀ W, New w W → Calls Tryz.prog 11 #[.agg (gen p0 p1 p2 p3 p4 p5 p6 p7 p8 p9 Aa na ca Av nv cv)] W fun e w' => ∃ A n c, e = .returned (.slice A n c) ∧ By w' A n c gb ∧ New W w' ∧ (∀ a, A = some a → W.heap.size ≤ a.block) ∧ w'.ownsRow W.heap.size 5 1 (.slice A n c) n (gb.map Gl.u8) := fun W hW => by
    rw [hgb]; exact encode_c hp (hx.new hW) (hy.new hW) hxb hyb (by omega) (by omega)
  have hh0 : (w.alloc (.cells (gen p0 p1 p2 p3 p4 p5 p6 p7 p8 p9 Aa na ca Av nv cv) 28)).heap[w.heap.size]? = some (.cells (gen p0 p1 p2 p3 p4 p5 p6 p7 p8 p9 Aa na ca Av nv cv) 28 (0, 0)) := Ex.alloc_new w _
  have hlt0 : w.heap.size < (w.alloc (.cells (gen p0 p1 p2 p3 p4 p5 p6 p7 p8 p9 Aa na ca Av nv cv) 28)).heap.size := by show w.heap.size < (w.heap.push _).size; simp
  have HP := Lib.hid hp; have HX := Lib.hid hx; have HY := Lib.hid hy; have HB := Lib.hid hb; have HDG := Lib.hid hdg; have HDM := Lib.hid hdm; have HGL := Lib.hid hgl; have H5 := Lib.hid h5; have HEN := Lib.hid Hen; have HH0 := Lib.hid hh0; have HL0 := Lib.hid hlt0; have HXL := Lib.hid hxl; have HYL := Lib.hid hyl
  clear hp hx hy hb hxb hyb hgb hdg hdm hgl h5 Hen hh0 hlt0 hxl hyl
  unfold gen at H5 HEN HH0 HL0 ⊢
  have HDB := Lib.hid hdb; clear hdb
  go_enter Tryz.func4, Tryz.ntmps4
  obtain ⟨i0, hi0, hz0, hz1, hz2⟩ := info_parts info5
  go_wp2_with (first
    | (go_at_call 5; refine H5.out.mono ?_; rintro e W1 ⟨rfl, hf1⟩; have hn1 := new_of_fresh hf1; have hN1 : New w W1 := (Upd.alloc _ _ _).trans hn1; have hh1 := (hn1.block _ HL0.out id).trans HH0.out; obtain ⟨⟨a0, a1, a2, a3, a4, a5, a6, a7, a8, a9, a10, a11⟩, -⟩ := c12 hh1; have h11 := HEN.out W1 hN1; have HH1 := Lib.hid hh1; have HN1 := Lib.hid hN1; clear hf1 hn1 hN1 hh1)
    | (go_at_call 11; refine h11.mono ?_; rintro e W2 ⟨A2, n2, c2, rfl, hby2, hn2, hfr2, how2⟩; have hl2 := hby2.len; have h8a := decode_c hby2 (by have := HGL.out; omega); have HW2 := Lib.hid (And.intro hby2 (And.intro hn2 (And.intro hfr2 how2))); clear h11 hby2 hn2 hfr2 how2 a0 a1 a2 a3 a4 a5 a6 a7 a8 a9 a10 a11)
    | (go_at_call 8; refine h8a.mono ?_; rintro e W3 hd3; obtain ⟨hn3, q0, q1, q2, q3, q4, q5, q6, q7, q8, q9, Ba, ma, da, Bv, mv, dv, hps, he, hsx, hsy, -, -, -, hma, hmv, hfa, hfv⟩ := Decd.some_ hd3 HDG.out; simp only [List.cons.injEq, and_true] at hps; obtain ⟨rfl, rfl, rfl, rfl, rfl, rfl, rfl, rfl, rfl, rfl⟩ := hps; obtain rfl : na = ma := by (have h1 := hsx.len; have h2 := HXL.out; rw [List.length_map] at h1; omega)
       obtain rfl : nv = mv := by (have h1 := hsy.len; have h2 := HYL.out; rw [List.length_map] at h1; omega)
       unfold gen at he; subst he; have HW3 := Lib.hid (And.intro hn3 (And.intro hsx (And.intro hsy (And.intro hfa hfv))))
       have HROW := Lib.hid (fun o t => Lrow (t := t) HW2.out.2.2.2 (hn3.trans (Upd.alloc _ W3 o))); have HSZ := Lib.hid (fun o o2 => Lsz HW2.out.2.1 (hn3.trans (Upd.alloc _ W3 o)) o2)
       clear h8a hd3 hn3 hsx hsy hfa hfv)
    | (at_builtin
       refine wpList_append_src _ rfl _ _ _ rfl W1.heap.size 5 i0 _ 1 1 Tryz.underlying29 hi0 hz0 hz1 hz2 rfl (by omega) (.slice A2 n2 c2) n2 (gb.map Gl.u8) rfl (HROW.out _ _) _ 1 1 ([0].map Gl.u8) rfl rfl (Lsrc2 _ _ _) (oneCell_u8 _) (by have := HGL.out; simp only [maxLen]; omega) (by have := HGL.out; omega) (HSZ.out _ _) ?_
       intro A4 c4 W4 hown4 hg4 hat4
       have hby4 : By W4 A4 (n2 + 1) c4 (gb ++ [0]) := By.of_own (by rw [List.map_append]; exact hown4) (fun b hb => by rcases List.mem_append.1 hb with hb | hb; exact HW2.out.1.small b hb; cases hb; decide; cases ‹_›)
       have h8b := decode_c hby4 (by have := HGL.out; omega)
       have HW4 := Lib.hid (And.intro hg4 hat4); clear hown4 hg4 hat4 hby4)
    | (go_at_call 8; refine h8b.mono ?_; rintro e W5 hd5; obtain ⟨hn5, he⟩ := Decd.none_ hd5 HDM.out; unfold Z12 at he; subst he; have haf := after_app HH1.out HW2.out.2.1 HW2.out.2.2.2 HW3.out.1 HW4.out.1 hn5 (Array.getElem?_eq_some_iff.1 HH1.out).1; have hz : New W5 (W5.alloc (.cells #[.int .u64 0, .int .u64 0, .int .u64 0, .int .u64 0, .int .u64 0, .int .u64 0, .int .u64 0, .int .u64 0, .int .u64 0, .int .u64 0, .slice none 0 0, .slice none 0 0] 28)) := Upd.alloc _ _ _; obtain ⟨⟨d0, d1, d2, d3, d4, d5, d6, d7, d8, d9, d10, d11⟩, -⟩ := c12 ((hz.block _ (Array.getElem?_eq_some_iff.1 haf.1).1 id).trans haf.1); obtain ⟨⟨g0, g1, g2, g3, g4, g5, g6, g7, g8, g9, g10, g11⟩, -⟩ := c12 ((hz.block _ (Array.getElem?_eq_some_iff.1 haf.2.1).1 id).trans haf.2.1); clear hz; have HAF := Lib.hid haf; have HN5 := Lib.hid (after_new HN1.out HW2.out.2.1 HW2.out.2.2.2 HW3.out.1 HW4.out.1 hn5); clear haf h8b hd5 hn5)
    | (go_at_call 13; refine (same_c (sl_new HW3.out.2.1 HW3.out.2.2.2.1 (HAF.out.2.2.trans (Upd.alloc _ _ _))) (sl_new HW3.out.2.2.1 HW3.out.2.2.2.2 (HAF.out.2.2.trans (Upd.alloc _ _ _))) (sl_old HX.out HN1.out HW2.out.2.1 HW3.out.1 (HAF.out.2.2.trans (Upd.alloc _ _ _))) (sl_old HY.out HN1.out HW2.out.2.1 HW3.out.1 (HAF.out.2.2.trans (Upd.alloc _ _ _)))).mono ?_; rintro e W6 ⟨rfl, hn6⟩; have hb6 := (by_old HB.out HN1.out HW2.out.2.1 HW3.out.1 (HAF.out.2.2.trans ((Upd.alloc _ _ _).trans (hn6.mono (fun _ _ h => h.elim))))); have h8c := HDB.out W6 hb6; have HB6 := Lib.hid hb6; clear hb6; have hh6 := (hn6.block _ (by show _ < (W5.heap.push _).size; have := (Array.getElem?_eq_some_iff.1 HAF.out.1).1; simp; omega) id).trans (((Upd.alloc (S := fun _ => False) W5 (.cells #[.int .u64 0, .int .u64 0, .int .u64 0, .int .u64 0, .int .u64 0, .int .u64 0, .int .u64 0, .int .u64 0, .int .u64 0, .int .u64 0, .slice none 0 0, .slice none 0 0] 28)).block _ (Array.getElem?_eq_some_iff.1 HAF.out.1).1 id).trans HAF.out.1); have HH6 := Lib.hid hh6; have HN6 := Lib.hid (HN5.out.trans ((Upd.alloc (S := fun _ => False) W5 (.cells #[.int .u64 0, .int .u64 0, .int .u64 0, .int .u64 0, .int .u64 0, .int .u64 0, .int .u64 0, .int .u64 0, .int .u64 0, .int .u64 0, .slice none 0 0, .slice none 0 0] 28)).trans hn6)); clear hn6 hh6 d0 d1 d2 d3 d4 d5 d6 d7 d8 d9 d10 d11 g0 g1 g2 g3 g4 g5 g6 g7 g8 g9 g10 g11)
    | (go_at_call 8; refine h8c.mono ?_; rintro e W7 ⟨hn7, s0, s1, s2, s3, s4, s5, s6, s7, s8, s9, Ca, ka, ea, Cv, kv, ev, us, vs, he, hsx7, hsy7, hbp, hbu, hbv, hka, hkv, hfa7, hfv7, hbk⟩; unfold gen at he; subst he; have hh7 := (hn7.block _ (Array.getElem?_eq_some_iff.1 HH6.out).1 id).trans HH6.out; obtain ⟨⟨r0, r1, r2, r3, r4, r5, r6, r7, r8, r9, r10, r11⟩, z0, z1, z2, z3, z4, z5, z6, z7, z8, z9, z10, z11⟩ := c12 hh7; have hlt7 : ¬ W3.heap.size < w.heap.size := (by have h1 := HN1.out.size; have h2 := HW2.out.2.1.size; have h3 := HW3.out.1.size; omega); obtain ⟨hh8, hu8⟩ := put12h hh7 (.int .u64 (s0 : Int)) (.int .u64 (s1 : Int)) (.int .u64 (s2 : Int)) (.int .u64 (s3 : Int)) (.int .u64 (s4 : Int)) (.int .u64 (s5 : Int)) (.int .u64 (s6 : Int)) (.int .u64 (s7 : Int)) (.int .u64 (s8 : Int)) (.int .u64 (s9 : Int)) (.slice Ca ka ea) (.slice Cv kv ev); obtain ⟨⟨k0, k1, k2, k3, k4, k5, k6, k7, k8, k9, k10, k11⟩, -⟩ := c12 hh8; have hd6 := (Array.getElem?_eq_some_iff.1 HH6.out).1; have hx8 := hsx7.upd hu8 (fun a ha _ hS => by have := hfa7 a ha; omega); have hy8 := hsy7.upd hu8 (fun a ha _ hS => by have := hfv7 a ha; omega); have h11 := encode_c hbp hx8 hy8 hbu hbv (by omega) (by omega); unfold gen at h11; have hb8 := (HB6.out.new hn7).upd hu8 (fun a ha hn hS => by have := HB.out.sl.lt ha hn; omega); have HB8 := Lib.hid hb8; clear hb8; have HBK := Lib.hid hbk; have HLT := Lib.hid hlt7; have HN8 := Lib.hid ((HN6.out.trans hn7).then hu8 (fun c hc e => by omega)); clear hn7 hh7 hh8 hu8 h8c hlt7 hsx7 hsy7 hbp hbu hbv hfa7 hfv7 hbk hx8 hy8 hd6)
    | (go_at_call 11; refine h11.mono ?_; rintro e W9 ⟨A9, n9, c9, rfl, hby9, hn9, -, -⟩; rw [HBK.out] at hby9; have h10 := bytes_c hby9 (HB8.out.new hn9); rw [decide_eq_true rfl] at h10; have HN9 := Lib.hid (HN8.out.trans hn9); clear hby9 hn9 h11)
    | (go_at_call 10; refine h10.mono ?_; rintro e W10 ⟨rfl, q, rfl⟩))
  go_ret
  exact ⟨rfl, HN9.out.drewN q⟩
end Go.Proofs.YtjfmbamiampjmaaGreat
