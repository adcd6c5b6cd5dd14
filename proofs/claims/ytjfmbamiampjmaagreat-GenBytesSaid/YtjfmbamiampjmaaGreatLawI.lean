/- A part of the proof of the statement of this seat: no condition. -/
import Derived.Test.YtjfmbamiampjmaaGreatLawG
import Derived.Test.YtjfmbamiampjmaaGreatLawH
set_option linter.unusedVariables false
set_option linter.unusedSimpArgs false
namespace Go.Proofs.YtjfmbamiampjmaaGreat
open Go Go.RowKit Go.Proofs Gl
set_option maxHeartbeats 4000000 in
set_option maxRecDepth 100000 in
theorem law4_big {w : World} {p0 p1 p2 p3 p4 p5 p6 p7 p8 p9 : Nat} {Aa Av Ab : Option Addr} {na ca nv cv nb cb : Nat} (h : decide ((256 : Int) < (na : Int)) = true ∨ (decide ((256 : Int) < (na : Int)) = false ∧ (decide ((64 : Int) < (nv : Int)) = true ∨ (decide ((64 : Int) < (nv : Int)) = false ∧ decide ((65546 : Int) < (nb : Int)) = true)))) :
    Calls Tryz.prog 4 #[.agg (gen p0 p1 p2 p3 p4 p5 p6 p7 p8 p9 Aa na ca Av nv cv), .slice Ab nb cb] w fun e w' => e = .returned (.bool true) ∧ New w w' := by
  have h5 := known_true (w.alloc (.cells (gen p0 p1 p2 p3 p4 p5 p6 p7 p8 p9 Aa na ca Av nv cv) 28))
  have hh0 : (w.alloc (.cells (gen p0 p1 p2 p3 p4 p5 p6 p7 p8 p9 Aa na ca Av nv cv) 28)).heap[w.heap.size]? = some (.cells (gen p0 p1 p2 p3 p4 p5 p6 p7 p8 p9 Aa na ca Av nv cv) 28 (0, 0)) := Ex.alloc_new w _
  have hlt0 : w.heap.size < (w.alloc (.cells (gen p0 p1 p2 p3 p4 p5 p6 p7 p8 p9 Aa na ca Av nv cv) 28)).heap.size := by show w.heap.size < (w.heap.push _).size; simp
  have H5 := Lib.hid h5; have HH0 := Lib.hid hh0; have HL0 := Lib.hid hlt0
  clear h5 hh0 hlt0
  unfold gen at H5 HH0 HL0 ⊢
  rcases h with h1 | ⟨h1, h2 | ⟨h2, h3⟩⟩ <;>
  (go_enter Tryz.func4, Tryz.ntmps4
   go_wp2_with (first
    | (go_at_call 5; refine H5.out.mono ?_; rintro e W1 ⟨rfl, hf1⟩; have hn1 := new_of_fresh hf1; have hN1 : New w W1 := (Upd.alloc _ _ _).trans hn1; have hh1 := (hn1.block _ HL0.out id).trans HH0.out; obtain ⟨⟨a0, a1, a2, a3, a4, a5, a6, a7, a8, a9, a10, a11⟩, -⟩ := c12 hh1; have HN1 := Lib.hid hN1; clear hf1 hn1 hN1 hh1))
   go_ret
   exact ⟨rfl, HN1.out⟩)
theorem law4 {w : World} {p0 p1 p2 p3 p4 p5 p6 p7 p8 p9 : Nat} {Aa Av Ab : Option Addr} {na ca nv cv nb cb : Nat} {xs ys bs : List Nat} (hp : Big [p0, p1, p2, p3, p4, p5, p6, p7, p8, p9]) (hx : Sl 2 w Aa na ca (xs.map u64)) (hy : Sl 3 w Av nv cv (ys.map u64)) (hxb : Big xs) (hyb : Big ys) (hb : By w Ab nb cb bs) :
    Calls Tryz.prog 4 #[.agg (gen p0 p1 p2 p3 p4 p5 p6 p7 p8 p9 Aa na ca Av nv cv), .slice Ab nb cb] w fun e w' => e = .returned (.bool true) ∧ New w w' := by
  by_cases hna : na ≤ 256
  · by_cases hnv : nv ≤ 64
    · by_cases hnb : nb ≤ 65546
      · by_cases hl : 65536 < nb
        · exact law4_bad (er := 211) hp hx hy hxb hyb hb hna hnv hnb (by decide) (fun W _ => (decode_long hl).mono fun e w' h => ⟨h.2, h.1⟩)
        · cases hd : dec bs with
          | none => exact law4_bad (er := 210) hp hx hy hxb hyb hb hna hnv hnb (by decide) (fun W hW => (decode_c hW (by omega)).mono fun e w' h => ⟨(h.none_ hd).2, (h.none_ hd).1⟩)
          | some t =>
            obtain ⟨ps, us, vs⟩ := t
            refine law4_good hp hx hy hxb hyb hb hna hnv hnb (fun W hW => (decode_c hW (by omega)).mono fun e w' h => ?_)
            obtain ⟨hn, s0, s1, s2, s3, s4, s5, s6, s7, s8, s9, Ca, ka, ea, Cv, kv, ev, hps, he, hsx, hsy, h1, h2, h3, h4, h5, h6, h7⟩ := h.some_ hd
            refine ⟨hn, s0, s1, s2, s3, s4, s5, s6, s7, s8, s9, Ca, ka, ea, Cv, kv, ev, us, vs, he, hsx, hsy, hps ▸ h1, h2, h3, h4, h5, h6, h7, ?_⟩
            have e1 := hsx.len
            have e2 := hsy.len
            rw [List.length_map] at e1 e2
            have := dec_back hd
            rw [e1, e2, Nat.mul_div_cancel _ (by omega), Nat.mul_div_cancel _ (by omega), hps] at this
            exact this
      · exact law4_big (.inr ⟨decide_eq_false (by omega), .inr ⟨decide_eq_false (by omega), decide_eq_true (by omega)⟩⟩)
    · exact law4_big (.inr ⟨decide_eq_false (by omega), .inl (decide_eq_true (by omega))⟩)
  · exact law4_big (.inl (decide_eq_true (by omega)))
end Go.Proofs.YtjfmbamiampjmaaGreat
