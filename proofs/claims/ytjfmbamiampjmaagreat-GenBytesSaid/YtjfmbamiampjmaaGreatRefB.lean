/- A part of the proof of the statement of this seat: no condition. -/
import Derived.Test.YtjfmbamiampjmaaGreatRefA
set_option linter.unusedVariables false
set_option linter.unusedSimpArgs false
namespace Go.Proofs.YtjfmbamiampjmaaGreat
open Go Go.RowKit Go.Proofs Gl
/-- bytes in a row of one's own, made since w0; what was there before is untouched -/
structure Mine (w0 w : World) (A : Option Addr) (n c : Nat) (bs : List Nat) : Prop where
  own : w.ownsRow w0.heap.size 5 1 (.slice A n c) n (bs.map u8)
  new : New w0 w
section
variable {w0 w w' : World} {A : Option Addr} {n c : Nat} {bs : List Nat}
theorem Mine.start (w : World) : Mine w w none 0 0 [] := ⟨World.ownsRow_nil _ _ _ _, Upd.refl _ _⟩
theorem Mine.len (h : Mine w0 w A n c bs) : bs.length = n := by have := h.own.1; simpa using this
theorem Mine.fresh (h : Mine w0 w A n c bs) (hu : New w w') : Mine w0 w' A n c bs := ⟨ownsRow_keep h.own (fun b _ hl => hu.block b hl id), h.new.trans hu⟩
theorem Mine.put (h : Mine w0 w A n c bs) (x k : Nat) (hx : x < 18446744073709551616) (hk : k ≤ 8) (hn : n + 8 ≤ 1073741824) :
    Calls Tryz.prog 33 #[.slice A n c, .int .i64 (k : Int), .int .u64 (x : Int)] w fun e w' => ∃ A' c', e = .returned (.slice A' (n + k) c') ∧ Mine w0 w' A' (n + k) c' (bs ++ be k x) ∧ Upd (fun b => w0.heap.size ≤ b) w w' :=
  (put_c h.own x k hx hk hn h.new.size).mono fun e w' ⟨A', c', he, ho, hu, _⟩ =>
    ⟨A', c', he, ⟨ho, h.new.then hu (fun b hb e => by have := (ownsRow_lt h.own e).2; omega)⟩, hu.mono (fun b _ e => (ownsRow_lt h.own e).2)⟩
theorem Mine.src (h : Mine w0 w A n c bs) : Gl.Src w A n (bs.map u8) := Gl.Src.of_sl (Sl.of_own h.own)
theorem Mine.by_ (h : Mine w0 w A n c bs) (hs : Small bs) : By w A n c bs := By.of_own h.own hs
/-- what is older than the row stays -/
theorem Mine.grow (h : Mine w0 w A n c bs) (hg : w.grownBy w' (Value.slice A n c).ownBlock) {A' : Option Addr} {n' c' : Nat} {bs' : List Nat} (ho : w'.ownsRow w0.heap.size 5 1 (.slice A' n' c') n' (bs'.map u8)) : Mine w0 w' A' n' c' bs' ∧ Upd (fun b => w0.heap.size ≤ b) w w' :=
  ⟨⟨ho, h.new.then (Upd.of_grown hg (fun _ e => e)) (fun b hb e => by have := (ownsRow_lt h.own e).2; omega)⟩, Upd.of_grown hg (fun b e => (ownsRow_lt h.own e).2)⟩
end
set_option maxHeartbeats 2000000 in
set_option maxRecDepth 100000 in
theorem u_c {w : World} {L : Option Addr} {m d : Nat} {xs : List Nat} (hl : Sl 1 w L m d (xs.map u64)) (hb : Big xs) (hm : m ≤ 1048576) :
    Calls Tryz.prog 53 #[.slice none 0 0, .slice L m d] w fun e w' => ∃ A c, e = .returned (.slice A (8 * m) c) ∧ Mine w w' A (8 * m) c (xs.flatMap (be 8)) := by
  have hlen := hl.len
  rw [List.length_map, Nat.mul_one] at hlen
  have hmx : d ≤ maxLen ∧ m ≤ d := ⟨hl.max, hl.le⟩
  have HL := Lib.hid hl; have HB := Lib.hid hb; have HM := Lib.hid hm; have HLEN := Lib.hid hlen
  clear hl hb hlen
  go_enter Tryz.func53, Tryz.ntmps53
  go_wp2
  go_loopw [0, 5] (fun b i wr => ∃ (j : Nat) (A : Option Addr) (c : Nat), j ≤ m ∧ i = .int .i64 (j : Int) ∧ b = .slice A (8 * j) c ∧ Hid (Mine w wr A (8 * j) c ((xs.take j).flatMap (be 8)))) (fun _ i _ => m - (intOf i).toNat)
  case atStart => exact ⟨0, none, 0, Nat.zero_le _, rfl, rfl, Lib.hid (Mine.start w)⟩
  case round =>
    obtain ⟨j, A, c, hj, rfl, rfl, hI⟩ := hrel
    by_cases hjm : j < m
    · obtain ⟨lb, lo, rfl, hrow⟩ := HL.out.row (by omega)
      obtain ⟨x, hx⟩ : ∃ x, x = xs[j]'(by rw [HLEN.out]; exact hjm) := ⟨_, rfl⟩
      have hcell : wr.cell? ⟨lb, lo + j, none⟩ = some (.int .u64 (x : Int)) := by
        rw [hx]; exact (hrow.upd hI.out.new id).2 j _ (by simp [HLEN.out, hjm])
      have hxb : x < 18446744073709551616 := by rw [hx]; exact HB.out _ (List.getElem_mem _)
      have hcall := hI.out.put x 8 hxb (Nat.le_refl _) (by omega)
      have HX := Lib.hid hx
      clear hx hxb hrow
      go_wp2_with (go_at_call 33; refine hcall.mono ?_; rintro e w3 ⟨A3, c3, rfl, hE3, -⟩)
      refine ⟨⟨j + 1, A3, c3, by omega, by congr 1, by rw [show 8 * (j + 1) = 8 * j + 8 by omega], Lib.hid ?_⟩, by simp [intOf]; omega⟩
      rw [← flat_take xs j (by rw [HLEN.out]; exact hjm), ← HX.out, show 8 * (j + 1) = 8 * j + 8 by omega]
      exact hE3
    · obtain rfl : j = m := by omega
      go_wp2
      go_ret
      have h1 := hI.out
      rw [List.take_of_length_le (by rw [HLEN.out]; exact Nat.le_refl _)] at h1
      exact ⟨A, c, rfl, h1⟩
set_option maxHeartbeats 4000000 in
set_option maxRecDepth 100000 in
theorem params_c {w : World} {p0 p1 p2 p3 p4 p5 p6 p7 p8 p9 : Nat} (hp : Big [p0, p1, p2, p3, p4, p5, p6, p7, p8, p9]) :
    Calls Tryz.prog 34 #[.agg #[u64 p0, u64 p1, u64 p2, u64 p3, u64 p4, u64 p5, u64 p6, u64 p7, u64 p8, u64 p9]] w fun e w' => ∃ A c, e = .returned (.slice A 80 c) ∧ By w' A 80 c ([p0, p1, p2, p3, p4, p5, p6, p7, p8, p9].flatMap (be 8)) ∧ New w w' := by
  have h1 : Sl 1 ((w.alloc (.cells #[u64 p0, u64 p1, u64 p2, u64 p3, u64 p4, u64 p5, u64 p6, u64 p7, u64 p8, u64 p9] 24)).alloc (.cells #[u64 p0, u64 p1, u64 p2, u64 p3, u64 p4, u64 p5, u64 p6, u64 p7, u64 p8, u64 p9] 22)) (some ⟨w.heap.size + 1, 0, none⟩) 10 10 ([p0, p1, p2, p3, p4, p5, p6, p7, p8, p9].map u64) := by
    have hh := (two_alloc w (.cells #[u64 p0, u64 p1, u64 p2, u64 p3, u64 p4, u64 p5, u64 p6, u64 p7, u64 p8, u64 p9] 24) (.cells #[u64 p0, u64 p1, u64 p2, u64 p3, u64 p4, u64 p5, u64 p6, u64 p7, u64 p8, u64 p9] 22)).2
    refine ⟨rfl, Nat.le_refl _, by decide, fun _ => ⟨_, _, rfl, (Array.getElem?_eq_some_iff.1 hh).1, fun i v hv => ?_⟩, fun h => by cases h⟩
    refine cells_at hh _ v ?_
    rw [Nat.zero_add, ← hv]
    simp
  have hc := u_c h1 hp (by omega)
  have HC := Lib.hid hc; have HP := Lib.hid hp
  clear h1 hc hp
  go_enter Tryz.func34, Tryz.ntmps34
  go_wp2_with (go_at_call 53; refine HC.out.mono ?_; rintro e w3 ⟨A3, c3, rfl, hE3⟩)
  go_ret
  refine ⟨A3, c3, rfl, hE3.by_ (fun b hb => ?_), ((Upd.alloc _ _ _).trans (Upd.alloc _ _ _)).trans hE3.new⟩
  obtain ⟨x, _, hx⟩ := List.mem_flatMap.1 hb
  exact be_small _ _ b hx
end Go.Proofs.YtjfmbamiampjmaaGreat
