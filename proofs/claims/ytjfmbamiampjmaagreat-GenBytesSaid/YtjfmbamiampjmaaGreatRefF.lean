/- A part of the proof of the statement of this seat: no condition. -/
import Derived.Test.YtjfmbamiampjmaaGreatRefF0
import Derived.Deep.DeepCutAuto
set_option linter.unusedVariables false
set_option linter.unusedSimpArgs false
namespace Go.Proofs.YtjfmbamiampjmaaGreat
open Go Go.RowKit Go.Proofs Gl
theorem info45' : (Tryz.prog.info? 45).map (fun i => (i.zero, i.size, i.bytes)) = some (some (.agg #[.int .u64 0, .int .u64 0, .int .u64 0]), 3, 24) := info45
set_option maxHeartbeats 16000000 in
set_option maxRecDepth 100000 in
theorem refdecode_c {w : World} {A : Option Addr} {n c : Nat} {bs : List Nat} (hb : By w A n c bs) (hn : n ≤ 65536) :
    Calls Tryz.prog 9 #[.slice A n c] w (Decd w bs) := by
  obtain ⟨i2, hi2, hj0, hj1, hj2⟩ := info_parts info43
  obtain ⟨i3, hi3, hl0, hl1, hl2⟩ := info_parts info45
  have hn1 : (n : Int) ≤ 65536 := by omega
  have hgt0 : decide ((65536 : Int) < (n : Int)) = false := decide_eq_false (by omega)
  have hD0 : DR w (((w.alloc (.cells #[.int .u64 0, .int .u64 0, .int .u64 0, .int .u64 0, .int .u64 0, .int .u64 0, .int .u64 0, .int .u64 0, .int .u64 0, .int .u64 0, .slice none 0 0, .slice none 0 0] 28)).alloc (.cells #[.slice A n c, .int .i64 0] 80)).alloc (.cells #[.int .u64 0, .int .u64 0, .int .u64 0, .int .u64 0, .int .u64 0, .int .u64 0, .int .u64 0, .int .u64 0, .int .u64 0, .int .u64 0, .slice none 0 0, .slice none 0 0] 28)) (bs, 0) #[.int .u64 0, .int .u64 0, .int .u64 0, .int .u64 0, .int .u64 0, .int .u64 0, .int .u64 0, .int .u64 0, .int .u64 0, .int .u64 0, .slice none 0 0, .slice none 0 0] := by
    have hn1 : New w (w.alloc (.cells #[.int .u64 0, .int .u64 0, .int .u64 0, .int .u64 0, .int .u64 0, .int .u64 0, .int .u64 0, .int .u64 0, .int .u64 0, .int .u64 0, .slice none 0 0, .slice none 0 0] 28)) := Upd.alloc _ _ _
    obtain ⟨h1, h2⟩ := two_alloc w (.cells #[.int .u64 0, .int .u64 0, .int .u64 0, .int .u64 0, .int .u64 0, .int .u64 0, .int .u64 0, .int .u64 0, .int .u64 0, .int .u64 0, .slice none 0 0, .slice none 0 0] 28) (.cells #[.slice A n c, .int .i64 0] 80)
    have hn2 : New ((w.alloc (.cells #[.int .u64 0, .int .u64 0, .int .u64 0, .int .u64 0, .int .u64 0, .int .u64 0, .int .u64 0, .int .u64 0, .int .u64 0, .int .u64 0, .slice none 0 0, .slice none 0 0] 28)).alloc (.cells #[.slice A n c, .int .i64 0] 80)) (((w.alloc (.cells #[.int .u64 0, .int .u64 0, .int .u64 0, .int .u64 0, .int .u64 0, .int .u64 0, .int .u64 0, .int .u64 0, .int .u64 0, .int .u64 0, .slice none 0 0, .slice none 0 0] 28)).alloc (.cells #[.slice A n c, .int .i64 0] 80)).alloc (.cells #[.int .u64 0, .int .u64 0, .int .u64 0, .int .u64 0, .int .u64 0, .int .u64 0, .int .u64 0, .int .u64 0, .int .u64 0, .int .u64 0, .slice none 0 0, .slice none 0 0] 28)) := Upd.alloc _ _ _
    have hnn : New w (((w.alloc (.cells #[.int .u64 0, .int .u64 0, .int .u64 0, .int .u64 0, .int .u64 0, .int .u64 0, .int .u64 0, .int .u64 0, .int .u64 0, .int .u64 0, .slice none 0 0, .slice none 0 0] 28)).alloc (.cells #[.slice A n c, .int .i64 0] 80)).alloc (.cells #[.int .u64 0, .int .u64 0, .int .u64 0, .int .u64 0, .int .u64 0, .int .u64 0, .int .u64 0, .int .u64 0, .int .u64 0, .int .u64 0, .slice none 0 0, .slice none 0 0] 28)) := (hn1.trans (Upd.alloc _ _ _)).trans hn2
    have h3 := Ex.alloc_new ((w.alloc (.cells #[.int .u64 0, .int .u64 0, .int .u64 0, .int .u64 0, .int .u64 0, .int .u64 0, .int .u64 0, .int .u64 0, .int .u64 0, .int .u64 0, .slice none 0 0, .slice none 0 0] 28)).alloc (.cells #[.slice A n c, .int .i64 0] 80)) (.cells #[.int .u64 0, .int .u64 0, .int .u64 0, .int .u64 0, .int .u64 0, .int .u64 0, .int .u64 0, .int .u64 0, .int .u64 0, .int .u64 0, .slice none 0 0, .slice none 0 0] 28)
    rw [show ((w.alloc (.cells #[.int .u64 0, .int .u64 0, .int .u64 0, .int .u64 0, .int .u64 0, .int .u64 0, .int .u64 0, .int .u64 0, .int .u64 0, .int .u64 0, .slice none 0 0, .slice none 0 0] 28)).alloc (.cells #[.slice A n c, .int .i64 0] 80)).heap.size = w.heap.size + 2 by show ((w.heap.push _).push _).size = _; simp] at h3
    exact ⟨⟨A, n, c, ⟨⟨80, (hn2.block _ (Array.getElem?_eq_some_iff.1 h2).1 id).trans h2⟩, hb.new hnn, fun a ha h0 => hb.sl.lt ha h0, by omega⟩, by omega⟩, h3, (hn2.block _ (Array.getElem?_eq_some_iff.1 h1).1 id).trans h1, hnn⟩
  obtain ⟨m, hm⟩ : ∃ m, m = rV 4 (bs, 0) := ⟨_, rfl⟩
  obtain ⟨l1, hl1'⟩ : ∃ l, l = (rU 4 (bs, 0)).1 := ⟨_, rfl⟩
  have h27 := hD0.num 4 (by omega) (by omega)
  rw [← hm] at h27
  have HSM := Lib.hid hb.small; have HB := Lib.hid hb; have HM := Lib.hid hm; have HL1 := Lib.hid hl1'
  have hM := hm
  clear hb hD0 hm
  by_cases hmm : m = 1196183089
  rotate_left
  · have hne : (((m : Nat) : Int) != 1196183089) = true := by rw [bne_iff_ne]; omega
    go_enter Tryz.func9, Tryz.ntmps9
    go_wp2_with (first
      | (go_at_call 27; refine h27.mono ?_; rintro e W1 ⟨rfl, hD1, -⟩; clear h27; obtain ⟨⟨r0, r1, r2, r3, r4, r5, r6, r7, r8, r9, r10, r11⟩, z0, z1, z2, z3, z4, z5, z6, z7, z8, z9, z10, z11⟩ := c12 (hD1.rz); have HD1 := Lib.hid hD1; clear hD1))
    obtain ⟨hh12, hu12⟩ := put12h (HD1.out.rz) (.int .u64 0) (.int .u64 0) (.int .u64 0) (.int .u64 0) (.int .u64 0) (.int .u64 0) (.int .u64 0) (.int .u64 0) (.int .u64 0) (.int .u64 0) (.slice none 0 0) (.slice none 0 0)
    obtain ⟨⟨k0, k1, k2, k3, k4, k5, k6, k7, k8, k9, k10, k11⟩, -⟩ := c12 hh12
    refine bodyPost_ret (by simp [results, Tryz.results9, go_sem, k0, k1, k2, k3, k4, k5, k6, k7, k8, k9, k10, k11]; try rfl) rfl ?_
    have href : refdec bs = none := by
      unfold refdec
      rw [if_pos (.inl (fun h => hmm (HM.out.trans h)))]
    unfold Decd
    rw [← refdec_eq HSM.out, href]
    exact ⟨(HD1.out.new).then hu12 (fun c hc e => by omega), rfl⟩

  subst hmm
  have hs1 : rU 4 (bs, 0) = (l1, 0) := by
    have : (rU 4 (bs, 0)).2 = 0 := by
      unfold rU re
      by_cases ho : rOk 4 bs 0 = true
      · simp [ho]
      · exfalso
        have := HM.out
        unfold rV rv at this
        simp only [] at this
        rw [if_neg ho] at this
        cases this
    rw [HL1.out]
    exact Prod.ext rfl this
  rw [hs1] at h27
  by_cases hlen : l1.length < 80
  · go_enter Tryz.func9, Tryz.ntmps9
    go_wp2_with (first
      | (go_at_call 27; refine h27.mono ?_; rintro e W1 ⟨rfl, hD1, -⟩; clear h27; obtain ⟨A1, n1, c1, (hR1 : Rq w.heap.size (w.heap.size + 1) W1 A1 n1 c1 l1 0), hn1'⟩ := hD1.rd; have hc1 := hR1.cell0; have hlen1 := hR1.by_.len; have hlt80 : decide ((n1 : Int) < 80) = true := decide_eq_true (by omega); obtain ⟨⟨r0, r1, r2, r3, r4, r5, r6, r7, r8, r9, r10, r11⟩, z0, z1, z2, z3, z4, z5, z6, z7, z8, z9, z10, z11⟩ := c12 (hD1.rz); have HD1 := Lib.hid hD1; clear hD1 hR1))
    obtain ⟨hh12, hu12⟩ := put12h (HD1.out.rz) (.int .u64 0) (.int .u64 0) (.int .u64 0) (.int .u64 0) (.int .u64 0) (.int .u64 0) (.int .u64 0) (.int .u64 0) (.int .u64 0) (.int .u64 0) (.slice none 0 0) (.slice none 0 0)
    obtain ⟨⟨k0, k1, k2, k3, k4, k5, k6, k7, k8, k9, k10, k11⟩, -⟩ := c12 hh12
    refine bodyPost_ret (by simp [results, Tryz.results9, go_sem, k0, k1, k2, k3, k4, k5, k6, k7, k8, k9, k10, k11]; try rfl) rfl ?_
    have href : refdec bs = none := by
      unfold refdec
      rw [if_pos (.inr (by rw [← HL1.out]; exact hlen))]
    unfold Decd
    rw [← refdec_eq HSM.out, href]
    exact ⟨(HD1.out.new).then hu12 (fun c hc e => by omega), rfl⟩

  have hsl1 : Small l1 := by rw [hl1']; exact small_rU (s := (bs, 0)) HSM.out
  obtain ⟨s2, hs2⟩ : ∃ s, s = ((l1.drop 80, 0) : RS) := ⟨_, rfl⟩
  obtain ⟨na, hna'⟩ : ∃ x, x = rV 4 s2 := ⟨_, rfl⟩
  obtain ⟨s3, hs3⟩ : ∃ s, s = rU 4 s2 := ⟨_, rfl⟩
  have hsm2 : Small s2.1 := by rw [hs2]; exact fun x hx => hsl1 x (List.mem_of_mem_drop hx)
  have hsm3 : Small s3.1 := by rw [hs3]; exact small_rU hsm2
  have hnab : na < 4294967296 := by rw [hna']; exact rv_lt hsm2
  have hwi : IntKind.i64.wrap (na : Int) = (na : Int) := by rw [IntKind.wrap_i64]; omega
  have HS1 := Lib.hid hs1; have HLEN := Lib.hid hlen; have HS2 := Lib.hid hs2; have HNA := Lib.hid hna'; have HS3 := Lib.hid hs3; have HSM3 := Lib.hid hsm3; have HNAB := Lib.hid hnab
  clear hs1 hlen hs2 hna' hs3 hsm2 hsm3 hl1' hnab
  go_enter Tryz.func9, Tryz.ntmps9
  go_upto_region 8 with (first
      | (go_at_call 27; refine h27.mono ?_; rintro e W1 ⟨rfl, hD1, -⟩; clear h27; obtain ⟨A1, n1, c1, (hR1 : Rq w.heap.size (w.heap.size + 1) W1 A1 n1 c1 l1 0), hn1'⟩ := hD1.rd; have hlen1 := hR1.by_.len; obtain ⟨b1, o1, rfl, -⟩ := hR1.by_.addr (by have := HLEN.out; omega); have hc1 := hR1.cell0; have hle1 := hR1.by_.sl.le; have hmx1 := hR1.by_.sl.max; have hk80 : 80 ≤ n1 := (by have := HLEN.out; omega); have hlt80 : decide ((n1 : Int) < 80) = false := decide_eq_false (by omega); have h28 := params_read (by_take hR1.by_ hk80 (by omega)); have HD1 := Lib.hid hD1; have HR1 := Lib.hid hR1; clear hD1 hR1)
      | (go_at_call 28; refine h28.mono ?_; rintro e W2 ⟨hn2, q0, q1, q2, q3, q4, q5, q6, q7, q8, q9, hit, rfl⟩; clear h28; have hD2 := HD1.out.fresh hn2; have hR2 := HR1.out.upd hn2 id (fun _ _ => id); have hc2 := hR2.cell0; have hf2 := hR2.frozen 0; obtain ⟨⟨g0, g1, g2, g3, g4, g5, g6, g7, g8, g9, g10, g11⟩, y0, y1, y2, y3, y4, y5, y6, y7, y8, y9, y10, y11⟩ := c12 hD2.g; obtain ⟨hh3, hu3⟩ := putg10 hD2.g (.int .u64 (q0 : Int)) (.int .u64 (q1 : Int)) (.int .u64 (q2 : Int)) (.int .u64 (q3 : Int)) (.int .u64 (q4 : Int)) (.int .u64 (q5 : Int)) (.int .u64 (q6 : Int)) (.int .u64 (q7 : Int)) (.int .u64 (q8 : Int)) (.int .u64 (q9 : Int)); have hR3 := hR2.upd hu3 (by omega) (fun b hb => by omega); have hc3 := hR3.cell0; have hf3 := hR3.frozen 0; have hD3 := hD2.moved hu3 hh3; have HD3 := Lib.hid hD3; have HR3 := Lib.hid hR3; have HIT := Lib.hid hit; clear hn2 hD2 hR2 hh3 hu3 hR3 hD3 hit HD1 HR1))
  go_cut [] (fun wx => Hid (DR w wx s2 #[.int .u64 (q0 : Int), .int .u64 (q1 : Int), .int .u64 (q2 : Int), .int .u64 (q3 : Int), .int .u64 (q4 : Int), .int .u64 (q5 : Int), .int .u64 (q6 : Int), .int .u64 (q7 : Int), .int .u64 (q8 : Int), .int .u64 (q9 : Int), .slice none 0 0, .slice none 0 0]))
  case first =>
    clear g0 g1 g2 g3 g4 g5 g6 g7 g8 g9 g10 g11 y0 y1 y2 y3 y4 y5 y6 y7 y8 y9 y10 y11 hc2 hf2
    obtain ⟨W3, hW3⟩ : ∃ W3, W3 = ((((((((((W2.setCell ⟨w.heap.size + 1 + 1, 0, none⟩ (.int .u64 (q0 : Int))).setCell ⟨w.heap.size + 1 + 1, 1, none⟩ (.int .u64 (q1 : Int))).setCell ⟨w.heap.size + 1 + 1, 2, none⟩ (.int .u64 (q2 : Int))).setCell ⟨w.heap.size + 1 + 1, 3, none⟩ (.int .u64 (q3 : Int))).setCell ⟨w.heap.size + 1 + 1, 4, none⟩ (.int .u64 (q4 : Int))).setCell ⟨w.heap.size + 1 + 1, 5, none⟩ (.int .u64 (q5 : Int))).setCell ⟨w.heap.size + 1 + 1, 6, none⟩ (.int .u64 (q6 : Int))).setCell ⟨w.heap.size + 1 + 1, 7, none⟩ (.int .u64 (q7 : Int))).setCell ⟨w.heap.size + 1 + 1, 8, none⟩ (.int .u64 (q8 : Int))).setCell ⟨w.heap.size + 1 + 1, 9, none⟩ (.int .u64 (q9 : Int))) := ⟨_, rfl⟩
    rw [← hW3] at HD3 HR3 hc3 hf3 ⊢
    clear hW3
    go_wp2_with fail
    all_goals (go_meet)
    all_goals rw [HS2.out]
    · exact Lib.hid (HD3.out.next HR3.out (by_zero HR3.out.by_ (by omega) (fun h => by cases h)) (by omega) (fun a ha h0 => by omega))
    · exact Lib.hid (HD3.out.next HR3.out (by_drop HR3.out.by_ hk80 (by omega)) (by omega) (fun a ha h0 => by cases ha; exact HR3.out.old ⟨b1, o1, none⟩ rfl (by omega)))
  case rest =>
  have HD4 := hcut
  have h27 := hcut.out.num 4 (by omega) (by omega)
  rw [← HNA.out, ← HS3.out] at h27
  clear hcut HD3 HR3 hc1 hc2 hf2 hc3 hf3 hle1 hmx1 hk80 hlt80 hlen1
  by_cases hle : na ≤ 256
  rotate_left
  · have hgt : decide ((256 : Int) < (na : Int)) = true := decide_eq_true (by omega)
    go_wp2_with (go_at_call 27; refine h27.mono ?_; rintro e W5 ⟨rfl, hD5, -⟩; obtain ⟨⟨r0, r1, r2, r3, r4, r5, r6, r7, r8, r9, r10, r11⟩, z0, z1, z2, z3, z4, z5, z6, z7, z8, z9, z10, z11⟩ := c12 (hD5.rz); have HD5 := Lib.hid hD5; clear hD5)
    obtain ⟨hh12, hu12⟩ := put12h (HD5.out.rz) (.int .u64 0) (.int .u64 0) (.int .u64 0) (.int .u64 0) (.int .u64 0) (.int .u64 0) (.int .u64 0) (.int .u64 0) (.int .u64 0) (.int .u64 0) (.slice none 0 0) (.slice none 0 0)
    obtain ⟨⟨k0, k1, k2, k3, k4, k5, k6, k7, k8, k9, k10, k11⟩, -⟩ := c12 hh12
    refine bodyPost_ret (by simp [results, Tryz.results9, go_sem, k0, k1, k2, k3, k4, k5, k6, k7, k8, k9, k10, k11]; try rfl) rfl ?_
    have href : refdec bs = none := by
      unfold refdec
      rw [HS1.out]
      simp only []
      rw [← HS2.out, ← HNA.out, if_neg (by rintro (h | h); exact h HM.out.symm; exact HLEN.out h), if_pos (by omega)]
    unfold Decd
    rw [← refdec_eq HSM.out, href]
    exact ⟨(HD5.out.new).then hu12 (fun c hc e => by omega), rfl⟩

  · have hgt : decide ((256 : Int) < (na : Int)) = false := decide_eq_false (by omega)
    go_wp2_with (go_at_call 27; refine h27.mono ?_; rintro e W5 ⟨rfl, hD5, -⟩; have HDW5 := Lib.hid hD5; have HSZW5 := Lib.hid hD5.size; clear hD5 h27)
    have hnan := HNAB.out
    go_loopw [7] (fun i wr => ∃ (j : Nat) (A : Option Addr) (c : Nat), j ≤ na ∧ i = .int .i64 (j : Int) ∧ Hid (DR w wr (items (2 * j) s3).2 #[.int .u64 (q0 : Int), .int .u64 (q1 : Int), .int .u64 (q2 : Int), .int .u64 (q3 : Int), .int .u64 (q4 : Int), .int .u64 (q5 : Int), .int .u64 (q6 : Int), .int .u64 (q7 : Int), .int .u64 (q8 : Int), .int .u64 (q9 : Int), (.slice A j c), .slice none 0 0] ∧ wr.ownsRow W5.heap.size 43 2 (.slice A j c) j ((items (2 * j) s3).1.map Gl.u64) ∧ Upd (fun b => b = w.heap.size + 1 ∨ b = w.heap.size + 1 + 1) W5 wr)) (fun i _ => na - (intOf i).toNat)
    case atStart => exact ⟨0, none, 0, Nat.zero_le _, rfl, Lib.hid ⟨by simpa [items] using HDW5.out, World.ownsRow_nil _ _ _ _, Upd.refl _ _⟩⟩
    case round =>
      obtain ⟨j, A, c, hj, rfl, hI⟩ := hrel
      by_cases hjn : j < na
      · obtain ⟨sj, hsj⟩ : ∃ sj, sj = (items (2 * j) s3).2 := ⟨_, rfl⟩
        obtain ⟨acc, hacc⟩ : ∃ acc, acc = (items (2 * j) s3).1 := ⟨_, rfl⟩
        obtain ⟨x0, hx0⟩ : ∃ x, x = rV 8 sj := ⟨_, rfl⟩
        obtain ⟨x1, hx1⟩ : ∃ x, x = rV 8 (rU 8 sj) := ⟨_, rfl⟩
        have hI0 := hI.out
        rw [← hsj, ← hacc] at hI0
        have hIT := items_two j s3
        rw [← hsj, ← hacc, ← hx0, ← hx1] at hIT
        have h27a := hI0.1.num 8 (by omega) (by omega)
        rw [← hx0] at h27a
        have hsz := HSZW5.out
        have hszr := hI0.2.2.size
        have HJ := Lib.hid hI0; have HIT2 := Lib.hid hIT; have HSZR := Lib.hid hszr
        have HX0 := Lib.hid hx0.symm; have HX1 := Lib.hid hx1.symm
        clear hI0 hI hIT hsj hacc hsz hszr hx0 hx1
        go_upto_region 17 with (first
          | (go_at_call 27; refine h27a.mono ?_; rintro e V0 ⟨rfl, hD, hu⟩; clear h27a; have h27b := (hD.fresh (Upd.alloc _ V0 (.cells #[.int .u64 (x0 : Int), .int .u64 0] 43))).num 8 (by omega) (by omega); rw [HX1.out] at h27b; have HU0 := Lib.hid hu; clear hD hu)
          | (go_at_call 27; refine h27b.mono ?_; rintro e V1 ⟨rfl, hD, hu⟩; clear h27b; have hA := (hu.block V0.heap.size (by show _ < (V0.heap.push _).size; simp) (by have := HU0.out.size; have := HSZR.out; have := HSZW5.out; omega)).trans (Ex.alloc_new V0 (.cells #[.int .u64 (x0 : Int), .int .u64 0] 43)); have v0 := cells_at hA 0 _ rfl; have v1 := cells_at hA 1 _ rfl; have vf := fz_at hA 1; have hA2 := (putc hA (i := 1) (by simp) (.int .u64 (x1 : Int))).1; simp only [List.setIfInBounds_toArray, List.set_cons_succ, List.set_cons_zero] at hA2; have u0 := cells_at hA2 0 _ rfl; have u1 := cells_at hA2 1 _ rfl; have hlow : w.heap.size + 3 ≤ V0.heap.size := (by have := HU0.out.size; have := HSZR.out; have := HSZW5.out; omega); have hD2 := hD.upd (Upd.setCell (S := fun b => b = V0.heap.size) (a := ⟨V0.heap.size, 1, none⟩) V1 (.int .u64 (x1 : Int)) rfl) (fun b hb e => by omega); have t1 := cells_at hD.g 10 _ rfl; have t2 := cells_at hD2.g 10 _ rfl; have HD2 := Lib.hid hD2; have HU1 := Lib.hid hu; have HLOW := Lib.hid hlow; have HA2 := Lib.hid hA2; clear hD hu hA hA2 hD2 hlow))
        have huv : Upd (fun b => (b = w.heap.size + 1 ∨ b = w.heap.size + 1 + 1) ∨ b = V0.heap.size) wr (V1.setCell ⟨V0.heap.size, 1, none⟩ (.int .u64 (x1 : Int))) := ((HU0.out.mono (fun _ _ h => Or.inl (Or.inl h))).trans (Upd.alloc _ _ _)).trans ((HU1.out.mono (fun _ _ h => Or.inl (Or.inl h))).trans (Upd.setCell (S := fun b => (b = w.heap.size + 1 ∨ b = w.heap.size + 1 + 1) ∨ b = V0.heap.size) (a := ⟨V0.heap.size, 1, none⟩) V1 (.int .u64 (x1 : Int)) (.inr rfl)))
        have hnr : V0.heap.size ≥ wr.heap.size := HU0.out.size
        have hown : (V1.setCell ⟨V0.heap.size, 1, none⟩ (.int .u64 (x1 : Int))).ownsRow W5.heap.size 43 2 (.slice A j c) j (acc.map Gl.u64) := ownsRow_keep HJ.out.2.1 (fun b hb hl => huv.block b hl (fun e => by have h1 := (ownsRow_lt HJ.out.2.1 hb).2; have h2 := HSZW5.out; rcases e with (e | e) | e <;> omega))
        obtain ⟨V, hV⟩ : ∃ V, V = (V1.setCell ⟨V0.heap.size, 1, none⟩ (.int .u64 (x1 : Int))) := ⟨_, rfl⟩
        rw [← hV] at u0 u1 t2 HD2 huv hown ⊢
        have HUV := Lib.hid huv; have HNR := Lib.hid hnr
        have hownA : (V.alloc (.cells #[.int .u64 (x0 : Int), .int .u64 (x1 : Int)] 43)).ownsRow W5.heap.size 43 2 (.slice A j c) j (acc.map Gl.u64) := ownsRow_alloc hown _ rfl
        have hsrc : Gl.Src (V.alloc (.cells #[.int .u64 (x0 : Int), .int .u64 (x1 : Int)] 43)) (some ⟨V.heap.size, 0, none⟩) 1 ([x0, x1].map Gl.u64) := fun _ => ⟨_, _, rfl, fun i u hu => by
          refine cells_at (t := 43) (cs := #[.int .u64 (x0 : Int), .int .u64 (x1 : Int)]) (Ex.alloc_new V _) _ u ?_
          rw [Nat.zero_add]; simpa using hu⟩
        have hbase : W5.heap.size ≤ (V.alloc (.cells #[.int .u64 (x0 : Int), .int .u64 (x1 : Int)] 43)).heap.size := by have h1 := HJ.out.2.2.size; have h2 := huv.size; show _ ≤ (V.heap.push _).size; simp; omega
        have HOWN := Lib.hid hownA; have HSRC := Lib.hid hsrc; have HBASE := Lib.hid hbase; have HOW0 := Lib.hid hown
        clear hV v0 v1 vf t1 hownA hsrc hbase hown huv hnr HU0 HU1 HA2
        go_wp2_with (first
          | (at_builtin
             refine wpList_append_src _ rfl _ _ _ rfl W5.heap.size 43 i2 _ 2 16 Tryz.underlying25 hi2 hj0 hj1 hj2 rfl (by omega) (.slice A j c) j (acc.map Gl.u64) rfl HOWN.out _ 1 1 ([x0, x1].map Gl.u64) rfl rfl HSRC.out (oneCell_u64 _) (by simp only [maxLen]; omega) (by omega) HBASE.out ?_
             intro A5 c5 V5 hown5 hg5 hat5
             have hu5 : Upd (fun b => W5.heap.size ≤ b) V V5 := (Upd.alloc _ _ _).trans (Upd.of_grown hg5 (fun b e => (ownsRow_lt HOW0.out e).2))
             have hD5 := HD2.out.upd hu5 (fun b hb e => by have := HSZW5.out; omega)
             have g5 := cells_at hD5.g 10 _ rfl; have f5 := fz_at hD5.g 10
             have HD5 := Lib.hid hD5; have HU5 := Lib.hid hu5; have HOWN5 := Lib.hid hown5; clear hD5 hu5 hown5 hg5 hat5))
        refine ⟨⟨j + 1, A5, c5, by omega, by congr 1, Lib.hid ?_⟩, by simp [intOf]; omega⟩
        rw [HIT2.out]
        refine ⟨HD5.out.put 10 (.slice A5 (j + 1) c5) (by simp) rfl, ?_, ?_⟩
        · have h := HOWN5.out
          rw [← List.map_append] at h
          refine ownsRow_keep h (fun b hb hl => (Upd.setCell (S := fun b => b = w.heap.size + 1 + 1) (a := ⟨w.heap.size + 1 + 1, 10, none⟩) V5 (.slice A5 (j + 1) c5) rfl).block b hl (fun e => by have h1 := (ownsRow_lt h hb).2; have h2 := HSZW5.out; omega))
        · have hA : Upd (fun b => (b = w.heap.size + 1 ∨ b = w.heap.size + 1 + 1) ∨ W5.heap.size ≤ b) wr (V5.setCell ⟨w.heap.size + 1 + 1, 10, none⟩ (.slice A5 (j + 1) c5)) := (HUV.out.mono (fun b _ e => e.imp id (fun e => by have h1 := HJ.out.2.2.size; have h2 := HNR.out; omega))).trans ((HU5.out.mono (fun b _ e => Or.inr e)).trans (Upd.setCell (a := ⟨w.heap.size + 1 + 1, 10, none⟩) V5 _ (Or.inl (Or.inr rfl))))
          exact HJ.out.2.2.then hA (fun b hb e => e.elim id (fun e => absurd e (by omega)))
      · obtain rfl : na = j := by omega
        obtain ⟨xs, hxs⟩ : ∃ x, x = (items (2 * na) s3).1 := ⟨_, rfl⟩
        obtain ⟨s4, hs4⟩ : ∃ x, x = (items (2 * na) s3).2 := ⟨_, rfl⟩
        have hI4 : items (2 * na) s3 = (xs, s4) := Prod.ext hxs.symm hs4.symm
        have hI0 := hI.out
        rw [← hxs, ← hs4] at hI0
        obtain ⟨nv, hnv⟩ : ∃ x, x = rV 4 s4 := ⟨_, rfl⟩
        obtain ⟨s5, hs5⟩ : ∃ x, x = rU 4 s4 := ⟨_, rfl⟩
        have hsm4 : Small s4.1 := by rw [hs4]; exact small_items _ _ HSM3.out
        have hsm5 : Small s5.1 := by rw [hs5]; exact small_rU hsm4
        have hnvb : nv < 4294967296 := by rw [hnv]; exact rv_lt hsm4
        have hwv : IntKind.i64.wrap (nv : Int) = (nv : Int) := by rw [IntKind.wrap_i64]; omega
        have hxb : Big xs := by rw [hxs]; exact items_big _ _ HSM3.out
        have hrd : refdec bs = (if 64 < nv then none else if (items (3 * nv) s5).2 = ([], 0) ∧ genBytes [q0, q1, q2, q3, q4, q5, q6, q7, q8, q9] xs (items (3 * nv) s5).1 na nv = bs then some ([q0, q1, q2, q3, q4, q5, q6, q7, q8, q9], xs, (items (3 * nv) s5).1) else none) := by
          unfold refdec
          rw [HS1.out]
          simp only []
          rw [← HS2.out, ← HNA.out, ← HS3.out, Nat.mul_comm na 2, hI4]
          simp only []
          rw [← hnv, ← hs5, Nat.mul_comm nv 3, HIT.out]
          simp only []
          rw [if_neg (by rintro (h | h); exact h HM.out.symm; exact HLEN.out h), if_neg (by omega)]
        have h27 := hI0.1.num 4 (by omega) (by omega)
        rw [← hnv, ← hs5] at h27
        have hrow := Sl.of_own hI0.2.1
        have hrb : ∀ a, A = some a → W5.heap.size ≤ a.block ∧ a.block < wr.heap.size := fun a ha => by
          have := ownsRow_lt hI0.2.1 (c := a.block) (by rw [ha]; rfl)
          exact ⟨this.2, this.1⟩
        have HRD := Lib.hid hrd; have HROW := Lib.hid hrow; have HRB := Lib.hid hrb; have HXB := Lib.hid hxb; have HSM5 := Lib.hid hsm5
        clear hI0 hI hxs hs4 hI4 hnv hs5 hsm4 hsm5 hxb hrd hrow hrb HDW5
        by_cases hlv : nv ≤ 64
        rotate_left
        · have hgt2 : decide ((64 : Int) < (nv : Int)) = true := decide_eq_true (by omega)
          go_wp2_with (go_at_call 27; refine h27.mono ?_; rintro e W6 ⟨rfl, hD5, -⟩; obtain ⟨⟨r0, r1, r2, r3, r4, r5, r6, r7, r8, r9, r10, r11⟩, z0, z1, z2, z3, z4, z5, z6, z7, z8, z9, z10, z11⟩ := c12 (hD5.rz); have HD5 := Lib.hid hD5; clear hD5)
          obtain ⟨hh12, hu12⟩ := put12h (HD5.out.rz) (.int .u64 0) (.int .u64 0) (.int .u64 0) (.int .u64 0) (.int .u64 0) (.int .u64 0) (.int .u64 0) (.int .u64 0) (.int .u64 0) (.int .u64 0) (.slice none 0 0) (.slice none 0 0)
          obtain ⟨⟨k0, k1, k2, k3, k4, k5, k6, k7, k8, k9, k10, k11⟩, -⟩ := c12 hh12
          refine bodyPost_ret (by simp [results, Tryz.results9, go_sem, k0, k1, k2, k3, k4, k5, k6, k7, k8, k9, k10, k11]; try rfl) rfl ?_
          have href : refdec bs = none := by
            rw [HRD.out, if_pos (by omega)]
          unfold Decd
          rw [← refdec_eq HSM.out, href]
          exact ⟨(HD5.out.new).then hu12 (fun c hc e => by omega), rfl⟩

        · have hgt2 : decide ((64 : Int) < (nv : Int)) = false := decide_eq_false (by omega)
          go_wp2_with (go_at_call 27; refine h27.mono ?_; rintro e W6 ⟨rfl, hD6, hu6⟩; have HDW6 := Lib.hid hD6; have HSZW6 := Lib.hid hD6.size; have HUW6 := Lib.hid hu6; clear hD6 hu6 h27)
          go_loopw [9] (fun i wr => ∃ (k : Nat) (A3 : Option Addr) (c3 : Nat), k ≤ nv ∧ i = .int .i64 (k : Int) ∧ Hid (DR w wr (items (3 * k) s5).2 #[.int .u64 (q0 : Int), .int .u64 (q1 : Int), .int .u64 (q2 : Int), .int .u64 (q3 : Int), .int .u64 (q4 : Int), .int .u64 (q5 : Int), .int .u64 (q6 : Int), .int .u64 (q7 : Int), .int .u64 (q8 : Int), .int .u64 (q9 : Int), .slice A na c, (.slice A3 k c3)] ∧ wr.ownsRow W6.heap.size 45 3 (.slice A3 k c3) k ((items (3 * k) s5).1.map Gl.u64) ∧ Upd (fun b => b = w.heap.size + 1 ∨ b = w.heap.size + 1 + 1) W6 wr)) (fun i _ => nv - (intOf i).toNat)
          case atStart => exact ⟨0, none, 0, Nat.zero_le _, rfl, Lib.hid ⟨by simpa [items] using HDW6.out, World.ownsRow_nil _ _ _ _, Upd.refl _ _⟩⟩
          case round =>
            obtain ⟨k, A3, c3, hj, rfl, hI⟩ := hrel
            by_cases hjn : k < nv
            · obtain ⟨sj, hsj⟩ : ∃ sj, sj = (items (3 * k) s5).2 := ⟨_, rfl⟩
              obtain ⟨acc, hacc⟩ : ∃ acc, acc = (items (3 * k) s5).1 := ⟨_, rfl⟩
              obtain ⟨x0, hx0⟩ : ∃ x, x = rV 8 sj := ⟨_, rfl⟩
              obtain ⟨x1, hx1⟩ : ∃ x, x = rV 8 (rU 8 sj) := ⟨_, rfl⟩
              obtain ⟨x2, hx2⟩ : ∃ x, x = rV 8 (rU 8 (rU 8 sj)) := ⟨_, rfl⟩
              have hI0 := hI.out
              rw [← hsj, ← hacc] at hI0
              have hIT := items_three k s5
              rw [← hsj, ← hacc, ← hx0, ← hx1, ← hx2] at hIT
              have h27a := hI0.1.num 8 (by omega) (by omega)
              rw [← hx0] at h27a
              have hsz := HSZW6.out
              have hszr := hI0.2.2.size
              have HJ := Lib.hid hI0; have HIT3 := Lib.hid hIT; have HSZR := Lib.hid hszr
              have HX0 := Lib.hid hx0.symm; have HX1 := Lib.hid hx1.symm; have HX2 := Lib.hid hx2.symm
              clear hI0 hI hIT hsj hacc hsz hszr hx0 hx1 hx2
              go_upto_region 27 with (first
                | (go_at_call 27; refine h27a.mono ?_; rintro e V0 ⟨rfl, hD, hu⟩; clear h27a; have h27b := (hD.fresh (Upd.alloc _ V0 (.cells #[.int .u64 (x0 : Int), .int .u64 0, .int .u64 0] 45))).num 8 (by omega) (by omega); rw [HX1.out] at h27b; have HU0 := Lib.hid hu; clear hD hu)
                | (go_at_call 27; refine h27b.mono ?_; rintro e V1 ⟨rfl, hD, hu⟩; clear h27b; have hA := (hu.block V0.heap.size (by show _ < (V0.heap.push _).size; simp) (by have := HU0.out.size; have := HSZR.out; have := HSZW6.out; omega)).trans (Ex.alloc_new V0 (.cells #[.int .u64 (x0 : Int), .int .u64 0, .int .u64 0] 45)); have v0 := cells_at hA 0 _ rfl; have v1 := cells_at hA 1 _ rfl; have vf := fz_at hA 1; have hA2 := (putc hA (i := 1) (by simp) (.int .u64 (x1 : Int))).1; simp only [List.setIfInBounds_toArray, List.set_cons_succ, List.set_cons_zero] at hA2; have hlow : w.heap.size + 3 ≤ V0.heap.size := (by have := HU0.out.size; have := HSZR.out; have := HSZW6.out; omega); have hD2 := hD.upd (Upd.setCell (S := fun b => b = V0.heap.size) (a := ⟨V0.heap.size, 1, none⟩) V1 (.int .u64 (x1 : Int)) rfl) (fun b hb e => by omega); have h27c := hD2.num 8 (by omega) (by omega); rw [HX2.out] at h27c; have HU1 := Lib.hid hu; have HLOW := Lib.hid hlow; have HA2 := Lib.hid hA2; clear hD hu hA hA2 hD2 hlow)
                | (go_at_call 27; refine h27c.mono ?_; rintro e V2 ⟨rfl, hD, hu⟩; clear h27c v0 v1 vf; have hA := (hu.block V0.heap.size (Array.getElem?_eq_some_iff.1 HA2.out).1 (by have := HLOW.out; omega)).trans HA2.out; have v0 := cells_at hA 0 _ rfl; have v1 := cells_at hA 1 _ rfl; have v2 := cells_at hA 2 _ rfl; have vf := fz_at hA 2; have hA3 := (putc hA (i := 2) (by simp) (.int .u64 (x2 : Int))).1; simp only [List.setIfInBounds_toArray, List.set_cons_succ, List.set_cons_zero] at hA3; have u0 := cells_at hA3 0 _ rfl; have u1 := cells_at hA3 1 _ rfl; have u2 := cells_at hA3 2 _ rfl; have hlow := HLOW.out; have hD2 := hD.upd (Upd.setCell (S := fun b => b = V0.heap.size) (a := ⟨V0.heap.size, 2, none⟩) V2 (.int .u64 (x2 : Int)) rfl) (fun b hb e => by omega); have t1 := cells_at hD.g 11 _ rfl; have t2 := cells_at hD2.g 11 _ rfl; have HD2 := Lib.hid hD2; have HU2 := Lib.hid hu; clear hD hu hA hA3 hD2 hlow))
              have huv : Upd (fun b => (b = w.heap.size + 1 ∨ b = w.heap.size + 1 + 1) ∨ b = V0.heap.size) wr (V2.setCell ⟨V0.heap.size, 2, none⟩ (.int .u64 (x2 : Int))) := (((HU0.out.mono (fun _ _ h => Or.inl (Or.inl h))).trans (Upd.alloc _ _ _)).trans ((HU1.out.mono (fun _ _ h => Or.inl (Or.inl h))).trans (Upd.setCell (S := fun b => (b = w.heap.size + 1 ∨ b = w.heap.size + 1 + 1) ∨ b = V0.heap.size) (a := ⟨V0.heap.size, 1, none⟩) V1 (.int .u64 (x1 : Int)) (.inr rfl)))).trans ((HU2.out.mono (fun _ _ h => Or.inl (Or.inl h))).trans (Upd.setCell (S := fun b => (b = w.heap.size + 1 ∨ b = w.heap.size + 1 + 1) ∨ b = V0.heap.size) (a := ⟨V0.heap.size, 2, none⟩) V2 (.int .u64 (x2 : Int)) (.inr rfl)))
              have hnr : V0.heap.size ≥ wr.heap.size := HU0.out.size
              have hown : (V2.setCell ⟨V0.heap.size, 2, none⟩ (.int .u64 (x2 : Int))).ownsRow W6.heap.size 45 3 (.slice A3 k c3) k (acc.map Gl.u64) := ownsRow_keep HJ.out.2.1 (fun b hb hl => huv.block b hl (fun e => by have h1 := (ownsRow_lt HJ.out.2.1 hb).2; have h2 := HSZW6.out; rcases e with (e | e) | e <;> omega))
              obtain ⟨V, hV⟩ : ∃ V, V = (V2.setCell ⟨V0.heap.size, 2, none⟩ (.int .u64 (x2 : Int))) := ⟨_, rfl⟩
              rw [← hV] at u0 u1 u2 t2 HD2 huv hown ⊢
              have HUV := Lib.hid huv; have HNR := Lib.hid hnr
              have hownA : (V.alloc (.cells #[.int .u64 (x0 : Int), .int .u64 (x1 : Int), .int .u64 (x2 : Int)] 45)).ownsRow W6.heap.size 45 3 (.slice A3 k c3) k (acc.map Gl.u64) := ownsRow_alloc hown _ rfl
              have hsrc : Gl.Src (V.alloc (.cells #[.int .u64 (x0 : Int), .int .u64 (x1 : Int), .int .u64 (x2 : Int)] 45)) (some ⟨V.heap.size, 0, none⟩) 1 ([x0, x1, x2].map Gl.u64) := fun _ => ⟨_, _, rfl, fun i u hu => by
                refine cells_at (t := 45) (cs := #[.int .u64 (x0 : Int), .int .u64 (x1 : Int), .int .u64 (x2 : Int)]) (Ex.alloc_new V _) _ u ?_
                rw [Nat.zero_add]; simpa using hu⟩
              have hbase : W6.heap.size ≤ (V.alloc (.cells #[.int .u64 (x0 : Int), .int .u64 (x1 : Int), .int .u64 (x2 : Int)] 45)).heap.size := by have h1 := HJ.out.2.2.size; have h2 := huv.size; show _ ≤ (V.heap.push _).size; simp; omega
              have HOWN := Lib.hid hownA; have HSRC := Lib.hid hsrc; have HBASE := Lib.hid hbase; have HOW0 := Lib.hid hown
              clear hV v0 v1 v2 vf t1 hownA hsrc hbase hown huv hnr HU0 HU1 HA2 HU2
              go_wp2_with (first
                | (at_builtin
                   refine wpList_append_src _ rfl _ _ _ rfl W6.heap.size 45 i3 _ 3 24 Tryz.underlying26 hi3 hl0 hl1 hl2 rfl (by omega) (.slice A3 k c3) k (acc.map Gl.u64) rfl HOWN.out _ 1 1 ([x0, x1, x2].map Gl.u64) rfl rfl HSRC.out (oneCell_u64 _) (by simp only [maxLen]; omega) (by omega) HBASE.out ?_
                   intro A5 c5 V5 hown5 hg5 hat5
                   have hu5 : Upd (fun b => W6.heap.size ≤ b) V V5 := (Upd.alloc _ _ _).trans (Upd.of_grown hg5 (fun b e => (ownsRow_lt HOW0.out e).2))
                   have hD5 := HD2.out.upd hu5 (fun b hb e => by have := HSZW6.out; omega)
                   have g5 := cells_at hD5.g 11 _ rfl; have f5 := fz_at hD5.g 11
                   have HD5 := Lib.hid hD5; have HU5 := Lib.hid hu5; have HOWN5 := Lib.hid hown5; clear hD5 hu5 hown5 hg5 hat5))
              refine ⟨⟨k + 1, A5, c5, by omega, by congr 1, Lib.hid ?_⟩, by simp [intOf]; omega⟩
              rw [HIT3.out]
              refine ⟨HD5.out.put 11 (.slice A5 (k + 1) c5) (by simp) rfl, ?_, ?_⟩
              · have h := HOWN5.out
                rw [← List.map_append] at h
                refine ownsRow_keep h (fun b hb hl => (Upd.setCell (S := fun b => b = w.heap.size + 1 + 1) (a := ⟨w.heap.size + 1 + 1, 11, none⟩) V5 (.slice A5 (k + 1) c5) rfl).block b hl (fun e => by have h1 := (ownsRow_lt h hb).2; have h2 := HSZW6.out; omega))
              · have hA : Upd (fun b => (b = w.heap.size + 1 ∨ b = w.heap.size + 1 + 1) ∨ W6.heap.size ≤ b) wr (V5.setCell ⟨w.heap.size + 1 + 1, 11, none⟩ (.slice A5 (k + 1) c5)) := (HUV.out.mono (fun b _ e => e.imp id (fun e => by have h1 := HJ.out.2.2.size; have h2 := HNR.out; omega))).trans ((HU5.out.mono (fun b _ e => Or.inr e)).trans (Upd.setCell (a := ⟨w.heap.size + 1 + 1, 11, none⟩) V5 _ (Or.inl (Or.inr rfl))))
                exact HJ.out.2.2.then hA (fun b hb e => e.elim id (fun e => absurd e (by omega)))
            · obtain rfl : nv = k := by omega
              obtain ⟨ys, hys⟩ : ∃ x, x = (items (3 * nv) s5).1 := ⟨_, rfl⟩
              obtain ⟨s6, hs6⟩ : ∃ x, x = (items (3 * nv) s5).2 := ⟨_, rfl⟩
              have hI0 := hI.out
              rw [← hys, ← hs6] at hI0
              have hrd := HRD.out
              rw [← hys, ← hs6, if_neg (by omega)] at hrd
              have hyb : Big ys := by rw [hys]; exact items_big _ _ HSM5.out
              have hyrow := Sl.of_own hI0.2.1
              have hyrb : ∀ a, A3 = some a → W6.heap.size ≤ a.block := fun a ha => (ownsRow_lt hI0.2.1 (c := a.block) (by rw [ha]; rfl)).2
              have hxrow : Sl 2 wr A na c (xs.map Gl.u64) := (HROW.out.upd HUW6.out (fun a ha h0 e => by have h1 := (HRB.out a ha).1; have h2 := HSZW5.out; omega)).upd hI0.2.2 (fun a ha h0 e => by have h1 := (HRB.out a ha).1; have h2 := HSZW5.out; omega)
              have h29 := hI0.1.fin
              have HD6 := Lib.hid hI0.1; have HRD2 := Lib.hid hrd; have HYB := Lib.hid hyb; have HYROW := Lib.hid hyrow; have HXROW := Lib.hid hxrow; have HYRB := Lib.hid hyrb
              clear hI0 hI hys hs6 hrd hyb hyrow hxrow hyrb HRD HROW HDW6
              by_cases hE : s6 = ([], 0)
              rotate_left
              · obtain ⟨ef, hef⟩ : ∃ ef, (if s6.2 = 0 ∧ 0 < s6.1.length then 43 else s6.2) = ef := ⟨_, rfl⟩
                have hef0 : ef ≠ 0 := by
                  rw [← hef]
                  split
                  · decide
                  · rename_i hh
                    intro h0
                    apply hE
                    refine Prod.ext (List.length_eq_zero_iff.1 ?_) h0
                    by_cases h2 : 0 < s6.1.length
                    · exact absurd ⟨h0, h2⟩ hh
                    · omega
                have hne : (((ef : Nat) : Int) != 0) = true := by rw [bne_iff_ne]; omega
                rw [hef] at h29
                clear hef
                go_wp2_with (go_at_call 29; refine h29.mono ?_; rintro e W7 ⟨rfl, hu⟩; clear h29; have hD5 := HD6.out.ended hu; obtain ⟨⟨r0, r1, r2, r3, r4, r5, r6, r7, r8, r9, r10, r11⟩, z0, z1, z2, z3, z4, z5, z6, z7, z8, z9, z10, z11⟩ := c12 (hD5.rz); have HD5 := Lib.hid hD5; clear hu hD5)
                obtain ⟨hh12, hu12⟩ := put12h (HD5.out.rz) (.int .u64 0) (.int .u64 0) (.int .u64 0) (.int .u64 0) (.int .u64 0) (.int .u64 0) (.int .u64 0) (.int .u64 0) (.int .u64 0) (.int .u64 0) (.slice none 0 0) (.slice none 0 0)
                obtain ⟨⟨k0, k1, k2, k3, k4, k5, k6, k7, k8, k9, k10, k11⟩, -⟩ := c12 hh12
                refine bodyPost_ret (by simp [results, Tryz.results9, go_sem, k0, k1, k2, k3, k4, k5, k6, k7, k8, k9, k10, k11]; try rfl) rfl ?_
                have href : refdec bs = none := by
                  rw [HRD2.out, if_neg (fun h => hE h.1)]
                unfold Decd
                rw [← refdec_eq HSM.out, href]
                exact ⟨(HD5.out.new).then hu12 (fun c hc e => by omega), rfl⟩

              · subst hE
                rw [if_neg (fun h => by have := h.2; simp at this)] at h29
                have hpb : Big [q0, q1, q2, q3, q4, q5, q6, q7, q8, q9] := by
                  have h := items_big 10 ((l1.take 80, 0) : RS) (fun x hx => hsl1 x (List.mem_of_mem_take hx))
                  rw [HIT.out] at h
                  exact h
                have HPB := Lib.hid hpb
                clear hpb
                by_cases hQ : genBytes [q0, q1, q2, q3, q4, q5, q6, q7, q8, q9] xs ys na nv = bs
                rotate_left
                · have hq2 : decide (genBytes [q0, q1, q2, q3, q4, q5, q6, q7, q8, q9] xs ys na nv = bs) = false := decide_eq_false hQ
                  have HQ2 := Lib.hid hq2
                  clear hq2
                  go_wp2_with (first
                    | (go_at_call 29; refine h29.mono ?_; rintro e W7 ⟨rfl, hu⟩; clear h29; have hD7 := HD6.out.ended hu; obtain ⟨⟨g0, g1, g2, g3, g4, g5, g6, g7, g8, g9, g10, g11⟩, -⟩ := c12 hD7.g; have hx7 := HXROW.out.upd hu (fun a ha h0 e => by have h1 := (HRB.out a ha).1; have h2 := HSZW5.out; omega); have hy7 := HYROW.out.upd hu (fun a ha h0 e => by have h1 := HYRB.out a ha; have h2 := HSZW6.out; omega); have h12 := refenc_c HPB.out hx7 hy7 HXB.out HYB.out (by omega) (by omega); unfold gen at h12; have HX7 := Lib.hid hx7; have HY7 := Lib.hid hy7; have HD7 := Lib.hid hD7; clear hu hD7 hx7 hy7)
                    | (go_at_call 12; refine h12.mono ?_; rintro e W8 ⟨A8, n8, c8, rfl, hby8, hn8⟩; clear h12 g0 g1 g2 g3 g4 g5 g6 g7 g8 g9 g10 g11; have hD8 := HD7.out.fresh hn8; have h10 := bytes_c hby8 (HB.out.new hD8.new); rw [HQ2.out] at h10; have HX8 := Lib.hid (HX7.out.new hn8); have HY8 := Lib.hid (HY7.out.new hn8); have HD8 := Lib.hid hD8; clear hby8 hn8 hD8)
                    | (go_at_call 10; refine h10.mono ?_; rintro e W9 ⟨rfl, hq⟩; have hn9 : New W8 W9 := (by obtain ⟨q, rfl⟩ := hq; exact (Upd.refl _ _).drewN q); have hD5 := HD8.out.fresh hn9; obtain ⟨⟨r0, r1, r2, r3, r4, r5, r6, r7, r8, r9, r10, r11⟩, z0, z1, z2, z3, z4, z5, z6, z7, z8, z9, z10, z11⟩ := c12 (hD5.rz); have HD5 := Lib.hid hD5; clear hn9 hD5 hq h10))
                  obtain ⟨hh12, hu12⟩ := put12h (HD5.out.rz) (.int .u64 0) (.int .u64 0) (.int .u64 0) (.int .u64 0) (.int .u64 0) (.int .u64 0) (.int .u64 0) (.int .u64 0) (.int .u64 0) (.int .u64 0) (.slice none 0 0) (.slice none 0 0)
                  obtain ⟨⟨k0, k1, k2, k3, k4, k5, k6, k7, k8, k9, k10, k11⟩, -⟩ := c12 hh12
                  refine bodyPost_ret (by simp [results, Tryz.results9, go_sem, k0, k1, k2, k3, k4, k5, k6, k7, k8, k9, k10, k11]; try rfl) rfl ?_
                  have href : refdec bs = none := by
                    rw [HRD2.out, if_neg (fun h => hQ h.2)]
                  unfold Decd
                  rw [← refdec_eq HSM.out, href]
                  exact ⟨(HD5.out.new).then hu12 (fun c hc e => by omega), rfl⟩

                · have hq2 : decide (genBytes [q0, q1, q2, q3, q4, q5, q6, q7, q8, q9] xs ys na nv = bs) = true := decide_eq_true hQ
                  have HQ2 := Lib.hid hq2
                  clear hq2
                  go_wp2_with (first
                    | (go_at_call 29; refine h29.mono ?_; rintro e W7 ⟨rfl, hu⟩; clear h29; have hD7 := HD6.out.ended hu; obtain ⟨⟨g0, g1, g2, g3, g4, g5, g6, g7, g8, g9, g10, g11⟩, -⟩ := c12 hD7.g; have hx7 := HXROW.out.upd hu (fun a ha h0 e => by have h1 := (HRB.out a ha).1; have h2 := HSZW5.out; omega); have hy7 := HYROW.out.upd hu (fun a ha h0 e => by have h1 := HYRB.out a ha; have h2 := HSZW6.out; omega); have h12 := refenc_c HPB.out hx7 hy7 HXB.out HYB.out (by omega) (by omega); unfold gen at h12; have HX7 := Lib.hid hx7; have HY7 := Lib.hid hy7; have HD7 := Lib.hid hD7; clear hu hD7 hx7 hy7)
                    | (go_at_call 12; refine h12.mono ?_; rintro e W8 ⟨A8, n8, c8, rfl, hby8, hn8⟩; clear h12 g0 g1 g2 g3 g4 g5 g6 g7 g8 g9 g10 g11; have hD8 := HD7.out.fresh hn8; have h10 := bytes_c hby8 (HB.out.new hD8.new); rw [HQ2.out] at h10; have HX8 := Lib.hid (HX7.out.new hn8); have HY8 := Lib.hid (HY7.out.new hn8); have HD8 := Lib.hid hD8; clear hby8 hn8 hD8)
                    | (go_at_call 10; refine h10.mono ?_; rintro e W9 ⟨rfl, hq⟩; have hn9 : New W8 W9 := (by obtain ⟨q, rfl⟩ := hq; exact (Upd.refl _ _).drewN q); have hD5 := HD8.out.fresh hn9; obtain ⟨⟨r0, r1, r2, r3, r4, r5, r6, r7, r8, r9, r10, r11⟩, z0, z1, z2, z3, z4, z5, z6, z7, z8, z9, z10, z11⟩ := c12 (hD5.rz); obtain ⟨⟨g0, g1, g2, g3, g4, g5, g6, g7, g8, g9, g10, g11⟩, -⟩ := c12 hD5.g; have HX9 := Lib.hid (HX8.out.new hn9); have HY9 := Lib.hid (HY8.out.new hn9); have HD5 := Lib.hid hD5; clear hn9 hD5 hq h10))
                  obtain ⟨hh12, hu12⟩ := put12h HD5.out.rz (.int .u64 (q0 : Int)) (.int .u64 (q1 : Int)) (.int .u64 (q2 : Int)) (.int .u64 (q3 : Int)) (.int .u64 (q4 : Int)) (.int .u64 (q5 : Int)) (.int .u64 (q6 : Int)) (.int .u64 (q7 : Int)) (.int .u64 (q8 : Int)) (.int .u64 (q9 : Int)) (.slice A na c) (.slice A3 nv c3)
                  obtain ⟨⟨k0, k1, k2, k3, k4, k5, k6, k7, k8, k9, k10, k11⟩, -⟩ := c12 hh12
                  refine bodyPost_ret (by simp [results, Tryz.results9, go_sem, k0, k1, k2, k3, k4, k5, k6, k7, k8, k9, k10, k11]; try rfl) rfl ?_
                  unfold Decd
                  rw [← refdec_eq HSM.out, HRD2.out, if_pos (by first | exact ⟨rfl, hQ⟩ | exact ⟨trivial, hQ⟩)]
                  have hw5 := HSZW5.out
                  have hw6 := HSZW6.out
                  exact ⟨HD5.out.new.then hu12 (fun c hc e => by omega), q0, q1, q2, q3, q4, q5, q6, q7, q8, q9, A, na, c, A3, nv, c3, rfl, rfl, HX9.out.upd hu12 (fun a ha h0 e => by have h1 := (HRB.out a ha).1; omega), HY9.out.upd hu12 (fun a ha h0 e => by have h1 := HYRB.out a ha; omega), HPB.out, HXB.out, HYB.out, hle, by omega, fun a ha => by have h1 := (HRB.out a ha).1; omega, fun a ha => by have h1 := HYRB.out a ha; omega⟩
end Go.Proofs.YtjfmbamiampjmaaGreat
