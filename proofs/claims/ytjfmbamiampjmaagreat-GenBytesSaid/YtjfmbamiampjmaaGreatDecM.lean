/- A part of the proof of the statement of this seat: no condition. -/
import Derived.Test.YtjfmbamiampjmaaGreatDecL
import Derived.Test.YtjfmbamiampjmaaGreatDecF
set_option linter.unusedVariables false
set_option linter.unusedSimpArgs false
namespace Go.Proofs.YtjfmbamiampjmaaGreat
open Go Go.RowKit Go.Proofs Gl

theorem info45 : (Tryz.prog.info? 45).map (fun i => (i.zero, i.size, i.bytes)) = some (some (.agg #[.int .u64 0, .int .u64 0, .int .u64 0]), 3, 24) := by kernel_rfl
set_option maxHeartbeats 4000000 in
set_option maxRecDepth 100000 in
theorem list23 {lo B br : Nat} {w : World} {s : RS} (h : At lo B br w s) (hB : B ≤ w.heap.size) (most : Nat) (hm : most ≤ 256) :
    Calls Tryz.prog 23 #[.agg #[.pointer (some ⟨br, 0, none⟩)], .int .i64 (most : Int), .func (.func 24) #[.agg #[.pointer (some ⟨br, 0, none⟩)]] #[]] w (Listed 3 lo B br w (lst 3 most s)) := by
  obtain ⟨i0, hi0, hz0, hz1, hz2⟩ := info_parts info45
  have hlt := h.lt
  obtain ⟨w0, hw0⟩ : ∃ w0, w0 = w.alloc (.cells #[.pointer (some ⟨br, 0, none⟩)] 63) := ⟨_, rfl⟩
  have hu0 : Upd (fun b => b = br) w w0 := by rw [hw0]; exact Upd.alloc _ w _
  have hA0 : At lo B br w0 s := h.upd (S := fun _ => False) (by rw [hw0]; exact Upd.alloc _ w _) (fun _ _ _ => id)
  have hsz : w0.heap.size = w.heap.size + 1 := by rw [hw0]; show (w.heap.push _).size = _; simp
  have hc1 := hA0.u32
  have Hk : ∀ W' S, Upd S w0 W' → ¬ S w.heap.size → W'.cell? ⟨w.heap.size, 0, none⟩ = some (.pointer (some ⟨br, 0, none⟩)) := fun W' S hu hS => by
    refine cells_at (t := 63) (cs := #[.pointer (some ⟨br, 0, none⟩)]) ?_ 0 _ rfl
    rw [hu.block w.heap.size (by omega) hS, hw0]
    exact Ex.alloc_new w _
  obtain ⟨N, hN⟩ : ∃ N, N = rV 4 s := ⟨_, rfl⟩
  obtain ⟨s1, hs1⟩ : ∃ s1, s1 = rU 4 s := ⟨_, rfl⟩
  have hNb : N < 4294967296 := by rw [hN]; exact rv_lt h.small
  have hr : lst 3 most s = if N ≤ most then lloop 3 N s1 [] else (none, s1) := by rw [hN, hs1]; rfl
  rw [hr]
  rw [← hN, ← hs1, hw0] at hc1
  have hwm : IntKind.u32.wrap (most : Int) = (most : Int) := by simp [IntKind.wrap, IntKind.bits, IntKind.signed]; omega
  have HK := Lib.hid Hk; have HC := Lib.hid hc1; have HLT := Lib.hid hlt; have HB := Lib.hid hB; have HW0 := Lib.hid hw0; have HU0 := Lib.hid hu0; have HSZ := Lib.hid hsz
  clear h hN hs1 hr hA0 hc1 Hk hlt hB hw0 hu0 hsz
  by_cases hle : N ≤ most
  · rw [if_pos hle]
    have hres : ∀ (e : Ending) (w' : World), Listed 3 lo B br w (lloop 3 N s1 []) e w' → Listed 3 lo B br w (lloop 3 N s1 []) e w' := fun _ _ h => h
    obtain ⟨R, hR⟩ : ∃ R, R = lloop 3 N s1 [] := ⟨_, rfl⟩
    rw [← hR]
    have HR := Lib.hid hR
    clear hR hres
    have hmn : decide (most < N) = false := decide_eq_false (by omega)
    go_enter Tryz.func23, Tryz.ntmps23
    go_wp2_with (go_at_call 18; refine HC.out.mono ?_; rintro e W1 ⟨rfl, hA1, hu1⟩)
    rw [← HW0.out] at hu1
    have HA1 := Lib.hid hA1; have HU1 := Lib.hid hu1
    clear hA1 hu1
    go_loopw [9, 18] (fun o i wr => ∃ (j : Nat) (A : Option Addr) (c : Nat), j ≤ N ∧ i = .int .u32 (j : Int) ∧ o = .slice A j c ∧ Hid (∃ acc sj, At lo B br wr sj ∧ wr.ownsRow w0.heap.size 45 3 (.slice A j c) j (acc.map u64) ∧ Big acc ∧ Upd (fun b => b = br) w0 wr ∧ lloop 3 (N - j) sj acc = R)) (fun o i _ => N - (intOf i).toNat)
    case atStart => exact ⟨0, none, 0, Nat.zero_le _, rfl, rfl, Lib.hid ⟨[], s1, HA1.out, World.ownsRow_nil _ _ _ _, fun x hx => (by cases hx), HU1.out, HR.out.symm⟩⟩
    case round =>
      obtain ⟨j, A, c, hj, rfl, rfl, hI⟩ := hrel
      by_cases hjN : j < N
      · obtain ⟨acc, sj, hAj, hown, hbig, huj, hlj⟩ := hI.out
        have hcb := HK.out wr _ huj (fun e => by have := HLT.out; have := HB.out; omega)
        have hce := hAj.e
        obtain ⟨n', hn'⟩ : ∃ n', N - j = n' + 1 := ⟨N - j - 1, by omega⟩
        rw [hn'] at hlj
        by_cases he : sj.2 = 0
        · have hwB : B ≤ wr.heap.size := by have := HB.out; have h2 := huj.size; have h3 := HSZ.out; omega
          have hcp := founder_c hAj hwB
          have hbs := items_big 3 sj hAj.small
          simp only [lloop, he, if_pos] at hlj
          simp only [items] at hlj hbs
          rw [he] at hce
          obtain ⟨x, hx⟩ : ∃ x, x = rV 8 sj := ⟨_, rfl⟩
          obtain ⟨y, hy⟩ : ∃ y, y = rV 8 (rU 8 sj) := ⟨_, rfl⟩
          obtain ⟨z, hz⟩ : ∃ z, z = rV 8 (rU 8 (rU 8 sj)) := ⟨_, rfl⟩
          rw [← hx, ← hy, ← hz] at hcp hlj hbs
          have Hrow : ∀ W3, Upd (fun b => b = br) wr W3 → (W3.alloc (.cells #[.int .u64 (x : Int), .int .u64 (y : Int), .int .u64 (z : Int)] 45)).ownsRow w0.heap.size 45 3 (.slice A j c) j (acc.map Gl.u64) := fun W3 hu => by
            refine ownsRow_alloc (w := W3) (ownsRow_keep hown (fun b hb hl => hu.block b hl (fun e => ?_))) _ rfl
            have h1 := (ownsRow_lt hown hb).2
            have h2 := HLT.out; have h3 := HB.out; have h4 := HSZ.out
            omega
          have Hsrc : ∀ W3 : World, Src (W3.alloc (.cells #[.int .u64 (x : Int), .int .u64 (y : Int), .int .u64 (z : Int)] 45)) (some ⟨W3.heap.size, 0, none⟩) 1 ([x, y, z].map Gl.u64) := fun W3 _ => ⟨_, _, rfl, fun i u hu => by
            refine cells_at (t := 45) (cs := #[.int .u64 (x : Int), .int .u64 (y : Int), .int .u64 (z : Int)]) (Ex.alloc_new W3 _) _ u ?_
            rw [Nat.zero_add]; simpa using hu⟩
          have Hsz : ∀ W3, Upd (fun b => b = br) wr W3 → w0.heap.size ≤ (W3.alloc (.cells #[.int .u64 (x : Int), .int .u64 (y : Int), .int .u64 (z : Int)] 45)).heap.size := fun W3 hu => by
            have h1 := huj.size; have h2 := hu.size
            show _ ≤ (W3.heap.push _).size
            simp; omega
          have Hrb : ∀ b, (Value.slice A j c).ownBlock = some b → w0.heap.size ≤ b := fun b hb => (ownsRow_lt hown hb).2
          have HLJ := Lib.hid hlj; have HBS := Lib.hid hbs; have HBG := Lib.hid hbig; have HROW := Lib.hid Hrow; have HSRC := Lib.hid Hsrc; have HSIZ := Lib.hid Hsz; have HUJ := Lib.hid huj; have HRB := Lib.hid Hrb; have HCE := Lib.hid hce; have HCP := Lib.hid hcp
          clear hlj hbs hbig Hrow Hsrc Hsz huj Hrb hce hcp hown hAj he hx hy hz hI
          go_wp2_with (first
            | (go_at_call 48; refine HCE.out.mono ?_; rintro e W2 ⟨rfl, rfl⟩)
            | (go_at_call 24; refine HCP.out.mono ?_; rintro e W3 ⟨rfl, hA3, hu3⟩; have HA3 := Lib.hid hA3; have HU3 := Lib.hid hu3; clear hA3 hu3)
            | (at_builtin
               refine wpList_append_src _ rfl _ _ _ rfl w0.heap.size 45 i0 _ 3 24 Tryz.underlying26 hi0 hz0 hz1 hz2 rfl (by omega) (.slice A j c) j (acc.map Gl.u64) rfl (HROW.out _ HU3.out) (some ⟨W3.heap.size, 0, none⟩) 1 1 ([x, y, z].map Gl.u64) rfl rfl (HSRC.out _) (oneCell_u64 _) (by simp only [maxLen]; omega) (by omega) (HSIZ.out _ HU3.out) ?_
               intro A5 c5 W5 hown5 hg5 hat5))
          obtain ⟨hA5, hu5⟩ := HA3.out.append (HUJ.out.trans HU3.out) hg5 HRB.out (by have := HSZ.out; have := HB.out; omega)
          have hrel2 : ∃ (j' : Nat) (A' : Option Addr) (c' : Nat), j' ≤ N ∧ Value.int .u32 ((j : Int) + 1) = .int .u32 (j' : Int) ∧ Value.slice A5 (j + 1) c5 = .slice A' j' c' ∧ Hid (∃ acc sj, At lo B br W5 sj ∧ W5.ownsRow w0.heap.size 45 3 (.slice A' j' c') j' (acc.map Gl.u64) ∧ Big acc ∧ Upd (fun b => b = br) w0 W5 ∧ lloop 3 (N - j') sj acc = R) := by
            refine ⟨j + 1, A5, c5, by omega, by congr 1, rfl, Lib.hid ⟨acc ++ [x, y, z], _, hA5, by rw [List.map_append]; exact hown5, fun v hv => ?_, hu5, ?_⟩⟩
            · rcases List.mem_append.1 hv with hv | hv
              · exact HBG.out v hv
              · exact HBS.out v hv
            · rw [show N - (j + 1) = n' by omega]
              exact HLJ.out
          first
            | exact ⟨hrel2, by simp [intOf]; omega⟩
            | exact ⟨⟨_, _, _, _, _, _, _, _, _, _, _, _, _, _, _, _, hrel2, rfl⟩, by simp [intOf]; omega⟩
            | exact ⟨⟨_, _, _, _, _, _, _, _, _, _, _, _, _, _, _, hrel2, rfl⟩, by simp [intOf]; omega⟩
            | exact ⟨⟨_, _, _, _, _, _, _, _, _, _, _, _, _, _, hrel2, rfl⟩, by simp [intOf]; omega⟩
            | exact ⟨⟨_, _, _, _, _, _, _, _, _, _, _, _, _, hrel2, rfl⟩, by simp [intOf]; omega⟩
            | exact ⟨⟨_, _, _, _, _, _, _, _, _, _, _, _, hrel2, rfl⟩, by simp [intOf]; omega⟩
            | exact ⟨⟨_, _, _, _, _, _, _, _, _, _, _, hrel2, rfl⟩, by simp [intOf]; omega⟩
            | exact ⟨⟨_, _, _, _, _, _, _, _, _, _, hrel2, rfl⟩, by simp [intOf]; omega⟩
            | exact ⟨⟨_, _, _, _, _, _, _, _, _, hrel2, rfl⟩, by simp [intOf]; omega⟩
            | exact ⟨⟨_, _, _, _, _, _, _, _, hrel2, rfl⟩, by simp [intOf]; omega⟩
            | exact ⟨⟨_, _, _, _, _, _, _, hrel2, rfl⟩, by simp [intOf]; omega⟩
            | exact ⟨⟨_, _, _, _, _, _, hrel2, rfl⟩, by simp [intOf]; omega⟩
            | exact ⟨⟨_, _, _, _, _, hrel2, rfl⟩, by simp [intOf]; omega⟩
            | exact ⟨⟨_, _, _, _, hrel2, rfl⟩, by simp [intOf]; omega⟩
        · have hneq : (((sj.2 : Nat) : Int) != 0) = true := by rw [bne_iff_ne]; omega
          obtain ⟨er, her⟩ : ∃ er, er = sj.2 := ⟨_, rfl⟩
          rw [← her] at hce hneq
          simp only [lloop, if_neg he] at hlj
          have HLJ := Lib.hid hlj; have HUJ := Lib.hid huj; have HAJ := Lib.hid hAj
          clear hlj huj hAj hown hbig he her hI
          go_wp2_with (go_at_call 48; refine hce.mono ?_; rintro e W2 ⟨rfl, rfl⟩)
          go_ret2
          unfold Listed
          rw [← HLJ.out]
          exact ⟨HAJ.out, HU0.out.trans HUJ.out, rfl⟩
      · obtain rfl : j = N := by omega
        obtain ⟨acc, sj, hAj, hown, hbig, huj, hlj⟩ := hI.out
        rw [Nat.sub_self] at hlj
        simp only [lloop] at hlj
        have HLJ := Lib.hid hlj; have HUJ := Lib.hid huj; have HAJ := Lib.hid hAj; have HOW := Lib.hid hown; have HBG := Lib.hid hbig
        clear hlj huj hAj hown hbig hI
        go_wp2
        go_ret2
        unfold Listed
        rw [← HLJ.out]
        refine ⟨HAJ.out, HU0.out.trans HUJ.out, A, j, c, rfl, Sl.of_own HOW.out, HBG.out, by omega, fun a ha => ?_⟩
        have := (ownsRow_lt HOW.out (c := a.block) (by rw [ha]; rfl)).2
        have := HSZ.out
        omega
  · rw [if_neg hle]
    have hgt : (most : Int) < (N : Int) := by omega
    go_enter Tryz.func23, Tryz.ntmps23
    go_wp2_with (go_at_call 18; refine HC.out.mono ?_; rintro e W1 ⟨rfl, hA1, hu1⟩; have HA1 := Lib.hid hA1; have HU1 := Lib.hid hu1; clear hA1 hu1)
    go_ret2
    have hu1 := HU1.out
    rw [← HW0.out] at hu1
    exact ⟨HA1.out, HU0.out.trans hu1, rfl⟩
end Go.Proofs.YtjfmbamiampjmaaGreat
