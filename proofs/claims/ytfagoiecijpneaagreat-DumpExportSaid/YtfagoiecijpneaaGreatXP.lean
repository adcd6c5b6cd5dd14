/- A verified executor for closed Go calls, part of it: its lemmas carry no condition. -/
import Derived.Test.YtfagoiecijpneaaGreatPC
import Derived.Test.YtfagoiecijpneaaGreatEX
import Derived.Test.YtfagoiecijpneaaGreatRF
import Derived.Test.YtfagoiecijpneaaGreatPA
import Derived.Test.YtfagoiecijpneaaGreatKMok
import Derived.Test.YtfagoiecijpneaaGreatKV
import Derived.Test.YtfagoiecijpneaaGreatEQ
set_option linter.unusedVariables false
set_option linter.unusedSimpArgs false
section
namespace Go.Proofs.YtfagoiecijpneaaGreat
open Go Go.RowKit Go.Proofs Gl Go.Shelf
attribute [local go_sem] Oper.semAt_some
theorem by_full {w : World} {b o n c : Nat} {bs : List Nat} (h : By w (some ⟨b, o, none⟩) n c bs) : By w (some ⟨b, o, none⟩) n n bs :=
  ⟨⟨h.sl.len, Nat.le_refl _, Nat.le_trans h.sl.le h.sl.max, h.sl.row, fun e => by cases e⟩, h.small⟩
theorem two_writes {ww n c : Nat} {A : Option Addr} {V1 V2 V3 V4 : World} (hu6 : Upd (fun b => b = ww ∨ (Value.slice none 0 0).ownBlock = some b) V1 V2) (hf6 : (Value.slice A n c).ownBlock = (Value.slice none 0 0).ownBlock ∨ ∃ g, (Value.slice A n c).ownBlock = some g ∧ V1.heap.size ≤ g) (hu7 : Upd (fun b => b = ww ∨ (Value.slice A n c).ownBlock = some b) V2 V3) (hn8 : New V3 V4) : Upd (fun b => b = ww) V1 V4 :=
  ((hu6.mono (fun b _ h => h.elim id (fun h => by cases h))).then hu7 (fun b hb h => h.elim id (fun h => by
    rcases hf6 with e | ⟨g, e, hg⟩
    · rw [e] at h; cases h
    · rw [e] at h; injection h with h; omega))).trans (hn8.mono (fun _ _ h => h.elim))
theorem wrap8 {n : Nat} (h : n ≤ 1000000000) : wrap64 (8 + (n : Int)) = 8 + (n : Int) := by unfold wrap64; omega
theorem far8 {n k : Nat} (h : k ≤ 1000000000) (e : k = n) (hq : 4194304 < wrap64 (8 + (n : Int))) : 4194304 < 8 + k := by subst e; rw [wrap8 h] at hq; omega
theorem near8 {n k : Nat} (h : k ≤ 1000000000) (e : k = n) (hq : wrap64 (8 + (n : Int)) ≤ 4194304) : 8 + k ≤ 4194304 := by subst e; rw [wrap8 h] at hq; omega
/-- Export at work -/
def ExpI (w : World) (wl ww cb bs : Nat) (Z : Nat) (pre : List Ent) (V : World) : Prop := ∃ A n c, Wr w.heap.size wl V A n c (dumpB pre) ∧ (∀ g, (Value.slice A n c).ownBlock = some g → Z ≤ g) ∧ V.heap[ww]? = some (.cells #[.slice none 0 0, .int .i64 0] 58 (0, 0)) ∧ V.heap[cb]? = some (.cells #[.int .u32 (pre.length : Int)] 59 (0, 0)) ∧ Upd (fun b => b = bs) w V
set_option maxHeartbeats 8000000 in
set_option maxRecDepth 100000 in
theorem export_c {base bm n c bs : Nat} {w : World} {D : Nat → Prop} {A : Option Addr} {vs : List Value} {ps : List (List Ent)} (hs : StoB w bs bm) (hm : MapIn 93 124 base w bm D A n c vs ps) (hfb : ¬ foot bm D A n c vs bs) (hlen : ps.flatten.length ≤ 1000000) (hsz : ∀ e ∈ ps.flatten, e.1.length ≤ 1073741824 ∧ e.2.length ≤ 1073741824) (hdl : (dumpB ps.flatten).length ≤ 1000000000) :
    Calls Tryz.prog 8 #[.pointer (some ⟨bs, 0, none⟩)] w fun e w' => Exported ps.flatten e w' ∧ StoB w' bs bm ∧ Upd (fun b => b = bs) w w' := by
  obtain ⟨css, hc⟩ := hm.named
  obtain ⟨WA, hWA⟩ : ∃ WA, WA = ((w.alloc (.cells #[.slice none 0 0, .int .i64 0] 58)).alloc (.cells #[.slice none 0 0, .int .i64 0] 58)).alloc (.cells #[.int .u32 0] 59) := ⟨_, rfl⟩
  have hal : New w WA := by rw [hWA]; exact ((Upd.alloc _ _ _).trans (Upd.alloc _ _ _)).trans (Upd.alloc _ _ _)
  have hWAs : WA.heap.size = w.heap.size + 3 := by rw [hWA]; show (((w.heap.push _).push _).push _).size = _; simp
  have hwl : WA.heap[w.heap.size]? = some (.cells #[.slice none 0 0, .int .i64 0] 58 (0, 0)) ∧ WA.heap[w.heap.size + 1]? = some (.cells #[.slice none 0 0, .int .i64 0] 58 (0, 0)) ∧ WA.heap[w.heap.size + 1 + 1]? = some (.cells #[.int .u32 0] 59 (0, 0)) := by
    obtain ⟨WB, hWB⟩ : ∃ WB, WB = w.alloc (.cells #[.slice none 0 0, .int .i64 0] 58) := ⟨_, rfl⟩
    obtain ⟨WC, hWC⟩ : ∃ WC, WC = WB.alloc (.cells #[.slice none 0 0, .int .i64 0] 58) := ⟨_, rfl⟩
    have hb : WB.heap.size = w.heap.size + 1 := by rw [hWB]; show (w.heap.push _).size = _; simp
    have hcs : WC.heap.size = WB.heap.size + 1 := by rw [hWC]; show (WB.heap.push _).size = _; simp
    have e1 : WB.heap[w.heap.size]? = some (.cells #[.slice none 0 0, .int .i64 0] 58 (0, 0)) := by rw [hWB]; exact Ex.alloc_new w _
    have e2 : WC.heap[w.heap.size + 1]? = some (.cells #[.slice none 0 0, .int .i64 0] 58 (0, 0)) := by rw [hWC, ← hb]; exact Ex.alloc_new WB _
    rw [hWA, ← hWB, ← hWC]
    refine ⟨(heap_alloc_lt _ (by omega)).trans (by rw [hWC]; exact (heap_alloc_lt _ (by omega)).trans e1), (heap_alloc_lt _ (by omega)).trans e2, ?_⟩
    rw [show w.heap.size + 1 + 1 = WC.heap.size by omega]
    exact Ex.alloc_new WC _
  have hsA : StoB WA bs bm := hs.upd hal id
  have hflW : ∀ b, foot bm D A n c vs b → b < w.heap.size := fun b hb => hm.toMapRaw.foot_lt hb
  have hbs := hs.lt
  have HC := Lib.hid hc; have HL := Lib.hid hlen; have HSZ := Lib.hid hsz; have HAL := Lib.hid hal; have HFL := Lib.hid hflW; have HWL := Lib.hid hwl; have HSA := Lib.hid hsA; have HFB := Lib.hid hfb; have HDL := Lib.hid hdl
  clear hc hm hlen hsz hal hflW hs hwl hfb hdl
  refine (callsIn_wide (n := 0)).1 ?_
  refine callsIn_of_wp_marks Tryz.func8 rfl trivial ?_ rfl
  simp only [Tryz.ntmps8, List.size_toArray, List.length_cons, List.length_nil, Nat.reduceAdd, Nat.reduceSub, Array.replicate_succ, Array.replicate_zero, List.push_toArray, List.append_toArray, List.nil_append, List.cons_append]
  gi_wp2_with (refine ⟨trivial, rfl, ?_⟩; gi_at_call 18; rw [← hWA]; refine (callsIn_wide.2 (kwalk_c HSA.out)).mono ?_; rintro e w1 ⟨p1, p2, b1, b2, b3, rfl, hn1, h2⟩; have H1 := Lib.hid (And.intro hn1 h2); clear hn1 h2)
  have hn1 : New WA w1 := H1.out.1
  obtain ⟨hb5, hx1, hx2, hx3, hx4, hx5⟩ := H1.out.2
  have hnW : New w w1 := HAL.out.trans hn1
  have l1 : b1 < w1.heap.size := World.block_lt_of_cell? w1 ⟨b1, 0, none⟩ hx3
  have l2 : b2 < w1.heap.size := World.block_lt_of_cell? w1 ⟨b2, 0, none⟩ hx4
  have l3 : b3 < w1.heap.size := World.block_lt_of_cell? w1 ⟨b3, 0, none⟩ hx5
  have l4 : p1 < w1.heap.size := World.block_lt_of_cell? w1 ⟨p1, 0, none⟩ hx1
  have l5 : p2 < w1.heap.size := World.block_lt_of_cell? w1 ⟨p2, 0, none⟩ hx2
  rw [hWAs] at hb5
  have hK1 : Cnt base bm n c b1 b2 b3 bs p1 p2 D A vs ps css w1 := ⟨⟨HC.out.upd hnW (fun _ _ => id), hx3, hx4, hx5⟩, hx1, hx2, HSA.out.upd hn1 id⟩
  have hblk : w1.heap[w.heap.size]? = some (.cells #[.slice none 0 0, .int .i64 0] 58 (0, 0)) ∧ w1.heap[w.heap.size + 1]? = some (.cells #[.slice none 0 0, .int .i64 0] 58 (0, 0)) ∧ w1.heap[w.heap.size + 1 + 1]? = some (.cells #[.int .u32 0] 59 (0, 0)) :=
    ⟨(hn1.block _ (by omega) id).trans HWL.out.1, (hn1.block _ (by omega) id).trans HWL.out.2.1, (hn1.block _ (by omega) id).trans HWL.out.2.2⟩
  have hsz1 := hn1.size
  rw [hWAs] at hsz1
  have hneS : bs ≠ b1 ∧ bs ≠ b2 ∧ bs ≠ b3 ∧ bs ≠ p1 ∧ bs ≠ p2 := ⟨by omega, by omega, by omega, by omega, by omega⟩
  have HK1 := Lib.hid hK1; have HNW := Lib.hid hnW; have HBLK := Lib.hid hblk; have HNE := Lib.hid hneS
  clear hn1 hx1 hx2 hx3 hx4 hx5 hnW hblk hK1 H1 HSA HC HWL
  refine range_out (gf := 74) (lb := #[.pointer (some ⟨p1, 0, none⟩), .pointer (some ⟨p2, 0, none⟩)]) rfl (fun args w => enters_of' 74 Tryz.func74 (by kernel_rfl) (by kernel_rfl) args w)
    (counted1_gives (base := base) (bm := bm) (n := n) (c := c) (D := D) (A := A) (vs := vs) (ps := ps) (css := css) HL.out HSZ.out w1 HK1.out HFB.out HNE.out) (fun x _ _ vals he => by obtain ⟨_, _, _, _, _, _, e, _⟩ := he; rw [e]; rfl) (fun b h => by omega)
    (fun P Q hk hu => hk.upd hu (fun b hb => by have := HFL.out b hb; omega) (by omega) (by omega) (by omega) (by omega) (by omega) (hk.sto.upd hu (by omega))) HK1.out
    (fun x W0 P Q vals hz he hu => hu.elim (fun hu => he.upd hu (fun _ _ => id)) (fun hu => he.upd hu (fun b hb => by omega)))
    (fun Z (pre : List Ent) V => ExpI w w.heap.size (w.heap.size + 1) (w.heap.size + 1 + 1) bs Z pre V) (fun _ _ _ _ => False)
    (fun Z hZ s P Q hs hu => by
      obtain ⟨A, n, c, g1, g2, g3, g4, g5⟩ := hs
      have hnp : ∀ b, (b < w1.heap.size ∨ Z ≤ b) → b ≠ bs → ¬ Priv (fun b => b = bs) w1.heap.size Z b := fun b hb hn h => h.elim hn (fun h => by omega)
      obtain ⟨t, ht⟩ := g1.blk
      exact ⟨A, n, c, ⟨⟨t, (hu.block _ (Array.getElem?_eq_some_iff.1 ht).1 (hnp _ (.inl (by omega)) (by omega))).trans ht⟩, ownsRow_keep g1.own (fun b hb hl => hu.block b hl (hnp b (.inr (g2 b hb)) (by have := g2 b hb; omega))), g1.ne, g1.small, g1.hb⟩, g2, (hu.block _ (Array.getElem?_eq_some_iff.1 g3).1 (hnp _ (.inl (by omega)) (by omega))).trans g3, (hu.block _ (Array.getElem?_eq_some_iff.1 g4).1 (hnp _ (.inl (by omega)) (by omega))).trans g4, g5.then hu (fun b hb h => h.elim id (fun h => by omega))⟩)
    (fun Z cd hZ s P Q hs hu => hs)
    (fun Z hZ => ⟨none, 0, 0, ⟨⟨58, HBLK.out.1⟩, World.ownsRow_nil _ _ _ _, (fun a h => by cases h), (fun b h => by cases h), Nat.le_refl _⟩, (fun g hg => by cases hg), HBLK.out.2.1, HBLK.out.2.2, HNW.out.mono (fun _ _ h => h.elim)⟩)
    (fun W0 vals a' V => ∃ k1 n1 e1 k2 n2 e2, vals = #[.slice k1 n1 e1, .slice k2 n2 e2] ∧ a' = { tmps := #[.pointer (some ⟨bs, 0, none⟩), undef, .slice none 0 0, .int .i64 0, .pointer (some ⟨w.heap.size, 0, none⟩), .pointer (some ⟨w.heap.size + 1, 0, none⟩), .pointer (some ⟨w.heap.size + 1 + 1, 0, none⟩), .slice k1 n1 e1, .slice k2 n2 e2, undef, undef, undef, undef, .pointer (some ⟨bs, 0, none⟩), .func (.func 74) #[] #[.pointer (some ⟨p1, 0, none⟩), .pointer (some ⟨p2, 0, none⟩)], .slice k1 n1 e1, .slice k2 n2 e2, undef, undef, undef, undef, undef, undef, undef, undef, undef, undef, undef, undef, undef, undef, undef, undef, undef, undef, undef, undef, undef, undef, undef, undef, undef, undef, undef, undef, undef, undef, undef], defers := [] })
    (fun W0 vals a' P Q hs hu => hs)
    ?assign ?body ?done ?stop
  case assign =>
    rintro l2 x W0 V vals K ⟨pre, post, hx⟩ hz hz0 ⟨A1, n1, e1, A2, n2, e2, rfl, g1, g2⟩ hk hK'
    gi_wp2
    exact hK' _ _ (Upd.refl _ _) ⟨A1, n1, e1, A2, n2, e2, rfl, rfl⟩
  case body =>
    rintro Z pre x W0 V vals a' ⟨post, hx⟩ hZ1 hZ2 ⟨A3, n3, c3, g1, g2, g3, g4, g5⟩ hu0 hcp ⟨k1, n1, e1, k2, n2, e2, rfl, rfl⟩ hk
    obtain ⟨A1, m1, f1, A2, m2, f2, hvals, hcp1, hcp2⟩ := hcp
    simp only [List.cons.injEq, and_true, Array.mk.injEq, Value.slice.injEq] at hvals
    obtain ⟨⟨rfl, rfl, rfl⟩, rfl, rfl, rfl⟩ := hvals
    have hnp : ∀ b, (b < w1.heap.size ∨ Z ≤ b) → b ≠ bs → ¬ Priv (fun b => b = bs) w1.heap.size Z b := fun b hb hn h => h.elim hn (fun h => by omega)
    obtain ⟨t, ht⟩ := g1.blk
    have hv1 : Wr w.heap.size w.heap.size V A3 n3 c3 (dumpB pre) := ⟨⟨t, (hu0.block _ (Array.getElem?_eq_some_iff.1 ht).1 (hnp _ (.inl (by omega)) (by omega))).trans ht⟩, ownsRow_keep g1.own (fun b hb hl => hu0.block b hl (hnp b (.inr (g2 b hb)) (by have := g2 b hb; omega))), g1.ne, g1.small, g1.hb⟩
    have hv4 := (hu0.block _ (Array.getElem?_eq_some_iff.1 g4).1 (hnp _ (.inl (by omega)) (by omega))).trans g4
    have hv3 := (hu0.block _ (Array.getElem?_eq_some_iff.1 g3).1 (hnp _ (.inl (by omega)) (by omega))).trans g3
    have how : ∀ g, (Value.slice A3 n3 c3).ownBlock = some g → g < W0.heap.size := fun g hg => (ownsRow_lt g1.own hg).1
    have hVs := hu0.size
    have hwV : w.heap.size ≤ V.heap.size := by omega
    have hpl : pre.length + 1 ≤ 1000000 := by have h1 := HL.out; rw [hx] at h1; simp at h1; omega
    obtain ⟨_, _, _, ek, hbk, hdk⟩ := hcp1
    cases ek
    obtain ⟨_, _, _, ev, hbv, hdv⟩ := hcp2
    cases ev
    have htot : n3 + 4 + n1 + 4 + n2 ≤ 1000000000 := by
      have h1 := HDL.out
      rw [hx, show pre ++ x :: post = (pre ++ [x]) ++ post by simp, dumpB_append, dumpB_snoc] at h1
      simp only [List.length_append, rawB, be_length, hbk.len, hbv.len, hv1.len] at h1
      omega
    have hcA := wraw hv1 hbk (fun a ha h0 => ⟨by have := hdk a ha h0; omega, fun e => by have := hdk a ha h0; have := how _ e; omega⟩) (by omega) hwV
    have hcB : ∀ (V2 : World) A4 c4, Wr w.heap.size w.heap.size V2 A4 (n3 + 4 + n1) c4 (dumpB pre ++ rawB x.1) → Upd (fun b => b = w.heap.size ∨ (Value.slice A3 n3 c3).ownBlock = some b) V V2 → ((Value.slice A4 (n3 + 4 + n1) c4).ownBlock = (Value.slice A3 n3 c3).ownBlock ∨ ∃ g, (Value.slice A4 (n3 + 4 + n1) c4).ownBlock = some g ∧ V.heap.size ≤ g) →
        Calls Tryz.prog 19 #[.pointer (some ⟨w.heap.size, 0, none⟩), .slice k2 n2 e2] V2 _ := fun V2 A4 c4 hw2 hu2 hf2 => by
      have hlt : ∀ a, k2 = some a → 0 < n2 → W0.heap.size ≤ a.block ∧ a.block < V.heap.size := fun a ha h0 => ⟨hdv a ha h0, hbv.sl.lt ha h0⟩
      refine wraw hw2 (hbv.upd hu2 (fun a ha h0 h => ?_)) (fun a ha h0 => ⟨by have := hlt a ha h0; omega, fun e => ?_⟩) (by omega) (by have := hu2.size; omega)
      · have := hlt a ha h0
        rcases h with h | h
        · omega
        · have := how _ h; omega
      · have := hlt a ha h0
        rcases hf2 with e2 | ⟨g, e2, hg⟩
        · rw [e2] at e; have := how _ e; omega
        · rw [e2] at e; injection e with e; omega
    have HCA := Lib.hid hcA; have HCB := Lib.hid hcB; have HV3 := Lib.hid hv3; have HV4 := Lib.hid hv4; have HOW := Lib.hid how; have HG2 := Lib.hid g2; have HG5 := Lib.hid g5; have HU0 := Lib.hid hu0; have HKW := Lib.hid hk
    clear hcA hcB hv1 hv3 hv4 how g1 g2 g3 g4 g5 ht hu0 hk hbk hdk hbv hdv hx
    gi_wp2_with (first
      | (refine ⟨trivial, rfl, ?_⟩; gi_at_call 19; refine (CallsIn.inRound _ (callsIn_wide.2 HCA.out)).mono ?_; rintro e V2 ⟨rfl, A4, c4, hw2, hu2, hf2⟩; have HB2 := Lib.hid (HCB.out V2 A4 c4 hw2 hu2 hf2); have H2 := Lib.hid (And.intro hu2 hf2); clear HCA hw2 hu2 hf2)
      | (refine ⟨trivial, rfl, ?_⟩; gi_at_call 19; refine (CallsIn.inRound _ (callsIn_wide.2 HB2.out)).mono ?_; rintro e V3 ⟨rfl, A5, c5, hw3, hu3, hf3⟩; have huV := H2.out.1.then hu3 (fun b hb h => h.elim .inl (fun h => H2.out.2.elim (fun e => .inr (e ▸ h)) (fun ⟨g, e, hg⟩ => by rw [e] at h; injection h with h; omega))); have hcb3 : V3.heap[w.heap.size + 1 + 1]? = some (.cells #[.int .u32 (pre.length : Int)] 59 (0, 0)) := (huV.block _ (by omega) (fun h => h.elim (fun h => by omega) (fun h => by have := HG2.out _ h; omega))).trans HV4.out; have hcc := cell_of hcb3 0 _ rfl; have hcf := frozen_of hcb3 0; have H3 := Lib.hid (And.intro hw3 (And.intro huV (And.intro hf3 hcb3))); clear HB2 hw3 hu3 hf3 hcb3 huV))
    obtain ⟨hw3, huV, hf3, hcb3⟩ := H3.out
    obtain ⟨hu2, hf2⟩ := H2.out
    obtain ⟨W', hW'⟩ : ∃ W', W' = V3.setCell ⟨w.heap.size + 1 + 1, 0, none⟩ (.int .u32 ((pre.length : Int) + 1)) := ⟨_, rfl⟩
    have huW : Upd (fun b => b = w.heap.size ∨ (Value.slice A3 n3 c3).ownBlock = some b ∨ b = w.heap.size + 1 + 1) V W' := by
      rw [hW']; exact (huV.mono (fun b _ h => h.elim .inl (fun h => .inr (.inl h)))).trans (Upd.setCell V3 _ (.inr (.inr rfl)))
    have hu3W : Upd (fun b => b = w.heap.size + 1 + 1) V3 W' := by rw [hW']; exact Upd.setCell V3 _ rfl
    have hown5 : ∀ g, (Value.slice A5 (n3 + 4 + n1 + 4 + n2) c5).ownBlock = some g → (Value.slice A3 n3 c3).ownBlock = some g ∨ V.heap.size ≤ g := fun g hg => by
      rcases hf3 with e | ⟨g', e, hg'⟩
      · rw [e] at hg
        rcases hf2 with e | ⟨g', e, hg'⟩
        · exact .inl (e ▸ hg)
        · rw [e] at hg; injection hg with hg; exact .inr (by omega)
      · rw [e] at hg; injection hg with hg; have := hu2.size; exact .inr (by omega)
    have hno : ∀ b, b ≠ w.heap.size → b ≠ w.heap.size + 1 + 1 → (b < Z ∨ W0.heap.size ≤ b) → ¬ (b = w.heap.size ∨ (Value.slice A3 n3 c3).ownBlock = some b ∨ b = w.heap.size + 1 + 1) := fun b h1 h2 h3 h => by
      rcases h with h | h | h
      · exact h1 h
      · have h4 := HG2.out _ h; have h5 := HOW.out _ h; omega
      · exact h2 h
    have hbw : ∀ b, b < w.heap.size → ¬ (b = w.heap.size ∨ (Value.slice A3 n3 c3).ownBlock = some b ∨ b = w.heap.size + 1 + 1) := fun b hb => hno b (by omega) (by omega) (.inl (by omega))
    rw [← hW']
    refine ⟨⟨huW.block _ (by omega) (hno _ (by omega) (by omega) (.inl (by omega))), huW.block _ (by omega) (hno _ (by omega) (by omega) (.inl (by omega))), huW.size, fun k hk => huW.block k (by omega) (hno _ (by omega) (by omega) (by omega))⟩, HKW.out.upd huW (fun b hb => hbw b (HFL.out b hb)) (hno _ (by omega) (by omega) (.inl (by omega))) (hno _ (by omega) (by omega) (.inl (by omega))) (hno _ (by omega) (by omega) (.inl (by omega))) (hno _ (by omega) (by omega) (.inl (by omega))) (hno _ (by omega) (by omega) (.inl (by omega))) (HKW.out.sto.upd huW (hbw _ (by omega))), A5, n3 + 4 + n1 + 4 + n2, c5, ?_, ?_, ?_, ?_, ?_⟩
    · rw [dumpB_snoc]
      obtain ⟨t3, ht3⟩ := hw3.blk
      exact ⟨⟨t3, (hu3W.block _ (Array.getElem?_eq_some_iff.1 ht3).1 (by omega)).trans ht3⟩, ownsRow_keep hw3.own (fun b hb hl => hu3W.block b hl (fun e => by
        rcases hown5 b hb with h | h
        · have := HG2.out _ h; omega
        · omega)), hw3.ne, hw3.small, hw3.hb⟩
    · intro g hg
      rcases hown5 g hg with h | h
      · exact HG2.out _ h
      · omega
    · exact (huW.block _ (by omega) (hno _ (by omega) (by omega) (.inl (by omega)))).trans HV3.out
    · rw [hW', List.length_append]
      have := setCell_at hcb3 (.int .u32 ((pre.length : Int) + 1)) (i := 0)
      simpa using this
    · refine (HG5.out.then HU0.out (fun b hb h => h.elim id (fun h => by have := HG5.out.size; omega))).then huW (fun b hb h => ?_)
      exact (hbw b hb h).elim
  case done =>
    rintro Z V hZ1 hZ2 ⟨A3, n3, c3, g1, g2, g3, g4, g5⟩ hd hkd
    obtain ⟨L, hLL⟩ : ∃ L, L = ps.flatten := ⟨_, rfl⟩
    have HDL2 : Hid ((dumpB L).length ≤ 1000000000) := by rw [hLL]; exact HDL
    have HL2 : Hid (L.length ≤ 1000000) := by rw [hLL]; exact HL
    rw [← hLL] at g1 g4
    have hn3 := g1.len
    have h20 := wOut g1 (by rw [← hn3]; have := HDL2.out; omega)
    have hpure : ∀ V1, New V V1 → Wr w.heap.size (w.heap.size + 1) V1 none 0 0 [] ∧ V1.heap[w.heap.size + 1 + 1]? = some (.cells #[.int .u32 (L.length : Int)] 59 (0, 0)) := fun V1 hn =>
      ⟨⟨⟨58, (hn.block _ (Array.getElem?_eq_some_iff.1 g3).1 id).trans g3⟩, World.ownsRow_nil _ _ _ _, (fun a h => by cases h), (fun b h => by cases h), by omega⟩, (hn.block _ (Array.getElem?_eq_some_iff.1 g4).1 id).trans g4⟩
    have H20 := Lib.hid h20; have HP := Lib.hid hpure; have HKD := Lib.hid hkd; have HG5 := Lib.hid g5; have HN3 := Lib.hid hn3; have HD := Lib.hid hd
    have hnl := HL2.out
    obtain ⟨N, hN⟩ : ∃ N, N = L.length := ⟨_, rfl⟩
    have HN := Lib.hid hN
    rw [← hN] at hnl
    have hVs : w1.heap.size + 2 ≤ V.heap.size := by omega
    have HLL := Lib.hid hLL
    clear h20 hpure hkd g1 g2 g3 g4 g5 hn3 hd hLL hN
    obtain ⟨i0, hi0, hz0, hz1, hz2⟩ := info_parts info5
    gi_wp2_with (first
      | (refine ⟨trivial, rfl, ?_⟩; gi_at_call 20; refine (callsIn_wide.2 H20.out).mono ?_; rintro e V1 ⟨A5, c5, rfl, hby1, hn1, hf5, _⟩; have HB1 := Lib.hid (And.intro hby1 hn1); have HF5 := Lib.hid hf5; have H21 := Lib.hid (wU32 (HP.out V1 hn1).1 1196183108 (by omega) (by omega) (by have := hn1.size; omega)); clear H20 hby1 hn1 hf5)
      | (refine ⟨trivial, rfl, ?_⟩; gi_at_call 21; refine (callsIn_wide.2 H21.out).mono ?_; rintro e V2 ⟨rfl, A6, c6, hw6, hu6, hf6⟩; have hcb2 : V2.heap[w.heap.size + 1 + 1]? = some (.cells #[.int .u32 (N : Int)] 59 (0, 0)) := (hu6.block _ (Array.getElem?_eq_some_iff.1 (HP.out V1 HB1.out.2).2).1 (fun h => h.elim (fun h => by omega) (fun h => by cases h))).trans (by rw [HN.out]; exact (HP.out V1 HB1.out.2).2); have hcc := cell_of hcb2 0 _ rfl; have H21b := Lib.hid (wU32 hw6 N (by omega) (by omega) (by have := hu6.size; have := HB1.out.2.size; omega)); have H2 := Lib.hid (And.intro hw6 (And.intro hu6 hf6)); clear H21 hw6 hu6 hf6 hcb2)
      | (refine ⟨trivial, rfl, ?_⟩; gi_at_call 21; refine (callsIn_wide.2 H21b.out).mono ?_; rintro e V3 ⟨rfl, A7, c7, hw7, hu7, hf7⟩; have H20b := Lib.hid (wOut hw7 (by omega)); have H3 := Lib.hid (And.intro hw7 hu7); clear H21b hw7 hu7)
      | (refine ⟨trivial, rfl, ?_⟩; gi_at_call 20; refine (callsIn_wide.2 H20b.out).mono ?_; rintro e V4 ⟨A8, c8, rfl, hby8, hn8, hf8, _⟩; obtain ⟨b8, o8, rfl, _⟩ := hby8.addr (by omega); have hle8 := hby8.sl.le; have hle9 : (8 : Int) ≤ (c8 : Int) := (by omega); have H4 := Lib.hid (And.intro hby8 hn8); have HF8 := Lib.hid (by_full hby8); have HU14 := Lib.hid (two_writes H2.out.2.1 H2.out.2.2 H3.out.2 hn8); have HA5 := Lib.hid (HB1.out.1.upd HU14.out (fun a ha h0 e => by have := HF5.out a ha; omega)); clear H20b hby8 hn8)
      | (gi_at_builtin; refine wpListIn_append_full _ rfl _ _ _ rfl 5 i0 _ Tryz.underlying28 hi0 hz0 hz1 hz2 rfl b8 o8 8 ([] ++ be 4 1196183108 ++ be 4 N) (by omega) rfl HF8.out _ _ _ (dumpB L) rfl HA5.out (by have := HN3.out; have := HDL2.out; omega) ?_; intro A9 c9 w9 hby9 hn9; have H9 := Lib.hid (And.intro hby9 hn9); clear hby9 hn9))
    all_goals
      obtain ⟨hby1, hn1⟩ := HB1.out
      have huV : Upd (fun b => b = w.heap.size + 1) V V4 := (hn1.mono (fun _ _ h => h.elim)).trans HU14.out
      have hd4 := (huV.block _ (by omega) (by omega)).trans HD.out
      have huw : Upd (fun b => b = bs) w V4 := HG5.out.then huV (fun b hb h => by omega)
      have hst : StoB V4 bs bm := HKD.out.sto.upd huV (by omega)
    · refine ⟨by simp, .inl ⟨_, _, rfl, run_takeDeferred hd4, ?_⟩⟩
      have hp : Upd (fun b => b = w1.heap.size) V4 (V4.putObj w1.heap.size (.deferred none)) := Upd.putObj V4 _ rfl
      refine ⟨_, results_tmp2 rfl _ _ _, .inr ⟨?_, rfl⟩, hst.upd hp (by omega), huw.then hp (fun b hb e => by have e : b = w1.heap.size := e; omega)⟩
      rw [← HLL.out]; exact far8 HDL2.out HN3.out (by assumption)
    · have hu9 : Upd (fun b => b = w.heap.size + 1) V w9 := huV.trans (H9.out.2.mono (fun _ _ h => h.elim))
      have hd9 := (hu9.block _ (by omega) (by omega)).trans HD.out
      refine ⟨by simp, .inl ⟨_, _, rfl, run_takeDeferred hd9, ?_⟩⟩
      have hp : Upd (fun b => b = w1.heap.size) w9 (w9.putObj w1.heap.size (.deferred none)) := Upd.putObj w9 _ rfl
      have hst9 : StoB w9 bs bm := hst.upd H9.out.2 id
      refine ⟨_, results_tmp2 rfl _ _ _, .inl ⟨?_, A9, 8 + n3, c9, rfl, ?_⟩, hst9.upd hp (by omega), (huw.trans (H9.out.2.mono (fun _ _ h => h.elim))).then hp (fun b hb e => by have e : b = w1.heap.size := e; omega)⟩
      · rw [← HLL.out]; exact near8 HDL2.out HN3.out (by assumption)
      · rw [← HLL.out, ← HN.out]
        refine H9.out.1.upd hp (fun a ha h0 e => ?_)
        obtain ⟨b9, o9, e9, _⟩ := H9.out.1.addr h0
        obtain rfl : a = ⟨b9, o9, none⟩ := by rw [ha] at e9; exact Option.some.inj e9
        have hc := H9.out.1.cell ha 0 (by have := H9.out.1.len; omega)
        have e : b9 = w1.heap.size := e
        rw [show (⟨b9, o9 + 0, none⟩ : Addr) = ⟨w1.heap.size, o9 + 0, none⟩ by rw [e]] at hc
        simp [World.cell?, hd9] at hc
  case stop =>
    rintro Z cd pre x post V hZ1 hZ2 hx h hd
    exact h.elim
end Go.Proofs.YtfagoiecijpneaaGreat
end
section
namespace Go.Proofs.YtfagoiecijpneaaGreat
open Go Go.RowKit Go.Proofs Gl Go.Shelf
attribute [local go_sem] Oper.semAt_some
theorem info42 : (Tryz.prog.info? 42).map (fun i => (i.zero, i.size, i.bytes)) = some (some (.agg #[.slice none 0 0, .slice none 0 0]), 2, 48) := by kernel_rfl
/-- entries in a row of one's own, in memory that is new -/
def Dumped (w0 : World) (L : List Ent) (e : Ending) (w' : World) : Prop := ∃ A n c cells, e = .returned (.slice A n c) ∧ n = L.length ∧ Sl 2 w' A n c cells ∧ EntsAt (fun b => w0.heap.size ≤ b) w' cells L ∧ New w0 w' ∧ (∀ a, A = some a → w0.heap.size ≤ a.block)
/-- Dump at work -/
def DumpI (w : World) (ob : Nat) (Z : Nat) (pre : List Ent) (V : World) : Prop := ∃ v cells, V.heap[ob]? = some (.cells #[v] 22 (0, 0)) ∧ V.ownsRow w.heap.size 42 2 v pre.length cells ∧ EntsAt (fun b => Z ≤ b ∧ v.ownBlock ≠ some b) V cells pre ∧ (∀ g, v.ownBlock = some g → Z ≤ g) ∧ New w V ∧ ob < Z
set_option maxHeartbeats 8000000 in
set_option maxRecDepth 100000 in
theorem dump_c {base bm n c bs : Nat} {w : World} {D : Nat → Prop} {A : Option Addr} {vs : List Value} {ps : List (List Ent)} (hs : StoB w bs bm) (hm : MapIn 93 124 base w bm D A n c vs ps) (hlen : ps.flatten.length ≤ 1000000) (hsz : ∀ e ∈ ps.flatten, e.1.length ≤ 1073741824 ∧ e.2.length ≤ 1073741824) :
    Calls Tryz.prog 7 #[.pointer (some ⟨bs, 0, none⟩)] w (Dumped w ps.flatten) := by
  obtain ⟨css, hc⟩ := hm.named
  obtain ⟨k, hk⟩ := hs
  obtain ⟨WA, hWA⟩ : ∃ WA, WA = w.alloc (.cells #[.slice none 0 0] 22) := ⟨_, rfl⟩
  have hal : New w WA := by rw [hWA]; exact Upd.alloc _ _ _
  have hWAs : WA.heap.size = w.heap.size + 1 := by rw [hWA]; show (w.heap.push _).size = _; simp
  have hob : WA.heap[w.heap.size]? = some (.cells #[.slice none 0 0] 22 (0, 0)) := by rw [hWA]; exact Ex.alloc_new w _
  have hc0 := cell_of ((hal.block bs (Array.getElem?_eq_some_iff.1 hk).1 id).trans hk) 0 (.pointer (some ⟨bm, 0, none⟩)) rfl
  have hflW : ∀ b, foot bm D A n c vs b → b < w.heap.size := fun b hb => hm.toMapRaw.foot_lt hb
  have HC := Lib.hid hc; have HL := Lib.hid hlen; have HSZ := Lib.hid hsz; have HAL := Lib.hid hal; have HFL := Lib.hid hflW; have HOB := Lib.hid hob
  clear hc hm hlen hsz hal hflW hk hob
  refine (callsIn_wide (n := 0)).1 ?_
  refine callsIn_of_wp_marks Tryz.func7 rfl trivial ?_ rfl
  simp only [Tryz.ntmps7, List.size_toArray, List.length_cons, List.length_nil, Nat.reduceAdd, Nat.reduceSub, Array.replicate_succ, Array.replicate_zero, List.push_toArray, List.append_toArray, List.nil_append, List.cons_append]
  rw [hWA] at hc0
  gi_wp2_with (refine ⟨trivial, rfl, ?_⟩; gi_at_call 17; refine (callsIn_wide.2 walk_c).mono ?_; rintro e w1 ⟨b1, b2, b3, rfl, hn1, hb, h1, h2, h3⟩; have H1 := Lib.hid (And.intro hn1 (And.intro hb (And.intro h1 (And.intro h2 h3)))); clear hn1 hb h1 h2 h3)
  have hn1 : New WA w1 := by rw [hWA]; exact H1.out.1
  have hb123 : w.heap.size + 1 ≤ b1 ∧ w.heap.size + 1 ≤ b2 ∧ w.heap.size + 1 ≤ b3 := by rw [← hWAs, hWA]; exact H1.out.2.1
  have hnW : New w w1 := HAL.out.trans hn1
  have l1 : b1 < w1.heap.size := World.block_lt_of_cell? w1 ⟨b1, 0, none⟩ H1.out.2.2.1
  have l2 : b2 < w1.heap.size := World.block_lt_of_cell? w1 ⟨b2, 0, none⟩ H1.out.2.2.2.1
  have l3 : b3 < w1.heap.size := World.block_lt_of_cell? w1 ⟨b3, 0, none⟩ H1.out.2.2.2.2
  have hw1 : Wlk base bm n c b1 b2 b3 D A vs ps css w1 := ⟨HC.out.upd hnW (fun _ _ => id), H1.out.2.2.1, H1.out.2.2.2.1, H1.out.2.2.2.2⟩
  have hob1 : w1.heap[w.heap.size]? = some (.cells #[.slice none 0 0] 22 (0, 0)) := (hn1.block _ (by omega) id).trans HOB.out
  have hsz1 := hn1.size
  have HW1 := Lib.hid hw1; have HNW := Lib.hid hnW; have HOB1 := Lib.hid hob1
  clear hn1 hw1 hnW hob1
  refine range_out (gf := 34) (lb := #[.pointer (some ⟨b1, 0, none⟩), .pointer (some ⟨b2, 0, none⟩), .pointer (some ⟨b3, 0, none⟩)]) rfl (fun args w => enters_of' 34 Tryz.func34 (by kernel_rfl) (by kernel_rfl) args w)
    (walk1_gives (base := base) (bm := bm) (n := n) (c := c) (D := D) (A := A) (vs := vs) (ps := ps) (css := css) HL.out HSZ.out w1 HW1.out) (fun x _ _ vals he => by obtain ⟨_, _, _, _, _, _, e, _⟩ := he; rw [e]; rfl) (fun b h => h.elim)
    (fun P Q hk hu => hk.upd hu (fun b hb => by have := HFL.out b hb; omega) (by omega) (by omega) (by omega)) HW1.out
    (fun x W0 P Q vals hz he hu => hu.elim (fun hu => he.upd hu (fun _ _ => id)) (fun hu => he.upd hu (fun b hb => by omega)))
    (fun Z (pre : List Ent) V => DumpI w w.heap.size Z pre V) (fun _ _ _ _ => False)
    (fun Z hZ s P Q hs hu => by
      obtain ⟨v, cells, g1, g2, g3, g4, g5, g6⟩ := hs
      have hnp : ∀ b, Z ≤ b → ¬ Priv (fun _ => False) w1.heap.size Z b := fun b hb h => h.elim id (fun h => by omega)
      exact ⟨v, cells, (hu.block _ (Array.getElem?_eq_some_iff.1 g1).1 (fun h => h.elim id (fun h => by omega))).trans g1, ownsRow_keep g2 (fun b hb hl => hu.block b hl (hnp b (g4 b hb))), g3.imp (fun _ _ hb => hb.upd hu (fun b hb => hnp b hb.1)), g4, g5.then hu (fun b hb h => h.elim id (fun h => by omega)), g6⟩)
    (fun Z cd hZ s P Q hs hu => hs)
    (fun Z hZ => ⟨.slice none 0 0, [], HOB1.out, World.ownsRow_nil _ _ _ _, trivial, (fun g hg => by cases hg), HNW.out, by omega⟩)
    (fun W0 vals a' V => ∃ k1 n1 e1 k2 n2 e2, vals = #[.slice k1 n1 e1, .slice k2 n2 e2] ∧ a' = { tmps := #[.pointer (some ⟨bs, 0, none⟩), undef, .slice none 0 0, .pointer (some ⟨w.heap.size, 0, none⟩), .slice k1 n1 e1, .slice k2 n2 e2, .pointer (some ⟨bs, 0, none⟩), .pointer (some ⟨bs, 0, none⟩), .pointer (some ⟨bs, 0, none⟩), .pointer (some ⟨bm, 0, none⟩), .func (.func 34) #[] #[.pointer (some ⟨b1, 0, none⟩), .pointer (some ⟨b2, 0, none⟩), .pointer (some ⟨b3, 0, none⟩)], .slice k1 n1 e1, .slice k2 n2 e2, undef, undef, undef, undef, undef, undef, undef], defers := [] })
    (fun W0 vals a' P Q hs hu => hs)
    ?assign ?body ?done ?stop
  case assign =>
    rintro l2 x W0 V vals K ⟨pre, post, hx⟩ hz hz0 ⟨A1, n1, e1, A2, n2, e2, rfl, g1, g2⟩ hk hK'
    gi_wp2
    exact hK' _ _ (Upd.refl _ _) ⟨A1, n1, e1, A2, n2, e2, rfl, rfl⟩
  case body =>
    rintro Z pre x W0 V vals a' ⟨post, hx⟩ hZ1 hZ2 ⟨v, cells, g1, g2, g3, g4, g5, g6⟩ hu0 hcp ⟨k1, n1, e1, k2, n2, e2, rfl, rfl⟩ hk
    obtain ⟨A1, m1, f1, A2, m2, f2, hvals, hcp1, hcp2⟩ := hcp
    simp only [List.cons.injEq, and_true, Array.mk.injEq, Value.slice.injEq] at hvals
    obtain ⟨⟨rfl, rfl, rfl⟩, rfl, rfl, rfl⟩ := hvals
    have hnp : ∀ b, Z ≤ b → ¬ Priv (fun _ => False) w1.heap.size Z b := fun b hb h => h.elim id (fun h => by omega)
    have hnp2 : ∀ b, b < w1.heap.size → ¬ Priv (fun _ => False) w1.heap.size Z b := fun b hb h => h.elim id (fun h => by omega)
    have v1 : V.heap[w.heap.size]? = some (.cells #[v] 22 (0, 0)) := (hu0.block _ (Array.getElem?_eq_some_iff.1 g1).1 (hnp2 _ (by omega))).trans g1
    have v2 : V.ownsRow w.heap.size 42 2 v pre.length cells := ownsRow_keep g2 (fun b hb hl => hu0.block b hl (hnp b (g4 b hb)))
    have v3 := g3.imp (fun _ _ hb => hb.upd hu0 (fun b hb => hnp b hb.1))
    have vc := cell_of v1 0 v rfl
    have hW0 : ∀ g, v.ownBlock = some g → g < W0.heap.size := fun g hg => (ownsRow_lt g2 hg).1
    have hVs := hu0.size
    have hpl : pre.length ≤ 1000000 := by have h1 := HL.out; rw [hx] at h1; simp at h1; omega
    obtain ⟨i0, hi0, hz0, hz1, hz2⟩ := info_parts info42
    have hown : (V.alloc (.cells #[.slice k1 n1 e1, .slice k2 n2 e2] 42)).ownsRow w.heap.size 42 2 v pre.length cells := ownsRow_alloc v2 _ rfl
    have hsrc : Gl.Src (V.alloc (.cells #[.slice k1 n1 e1, .slice k2 n2 e2] 42)) (some ⟨V.heap.size, 0, none⟩) 1 [.slice k1 n1 e1, .slice k2 n2 e2] := fun _ => ⟨_, _, rfl, fun j u hu => by
      rw [Nat.zero_add]; exact cell_of (Ex.alloc_new V _) j u (by simpa using hu)⟩
    have hwV : w.heap.size ≤ (V.alloc (.cells #[.slice k1 n1 e1, .slice k2 n2 e2] 42)).heap.size := by show _ ≤ (V.heap.push _).size; have := g5.size; simp; omega
    have hbox : ∀ w2 : World, (V.alloc (.cells #[.slice k1 n1 e1, .slice k2 n2 e2] 42)).grownBy w2 v.ownBlock → w2.heap[w.heap.size]? = some (.cells #[v] 22 (0, 0)) := fun w2 hg => by
      have hne : some w.heap.size ≠ v.ownBlock := fun e => by have := g4 _ e.symm; omega
      have hl : w.heap.size < V.heap.size := (Array.getElem?_eq_some_iff.1 v1).1
      exact (hg.block _ (by show _ < (V.heap.push _).size; simp; omega) hne).trans ((heap_alloc_lt _ hl).trans v1)
    have HOWN := Lib.hid hown; have HSRC := Lib.hid hsrc; have HWV := Lib.hid hwV; have HBOX := Lib.hid hbox; have HV2 := Lib.hid v2; have HV3 := Lib.hid v3; have H4 := Lib.hid g4; have H5 := Lib.hid g5; have HU0 := Lib.hid hu0; have HCP := Lib.hid (And.intro hcp1 hcp2); have HKW := Lib.hid hk; have HWZ := Lib.hid hW0; have HG1 := Lib.hid v1
    clear hown hsrc hwV hbox v2 v3 g1 g2 g3 g4 g5 hu0 hcp1 hcp2 hk hW0 v1 hx
    gi_wp2_with (gi_at_builtin
                 refine wpListIn_append_src _ rfl _ _ _ rfl w.heap.size 42 i0 _ 2 48 Tryz.underlying22 hi0 hz0 hz1 hz2 rfl (by omega) v pre.length cells rfl HOWN.out _ 1 1 [.slice k1 n1 e1, .slice k2 n2 e2] rfl rfl HSRC.out (by simp [Value.oneCell']) (by simp only [maxLen]; omega) (by omega) HWV.out ?_
                 intro A' c' w2 hown2 hg2 hat2
                 have hb2 := HBOX.out w2 hg2
                 have hbc := cell_of hb2 0 v rfl
                 have hbf := frozen_of hb2 0
                 have HQ := Lib.hid (And.intro hown2 (And.intro hg2 hat2)); clear hown2 hg2 hat2)
    obtain ⟨hown2, hg2, hat2⟩ := HQ.out
    obtain ⟨v', hv'⟩ : ∃ v', v' = Value.slice A' (pre.length + 1) c' := ⟨_, rfl⟩
    rw [← hv'] at hown2 hat2 ⊢
    have hu2 : Upd (fun b => v.ownBlock = some b ∨ b = w.heap.size) V (w2.setCell ⟨w.heap.size, 0, none⟩ v') := ((Upd.alloc _ V _).trans (Upd.of_grown hg2 (fun c hc => .inl hc))).trans (Upd.setCell w2 _ (.inr rfl))
    have hob' : v'.ownBlock ≠ some w.heap.size := fun e => by
      rcases hat2 with h | h
      · rw [h] at e; have := H4.out _ e; omega
      · rw [h] at e
        have e1 : (V.alloc (.cells #[.slice k1 n1 e1, .slice k2 n2 e2] 42)).heap.size = V.heap.size + 1 := by show (V.heap.push _).size = _; simp
        have := H5.out.size
        injection e with e; omega
    have hfresh : ∀ b, v'.ownBlock = some b → v.ownBlock = some b ∨ V.heap.size ≤ b := fun b hb => by
      rcases hat2 with h | h
      · exact .inl (h ▸ hb)
      · rw [h] at hb
        have e1 : (V.alloc (.cells #[.slice k1 n1 e1, .slice k2 n2 e2] 42)).heap.size = V.heap.size + 1 := by show (V.heap.push _).size = _; simp
        injection hb with hb; exact .inr (by omega)
    have hno : ∀ b, b < Z → b ≠ w.heap.size → ¬ (v.ownBlock = some b ∨ b = w.heap.size) := fun b hb hb2 h => h.elim (fun h => by have := H4.out _ h; omega) hb2
    refine ⟨⟨hu2.block _ (by omega) (hno _ (by omega) (by omega)), hu2.block _ (by omega) (hno _ (by omega) (by omega)), hu2.size, fun k hk => hu2.block k (by omega) (fun h => ?_)⟩, HKW.out.upd hu2 (fun b hb => hno b (by have := HFL.out b hb; omega) (by have := HFL.out b hb; omega)) (hno _ (by omega) (by omega)) (hno _ (by omega) (by omega)) (hno _ (by omega) (by omega)), v', cells ++ [.slice k1 n1 e1, .slice k2 n2 e2], setCell_at hb2 v' (i := 0), ?_, ?_, ?_, ?_, g6⟩
    · rcases h with h | h
      · have h1 := H4.out _ h; have h2 := HWZ.out _ h; omega
      · omega
    · rw [List.length_append]
      exact ownsRow_keep hown2 (fun b hb hl => (Upd.setCell (S := fun b => b = w.heap.size) w2 v' rfl).block b hl (fun e => hob' (e ▸ hb)))
    · have hold := HV3.out.imp (D' := fun b => Z ≤ b ∧ v'.ownBlock ≠ some b) (w' := w2.setCell ⟨w.heap.size, 0, none⟩ v') (fun _ _ hb => (hb.lt.upd hu2 (fun b hb h => h.elim (fun h => hb.1.2 h) (fun h => by have := hb.1.1; omega))).mono (fun b hb => ⟨hb.1.1, fun e => (hfresh b e).elim hb.1.2 (fun h => by have := hb.2; omega)⟩))
      have hnew : ∀ u bs', BV (fun b => W0.heap.size ≤ b) V u bs' → BV (fun b => Z ≤ b ∧ v'.ownBlock ≠ some b) (w2.setCell ⟨w.heap.size, 0, none⟩ v') u bs' := fun u bs' hb =>
        (hb.lt.upd hu2 (fun b hb h => h.elim (fun h => by have := HWZ.out _ h; omega) (fun h => by omega))).mono (fun b hb => ⟨by omega, fun e => (hfresh b e).elim (fun h => by have := HWZ.out _ h; omega) (fun h => by omega)⟩)
      exact hold.append ⟨hnew _ _ HCP.out.1, hnew _ _ HCP.out.2, trivial⟩
    · intro g hg
      rcases hfresh g hg with h | h
      · exact H4.out g h
      · omega
    · refine (H5.out.then (HU0.out) (fun b hb h => h.elim id (fun h => by have := H5.out.size; omega))).then hu2 (fun b hb h => h.elim (fun h => by have := H4.out _ h; omega) (fun h => by omega))
  case done =>
    rintro Z V hZ1 hZ2 ⟨v, cells, g1, g2, g3, g4, g5, g6⟩ hd _
    have vc := cell_of g1 0 v rfl
    obtain ⟨N, hN⟩ : ∃ N, N = ps.flatten.length := ⟨_, rfl⟩
    rw [← hN] at g2
    obtain ⟨A', c', rfl⟩ := ownsRow_form g2
    have HG := Lib.hid (And.intro g2 (And.intro g3 (And.intro g4 (And.intro g5 hN))))
    clear g1 g2 g3 g4 g5 hN
    gi_wp2
    refine ⟨by simp, .inl ⟨_, _, rfl, run_takeDeferred hd, ?_⟩⟩
    obtain ⟨g2, g3, g4, g5, hN⟩ := HG.out
    have hp : New w (V.putObj w1.heap.size (.deferred none)) := g5.then (Upd.putObj (S := fun b => b = w1.heap.size) V _ rfl) (fun b hb e => by omega)
    have hq : Upd (fun b => b = w1.heap.size) V (V.putObj w1.heap.size (.deferred none)) := Upd.putObj V _ rfl
    have hge : ∀ b, Z ≤ b → ¬ b = w1.heap.size := fun b hb e => by omega
    refine ⟨_, results_tmp rfl _ _ _, A', N, c', cells, rfl, hN, Sl.of_own (ownsRow_keep g2 (fun b hb hl => hq.block b hl (hge b (g4 b hb)))), g3.imp (fun _ _ hb => (hb.upd hq (fun b hb => hge b hb.1)).mono (fun b hb => by have := hb.1; omega)), hp, fun a ha => ?_⟩
    subst ha
    have := g4 a.block rfl
    omega
  case stop =>
    rintro Z cd pre x post V hZ1 hZ2 hx h hd
    exact h.elim
end Go.Proofs.YtfagoiecijpneaaGreat
end
section
namespace Go.Proofs.YtfagoiecijpneaaGreat
open Go Go.RowKit Go.Proofs Gl
theorem new_of_fresh {w w' : World} (h : Ex.Fresh w w') : New w w' := ⟨h.1, h.2.1, h.2.2.1, h.2.2.2.1, fun c hc _ => h.2.2.2.2 c hc⟩
theorem fresh_of_new {w w' : World} (h : New w w') : Ex.Fresh w w' := ⟨h.os, h.output, h.tape, h.size, fun c hc => h.block c hc id⟩
theorem dumpB_le {m : Nat} : ∀ {L : List Ent}, (∀ e ∈ L, (rawB e.1).length + (rawB e.2).length ≤ m) → (dumpB L).length ≤ L.length * m
  | [], _ => by simp [dumpB_nil]
  | e :: L, h => by
    have h1 := dumpB_le (L := L) (fun x hx => h x (List.mem_cons_of_mem _ hx))
    have h2 := h e List.mem_cons_self
    rw [dumpB_cons, List.length_append, List.length_append, List.length_cons, Nat.succ_mul]
    omega
theorem ents_small {D : Nat → Prop} {w : World} : ∀ {cs : List Value} {l : List Ent}, EntsAt D w cs l → ∀ e ∈ l, Small e.1 ∧ Small e.2
  | [], [], _, e, he => by cases he
  | k :: v :: cs, e :: l, ⟨a, b, h⟩, x, hx => by
    rcases List.mem_cons.1 hx with rfl | hx
    · exact ⟨a.small, b.small⟩
    · exact ents_small h x hx
  | [], _ :: _, h, _, _ => h.elim
  | [_], [], h, _, _ => h.elim
  | [_], _ :: _, h, _, _ => h.elim
  | _ :: _ :: _, [], h, _, _ => h.elim
theorem okEnt_le {e : Ent} (h : okEnt e = true) : e.1.length ≤ 64 ∧ e.2.length ≤ 4096 := by
  unfold okEnt at h
  have := of_decide_eq_true h
  exact ⟨this.2.1, this.2.2⟩
/-- the store's entries -/
theorem all_ok {L : List Ent} (hs : ∀ e ∈ L, Small e.1 ∧ Small e.2) (hl : L.length ≤ 40000) : (putAll [] L).length ≤ 40000 ∧ (∀ e ∈ putAll [] L, e.1.length ≤ 64 ∧ e.2.length ≤ 4096) ∧ (dumpB (putAll [] L)).length ≤ 1000000000 ∧ ∀ e ∈ putAll [] L, Small e.1 ∧ Small e.2 := by
  have h1 := putAll_length [] L
  simp only [List.length_nil, Nat.zero_add] at h1
  have h2 : ∀ e ∈ putAll [] L, e.1.length ≤ 64 ∧ e.2.length ≤ 4096 := putAll_ok (fun e he => by cases he) (fun e _ h => okEnt_le h)
  have h3 : ∀ e ∈ putAll [] L, Small e.1 ∧ Small e.2 := putAll_ok (fun e he => by cases he) (fun e he _ => hs e he)
  have h4 : (dumpB (putAll [] L)).length ≤ (putAll [] L).length * 4168 := dumpB_le (fun e he => by
    have := h2 e he
    simp only [rawB, List.length_append, be_length]; omega)
  have h5 : (putAll [] L).length * 4168 ≤ 40000 * 4168 := Nat.mul_le_mul_right _ (by omega)
  exact ⟨by omega, h2, by omega, h3⟩
def erB (M : List Ent) : Int := if 8 + (dumpB M).length ≤ 4194304 then 0 else 221
def outB (M : List Ent) : List Nat := if 8 + (dumpB M).length ≤ 4194304 then be 4 1196183108 ++ be 4 M.length ++ dumpB M else []
theorem Exported.uni {M : List Ent} {e : Ending} {w' : World} (h : Exported M e w') : ∃ A N c, e = .returned (.tuple #[.slice A N c, .int .i64 (erB M)]) ∧ By w' A N c (outB M) := by
  unfold erB outB
  rcases h with ⟨h, A, N, c, rfl, hb⟩ | ⟨h, rfl⟩
  · rw [if_pos h, if_pos h]; exact ⟨A, N, c, rfl, hb⟩
  · rw [if_neg (by omega), if_neg (by omega)]; exact ⟨none, 0, 0, rfl, By.nil _⟩
/-- what Dump, Export and the reference say behind one another of a store -/
structure Kept (base bs bm : Nat) (D : Nat → Prop) (A : Option Addr) (n c : Nat) (vs : List Value) (ps : List (List Ent)) (W : World) : Prop where
  sto : StoB W bs bm
  map : MapIn 93 124 base W bm D A n c vs ps
theorem Kept.upd {base bs bm : Nat} {D T : Nat → Prop} {A : Option Addr} {n c : Nat} {vs : List Value} {ps : List (List Ent)} {W W' : World} (h : Kept base bs bm D A n c vs ps W) (hu : Upd T W W') (h1 : ¬ T bs) (h2 : ∀ b, foot bm D A n c vs b → ¬ T b) : Kept base bs bm D A n c vs ps W' :=
  ⟨h.sto.upd hu h1, ⟨h.map.toMapRaw.upd hu h2, h.map.good, h.map.few⟩⟩
/-- what is known of a store's entries -/
structure Fit (M : List Ent) : Prop where
  few : M.length ≤ 40000
  short : ∀ e ∈ M, e.1.length ≤ 1073741824 ∧ e.2.length ≤ 1073741824
  dump : (dumpB M).length ≤ 1000000000
  small : ∀ e ∈ M, Small e.1 ∧ Small e.2
theorem store_kept {w : World} {A : Option Addr} {n c : Nat} {cells : List Value} {L : List Ent} (hs : Sl 2 w A n c cells) (hn : n = L.length) (he : EntsAt (fun b => b < w.heap.size) w cells L) (hn4 : n ≤ 40000) :
    Calls Tryz.prog 6 #[.slice A n c] w fun e w' => ∃ bs bm D A3 n3 c3 vs ps, e = .returned (.pointer (some ⟨bs, 0, none⟩)) ∧ Kept w.heap.size bs bm D A3 n3 c3 vs ps w' ∧ New w w' ∧ w.heap.size ≤ bs ∧ (∀ b, foot bm D A3 n3 c3 vs b → w.heap.size ≤ b ∧ b ≠ bs) ∧ Fit ps.flatten := by
  refine (store_c hs hn he hn4).mono ?_
  rintro e w' ⟨bs, rfl, ⟨bm, D, A3, n3, c3, vs, ps, hst, hm, hft, hbb, hfl⟩, hn3⟩
  obtain ⟨h1, h2, h3, h4⟩ := all_ok (ents_small he) (by rw [← hn]; exact hn4)
  exact ⟨bs, bm, D, A3, n3, c3, vs, ps, rfl, ⟨hst, hm⟩, hn3, hbb, hft, by rw [hfl]; exact ⟨h1, fun e he => ⟨by have := h2 e he; omega, by have := h2 e he; omega⟩, h3, h4⟩⟩
theorem Kept.dump {base bs bm : Nat} {D : Nat → Prop} {A : Option Addr} {n c : Nat} {vs : List Value} {ps : List (List Ent)} {W : World} (h : Kept base bs bm D A n c vs ps W) (hf : Fit ps.flatten) : Calls Tryz.prog 7 #[.pointer (some ⟨bs, 0, none⟩)] W (Dumped W ps.flatten) :=
  dump_c h.sto h.map (by have := hf.few; omega) hf.short
theorem Kept.export {base bs bm : Nat} {D : Nat → Prop} {A : Option Addr} {n c : Nat} {vs : List Value} {ps : List (List Ent)} {W : World} (h : Kept base bs bm D A n c vs ps W) (hf : Fit ps.flatten) (hft : ∀ b, foot bm D A n c vs b → b ≠ bs) : Calls Tryz.prog 8 #[.pointer (some ⟨bs, 0, none⟩)] W fun e w' => (∃ A N k, e = .returned (.tuple #[.slice A N k, .int .i64 (erB ps.flatten)]) ∧ By w' A N k (outB ps.flatten)) ∧ Kept base bs bm D A n c vs ps w' ∧ Upd (fun b => b = bs) W w' := by
  refine (export_c h.sto h.map (fun x => hft _ x rfl) (by have := hf.few; omega) hf.short hf.dump).mono ?_
  rintro e w' ⟨hx, hs, hu⟩
  exact ⟨hx.uni, ⟨hs, ⟨h.map.toMapRaw.upd hu (fun b hb e => hft b hb e), h.map.good, h.map.few⟩⟩, hu⟩
/-- a dumped row, still there -/
theorem row_ref {W W4 W5 : World} {A4 : Option Addr} {n4 c4 bs : Nat} {cs4 : List Value} {M : List Ent} (hs : Sl 2 W4 A4 n4 c4 cs4) (he : EntsAt (fun b => W.heap.size ≤ b) W4 cs4 M) (ha : ∀ a, A4 = some a → W.heap.size ≤ a.block) (hu : Upd (fun b => b = bs) W4 W5) (hbs : bs < W.heap.size) : Sl 2 W5 A4 n4 c4 cs4 ∧ EntsAt (fun b => b < W5.heap.size) W5 cs4 M :=
  ⟨hs.upd hu (fun a h h0 e => by have := ha a h; have e : a.block = bs := e; omega), he.imp (fun v b hb => ((hb.lt).upd hu (fun b hb e => by have e : b = bs := e; have := hb.1; omega)).mono (fun b hb => Nat.lt_of_lt_of_le hb.2 hu.size))⟩
set_option maxHeartbeats 8000000 in
set_option maxRecDepth 100000 in
theorem law3 {w : World} {A : Option Addr} {n c : Nat} {cells : List Value} {L : List Ent} (hs : Sl 2 w A n c cells) (hn : n = L.length) (he : EntsAt (fun b => b < w.heap.size) w cells L) :
    Calls Tryz.prog 3 #[.slice A n c] w fun e w' => e = .returned (.bool true) ∧ New w w' := by
  have h4 := known_true w
  have hat : ∀ W, New w W → Sl 2 W A n c cells ∧ EntsAt (fun b => b < W.heap.size) W cells L := fun W h => ⟨hs.new h, he.imp (fun v bs hb => (hb.upd h (fun b _ => id)).mono (fun b hb => Nat.lt_of_lt_of_le hb h.size))⟩
  have H4 := Lib.hid h4; have HAT := Lib.hid hat; have HN := Lib.hid hn
  clear h4 hat hn hs he
  go_enter Tryz.func3, Tryz.ntmps3
  go_wp2_with (first
    | (go_at_call 4; refine H4.out.mono ?_; rintro e W1 ⟨rfl, hf1⟩; have hn1 := new_of_fresh hf1; have h5 := light_c (HAT.out W1 hn1).1 HN.out (HAT.out W1 hn1).2; have HN1 := Lib.hid hn1; clear H4 hf1 hn1)
    | (go_at_call 5; refine h5.mono ?_; rintro e W2 ⟨b, rfl, hb, q, hq⟩; have hn2 : New w W2 := (hq ▸ HN1.out.drewN q); clear h5 hq; have HB := Lib.hid hb; have HN2 := Lib.hid hn2; clear hb hn2; cases b)
    | (go_at_call 6; refine (store_kept (HAT.out _ HN2.out).1 HN.out (HAT.out _ HN2.out).2 (HB.out (by trivial))).mono ?_; rintro e W3 ⟨bs, bm, D, A3, n3, c3, vs, ps, rfl, hk3, hn3, hbb, hft, hfit⟩; have HK3 := Lib.hid hk3; have HN3 := Lib.hid (And.intro (HN2.out.trans hn3) (And.intro (Nat.le_trans HN2.out.size hbb) hk3.sto.lt)); have HFT := Lib.hid (fun b hb => (hft b hb).2); have HFIT := Lib.hid hfit; have h7 := hk3.dump hfit; clear hk3 hn3 hbb hft hfit)
    | (go_at_call 7; refine h7.mono ?_; rintro e W4 ⟨A4, n4, c4, cs4, rfl, hn4, hs4, he4, hnw4, ha4⟩; have hk4 := HK3.out.upd hnw4 id (fun _ _ => id); have h8 := hk4.export HFIT.out HFT.out; have HD4 := Lib.hid (And.intro hs4 (And.intro he4 ha4)); have HN4 := Lib.hid (And.intro hn4 hnw4); clear h7 hn4 hs4 he4 hnw4 ha4 hk4)
    | (go_at_call 8; refine h8.mono ?_; rintro e W5 ⟨⟨A5, n5, c5, rfl, hby5⟩, hk5, hu5⟩; have hr5 := row_ref HD4.out.1 HD4.out.2.1 HD4.out.2.2 hu5 HN3.out.2.2; have h9 := refexport_c hr5.1 HN4.out.1 hr5.2 (by have := HFIT.out.few; have := HN4.out.1; omega) HFIT.out.dump HFIT.out.small; have HK5 := Lib.hid hk5; have HU5 := Lib.hid hu5; have HB5 := Lib.hid hby5; have HR5 := Lib.hid hr5; clear h8 hby5 hk5 hu5 hr5)
    | (go_at_call 9; refine h9.mono ?_; rintro e W6 ⟨hx, hn6⟩; obtain ⟨A6, n6, c6, rfl, hby6⟩ := hx.uni; have HK6 := Lib.hid (HK5.out.upd hn6 id (fun _ _ => id)); have HN6 := Lib.hid hn6; have HB6 := Lib.hid (And.intro (HB5.out.new hn6) hby6); have h7b := HK6.out.dump HFIT.out; clear h9 hx hn6 hby6)
    | (go_at_call 10; refine (bytes_c HB6.out.1 HB6.out.2).mono ?_; rintro e W7 ⟨rfl, q7, hq7⟩; have hu7 : New W6 W7 := hq7 ▸ (Upd.refl _ _).drewN q7; have hk7 := HK6.out.upd hu7 id (fun _ _ => id); have h7c := hk7.dump HFIT.out; have HU7 := Lib.hid hu7; clear h7b hu7 hk7 hq7; rw [decide_eq_true rfl])
    | (go_at_call 7; refine h7c.mono ?_; rintro e W8 ⟨A8, n8, c8, cs8, rfl, hn8, hs8, he8, hnw8, ha8⟩; have hu8 := HN6.out.trans (HU7.out.trans hnw8); have hr8 : Sl 2 W8 A4 n4 c4 cs4 ∧ EntsAt (fun b => b < W8.heap.size) W8 cs4 ps.flatten := ⟨HR5.out.1.new hu8, HR5.out.2.imp (fun v b hb => (hb.upd hu8 (fun _ _ => id)).mono (fun b hb => Nat.lt_of_lt_of_le hb hu8.size))⟩; have h11 := pairs_c hs8 hn8 he8 hr8.1 HN4.out.1 hr8.2; have HU8 := Lib.hid hu8; clear h7c hn8 hs8 he8 hnw8 ha8 hu8 hr8)
    | (go_at_call 11; refine h11.mono ?_; rintro e W9 ⟨rfl, q9, hq9⟩; have HU9 := Lib.hid hq9; clear h11 hq9))
  all_goals go_ret
  · exact ⟨rfl, HN2.out⟩
  · refine ⟨by simp, ?_⟩
    rw [HU9.out]
    have h1 : New w W4 := HN3.out.1.trans HN4.out.2
    have h2 : New w W5 := h1.then HU5.out (fun b hb e => by have e : b = bs := e; have := HN3.out.2.1; omega)
    exact (h2.trans HU8.out).drewN q9
end Go.Proofs.YtfagoiecijpneaaGreat
end
