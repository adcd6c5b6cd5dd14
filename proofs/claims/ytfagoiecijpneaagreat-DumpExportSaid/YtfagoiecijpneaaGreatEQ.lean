/- A part of the proof of the statement of this seat: no condition. -/
import Derived.Test.YtfagoiecijpneaaGreatPB
import Derived.Test.YtfagoiecijpneaaGreatG
import Derived.Deep.QuietTactic
import Derived.BigQuiet
import Derived.Test.YtfagoiecijpneaaGreatPA
set_option linter.unusedVariables false
set_option linter.unusedSimpArgs false
section
namespace Go.Proofs.YtfagoiecijpneaaGreat
open Go Go.RowKit Go.Proofs Gl

set_option maxHeartbeats 2000000 in
set_option maxRecDepth 100000 in
theorem bytes_c {w : World} {A A' : Option Addr} {n c n' c' : Nat} {xs ys : List Nat} (ha : By w A n c xs) (hb : By w A' n' c' ys) :
    Calls Tryz.prog 10 #[.slice A n c, .slice A' n' c'] w fun e w' => e = .returned (.bool (decide (xs = ys))) ∧ ∃ q, w' = w.drewN q := by
  have hla := ha.len
  have hlb := hb.len
  by_cases hl : n = n'
  · subst hl
    have hmx := ha.sl.max
    have hle := ha.sl.le
    unfold maxLen at hmx
    have hn63 : (n : Int) ≤ 9223372036854775807 := by omega
    have HA := Lib.hid ha; have HB := Lib.hid hb; have HLA := Lib.hid hla; have HLB := Lib.hid hlb
    obtain ⟨r, hr⟩ : ∃ r, r = decide (xs = ys) := ⟨_, rfl⟩
    rw [← hr]
    have HR := Lib.hid hr
    clear ha hb hla hlb hmx hle hr
    go_enter Tryz.func10, Tryz.ntmps10
    go_wp2
    go_loopw [5] (fun i wr => ∃ j : Nat, j ≤ n ∧ i = .int .i64 (j : Int) ∧ Hid (xs.take j = ys.take j) ∧ Hid (∃ q, wr = w.drewN q)) (fun i _ => n - (intOf i).toNat)
    case atStart => exact ⟨0, Nat.zero_le _, rfl, Lib.hid rfl, Lib.hid ⟨0, rfl⟩⟩
    case round =>
      obtain ⟨j, hj, rfl, ht, hq⟩ := hrel
      by_cases hjn : j < n
      · obtain ⟨b1, o1, rfl, _⟩ := HA.out.addr (by omega)
        obtain ⟨b2, o2, rfl, _⟩ := HB.out.addr (by omega)
        have hj1 : j < xs.length := by rw [HLA.out]; exact hjn
        have hj2 : j < ys.length := by rw [HLB.out]; exact hjn
        obtain ⟨x, hx⟩ : ∃ x, x = xs[j] := ⟨_, rfl⟩
        obtain ⟨y, hy⟩ : ∃ y, y = ys[j] := ⟨_, rfl⟩
        have hc1 : wr.cell? ⟨b1, o1 + j, none⟩ = some (.int .u8 (x : Int)) := by obtain ⟨q, rfl⟩ := hq.out; rw [hx]; exact HA.out.cell rfl j hj1
        have hc2 : wr.cell? ⟨b2, o2 + j, none⟩ = some (.int .u8 (y : Int)) := by obtain ⟨q, rfl⟩ := hq.out; rw [hy]; exact HB.out.cell rfl j hj2
        have HX := Lib.hid hx; have HY := Lib.hid hy; have HJ1 := Lib.hid hj1; have HJ2 := Lib.hid hj2
        clear hx hy
        by_cases hxy : x = y
        · subst hxy
          have hne : (((x : Nat) : Int) != (x : Int)) = false := by simp
          go_wp2_with fail
          go_quiet (fail)
          go_wp2
          refine ⟨⟨j + 1, by omega, by congr 1, Lib.hid ?_, Lib.hid ?_⟩, by simp [intOf]; omega⟩
          · rw [List.take_succ_eq_append_getElem HJ1.out, List.take_succ_eq_append_getElem HJ2.out, ht.out, ← HX.out, ← HY.out]
          · obtain ⟨q, rfl⟩ := hq.out; exact ⟨_, World.drewN_drewN _ _ _⟩
        · have hne : (((x : Nat) : Int) != (y : Int)) = true := by rw [bne_iff_ne]; omega
          go_wp2_with fail
          go_quiet (fail)
          go_wp2
          go_ret
          have : r = false := by
            rw [HR.out, decide_eq_false_iff_not]
            intro e
            subst e
            exact hxy (HX.out.trans HY.out.symm)
          rw [this]
          obtain ⟨q, rfl⟩ := hq.out
          exact ⟨rfl, _, World.drewN_drewN _ _ _⟩
      · obtain rfl : j = n := by omega
        go_wp2
        go_ret
        have h1 := ht.out
        rw [List.take_of_length_le (by rw [HLA.out]; exact Nat.le_refl _), List.take_of_length_le (by rw [HLB.out]; exact Nat.le_refl _)] at h1
        rw [HR.out, decide_eq_true h1]
        exact ⟨rfl, hq.out⟩
  · have hne : (((n : Nat) : Int) != (n' : Int)) = true := by rw [bne_iff_ne]; omega
    have hf : decide (xs = ys) = false := decide_eq_false (fun e => hl (by rw [← hla, ← hlb, e]))
    rw [hf]
    go_enter Tryz.func10, Tryz.ntmps10
    go_wp2
    go_ret
    exact ⟨rfl, 0, rfl⟩
end Go.Proofs.YtfagoiecijpneaaGreat
end
section
namespace Go.Proofs.YtfagoiecijpneaaGreat
open Go Go.RowKit Go.Proofs Gl
set_option maxHeartbeats 4000000 in
set_option maxRecDepth 100000 in
theorem pairs_c {w : World} {A A' : Option Addr} {n c n' c' : Nat} {cells cells' : List Value} {L : List Ent} {D D' : Nat → Prop} (hs : Sl 2 w A n c cells) (hn : n = L.length) (he : EntsAt D w cells L) (hs' : Sl 2 w A' n' c' cells') (hn' : n' = L.length) (he' : EntsAt D' w cells' L) :
    Calls Tryz.prog 11 #[.slice A n c, .slice A' n' c'] w fun e w' => e = .returned (.bool true) ∧ ∃ q, w' = w.drewN q := by
  obtain rfl : n = n' := hn.trans hn'.symm
  have hcn : c ≤ maxLen ∧ n ≤ c := ⟨hs.max, hs.le⟩
  have hcn' : c' ≤ maxLen ∧ n ≤ c' := ⟨hs'.max, hs'.le⟩
  have hmx := hcn.1
  unfold maxLen at hmx
  have hn63 : (n : Int) ≤ 9223372036854775807 := by omega
  have HS := Lib.hid hs; have HE := Lib.hid he; have HN := Lib.hid hn; have HS' := Lib.hid hs'; have HE' := Lib.hid he'; have HC := Lib.hid (And.intro hcn hcn')
  clear hs he hn hs' he' hn' hmx hcn hcn'
  go_enter Tryz.func11, Tryz.ntmps11
  go_wp2
  go_loopw [5] (fun i wr => ∃ j : Nat, j ≤ n ∧ i = .int .i64 (j : Int) ∧ Hid (∃ q, wr = w.drewN q)) (fun i _ => n - (intOf i).toNat)
  case atStart => exact ⟨0, Nat.zero_le _, rfl, Lib.hid ⟨0, rfl⟩⟩
  case round =>
    obtain ⟨j, hj, rfl, hq⟩ := hrel
    by_cases hjn : j < n
    · have hjl : j < L.length := by rw [← HN.out]; exact hjn
      obtain ⟨b1, o1, rfl, hr1⟩ := HS.out.row (by omega)
      obtain ⟨b2, o2, rfl, hr2⟩ := HS'.out.row (by omega)
      obtain ⟨k1, v1, hk1, hv1, hbk1, hbv1⟩ := EntsAt.get j HE.out (List.getElem?_eq_getElem hjl)
      obtain ⟨k2, v2, hk2, hv2, hbk2, hbv2⟩ := EntsAt.get j HE'.out (List.getElem?_eq_getElem hjl)
      obtain ⟨Ak1, nk1, ck1, rfl, hk1b, _⟩ := hbk1
      obtain ⟨Av1, nv1, cv1, rfl, hv1b, _⟩ := hbv1
      obtain ⟨Ak2, nk2, ck2, rfl, hk2b, _⟩ := hbk2
      obtain ⟨Av2, nv2, cv2, rfl, hv2b, _⟩ := hbv2
      have c1 : wr.cell? ⟨b1, o1 + j * 2, none⟩ = some (.slice Ak1 nk1 ck1) := by obtain ⟨q, rfl⟩ := hq.out; exact hr1.2 _ _ hk1
      have c2 : wr.cell? ⟨b1, o1 + j * 2 + 1, none⟩ = some (.slice Av1 nv1 cv1) := by obtain ⟨q, rfl⟩ := hq.out; have := hr1.2 _ _ hv1; rwa [← Nat.add_assoc] at this
      have c3 : wr.cell? ⟨b2, o2 + j * 2, none⟩ = some (.slice Ak2 nk2 ck2) := by obtain ⟨q, rfl⟩ := hq.out; exact hr2.2 _ _ hk2
      have c4 : wr.cell? ⟨b2, o2 + j * 2 + 1, none⟩ = some (.slice Av2 nv2 cv2) := by obtain ⟨q, rfl⟩ := hq.out; have := hr2.2 _ _ hv2; rwa [← Nat.add_assoc] at this
      have hB : ∀ m, Calls Tryz.prog 10 #[.slice Ak1 nk1 ck1, .slice Ak2 nk2 ck2] (wr.drewN m) fun e w'' => e = .returned (.bool true) ∧ ∃ q, w'' = (wr.drewN m).drewN q := fun m => by
        have hw : New w (wr.drewN m) := by obtain ⟨q, rfl⟩ := hq.out; rw [World.drewN_drewN]; exact Upd.drewN (Upd.refl _ w) _
        have := bytes_c (hk1b.new hw) (hk2b.new hw)
        rwa [decide_eq_true rfl] at this
      have hB2 : ∀ m, Calls Tryz.prog 10 #[.slice Av1 nv1 cv1, .slice Av2 nv2 cv2] (wr.drewN m) fun e w'' => e = .returned (.bool true) ∧ ∃ q, w'' = (wr.drewN m).drewN q := fun m => by
        have hw : New w (wr.drewN m) := by obtain ⟨q, rfl⟩ := hq.out; rw [World.drewN_drewN]; exact Upd.drewN (Upd.refl _ w) _
        have := bytes_c (hv1b.new hw) (hv2b.new hw)
        rwa [decide_eq_true rfl] at this
      have HB := Lib.hid hB; have HB2 := Lib.hid hB2
      clear hB hB2 hk1b hv1b hk2b hv2b hk1 hk2 hv1 hv2 hr1 hr2
      go_wp2_with fail
      go_quiet (first
        | (go_at_call_of 10 (Value.slice Ak1 nk1 ck1); refine Calls.quiet_of (HB.out _))
        | (go_at_call_of 10 (Value.slice Av1 nv1 cv1); refine Calls.quiet_of (HB2.out _)))
      go_wp2
      refine ⟨⟨j + 1, by omega, by congr 1, Lib.hid ?_⟩, by simp [intOf]; omega⟩
      obtain ⟨q, rfl⟩ := hq.out; exact ⟨_, World.drewN_drewN _ _ _⟩
    · obtain rfl : j = n := by omega
      go_wp2
      go_ret
      exact ⟨rfl, hq.out⟩
end Go.Proofs.YtfagoiecijpneaaGreat
end
