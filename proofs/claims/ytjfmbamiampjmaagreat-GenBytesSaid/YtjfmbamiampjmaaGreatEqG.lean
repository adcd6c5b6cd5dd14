/- A part of the proof of the statement of this seat: no condition. -/
import Derived.Test.YtjfmbamiampjmaaGreatEncW
import Derived.Test.YtjfmbamiampjmaaGreatG
import Derived.Deep.QuietTactic
import Derived.BigQuiet
set_option linter.unusedVariables false
set_option linter.unusedSimpArgs false
namespace Go.Proofs.YtjfmbamiampjmaaGreat
open Go Go.RowKit Go.Proofs Gl

theorem equal_c {w : World} {A A' : Option Addr} {n c n' c' : Nat} {xs bs : List Nat} (ha : By w A n c xs) (hb : By w A' n' c' bs) :
    Calls Tryz.prog 26 #[.slice A n c, .slice A' n' c'] w fun e w' => e = .returned (.bool (decide (xs = bs))) ∧ w' = w := by
  have h1 := conv_by (P := Tryz.prog) (s := 29) (d := 9) ha Tryz.underlying29 Tryz.underlying5 Tryz.underlying9
  have h2 := conv_by (P := Tryz.prog) (s := 29) (d := 9) hb Tryz.underlying29 Tryz.underlying5 Tryz.underlying9
  obtain ⟨sa, hsa⟩ : ∃ sa, sa = strB xs := ⟨_, rfl⟩
  obtain ⟨sb, hsb⟩ : ∃ sb, sb = strB bs := ⟨_, rfl⟩
  rw [← hsa] at h1
  rw [← hsb] at h2
  have he : (sa.toList == sb.toList) = decide (xs = bs) := by
    rw [hsa, hsb, ByteArray.toList_eq, ByteArray.toList_eq, Bool.eq_iff_iff, decide_eq_true_eq, beq_iff_eq]
    exact ⟨fun h => strB_inj ha.small hb.small (by apply ByteArray.ext; apply Array.ext'; exact h), fun h => by rw [h]⟩
  have HE := Lib.hid he
  clear ha hb hsa hsb he
  go_enter Tryz.func26, Tryz.ntmps26
  go_wp2
  go_ret
  rw [HE.out]
  exact ⟨rfl, rfl⟩

set_option maxHeartbeats 2000000 in
set_option maxRecDepth 100000 in
theorem bytes_c {w : World} {A A' : Option Addr} {n c n' c' : Nat} {xs ys : List Nat} (ha : By w A n c xs) (hb : By w A' n' c' ys) :
    Calls Tryz.prog 10 #[.slice A n c, .slice A' n' c'] w fun e w' => e = .returned (.bool (decide (xs = ys))) ∧ ∃ q, w' = w.drewN q := by
  have hla := ha.len
  have hlb := hb.len
  by_cases hl : n = n'
  · subst hl
    have hmx := ha.sl.max
    have hle := ha.sl.le
    unfold maxLen at hmx
    have hn63 : (n : Int) ≤ 9223372036854775807 := by omega
    have HA := Lib.hid ha; have HB := Lib.hid hb; have HLA := Lib.hid hla; have HLB := Lib.hid hlb
    obtain ⟨r, hr⟩ : ∃ r, r = decide (xs = ys) := ⟨_, rfl⟩
    rw [← hr]
    have HR := Lib.hid hr
    clear ha hb hla hlb hmx hle hr
    go_enter Tryz.func10, Tryz.ntmps10
    go_wp2
    go_loopw [5] (fun i wr => ∃ j : Nat, j ≤ n ∧ i = .int .i64 (j : Int) ∧ Hid (xs.take j = ys.take j) ∧ Hid (∃ q, wr = w.drewN q)) (fun i _ => n - (intOf i).toNat)
    case atStart => exact ⟨0, Nat.zero_le _, rfl, Lib.hid rfl, Lib.hid ⟨0, rfl⟩⟩
    case round =>
      obtain ⟨j, hj, rfl, ht, hq⟩ := hrel
      by_cases hjn : j < n
      · obtain ⟨b1, o1, rfl, _⟩ := HA.out.addr (by omega)
        obtain ⟨b2, o2, rfl, _⟩ := HB.out.addr (by omega)
        have hj1 : j < xs.length := by rw [HLA.out]; exact hjn
        have hj2 : j < ys.length := by rw [HLB.out]; exact hjn
        obtain ⟨x, hx⟩ : ∃ x, x = xs[j] := ⟨_, rfl⟩
        obtain ⟨y, hy⟩ : ∃ y, y = ys[j] := ⟨_, rfl⟩
        have hc1 : wr.cell? ⟨b1, o1 + j, none⟩ = some (.int .u8 (x : Int)) := by obtain ⟨q, rfl⟩ := hq.out; rw [hx]; exact HA.out.cell rfl j hj1
        have hc2 : wr.cell? ⟨b2, o2 + j, none⟩ = some (.int .u8 (y : Int)) := by obtain ⟨q, rfl⟩ := hq.out; rw [hy]; exact HB.out.cell rfl j hj2
        have HX := Lib.hid hx; have HY := Lib.hid hy; have HJ1 := Lib.hid hj1; have HJ2 := Lib.hid hj2
        clear hx hy
        by_cases hxy : x = y
        · subst hxy
          have hne : (((x : Nat) : Int) != (x : Int)) = false := by simp
          go_wp2_with fail
          go_quiet (fail)
          go_wp2
          refine ⟨⟨j + 1, by omega, by congr 1, Lib.hid ?_, Lib.hid ?_⟩, by simp [intOf]; omega⟩
          · rw [List.take_succ_eq_append_getElem HJ1.out, List.take_succ_eq_append_getElem HJ2.out, ht.out, ← HX.out, ← HY.out]
          · obtain ⟨q, rfl⟩ := hq.out; exact ⟨_, World.drewN_drewN _ _ _⟩
        · have hne : (((x : Nat) : Int) != (y : Int)) = true := by rw [bne_iff_ne]; omega
          go_wp2_with fail
          go_quiet (fail)
          go_wp2
          go_ret
          have : r = false := by
            rw [HR.out, decide_eq_false_iff_not]
            intro e
            subst e
            exact hxy (HX.out.trans HY.out.symm)
          rw [this]
          obtain ⟨q, rfl⟩ := hq.out
          exact ⟨rfl, _, World.drewN_drewN _ _ _⟩
      · obtain rfl : j = n := by omega
        go_wp2
        go_ret
        have h1 := ht.out
        rw [List.take_of_length_le (by rw [HLA.out]; exact Nat.le_refl _), List.take_of_length_le (by rw [HLB.out]; exact Nat.le_refl _)] at h1
        rw [HR.out, decide_eq_true h1]
        exact ⟨rfl, hq.out⟩
  · have hne : (((n : Nat) : Int) != (n' : Int)) = true := by rw [bne_iff_ne]; omega
    have hf : decide (xs = ys) = false := decide_eq_false (fun e => hl (by rw [← hla, ← hlb, e]))
    rw [hf]
    go_enter Tryz.func10, Tryz.ntmps10
    go_wp2
    go_ret
    exact ⟨rfl, 0, rfl⟩
end Go.Proofs.YtjfmbamiampjmaaGreat
