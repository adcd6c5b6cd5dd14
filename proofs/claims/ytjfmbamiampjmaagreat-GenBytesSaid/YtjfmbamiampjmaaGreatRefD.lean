/- A part of the proof of the statement of this seat: no condition. -/
import Derived.Test.YtjfmbamiampjmaaGreatDecG
set_option linter.unusedVariables false
set_option linter.unusedSimpArgs false
namespace Go.Proofs.YtjfmbamiampjmaaGreat
open Go Go.RowKit Go.Proofs Gl
/-- The reference's Reader: its block, the bytes left (in a block older than B0), its error. -/
structure Rq (B0 br : Nat) (w : World) (A : Option Addr) (n c : Nat) (bs : List Nat) (err : Nat) : Prop where
  blk : ∃ t, w.heap[br]? = some (.cells #[.slice A n c, .int .i64 (err : Int)] t (0, 0))
  by_ : By w A n c bs
  old : ∀ a, A = some a → 0 < n → a.block < B0
  le : B0 ≤ br
section
variable {B0 br : Nat} {w w' : World} {A : Option Addr} {n c : Nat} {bs : List Nat} {err : Nat}
theorem Rq.lt (h : Rq B0 br w A n c bs err) : br < w.heap.size := by
  obtain ⟨t, h⟩ := h.blk
  exact (Array.getElem?_eq_some_iff.1 h).1
theorem Rq.cell0 (h : Rq B0 br w A n c bs err) : w.cell? ⟨br, 0, none⟩ = some (.slice A n c) := by
  obtain ⟨t, h⟩ := h.blk
  simp [World.cell?, h]
theorem Rq.cell1 (h : Rq B0 br w A n c bs err) : w.cell? ⟨br, 1, none⟩ = some (.int .i64 (err : Int)) := by
  obtain ⟨t, h⟩ := h.blk
  simp [World.cell?, h]
theorem Rq.frozen (h : Rq B0 br w A n c bs err) (i : Nat) : w.frozen? ⟨br, i, none⟩ = false := by
  obtain ⟨t, h⟩ := h.blk
  simp [World.frozen?, h]
theorem Rq.upd {S : Nat → Prop} (h : Rq B0 br w A n c bs err) (hu : Upd S w w') (h1 : ¬ S br) (h2 : ∀ b, b < B0 → ¬ S b) : Rq B0 br w' A n c bs err :=
  ⟨let ⟨t, hb⟩ := h.blk; ⟨t, (hu.block br h.lt h1).trans hb⟩, h.by_.upd hu (fun a ha hn => h2 _ (h.old a ha hn)), h.old, h.le⟩
theorem Rq.fail (h : Rq B0 br w A n c bs err) (e : Nat) : Rq B0 br (w.setCell ⟨br, 1, none⟩ (.int .i64 (e : Int))) A n c bs e := by
  obtain ⟨t, hb⟩ := h.blk
  exact ⟨⟨t, by simp [World.setCell, Array.getElem?_modify, hb]⟩, h.by_.upd (Upd.setCell (S := fun b => b = br) (a := ⟨br, 1, none⟩) w _ rfl) (fun a ha hn e => by have := h.old a ha hn; have := h.le; omega), h.old, h.le⟩
theorem Rq.next (h : Rq B0 br w A n c bs err) {A' : Option Addr} {n' c' : Nat} {bs' : List Nat} (hb' : By w A' n' c' bs') (hn : ∀ a, A' = some a → 0 < n' → a.block < B0) : Rq B0 br (w.setCell ⟨br, 0, none⟩ (.slice A' n' c')) A' n' c' bs' err := by
  obtain ⟨t, hb⟩ := h.blk
  exact ⟨⟨t, by simp [World.setCell, Array.getElem?_modify, hb]⟩, hb'.upd (Upd.setCell (S := fun b => b = br) (a := ⟨br, 0, none⟩) w _ rfl) (fun a ha h0 e => by have := hn a ha h0; have := h.le; omega), hn, h.le⟩
end
theorem by_drop {w : World} {b off n c k : Nat} {bs : List Nat} (h : By w (some ⟨b, off, none⟩) n c bs) (hk : k ≤ n) (hn : 0 < n) : By w (some ⟨b, off + k, none⟩) (n - k) (c - k) (bs.drop k) := by
  obtain ⟨b', off', eA, hr⟩ := h.sl.row hn
  cases eA
  have hd := hr.drop k
  rw [← List.map_drop] at hd
  exact ⟨⟨by simp [h.len], by have := h.sl.le; omega, by have := h.sl.max; omega, fun _ => ⟨b, off + k, rfl, hd⟩, fun e => by cases e⟩, fun x hx => h.small x (List.mem_of_mem_drop hx)⟩
theorem by_take {w : World} {b off n c k : Nat} {bs : List Nat} (h : By w (some ⟨b, off, none⟩) n c bs) (hk : k ≤ n) (hn : 0 < n) : By w (some ⟨b, off, none⟩) k c (bs.take k) := by
  obtain ⟨b', off', eA, hr⟩ := h.sl.row hn
  cases eA
  have hd := hr.take k
  rw [← List.map_take] at hd
  exact ⟨⟨by simp [h.len]; omega, by have := h.sl.le; omega, h.sl.max, fun _ => ⟨b, off, rfl, hd⟩, fun e => by cases e⟩, fun x hx => h.small x (List.mem_of_mem_take hx)⟩
/-- what take leaves -/
def TookR (B0 br : Nat) (w : World) (k : Nat) (bs : List Nat) (err : Nat) (e : Ending) (w' : World) : Prop :=
  Upd (fun b => b = br) w w' ∧ (∃ A n c, Rq B0 br w' A n c (rb k bs err) (re k bs err) ∧ n ≤ 1073741824) ∧
    if rOk k bs err then ∃ A c, e = .returned (.slice A k c) ∧ By w' A k c (bs.take k) else e = .returned (.slice none 0 0)
set_option maxHeartbeats 4000000 in
set_option maxRecDepth 100000 in
theorem take_c {B0 br : Nat} {w : World} {A : Option Addr} {n c : Nat} {bs : List Nat} {err : Nat} (hR : Rq B0 br w A n c bs err) (k : Nat) (hk0 : 0 < k) (hn : n ≤ 1073741824) :
    Calls Tryz.prog 50 #[.pointer (some ⟨br, 0, none⟩), .int .i64 (k : Int)] w (TookR B0 br w k bs err) := by
  have hc0 := hR.cell0
  have hc1 := hR.cell1
  have hf0 := hR.frozen 0
  have hf1 := hR.frozen 1
  have hlen := hR.by_.len
  have HR := Lib.hid hR
  have HN := Lib.hid hn
  by_cases he : err = 0
  · subst he
    by_cases hkn : k ≤ n
    · obtain ⟨b, off, rfl, hb⟩ := hR.by_.addr (by omega)
      have hok : rOk k bs 0 = true := decide_eq_true ⟨rfl, by omega⟩
      have hle := hR.by_.sl.le
      have hmx := hR.by_.sl.max
      have hkc : k ≤ c := by omega
      have hgt : decide ((n : Int) < (k : Int)) = false := decide_eq_false (by omega)
      have hres : ∀ w' A' n' c', Rq B0 br w' A' n' c' (bs.drop k) 0 → n' ≤ 1073741824 → Upd (fun b => b = br) w w' → TookR B0 br w k bs 0 (.returned (.slice (some ⟨b, off, none⟩) k c)) w' := fun w' A' n' c' h1 h2 h3 => by
        unfold TookR rb re
        rw [hok]
        refine ⟨h3, ⟨A', n', c', h1, h2⟩, some ⟨b, off, none⟩, c, rfl, (by_take HR.out.by_ hkn (by omega)).upd h3 (fun a ha h0 e => ?_)⟩
        have := HR.out.old a ha (by omega); have := HR.out.le; omega
      have HRS := Lib.hid hres
      clear hR hres hn
      go_enter Tryz.func50, Tryz.ntmps50
      go_wp2
      all_goals (try go_region)
      all_goals (try go_wp2)
      all_goals go_ret
      · have hck : c = k := by omega
        have e0 : bs.drop k = [] := List.drop_eq_nil_of_le (by omega)
        have hz : n - k = 0 := by omega
        have hh := HRS.out _ (some ⟨b, off, none⟩) (n - k) 0 (HR.out.next (A' := some ⟨b, off, none⟩) (n' := n - k) (c' := 0) (by rw [e0, hz]; exact ⟨⟨by simp, Nat.le_refl _, Nat.zero_le _, fun h => absurd h (by omega), fun _ => rfl⟩, fun x hx => by cases hx⟩) (fun a ha h0 => absurd h0 (by omega))) (by omega) (Upd.setCell w _ rfl)
        rw [hck] at hh
        exact hh
      · exact HRS.out _ _ _ _ (HR.out.next (by_drop HR.out.by_ hkn (by omega)) (fun a ha h0 => by cases ha; exact HR.out.old ⟨b, off, none⟩ rfl (by omega))) (by have := HN.out; omega) (Upd.setCell w _ rfl)
    · have hok : rOk k bs 0 = false := decide_eq_false (fun h => hkn (by have := h.2; omega))
      have hgt : decide ((n : Int) < (k : Int)) = true := decide_eq_true (by omega)
      have hres : TookR B0 br w k bs 0 (.returned (.slice none 0 0)) (w.setCell ⟨br, 1, none⟩ (.int .i64 40)) := by
        unfold TookR rb re
        rw [hok]
        exact ⟨Upd.setCell w _ rfl, ⟨A, n, c, HR.out.fail 40, HN.out⟩, rfl⟩
      have HRS := Lib.hid hres
      clear hR hres hn
      go_enter Tryz.func50, Tryz.ntmps50
      go_wp2
      all_goals (try go_region)
      all_goals (try go_wp2)
      all_goals go_ret
      all_goals exact HRS.out
  · have hok : rOk k bs err = false := decide_eq_false (fun h => he h.1)
    have hb : (((err : Nat) : Int) == 0) = false := by rw [beq_eq_false_iff_ne]; omega
    have hb2 : (((err : Nat) : Int) != 0) = true := by rw [bne_iff_ne]; omega
    have hres : TookR B0 br w k bs err (.returned (.slice none 0 0)) w := by
      unfold TookR rb re
      rw [hok, if_neg he]
      exact ⟨Upd.refl _ _, ⟨A, n, c, HR.out, HN.out⟩, rfl⟩
    have HRS := Lib.hid hres
    clear hR hres hn
    go_enter Tryz.func50, Tryz.ntmps50
    go_wp2
    all_goals (try go_region)
    all_goals (try go_wp2)
    all_goals go_ret
    all_goals exact HRS.out
/-- the Reader's state after a number -/
def TakenR (B0 br : Nat) (w : World) (k : Nat) (bs : List Nat) (err : Nat) (e : Ending) (w' : World) : Prop :=
  e = .returned (.int .u64 (rv k bs err : Int)) ∧ Upd (fun b => b = br) w w' ∧ ∃ A n c, Rq B0 br w' A n c (rb k bs err) (re k bs err) ∧ n ≤ 1073741824
theorem Rq.drewN {B0 br : Nat} {w : World} {A : Option Addr} {n c : Nat} {bs : List Nat} {err : Nat} (h : Rq B0 br w A n c bs err) (m : Nat) : Rq B0 br (w.drewN m) A n c bs err := ⟨h.blk, ⟨h.by_.sl.drewN m, h.by_.small⟩, h.old, h.le⟩
set_option maxHeartbeats 4000000 in
set_option maxRecDepth 100000 in
theorem num_c {B0 br : Nat} {w : World} {A : Option Addr} {n c : Nat} {bs : List Nat} {err : Nat} (hR : Rq B0 br w A n c bs err) (k : Nat) (hk0 : 0 < k) (hk : k ≤ 8) (hn : n ≤ 1073741824) :
    Calls Tryz.prog 27 #[.pointer (some ⟨br, 0, none⟩), .int .i64 (k : Int)] w (TakenR B0 br w k bs err) := by
  have hlen := hR.by_.len
  have P := Lib.hid (take_c hR k hk0 hn)
  by_cases ho : rOk k bs err = true
  · have hrv : rv k bs err = num (bs.take k) := by unfold rv; rw [ho]; rfl
    unfold TookR at P
    simp only [ho, if_true] at P
    unfold TakenR
    rw [hrv]
    have hkl : (bs.take k).length = k := by
      have := of_decide_eq_true ho
      rw [List.length_take]; omega
    have hkm : (k : Int) ≤ 8 := by omega
    obtain ⟨l, hl⟩ : ∃ l, l = bs.take k := ⟨_, rfl⟩
    rw [← hl] at P hkl ⊢
    have HL := Lib.hid hl; have HKL := Lib.hid hkl
    clear hl hkl hR hrv hn
    go_enter Tryz.func27, Tryz.ntmps27
    go_wp2_with (go_at_call 50; refine P.out.mono ?_; rintro e w1 ⟨hu, hq, A1, c1, rfl, hby⟩; have HU := Lib.hid hu; have HQ := Lib.hid hq; have HBY := Lib.hid hby; clear hu hq hby)
    obtain ⟨b, off, rfl, hb⟩ := HBY.out.addr (by omega)
    have hkc := HBY.out.sl.le
    have hmc := HBY.out.sl.max
    clear hb
    go_loopw [6, 7] (fun x i wr => ∃ j : Nat, j ≤ k ∧ i = .int .i64 (j : Int) ∧ x = .int .u64 (num (l.take j) : Int) ∧ Hid (∃ q, wr = w1.drewN q)) (fun x i _ => (k - (intOf i).toNat))
    case atStart => exact ⟨0, Nat.zero_le _, rfl, rfl, Lib.hid ⟨0, rfl⟩⟩
    case round =>
      obtain ⟨j, hj, rfl, rfl, hq⟩ := hrel
      by_cases hjk : j < k
      · obtain ⟨v, hv⟩ : ∃ v, v = l[j]'(by rw [HKL.out]; exact hjk) := ⟨_, rfl⟩
        have hcj : wr.cell? ⟨b, off + j, none⟩ = some (.int .u8 (v : Int)) := by
          obtain ⟨q, rfl⟩ := hq.out
          rw [hv]; exact HBY.out.cell rfl j (by rw [HKL.out]; exact hjk)
        have HV := Lib.hid hv
        clear hv
        obtain ⟨X, hX⟩ : ∃ X, X = num (l.take j) := ⟨_, rfl⟩
        rw [← hX]
        have HXX := Lib.hid hX
        clear hX
        go_wp2
        have hvb : v < 256 := by rw [HV.out]; exact HBY.out.small _ (List.getElem_mem _)
        have hXb : X < 72057594037927936 := by
          rw [HXX.out]
          have h1 := num_lt j (l.take j) (by rw [List.length_take, HKL.out]; omega) (fun x hx => HBY.out.small x (List.mem_of_mem_take hx))
          have h2 : 256 ^ j ≤ 256 ^ 7 := Nat.pow_le_pow_right (by decide) (by omega)
          omega
        refine ⟨⟨j + 1, by omega, by congr 1, ?_, hq⟩, by simp [intOf]; omega⟩
        rw [or_bytes hXb hvb, HV.out, HXX.out, ← num_snoc]
        congr 3
        rw [List.take_succ_eq_append_getElem (by rw [HKL.out]; exact hjk)]
      · go_wp2
        obtain rfl : j = k := by omega
        go_ret
        obtain ⟨q, rfl⟩ := hq.out
        obtain ⟨A2, n2, c2, h2, h3⟩ := HQ.out
        refine ⟨?_, HU.out.drewN q, A2, n2, c2, h2.drewN q, h3⟩
        have e1 : l.take j = l := List.take_of_length_le (by rw [HKL.out]; exact Nat.le_refl _)
        rw [e1]
        rfl
  · have hof : rOk k bs err = false := by simpa using ho
    have hrv : ((rv k bs err : Nat) : Int) = 0 := by unfold rv; rw [hof]; rfl
    unfold TookR at P
    simp only [hof, Bool.false_eq_true, if_false] at P
    unfold TakenR
    rw [hrv]
    clear hR hrv hn ho hof
    go_enter Tryz.func27, Tryz.ntmps27
    go_wp2_with (go_at_call 50; refine P.out.mono ?_; rintro e w1 ⟨hu, hq, rfl⟩; have HU := Lib.hid hu; have HQ := Lib.hid hq; clear hu hq)
    go_loopw [6, 7] (fun x i wr => x = .int .u64 0 ∧ i = .int .i64 0 ∧ wr = w1) (fun x i _ => 0)
    case atStart => exact ⟨rfl, rfl, rfl⟩
    case round =>
      obtain ⟨rfl, rfl, rfl⟩ := hrel
      go_wp2
      go_ret
      exact ⟨rfl, HU.out, HQ.out⟩
theorem endR_c {B0 br : Nat} {w : World} {A : Option Addr} {n c : Nat} {bs : List Nat} {err : Nat} (hR : Rq B0 br w A n c bs err) :
    Calls Tryz.prog 29 #[.pointer (some ⟨br, 0, none⟩)] w fun e w' => e = .returned (.int .i64 ((if err = 0 ∧ 0 < n then 43 else err : Nat) : Int)) ∧ Upd (fun b => b = br) w w' := by
  have hc0 := hR.cell0
  have hc1 := hR.cell1
  have hf1 := hR.frozen 1
  have hd1 : (w.setCell ⟨br, 1, none⟩ (.int .i64 43)).cell? ⟨br, 1, none⟩ = some (.int .i64 43) := (hR.fail 43).cell1
  by_cases h0 : err = 0
  · subst h0
    by_cases hn : 0 < n
    · rw [if_pos ⟨rfl, hn⟩]
      go_enter Tryz.func29, Tryz.ntmps29
      go_wp2
      all_goals (try go_region)
      all_goals (try go_wp2)
      all_goals go_ret
      all_goals exact ⟨rfl, Upd.setCell w _ rfl⟩
    · rw [if_neg (fun h => hn h.2)]
      go_enter Tryz.func29, Tryz.ntmps29
      go_wp2
      all_goals go_ret
      all_goals exact ⟨rfl, Upd.refl _ _⟩
  · rw [if_neg (fun h => h0 h.1)]
    have hb : (((err : Nat) : Int) == 0) = false := by rw [beq_eq_false_iff_ne]; omega
    go_enter Tryz.func29, Tryz.ntmps29
    go_wp2
    all_goals go_ret
    all_goals exact ⟨rfl, Upd.refl _ _⟩
theorem ends_c {B0 br : Nat} {w : World} {A : Option Addr} {n c : Nat} {bs : List Nat} {err : Nat} (hR : Rq B0 br w A n c bs err) :
    Calls Tryz.prog 51 #[.pointer (some ⟨br, 0, none⟩)] w fun e w' => e = .returned (.int .i64 ((if err = 0 ∧ n = 0 then 0 else 80 : Nat) : Int)) ∧ Upd (fun b => b = br) w w' := by
  have P := Lib.hid (endR_c hR)
  by_cases h0 : err = 0 ∧ n = 0
  · rw [if_pos h0]
    rw [if_neg (fun h => by omega), h0.1] at P
    go_enter Tryz.func51, Tryz.ntmps51
    go_wp2_with (go_at_call 29; refine P.out.mono ?_; rintro e w1 ⟨rfl, hu⟩)
    all_goals go_ret
    all_goals exact ⟨rfl, hu⟩
  · rw [if_neg h0]
    obtain ⟨q, hq⟩ : ∃ q, q = (if err = 0 ∧ 0 < n then 43 else err) := ⟨_, rfl⟩
    have hq0 : q ≠ 0 := by
      rw [hq]; split
      · decide
      · intro h; apply h0; refine ⟨h, ?_⟩; rename_i hh; by_cases h2 : 0 < n
        · exact absurd ⟨h, h2⟩ hh
        · omega
    rw [← hq] at P
    have hb : (((q : Nat) : Int) != 0) = true := by rw [bne_iff_ne]; omega
    clear hq
    go_enter Tryz.func51, Tryz.ntmps51
    go_wp2_with (go_at_call 29; refine P.out.mono ?_; rintro e w1 ⟨rfl, hu⟩)
    all_goals go_ret
    all_goals exact ⟨rfl, hu⟩
end Go.Proofs.YtjfmbamiampjmaaGreat
