/- A part of the proof of the statement of this seat: no condition. -/
import Derived.Test.YtjfmbamiampjmaaGreatLC
set_option linter.unusedVariables false
set_option linter.unusedSimpArgs false
namespace Go.Proofs.YtjfmbamiampjmaaGreat
open Go Go.RowKit Go.Proofs Gl
/-- The reference's Put: k bytes more behind a row of its own. -/
def PutS (base : Nat) (w : World) (A : Option Addr) (n c : Nat) (bs : List Nat) (k : Nat) (news : List Nat) (e : Ending) (w' : World) : Prop :=
  ∃ A' c', e = .returned (.slice A' (n + k) c') ∧ w'.ownsRow base 5 1 (.slice A' (n + k) c') (n + k) ((bs ++ news).map u8) ∧ Upd (fun b => (Value.slice A n c).ownBlock = some b) w w' ∧
    ((Value.slice A' (n + k) c').ownBlock = (Value.slice A n c).ownBlock ∨ ∃ g, (Value.slice A' (n + k) c').ownBlock = some g ∧ w.heap.size ≤ g)
set_option maxHeartbeats 2000000 in
set_option maxRecDepth 100000 in
theorem put_c {base : Nat} {w : World} {A : Option Addr} {n c : Nat} {bs : List Nat} (h : w.ownsRow base 5 1 (.slice A n c) n (bs.map u8)) (x k : Nat) (hx : x < 18446744073709551616) (hk : k ≤ 8) (hn : n + 8 ≤ 1073741824) (hbase : base ≤ w.heap.size) :
    Calls Tryz.prog 33 #[.slice A n c, .int .i64 (k : Int), .int .u64 (x : Int)] w (PutS base w A n c bs k (be k x)) := by
  obtain ⟨i0, hi0, hz0, hz1, hz2⟩ := info_parts info5
  have H := Lib.hid h
  have HX := Lib.hid hx; have HN := Lib.hid hn; have HB := Lib.hid hbase
  clear hx hn hbase h
  go_enter Tryz.func33, Tryz.ntmps33
  go_wp2
  go_loopw [0, 7] (fun b i wr => ∃ (j : Nat) (A1 : Option Addr) (c1 : Nat), j ≤ k ∧ i = .int .i64 ((j : Int) - 1) ∧ b = .slice A1 (n + (k - j)) c1 ∧ Hid (wr.ownsRow base 5 1 (.slice A1 (n + (k - j)) c1) (n + (k - j)) ((bs ++ (be k x).take (k - j)).map u8) ∧ Upd (fun b => (Value.slice A n c).ownBlock = some b) w wr ∧
      ((Value.slice A1 (n + (k - j)) c1).ownBlock = (Value.slice A n c).ownBlock ∨ ∃ g, (Value.slice A1 (n + (k - j)) c1).ownBlock = some g ∧ w.heap.size ≤ g))) (fun _ i _ => (intOf i + 1).toNat)
  case atStart => exact ⟨k, A, c, Nat.le_refl _, rfl, by simp, Lib.hid (by rw [Nat.sub_self]; exact ⟨by simpa using H.out, Upd.refl _ _, .inl rfl⟩)⟩
  case round =>
    obtain ⟨j, A1, c1, hj, rfl, rfl, hI⟩ := hrel
    by_cases h0 : 0 < j
    · have hge : (0 : Int) ≤ (j : Int) - 1 := by omega
      have hz8 : ((x : Int) / 2 ^ (8 * (j - 1)) % 256) = ((x / 2 ^ (8 * (j - 1)) % 256 : Nat) : Int) := by push_cast; rfl
      have HZ8 := Lib.hid hz8; clear hz8
      have Hown : (wr.alloc (.cells #[.int .u8 ((x : Int) / 2 ^ (8 * (j - 1)) % 256)] 5)).ownsRow base 5 1 (.slice A1 (n + (k - j)) c1) (n + (k - j)) ((bs ++ (be k x).take (k - j)).map u8) := ownsRow_alloc hI.out.1 _ rfl
      have Hsrc : Gl.Src (wr.alloc (.cells #[.int .u8 ((x : Int) / 2 ^ (8 * (j - 1)) % 256)] 5)) (some ⟨wr.heap.size, 0, none⟩) 1 [.int .u8 ((x : Int) / 2 ^ (8 * (j - 1)) % 256)] := fun _ => ⟨_, _, rfl, fun i u hu => by
        refine cells_at (t := 5) (cs := #[.int .u8 ((x : Int) / 2 ^ (8 * (j - 1)) % 256)]) (Ex.alloc_new wr _) _ u ?_
        rw [Nat.zero_add]; simpa using hu⟩
      have HOWN := Lib.hid Hown; have HSRC := Lib.hid Hsrc
      have hbw : base ≤ (wr.alloc (.cells #[.int .u8 ((x : Int) / 2 ^ (8 * (j - 1)) % 256)] 5)).heap.size := by
        have := HB.out; have := hI.out.2.1.size; show _ ≤ (wr.heap.push _).size; simp; omega
      have HBW := Lib.hid hbw
      have hlen : ((bs ++ (be k x).take (k - j)).map u8).length = n + (k - j) := by rw [hI.out.1.1, Nat.mul_one]
      have HLEN := Lib.hid hlen
      clear Hown Hsrc hbw hlen
      go_wp2_with (at_builtin
                   refine wpList_append_src _ rfl _ _ _ rfl base 5 i0 _ 1 1 Tryz.underlying29 hi0 hz0 hz1 hz2 rfl (by omega) (.slice A1 (n + (k - j)) c1) (n + (k - j)) ((bs ++ (be k x).take (k - j)).map u8) rfl HOWN.out _ 1 1 [.int .u8 ((x : Int) / 2 ^ (8 * (j - 1)) % 256)] rfl rfl HSRC.out (by simp [Value.oneCell']) (by have := HN.out; simp only [maxLen]; omega) (by have := HN.out; omega) HBW.out ?_
                   intro A2 c2 w2 hown2 hg2 hat2)
      refine ⟨⟨j - 1, A2, c2, by omega, by congr 1; omega, ?_, Lib.hid ?_⟩, by simp [intOf]; omega⟩
      · rw [show n + (k - j) + 1 = n + (k - (j - 1)) by omega]
      · have hlen2 : n + (k - j) + 1 = n + (k - (j - 1)) := by omega
        have hu2 : Upd (fun b => (Value.slice A1 (n + (k - j)) c1).ownBlock = some b) wr w2 := (Upd.alloc _ _ _).trans (Upd.of_grown hg2 (fun c hc => hc))
        have hat3 : (Value.slice A2 (n + (k - j) + 1) c2).ownBlock = (Value.slice A1 (n + (k - j)) c1).ownBlock ∨ ∃ g, (Value.slice A2 (n + (k - j) + 1) c2).ownBlock = some g ∧ wr.heap.size ≤ g := hat2.imp id (fun e => ⟨_, e, by show wr.heap.size ≤ (wr.heap.push _).size; simp⟩)
        have hown3 : w2.ownsRow base 5 1 (.slice A2 (n + (k - j) + 1) c2) (n + (k - j) + 1) ((bs ++ (be k x).take (k - (j - 1))).map u8) := by
          rw [← be_take h0 hj, ← List.append_assoc, List.map_append]
          rw [show ([x / 2 ^ (8 * (j - 1)) % 256].map u8) = [.int .u8 ((x : Int) / 2 ^ (8 * (j - 1)) % 256)] by rw [HZ8.out]; rfl]
          exact hown2
        rw [← hlen2]
        refine ⟨hown3, hI.out.2.1.then hu2 (fun b hb e => ?_), ?_⟩
        · rcases hI.out.2.2 with e1 | ⟨g, e1, hg⟩
          · exact e1 ▸ e
          · rw [e1] at e; cases e; omega
        · rcases hat3 with e | ⟨g, e, hg⟩
          · rw [e]; exact hI.out.2.2
          · exact .inr ⟨g, e, Nat.le_trans hI.out.2.1.size hg⟩
    · obtain rfl : j = 0 := by omega
      go_wp2
      go_ret
      have h1 := hI.out
      rw [Nat.sub_zero, List.take_of_length_le (by rw [be_length]; omega)] at h1
      exact ⟨A1, c1, rfl, h1.1, h1.2.1, h1.2.2⟩
end Go.Proofs.YtjfmbamiampjmaaGreat
