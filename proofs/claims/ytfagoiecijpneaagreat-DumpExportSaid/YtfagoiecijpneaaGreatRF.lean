/- A part of the proof of the statement of this seat: no condition. -/
import Derived.Test.YtfagoiecijpneaaGreatPB
import Derived.Test.YtfagoiecijpneaaGreatPA
import Derived.Deep.RegionHeld
set_option linter.unusedVariables false
set_option linter.unusedSimpArgs false
section
namespace Go.Proofs.YtfagoiecijpneaaGreat
open Go Go.RowKit Go.Proofs Gl
/-- The reference's Put: k bytes more behind a row of its own. -/
def PutR (base : Nat) (w : World) (A : Option Addr) (n c : Nat) (bs : List Nat) (k : Nat) (news : List Nat) (e : Ending) (w' : World) : Prop :=
  ∃ A' c', e = .returned (.slice A' (n + k) c') ∧ w'.ownsRow base 5 1 (.slice A' (n + k) c') (n + k) ((bs ++ news).map u8) ∧ Upd (fun b => (Value.slice A n c).ownBlock = some b) w w' ∧
    ((Value.slice A' (n + k) c').ownBlock = (Value.slice A n c).ownBlock ∨ ∃ g, (Value.slice A' (n + k) c').ownBlock = some g ∧ w.heap.size ≤ g)
set_option maxHeartbeats 2000000 in
set_option maxRecDepth 100000 in
theorem put_c {base : Nat} {w : World} {A : Option Addr} {n c : Nat} {bs : List Nat} (h : w.ownsRow base 5 1 (.slice A n c) n (bs.map u8)) (x k : Nat) (hx : x < 18446744073709551616) (hk : k ≤ 8) (hn : n + 8 ≤ 1073741824) (hbase : base ≤ w.heap.size) :
    Calls Tryz.prog 22 #[.slice A n c, .int .i64 (k : Int), .int .u64 (x : Int)] w (PutR base w A n c bs k (be k x)) := by
  obtain ⟨i0, hi0, hz0, hz1, hz2⟩ := info_parts info5
  have H := Lib.hid h
  have HX := Lib.hid hx; have HN := Lib.hid hn; have HB := Lib.hid hbase
  clear hx hn hbase h
  go_enter Tryz.func22, Tryz.ntmps22
  go_wp2
  go_loopw [0, 7] (fun b i wr => ∃ (j : Nat) (A1 : Option Addr) (c1 : Nat), j ≤ k ∧ i = .int .i64 ((j : Int) - 1) ∧ b = .slice A1 (n + (k - j)) c1 ∧ Hid (wr.ownsRow base 5 1 (.slice A1 (n + (k - j)) c1) (n + (k - j)) ((bs ++ (be k x).take (k - j)).map u8) ∧ Upd (fun b => (Value.slice A n c).ownBlock = some b) w wr ∧
      ((Value.slice A1 (n + (k - j)) c1).ownBlock = (Value.slice A n c).ownBlock ∨ ∃ g, (Value.slice A1 (n + (k - j)) c1).ownBlock = some g ∧ w.heap.size ≤ g))) (fun _ i _ => (intOf i + 1).toNat)
  case atStart => exact ⟨k, A, c, Nat.le_refl _, rfl, by simp, Lib.hid (by rw [Nat.sub_self]; exact ⟨by simpa using H.out, Upd.refl _ _, .inl rfl⟩)⟩
  case round =>
    obtain ⟨j, A1, c1, hj, rfl, rfl, hI⟩ := hrel
    by_cases h0 : 0 < j
    · have hge : (0 : Int) ≤ (j : Int) - 1 := by omega
      have hz8 : ((x : Int) / 2 ^ (8 * (j - 1)) % 256) = ((x / 2 ^ (8 * (j - 1)) % 256 : Nat) : Int) := by push_cast; rfl
      have HZ8 := Lib.hid hz8; clear hz8
      have Hown : (wr.alloc (.cells #[.int .u8 ((x : Int) / 2 ^ (8 * (j - 1)) % 256)] 5)).ownsRow base 5 1 (.slice A1 (n + (k - j)) c1) (n + (k - j)) ((bs ++ (be k x).take (k - j)).map u8) := ownsRow_alloc hI.out.1 _ rfl
      have Hsrc : Gl.Src (wr.alloc (.cells #[.int .u8 ((x : Int) / 2 ^ (8 * (j - 1)) % 256)] 5)) (some ⟨wr.heap.size, 0, none⟩) 1 [.int .u8 ((x : Int) / 2 ^ (8 * (j - 1)) % 256)] := fun _ => ⟨_, _, rfl, fun i u hu => by
        refine cell_of (Ex.alloc_new wr _) (0 + i) u ?_
        rw [Nat.zero_add]; simpa using hu⟩
      have HOWN := Lib.hid Hown; have HSRC := Lib.hid Hsrc
      have hbw : base ≤ (wr.alloc (.cells #[.int .u8 ((x : Int) / 2 ^ (8 * (j - 1)) % 256)] 5)).heap.size := by
        have := HB.out; have := hI.out.2.1.size; show _ ≤ (wr.heap.push _).size; simp; omega
      have HBW := Lib.hid hbw
      have hlen : ((bs ++ (be k x).take (k - j)).map u8).length = n + (k - j) := by rw [hI.out.1.1, Nat.mul_one]
      have HLEN := Lib.hid hlen
      clear Hown Hsrc hbw hlen
      go_wp2_with (at_builtin
                   refine wpList_append_src _ rfl _ _ _ rfl base 5 i0 _ 1 1 Tryz.underlying28 hi0 hz0 hz1 hz2 rfl (by omega) (.slice A1 (n + (k - j)) c1) (n + (k - j)) ((bs ++ (be k x).take (k - j)).map u8) rfl HOWN.out _ 1 1 [.int .u8 ((x : Int) / 2 ^ (8 * (j - 1)) % 256)] rfl rfl HSRC.out (by simp [Value.oneCell']) (by have := HN.out; simp only [maxLen]; omega) (by have := HN.out; omega) HBW.out ?_
                   intro A2 c2 w2 hown2 hg2 hat2)
      refine ⟨⟨j - 1, A2, c2, by omega, by congr 1; omega, ?_, Lib.hid ?_⟩, by simp [intOf]; omega⟩
      · rw [show n + (k - j) + 1 = n + (k - (j - 1)) by omega]
      · have hlen2 : n + (k - j) + 1 = n + (k - (j - 1)) := by omega
        have hu2 : Upd (fun b => (Value.slice A1 (n + (k - j)) c1).ownBlock = some b) wr w2 := (Upd.alloc _ _ _).trans (Upd.of_grown hg2 (fun c hc => hc))
        have hat3 : (Value.slice A2 (n + (k - j) + 1) c2).ownBlock = (Value.slice A1 (n + (k - j)) c1).ownBlock ∨ ∃ g, (Value.slice A2 (n + (k - j) + 1) c2).ownBlock = some g ∧ wr.heap.size ≤ g := hat2.imp id (fun e => ⟨_, e, by show wr.heap.size ≤ (wr.heap.push _).size; simp⟩)
        have hown3 : w2.ownsRow base 5 1 (.slice A2 (n + (k - j) + 1) c2) (n + (k - j) + 1) ((bs ++ (be k x).take (k - (j - 1))).map u8) := by
          rw [← be_take h0 hj, ← List.append_assoc, List.map_append]
          rw [show ([x / 2 ^ (8 * (j - 1)) % 256].map u8) = [.int .u8 ((x : Int) / 2 ^ (8 * (j - 1)) % 256)] by rw [HZ8.out]; rfl]
          exact hown2
        rw [← hlen2]
        refine ⟨hown3, hI.out.2.1.then hu2 (fun b hb e => ?_), ?_⟩
        · rcases hI.out.2.2 with e1 | ⟨g, e1, hg⟩
          · exact e1 ▸ e
          · rw [e1] at e; cases e; omega
        · rcases hat3 with e | ⟨g, e, hg⟩
          · rw [e]; exact hI.out.2.2
          · exact .inr ⟨g, e, Nat.le_trans hI.out.2.1.size hg⟩
    · obtain rfl : j = 0 := by omega
      go_wp2
      go_ret
      have h1 := hI.out
      rw [Nat.sub_zero, List.take_of_length_le (by rw [be_length]; omega)] at h1
      exact ⟨A1, c1, rfl, h1.1, h1.2.1, h1.2.2⟩
end Go.Proofs.YtfagoiecijpneaaGreat
end
section
namespace Go.Proofs.YtfagoiecijpneaaGreat
open Go Go.RowKit Go.Proofs Gl
set_option maxHeartbeats 2000000 in
set_option maxRecDepth 100000 in
theorem refraw_c {base : Nat} {w : World} {A : Option Addr} {n c : Nat} {bs : List Nat} (h : w.ownsRow base 5 1 (.slice A n c) n (bs.map u8)) {A2 : Option Addr} {m d : Nat} {xs : List Nat} (hx : By w A2 m d xs) (hne : ∀ a, A2 = some a → 0 < m → (Value.slice A n c).ownBlock ≠ some a.block) (hn : n + m + 8 ≤ 1073741824) (hbase : base ≤ w.heap.size) :
    Calls Tryz.prog 23 #[.slice A n c, .slice A2 m d] w (PutR base w A n c bs (4 + m) (rawB xs)) := by
  obtain ⟨i0, hi0, hz0, hz1, hz2⟩ := info_parts info5
  have hm1 : m ≤ 1073741824 := by omega
  have hl := hx.len
  have hbn : bs.length = n := by have := h.1; simpa using this
  have hput := put_c h m 4 (by omega) (by omega) (by omega) hbase
  have hsrc : ∀ w1, Upd (fun b => (Value.slice A n c).ownBlock = some b) w w1 → Src w1 A2 m (xs.map u8) := fun w1 hu => Src.of_sl (hx.upd hu (fun a ha h0 h => hne a ha h0 h)).sl
  have hz : ((m : Int) % 18446744073709551616) = (m : Int) := by omega
  have HP := Lib.hid hput; have HS := Lib.hid hsrc; have HL := Lib.hid hl; have HB := Lib.hid hbase; have HN := Lib.hid hn; have HM := Lib.hid hm1; have HBN := Lib.hid hbn
  clear hput hsrc h hx hne hl hbase hn hbn
  go_enter Tryz.func23, Tryz.ntmps23
  go_wp2_with (first
    | (go_at_call 22; refine HP.out.mono ?_; rintro e w1 ⟨A1, c1, rfl, h1, hu1, hf1⟩; have H1 := Lib.hid (And.intro h1 (And.intro hu1 hf1)); have hB1 := Nat.le_trans HB.out hu1.size; have hB1' := Lib.hid hB1; clear h1 hu1 hf1 hB1)
    | (at_builtin
       refine wpList_append_src _ rfl _ _ _ rfl base 5 i0 _ 1 1 Tryz.underlying28 hi0 hz0 hz1 hz2 rfl (by omega) (.slice A1 (n + 4) c1) (n + 4) ((bs ++ be 4 m).map u8) rfl H1.out.1 _ _ _ (xs.map u8) rfl (by simp [HL.out]) (HS.out _ H1.out.2.1) (oneCell_u8 _) (by have := HN.out; simp only [maxLen]; omega) (by have := HN.out; omega) hB1'.out ?_
       intro A3 c3 w3 hown3 hg3 hat3
       have HQ := Lib.hid (And.intro hown3 (And.intro hg3 hat3)); clear hown3 hg3 hat3))
  go_ret
  obtain ⟨hown1, hu1, hf1⟩ := H1.out
  obtain ⟨hown3, hg3, hat3⟩ := HQ.out
  have hu3 : Upd (fun b => (Value.slice A1 (n + 4) c1).ownBlock = some b) w1 w3 := Upd.of_grown hg3 (fun c hc => hc)
  refine ⟨A3, c3, by rw [← Nat.add_assoc]; rfl, ?_, hu1.then hu3 (fun b hb e => ?_), ?_⟩
  · rw [show bs ++ rawB xs = (bs ++ be 4 m) ++ xs by rw [rawB, HL.out, List.append_assoc], List.map_append, ← Nat.add_assoc]; exact hown3
  · rcases hf1 with e1 | ⟨g, e1, hg⟩
    · exact e1 ▸ e
    · rw [e1] at e; injection e with e; omega
  · rw [← Nat.add_assoc]
    rcases hat3 with e | e
    · rw [e]; exact hf1
    · exact .inr ⟨_, e, hu1.size⟩
end Go.Proofs.YtfagoiecijpneaaGreat
end
section
namespace Go.Proofs.YtfagoiecijpneaaGreat
open Go Go.RowKit Go.Proofs Gl
/-- bytes in a row of one's own, all else as it was -/
structure Mn (w0 w : World) (A : Option Addr) (n c : Nat) (bs : List Nat) : Prop where
  own : w.ownsRow w0.heap.size 5 1 (.slice A n c) n (bs.map u8)
  new : New w0 w
  far : ∀ g, (Value.slice A n c).ownBlock = some g → w0.heap.size ≤ g
section
variable {w0 w w' : World} {A : Option Addr} {n c : Nat} {bs : List Nat}
theorem Mn.start (w : World) : Mn w w none 0 0 [] := ⟨World.ownsRow_nil _ _ _ _, Upd.refl _ _, fun g h => by cases h⟩
theorem Mn.fresh (h : Mn w0 w A n c bs) (hu : New w w') : Mn w0 w' A n c bs := ⟨ownsRow_keep h.own (fun b hb hl => hu.block b hl id), h.new.trans hu, h.far⟩
theorem Mn.drew (h : Mn w0 w A n c bs) : Mn w0 w.drew A n c bs := h.fresh (Upd.refl _ w).drew
theorem Mn.then {A' : Option Addr} {k c' : Nat} {news : List Nat} {e : Ending} (h : Mn w0 w A n c bs) (hp : PutR w0.heap.size w A n c bs k news e w') : ∃ A' c', e = .returned (.slice A' (n + k) c') ∧ Mn w0 w' A' (n + k) c' (bs ++ news) := by
  obtain ⟨A', c', he, ho, hu, hf⟩ := hp
  refine ⟨A', c', he, ho, h.new.then hu (fun b hb e => ?_), fun g hg => ?_⟩
  · have := h.far b e; omega
  · rcases hf with e | ⟨g', e, hg'⟩
    · exact h.far g (e ▸ hg)
    · rw [e] at hg; cases hg; exact Nat.le_trans h.new.size hg'
theorem Mn.put (h : Mn w0 w A n c bs) (x k : Nat) (hx : x < 18446744073709551616) (hk : k ≤ 8) (hn : n + 8 ≤ 1073741824) :
    Calls Tryz.prog 22 #[.slice A n c, .int .i64 (k : Int), .int .u64 (x : Int)] w fun e w' => ∃ A' c', e = .returned (.slice A' (n + k) c') ∧ Mn w0 w' A' (n + k) c' (bs ++ be k x) :=
  (put_c h.own x k hx hk hn h.new.size).mono fun e w' hp => h.then (A' := none) (c' := 0) hp
theorem Mn.bv (h : Mn w0 w A n c bs) {v : Value} {xs : List Nat} (hx : BV (fun b => b < w0.heap.size) w0 v xs) : BV (fun b => b < w0.heap.size) w v xs := hx.upd h.new (fun b hb => id)
theorem Mn.raw (h : Mn w0 w A n c bs) {A2 : Option Addr} {m d : Nat} {xs : List Nat} (hx : BV (fun b => b < w0.heap.size) w0 (.slice A2 m d) xs) (hn : n + m + 8 ≤ 1073741824) :
    Calls Tryz.prog 23 #[.slice A n c, .slice A2 m d] w fun e w' => ∃ A' c', e = .returned (.slice A' (n + (4 + m)) c') ∧ Mn w0 w' A' (n + (4 + m)) c' (bs ++ rawB xs) := by
  obtain ⟨A3, m3, d3, e, hb, hd⟩ := h.bv hx
  cases e
  exact (refraw_c h.own hb (fun a ha h0 e => by have h1 := h.far _ e; have h2 := hd a ha h0; omega) hn h.new.size).mono fun e w' hp => h.then (A' := none) (c' := 0) hp
theorem Mn.by_ (h : Mn w0 w A n c bs) (hs : Small bs) : By w A n c bs := By.of_own h.own hs
end
/-- the bytes of entries, or that they are too many -/
def Exported (L : List Ent) (e : Ending) (w' : World) : Prop := (8 + (dumpB L).length ≤ 4194304 ∧ ∃ A' N c', e = .returned (.tuple #[.slice A' N c', .int .i64 0]) ∧ By w' A' N c' (be 4 1196183108 ++ be 4 L.length ++ dumpB L)) ∨ (4194304 < 8 + (dumpB L).length ∧ e = .returned (.tuple #[.slice none 0 0, .int .i64 221]))
set_option maxHeartbeats 4000000 in
set_option maxRecDepth 100000 in
theorem refexport_c {w : World} {A : Option Addr} {n c : Nat} {cells : List Value} {L : List Ent} (hs : Sl 2 w A n c cells) (hn : n = L.length) (he : EntsAt (fun b => b < w.heap.size) w cells L) (hn4 : n ≤ 1000000) (hsz : (dumpB L).length ≤ 1000000000) (hsm : ∀ e ∈ L, Small e.1 ∧ Small e.2) :
    Calls Tryz.prog 9 #[.slice A n c] w fun e w' => Exported L e w' ∧ New w w' := by
  have hcn : c ≤ maxLen ∧ n ≤ c := ⟨hs.max, hs.le⟩
  have h22 := (Mn.start w).put 1196183108 4 (by omega) (by omega) (by omega)
  have hnw : ((n : Int) % 18446744073709551616) = (n : Int) := by omega
  have HS := Lib.hid hs; have HE := Lib.hid he; have HSZ := Lib.hid hsz; have HSM := Lib.hid hsm; have HN := Lib.hid hn; have HP := Lib.hid h22
  clear hs he hsz hsm h22 hn
  go_enter Tryz.func9, Tryz.ntmps9
  go_wp2_with (first
    | (go_at_call 22; refine HP.out.mono ?_; rintro e w1 ⟨A1, c1, rfl, h1⟩; clear HP; have H2 := Lib.hid (h1.put n 4 (by omega) (by omega) (by omega)); clear h1)
    | (go_at_call 22; refine H2.out.mono ?_; rintro e w2 ⟨A2, c2, rfl, h2⟩; clear H2; have HM := Lib.hid h2; clear h2))
  obtain ⟨hd, hhd⟩ : ∃ hd, hd = ([] ++ be 4 1196183108 ++ be 4 n : List Nat) := ⟨_, rfl⟩
  rw [← hhd] at HM
  have HHD := Lib.hid hhd
  clear hhd
  have hlen : ∀ j, (dumpB (L.take j)).length ≤ (dumpB L).length := fun j => by
    have h2 : dumpB (L.take j) ++ dumpB (L.drop j) = dumpB L := by rw [← dumpB_append, List.take_append_drop]
    rw [← h2, List.length_append]; omega
  have HLEN := Lib.hid hlen; clear hlen
  go_loopw [4, 5] (fun b i wr => ∃ (j : Nat) (A1 : Option Addr) (N c1 : Nat), j ≤ n ∧ i = .int .i64 (j : Int) ∧ b = .slice A1 N c1 ∧ N ≤ 1000000008 ∧ Hid (N = 8 + (dumpB (L.take j)).length) ∧ Hid (Mn w wr A1 N c1 (hd ++ dumpB (L.take j)))) (fun _ i _ => n - (intOf i).toNat)
  case atStart => exact ⟨0, A2, 0 + 4 + 4, c2, Nat.zero_le _, rfl, rfl, by omega, Lib.hid (by simp [dumpB_nil]), Lib.hid (by simpa [dumpB_nil] using HM.out)⟩
  case round =>
    obtain ⟨j, A1, N, c1, hj, rfl, rfl, hN, hN2, hI⟩ := hrel
    by_cases hN4 : N ≤ 4194304
    · by_cases hjn : j < n
      · have hjl : j < L.length := by rw [← HN.out]; exact hjn
        obtain ⟨b, off, rfl, hrow⟩ := HS.out.row (by omega)
        obtain ⟨k, v, hk, hv, hbk, hbv⟩ := EntsAt.get j HE.out (List.getElem?_eq_getElem hjl)
        obtain ⟨Ak, nk, ck, rfl, _, _⟩ := id hbk
        obtain ⟨Av, nv, cv, rfl, _, _⟩ := id hbv
        have hr : ∀ (W : World) (A : Option Addr) (n c : Nat) (bs : List Nat), Mn w W A n c bs → W.cell? ⟨b, off + j * 2, none⟩ = some (.slice Ak nk ck) ∧ W.cell? ⟨b, off + j * 2 + 1, none⟩ = some (.slice Av nv cv) := fun W A n c bs h =>
          ⟨(hrow.upd h.new id).2 (j * 2) _ hk, by have := (hrow.upd h.new id).2 (j * 2 + 1) _ hv; rwa [← Nat.add_assoc] at this⟩
        have hstep : dumpB (L.take (j + 1)) = dumpB (L.take j) ++ rawB (L[j]).1 ++ rawB (L[j]).2 := by rw [List.take_succ_eq_append_getElem hjl, dumpB_snoc]
        have hlk : (L[j]).1.length = nk ∧ (L[j]).2.length = nv := by
          obtain ⟨_, _, _, e1, h1, _⟩ := hbk
          obtain ⟨_, _, _, e2, h2, _⟩ := hbv
          cases e1; cases e2
          exact ⟨h1.len, h2.len⟩
        have hlen1 := Nat.le_trans (HLEN.out (j + 1)) HSZ.out
        have hstepl : (dumpB (L.take (j + 1))).length = (dumpB (L.take j)).length + (4 + nk) + (4 + nv) := by rw [hstep]; simp only [rawB, List.length_append, be_length, hlk.1, hlk.2]
        rw [hstepl] at hlen1
        have hN3 := hN2.out
        have hNn : N + (4 + nk) + (4 + nv) ≤ 1000000008 := by omega
        have hcA := hI.out.drew.raw hbk (by omega)
        have HR := Lib.hid hr; have HCA := Lib.hid hcA; have HBV := Lib.hid hbv; have HST := Lib.hid hstep; have HSL := Lib.hid hstepl; have HN3 := Lib.hid hN3
        obtain ⟨e0, e1⟩ := HR.out _ _ _ _ _ hI.out
        obtain ⟨e2, e3⟩ := HR.out _ _ _ _ _ hI.out.drew
        clear hr hcA hbk hbv hrow hk hv hlk hstep hstepl hlen1 hN3 hN2
        go_wp2
        go_region_held (fun w' => w'.cell? ⟨b, off + j * 2, none⟩ = some (.slice Ak nk ck) ∧ w'.cell? ⟨b, off + j * 2 + 1, none⟩ = some (.slice Av nv cv)) (go_keep) (first
          | (go_at_call 23; refine HCA.out.mono ?_; rintro e w5 ⟨A5, c5, rfl, hE5⟩; clear HCA; obtain ⟨f0, f1⟩ := HR.out _ _ _ _ _ hE5; have HCB := Lib.hid (hE5.raw HBV.out (by omega)); clear hE5)
          | (go_at_call 23; refine HCB.out.mono ?_; rintro e w6 ⟨A6, c6, rfl, hE6⟩; obtain ⟨g0, g1⟩ := HR.out _ _ _ _ _ hE6))
        all_goals go_wp2
        all_goals refine ⟨⟨j + 1, A6, N + (4 + nk) + (4 + nv), c6, by omega, by congr 1, rfl, hNn, Lib.hid ?_, Lib.hid ?_⟩, by simp [intOf]; omega⟩
        · rw [HSL.out]; have := HN3.out; omega
        · rw [HST.out, ← List.append_assoc, ← List.append_assoc]; exact hE6
      · obtain rfl : j = n := by omega
        go_wp2
        go_ret2
        have h1 := hI.out
        rw [List.take_of_length_le (by rw [← HN.out]; exact Nat.le_refl _), HHD.out] at h1
        refine ⟨.inl ⟨?_, A1, N, c1, rfl, ?_⟩, h1.new⟩
        · have h3 := hN2.out
          rw [List.take_of_length_le (by rw [← HN.out]; exact Nat.le_refl _)] at h3; omega
        have h2 := h1.by_ (by
          refine Small.append (Small.append (be_small _ _) (be_small _ _)) (Small.dumpB HSM.out))
        rwa [HN.out] at h2
    · have h3 := hN2.out
      have h4 := HLEN.out j
      have hnew := hI.out.new
      have hj2 : j < n ∨ j = n := by omega
      rcases hj2 with hjn | rfl
      · go_wp2
        go_ret2
        exact ⟨.inr ⟨by omega, rfl⟩, hnew⟩
      · go_wp2
        go_ret2
        exact ⟨.inr ⟨by omega, rfl⟩, hnew⟩
end Go.Proofs.YtfagoiecijpneaaGreat
end
