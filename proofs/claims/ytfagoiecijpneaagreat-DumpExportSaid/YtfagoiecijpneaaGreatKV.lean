/- A part of the proof of the statement of this seat: no condition. -/
import Derived.Test.YtfagoiecijpneaaGreatPC
import Derived.Test.YtfagoiecijpneaaGreatPF
import Derived.Test.YtfagoiecijpneaaGreatPA
import Derived.Deep.QuietTactic
import Derived.BigQuiet
import Derived.Deep.RegionHeld
set_option linter.unusedVariables false
set_option linter.unusedSimpArgs false
section
namespace Go.Proofs.YtfagoiecijpneaaGreat
open Go Go.RowKit Go.Proofs Gl Go.Shelf
attribute [local go_sem] Oper.semAt_some
/-- a store that reads as the entries, in blocks from base on -/
def StoreAt (base : Nat) (w : World) (bs : Nat) (L : List Ent) : Prop := ∃ bm D A n c vs ps, StoB w bs bm ∧ MapIn 93 124 base w bm D A n c vs ps ∧ (∀ b, foot bm D A n c vs b → base ≤ b ∧ b ≠ bs) ∧ base ≤ bs ∧ ps.flatten = L
theorem StoreAt.upd {base bs : Nat} {w w' : World} {L : List Ent} {T : Nat → Prop} (h : StoreAt base w bs L) (hu : Upd T w w') (hT : ∀ b, base ≤ b → b < w.heap.size → ¬ T b) : StoreAt base w' bs L := by
  obtain ⟨bm, D, A, n, c, vs, ps, h1, h2, h3, h4, h5⟩ := h
  have hf : ∀ b, foot bm D A n c vs b → ¬ T b := fun b hb => hT b (h3 b hb).1 (h2.toMapRaw.foot_lt hb)
  exact ⟨bm, D, A, n, c, vs, ps, h1.upd hu (hT bs h4 h1.lt), ⟨h2.toMapRaw.upd hu hf, h2.good, h2.few⟩, h3, h4, h5⟩
theorem pnew_c {w : World} : Calls Tryz.prog 24 #[] w fun e w' => e = .returned (.pointer (some ⟨w.heap.size, 0, none⟩)) ∧ w' = w.alloc (.cells #[.slice none 0 0, .int .i64 0] 101) := by
  go_enter Tryz.func24, Tryz.ntmps24
  go_wp2
  go_ret
  exact ⟨rfl, rfl⟩
theorem knew_c {w : World} : Calls Tryz.prog 12 #[] w fun e w' => ∃ bs, e = .returned (.pointer (some ⟨bs, 0, none⟩)) ∧ StoreAt w.heap.size w' bs [] ∧ New w w' := by
  go_enter Tryz.func12, Tryz.ntmps12
  go_wp2_with (go_at_call 24; refine pnew_c.mono ?_; rintro e w1 ⟨rfl, rfl⟩)
  go_ret
  obtain ⟨w1, h1⟩ : ∃ w1, w1 = w.alloc (.cells #[.slice none 0 0, .int .i64 0] 101) := ⟨_, rfl⟩
  rw [← h1]
  have hs1 : w1.heap.size = w.heap.size + 1 := by rw [h1]; show (w.heap.push _).size = _; simp
  have hb1 : w1.heap[w.heap.size]? = some (.cells #[.slice none 0 0, .int .i64 0] 101 (0, 0)) := by rw [h1]; exact Ex.alloc_new w _
  refine ⟨w1.heap.size, by rw [hs1]; rfl, ⟨w.heap.size, fun _ => False, none, 0, 0, [], [], ⟨0, Ex.alloc_new w1 _⟩, ⟨?_, ⟨fun l h => by (cases h), List.Pairwise.nil⟩, fun l h => by (cases h)⟩, ?_, by omega, rfl⟩, by rw [h1]; exact (Upd.alloc _ _ _).trans (Upd.alloc _ _ _)⟩
  · exact {
      blk := ⟨101, (heap_alloc_lt _ (by omega)).trans hb1⟩
      row := World.ownsRow_nil _ _ _ _
      len := rfl
      page := fun i v l h => by (cases h)
      inj := fun i j v v' h => by (cases h)
      away := fun i v b h => by (cases h)
      bmA := fun h => by (cases h)
      dm := id
      dA := fun b h => by (cases h)
      hb := Nat.le_refl _
      lim := fun b h => h.elim }
  · rintro b (rfl | h | ⟨v, h, _⟩ | h)
    · exact ⟨Nat.le_refl _, by omega⟩
    · cases h
    · cases h
    · exact h.elim
theorem noted_c {w : World} {bs bm nk ck : Nat} {Ak : Option Addr} (hs : StoB w bs bm) : Calls Tryz.prog 29 #[.pointer (some ⟨bs, 0, none⟩), .slice Ak nk ck] w fun e w' => (∃ v, e = .returned v) ∧ New w w' := by
  obtain ⟨k, hk⟩ := hs
  have hlt := (Array.getElem?_eq_some_iff.1 hk).1
  obtain ⟨W, hW⟩ : ∃ W, W = (w.alloc (.cells #[.pointer (some ⟨bs, 0, none⟩)] 25)).alloc (.cells #[.slice Ak nk ck] 28) := ⟨_, rfl⟩
  have hn : New w W := by rw [hW]; exact (Upd.alloc _ _ _).trans (Upd.alloc _ _ _)
  have hc0 := cell_of ((hn.block bs hlt id).trans hk) 1 (.slice none 0 0) rfl
  rw [hW] at hc0
  go_enter Tryz.func29, Tryz.ntmps29
  go_wp2
  rw [← hW]
  clear hW hc0
  refine bodyPost_ret (results_none rfl _ _ _) rfl ?_
  exact ⟨⟨_, rfl⟩, hn⟩
/-- what Set does with a store -/
def SetK (base bs : Nat) (w : World) (L : List Ent) (x : Ent) (e : Ending) (w' : World) : Prop := (∃ v, e = .returned v) ∧ StoreAt base w' bs (if okEnt x then put L x.1 x.2 else L) ∧ Upd (fun b => base ≤ b) w w'
set_option maxHeartbeats 4000000 in
set_option maxRecDepth 100000 in
theorem kset_c {base bs nk ck nv cv : Nat} {Ak Av : Option Addr} {w : World} {L : List Ent} {k v : Bs} (h : StoreAt base w bs L) (hL : L.length ≤ 1000000) (hk : BV (fun b => b < base) w (.slice Ak nk ck) k) (hv : BV (fun b => b < base) w (.slice Av nv cv) v) (hbase : base ≤ w.heap.size) :
    Calls Tryz.prog 14 #[.pointer (some ⟨bs, 0, none⟩), .slice Ak nk ck, .slice Av nv cv] w (SetK base bs w L (k, v)) := by
  obtain ⟨bm, D, A, n, c, vs, ps, h1, h2, h3, h4, rfl⟩ := h
  obtain ⟨_, _, _, e1, hbk, hdk⟩ := hk
  cases e1
  obtain ⟨_, _, _, e2, hbv, hdv⟩ := hv
  cases e2
  obtain ⟨L, hLL⟩ : ∃ L, L = ps.flatten := ⟨_, rfl⟩
  rw [← hLL] at hL ⊢
  have hok : okEnt (k, v) = decide (1 ≤ nk ∧ nk ≤ 64 ∧ nv ≤ 4096) := by simp only [okEnt, hbk.len, hbv.len]
  have hcount := h1.count
  have hup : ∀ w1, Upd (fun b => b = bs) w w1 → StoB w1 bs bm → Upd (fun b => base ≤ b) w w1 ∧ MapIn 93 124 base w1 bm D A n c vs ps ∧ By w1 Ak nk ck k ∧ By w1 Av nv cv v := fun w1 hu hs =>
    ⟨hu.mono (fun b _ e => by omega), ⟨h2.toMapRaw.upd hu (fun b hb e => (h3 b hb).2 e), h2.good, h2.few⟩, hbk.upd hu (fun a ha h0 e => by have := hdk a ha h0; omega), hbv.upd hu (fun a ha h0 e => by have := hdv a ha h0; omega)⟩
  have HC := Lib.hid hcount; have HU := Lib.hid hup; have HLL := Lib.hid hLL; have HL := Lib.hid hL; have H3 := Lib.hid h3; have HB := Lib.hid hbase; have HOK := Lib.hid hok; have H4 := Lib.hid h4
  clear hcount hup hLL hL h1 h2 h3 hbk hbv hdk hdv hbase hok h4
  by_cases g1 : nk < 1
  · go_enter Tryz.func14, Tryz.ntmps14
    go_wp2_with (go_at_call 28; refine HC.out.mono ?_; rintro e w1 ⟨⟨_, rfl⟩, hs1, hu1⟩)
    go_ret
    refine ⟨⟨_, rfl⟩, ?_, (HU.out w1 hu1 hs1).1⟩
    rw [if_neg (by rw [HOK.out]; simp; omega)]
    exact ⟨bm, D, A, n, c, vs, ps, hs1, (HU.out w1 hu1 hs1).2.1, H3.out, H4.out, HLL.out.symm⟩
  · by_cases g2 : 64 < nk
    · go_enter Tryz.func14, Tryz.ntmps14
      go_wp2_with (go_at_call 28; refine HC.out.mono ?_; rintro e w1 ⟨⟨_, rfl⟩, hs1, hu1⟩)
      go_ret
      refine ⟨⟨_, rfl⟩, ?_, (HU.out w1 hu1 hs1).1⟩
      rw [if_neg (by rw [HOK.out]; simp; omega)]
      exact ⟨bm, D, A, n, c, vs, ps, hs1, (HU.out w1 hu1 hs1).2.1, H3.out, H4.out, HLL.out.symm⟩
    · by_cases g3 : 4096 < nv
      · go_enter Tryz.func14, Tryz.ntmps14
        go_wp2_with (go_at_call 28; refine HC.out.mono ?_; rintro e w1 ⟨⟨_, rfl⟩, hs1, hu1⟩)
        go_ret
        refine ⟨⟨_, rfl⟩, ?_, (HU.out w1 hu1 hs1).1⟩
        rw [if_neg (by rw [HOK.out]; simp; omega)]
        exact ⟨bm, D, A, n, c, vs, ps, hs1, (HU.out w1 hu1 hs1).2.1, H3.out, H4.out, HLL.out.symm⟩
      · go_enter Tryz.func14, Tryz.ntmps14
        go_wp2_with (first
          | (go_at_call 28; refine HC.out.mono ?_; rintro e w1 ⟨⟨_, rfl⟩, hs1, hu1⟩; have H1 := Lib.hid (And.intro hs1 hu1); clear hs1 hu1)
          | (go_at_call 29; refine (noted_c H1.out.1).mono ?_; rintro e w2 ⟨⟨_, rfl⟩, hn2⟩; have hs2 := H1.out.1.upd hn2 id; have hc2 := (cell_of (Classical.choose_spec hs2) 0 (.pointer (some ⟨bm, 0, none⟩)) rfl); have H2 := Lib.hid (And.intro hs2 hn2); clear hs2 hn2)
          | (go_at_call 30; refine (set_c (F := fun b => foot bm D A n c vs b) (base := base) ⟨((HU.out w1 H1.out.2 H1.out.1).2.1).toMapRaw.upd H2.out.2 (fun _ _ => id), ((HU.out w1 H1.out.2 H1.out.1).2.1).good, ((HU.out w1 H1.out.2 H1.out.1).2.1).few⟩ (fun b => id) (((HU.out w1 H1.out.2 H1.out.1).2.2.1).new H2.out.2) (((HU.out w1 H1.out.2 H1.out.1).2.2.2).new H2.out.2) (by omega) (by omega) (by rw [← HLL.out]; exact HL.out) (Nat.le_trans HB.out (Nat.le_trans H1.out.2.size H2.out.2.size))).mono ?_; rintro e w3 ⟨r3, F', ps', rfl, hm3, hf3, hu3, hp3⟩; have H5 := Lib.hid (And.intro hm3 (And.intro hf3 (And.intro hu3 hp3))); clear hm3 hf3 hu3 hp3))
        go_ret
        obtain ⟨hm3, hf3, hu3, hp3⟩ := H5.out
        obtain ⟨hs1, hu1⟩ := H1.out
        obtain ⟨hs2, hn2⟩ := H2.out
        obtain ⟨D', A', n', c', vs', hm4, hf4⟩ := hm3
        have hlt := hs2.lt
        have hsz := Nat.le_trans hu1.size hn2.size
        have hbase := HB.out
        refine ⟨⟨_, rfl⟩, ?_, ((HU.out w1 hu1 hs1).1.then hn2 (fun b _ h => h.elim)).then hu3 (fun b _ h => (H3.out b h).1)⟩
        rw [if_pos (by rw [HOK.out]; simp; omega)]
        refine ⟨bm, D', A', n', c', vs', ps', hs2.upd hu3 (fun h => (H3.out bs h).2 rfl), hm4, fun b hb => ?_, H4.out, by rw [hp3, HLL.out]⟩
        rcases hf3 b (hf4 b hb) with h | h
        · exact H3.out b h
        · exact ⟨by omega, by omega⟩
end Go.Proofs.YtfagoiecijpneaaGreat
end
section
namespace Go.Proofs.YtfagoiecijpneaaGreat
open Go Go.RowKit Go.Proofs Gl
set_option maxHeartbeats 4000000 in
set_option maxRecDepth 100000 in
theorem light_c {w : World} {A : Option Addr} {n c : Nat} {cells : List Value} {L : List Ent} (hs : Sl 2 w A n c cells) (hn : n = L.length) (he : EntsAt (fun b => b < w.heap.size) w cells L) :
    Calls Tryz.prog 5 #[.slice A n c] w fun e w' => ∃ b, e = .returned (.bool b) ∧ (b = true → n ≤ 40000) ∧ ∃ q, w' = w.drewN q := by
  have hcn : c ≤ maxLen ∧ n ≤ c := ⟨hs.max, hs.le⟩
  have hmx := hcn.1
  unfold maxLen at hmx
  have hn63 : (n : Int) ≤ 9223372036854775807 := by omega
  have HS := Lib.hid hs; have HE := Lib.hid he; have HN := Lib.hid hn; have HC := Lib.hid hcn
  clear hs he hn hmx hcn
  go_enter Tryz.func5, Tryz.ntmps5
  go_wp2
  go_loopw [3, 4] (fun cu i wr => ∃ (j : Nat) (x : Int), j ≤ n ∧ i = .int .i64 (j : Int) ∧ cu = .int .i64 x ∧ Hid (x ≤ 40000 → n ≤ 40000) ∧ Hid (∃ q, wr = w.drewN q)) (fun _ i _ => n - (intOf i).toNat)
  case atStart => exact ⟨0, n, Nat.zero_le _, rfl, rfl, Lib.hid (by omega), Lib.hid ⟨0, rfl⟩⟩
  case round =>
    obtain ⟨j, x, hj, rfl, rfl, hx, hq⟩ := hrel
    by_cases hx4 : x ≤ 40000
    · by_cases hjn : j < n
      · have hjl : j < L.length := by rw [← HN.out]; exact hjn
        obtain ⟨b1, o1, rfl, hr1⟩ := HS.out.row (by omega)
        obtain ⟨k1, v1, hk1, hv1, hbk1, hbv1⟩ := EntsAt.get j HE.out (List.getElem?_eq_getElem hjl)
        obtain ⟨Ak1, nk1, ck1, rfl, hk1b, _⟩ := hbk1
        obtain ⟨Av1, nv1, cv1, rfl, hv1b, _⟩ := hbv1
        have c1 : wr.cell? ⟨b1, o1 + j * 2, none⟩ = some (.slice Ak1 nk1 ck1) := by obtain ⟨q, rfl⟩ := hq.out; exact hr1.2 _ _ hk1
        have c2 : wr.cell? ⟨b1, o1 + j * 2 + 1, none⟩ = some (.slice Av1 nv1 cv1) := by obtain ⟨q, rfl⟩ := hq.out; have := hr1.2 _ _ hv1; rwa [← Nat.add_assoc] at this
        have hn4 := hx.out hx4
        clear hk1b hv1b hk1 hv1 hr1
        go_wp2
        go_quiet (fail)
        go_wp2
        refine ⟨⟨j + 1, _, by omega, by congr 1, rfl, Lib.hid (fun _ => hn4), Lib.hid ?_⟩, by simp [intOf]; omega⟩
        obtain ⟨q, rfl⟩ := hq.out; exact ⟨_, World.drewN_drewN _ _ _⟩
      · obtain rfl : j = n := by omega
        go_wp2
        go_ret
        exact ⟨true, rfl, fun _ => hx.out hx4, hq.out⟩
    · have hj2 : j < n ∨ j = n := by omega
      rcases hj2 with hjn | rfl
      · go_wp2
        go_ret
        exact .inl ⟨rfl, hq.out⟩
      · go_wp2
        go_ret
        exact .inl ⟨rfl, hq.out⟩
end Go.Proofs.YtfagoiecijpneaaGreat
end
section
namespace Go.Proofs.YtfagoiecijpneaaGreat
open Go Go.RowKit Go.Proofs Gl
theorem len_two (p q : Ent → Bool) (h : ∀ e, p e = true → q e = false) : ∀ M : List Ent, (M.filter p).length + (M.filter q).length ≤ M.length
  | [] => by simp
  | e :: M => by
    have ih := len_two p q h M
    simp only [List.filter_cons]
    by_cases hp : p e = true
    · rw [if_pos hp, h e hp]; simp; omega
    · rw [if_neg hp]
      split <;> simp <;> omega
theorem put_length (L : List Ent) (k v : Bs) : (put L k v).length ≤ L.length + 1 := by
  have h : (L.filter fun e => blt e.1 k).length + (L.filter fun e => blt k e.1).length ≤ L.length := len_two (fun e => blt e.1 k) (fun e => blt k e.1) (fun e he => blt_asymm he) L
  obtain ⟨A, hA⟩ : ∃ A, A = L.filter (fun e => blt e.1 k) := ⟨_, rfl⟩
  obtain ⟨C, hC⟩ : ∃ C, C = L.filter (fun e => blt k e.1) := ⟨_, rfl⟩
  have e : put L k v = A ++ (k, v) :: C := by rw [hA, hC]; rfl
  rw [← hA, ← hC] at h
  rw [e, List.length_append, List.length_cons]; omega
theorem putAll_length (L l : List Ent) : (putAll L l).length ≤ L.length + l.length := by
  induction l generalizing L with
  | nil => simp [putAll]
  | cons e l ih =>
    have := ih (if okEnt e then put L e.1 e.2 else L)
    have h2 : (if okEnt e then put L e.1 e.2 else L).length ≤ L.length + 1 := by
      split
      · exact put_length _ _ _
      · omega
    show (putAll _ l).length ≤ _
    simp only [List.length_cons]; omega
theorem putAll_ok {P : Ent → Prop} {L l : List Ent} (h : ∀ e ∈ L, P e) (h2 : ∀ e ∈ l, okEnt e = true → P e) : ∀ e ∈ putAll L l, P e := by
  induction l generalizing L with
  | nil => exact h
  | cons x l ih =>
    refine ih ?_ (fun e he => h2 e (List.mem_cons_of_mem _ he))
    intro e he
    split at he
    · rename_i hx
      rcases mem_put he with rfl | he
      · exact h2 x List.mem_cons_self hx
      · exact h e he
    · exact h e he
set_option maxHeartbeats 4000000 in
set_option maxRecDepth 100000 in
theorem store_c {w : World} {A : Option Addr} {n c : Nat} {cells : List Value} {L : List Ent} (hs : Sl 2 w A n c cells) (hn : n = L.length) (he : EntsAt (fun b => b < w.heap.size) w cells L) (hn4 : n ≤ 40000) :
    Calls Tryz.prog 6 #[.slice A n c] w fun e w' => ∃ bs, e = .returned (.pointer (some ⟨bs, 0, none⟩)) ∧ StoreAt w.heap.size w' bs (putAll [] L) ∧ New w w' := by
  have hcn : c ≤ maxLen ∧ n ≤ c := ⟨hs.max, hs.le⟩
  have HS := Lib.hid hs; have HE := Lib.hid he; have HN := Lib.hid hn; have HC := Lib.hid hcn
  clear hs he hn hcn
  go_enter Tryz.func6, Tryz.ntmps6
  go_wp2_with (go_at_call 12; refine knew_c.mono ?_; rintro e w1 ⟨bs, rfl, hst, hnw⟩; have HST := Lib.hid (And.intro hst hnw); clear hst hnw)
  go_loopw [4] (fun i wr => ∃ (j : Nat), j ≤ n ∧ i = .int .i64 (j : Int) ∧ Hid (StoreAt w.heap.size wr bs (putAll [] (L.take j))) ∧ Hid (New w wr)) (fun i _ => n - (intOf i).toNat)
  case atStart => exact ⟨0, Nat.zero_le _, rfl, Lib.hid (by simpa [putAll] using HST.out.1), Lib.hid HST.out.2⟩
  case round =>
    obtain ⟨j, hj, rfl, hI, hnw⟩ := hrel
    by_cases hjn : j < n
    · have hjl : j < L.length := by rw [← HN.out]; exact hjn
      obtain ⟨b, off, rfl, hrow⟩ := HS.out.row (by omega)
      obtain ⟨k, v, hk, hv, hbk, hbv⟩ := EntsAt.get j HE.out (List.getElem?_eq_getElem hjl)
      obtain ⟨Ak, nk, ck, rfl, _, _⟩ := id hbk
      obtain ⟨Av, nv, cv, rfl, _, _⟩ := id hbv
      have hr : ∀ (W : World), New w W → W.cell? ⟨b, off + j * 2, none⟩ = some (.slice Ak nk ck) ∧ W.cell? ⟨b, off + j * 2 + 1, none⟩ = some (.slice Av nv cv) := fun W h =>
        ⟨(hrow.upd h id).2 (j * 2) _ hk, by have := (hrow.upd h id).2 (j * 2 + 1) _ hv; rwa [← Nat.add_assoc] at this⟩
      have hstep : putAll [] (L.take (j + 1)) = if okEnt ((L[j]).1, (L[j]).2) then put (putAll [] (L.take j)) (L[j]).1 (L[j]).2 else putAll [] (L.take j) := by rw [List.take_succ_eq_append_getElem hjl, putAll_snoc]
      have hd : Upd (fun _ => False) wr wr.drew := (Upd.refl _ wr).drew
      have hnd : New w wr.drew := hnw.out.trans hd
      have hlen : (putAll [] (L.take j)).length ≤ 1000000 := by
        have := putAll_length [] (L.take j)
        rw [List.length_take] at this
        simp only [List.length_nil] at this; omega
      have hcall := kset_c (hI.out.upd hd (fun b _ _ => id)) hlen (hbk.upd hnd (fun b hb => id)) (hbv.upd hnd (fun b hb => id)) hnd.size
      have HR := Lib.hid hr; have HCALL := Lib.hid hcall; have HST2 := Lib.hid hstep; have HND := Lib.hid hnd
      obtain ⟨e0, e1⟩ := HR.out _ hnw.out
      obtain ⟨e2, e3⟩ := HR.out _ hnd
      clear hr hcall hbk hbv hrow hk hv hstep hlen hd hnd
      go_wp2
      go_region_held (fun w' => w'.cell? ⟨b, off + j * 2, none⟩ = some (.slice Ak nk ck) ∧ w'.cell? ⟨b, off + j * 2 + 1, none⟩ = some (.slice Av nv cv)) (go_keep)
        (first | (go_at_call 14; refine HCALL.out.mono ?_; rintro e w5 ⟨⟨_, rfl⟩, hE5, hu5⟩; clear HCALL; have hn5 : New w w5 := HND.out.then hu5 (fun b h1 h2 => by omega); obtain ⟨f0, f1⟩ := HR.out _ hn5))
      all_goals go_wp2
      all_goals refine ⟨⟨j + 1, by omega, by congr 1, Lib.hid (by rw [HST2.out]; exact hE5), Lib.hid hn5⟩, by simp [intOf]; omega⟩
    · obtain rfl : j = n := by omega
      go_wp2
      go_ret
      have h1 := hI.out
      rw [List.take_of_length_le (by rw [← HN.out]; exact Nat.le_refl _)] at h1
      exact ⟨bs, rfl, h1, hnw.out⟩
end Go.Proofs.YtfagoiecijpneaaGreat
end
