/- A part of the proof of the statement of this seat: no condition. -/
import Derived.Test.YtjfmbamiampjmaaGreatDecM
import Derived.Test.YtjfmbamiampjmaaGreatEqG
import Derived.Test.YtjfmbamiampjmaaGreatParG
set_option linter.unusedVariables false
set_option linter.unusedSimpArgs false
namespace Go.Proofs.YtjfmbamiampjmaaGreat
open Go Go.RowKit Go.Proofs Gl

def Z12 : Array Value := #[.int .u64 0, .int .u64 0, .int .u64 0, .int .u64 0, .int .u64 0, .int .u64 0, .int .u64 0, .int .u64 0, .int .u64 0, .int .u64 0, .slice none 0 0, .slice none 0 0]
def genA (ps : List Nat) (j : Nat) : Array Value := ((ps.map Gl.u64 ++ List.replicate (10 - j) (Gl.u64 0)) ++ [Value.slice none 0 0, Value.slice none 0 0]).toArray
theorem items_snoc : ∀ (j : Nat) (s : RS), items (j + 1) s = ((items j s).1 ++ [rV 8 (items j s).2], rU 8 (items j s).2)
  | 0, s => rfl
  | j + 1, s => by
    rw [items, items_snoc j (rU 8 s)]
    rfl
theorem items_length : ∀ (j : Nat) (s : RS), (items j s).1.length = j
  | 0, s => rfl
  | j + 1, s => by rw [items]; simp [items_length j]
theorem genA_put {ps : List Nat} {j x : Nat} (hl : ps.length = j) (hj : j < 10) : (genA ps j).setIfInBounds j (Gl.u64 x) = genA (ps ++ [x]) (j + 1) := by
  unfold genA
  obtain ⟨k, hk⟩ : ∃ k, 10 - j = k + 1 := ⟨10 - j - 1, by omega⟩
  rw [hk, List.replicate_succ, show 10 - (j + 1) = k by omega]
  apply Array.ext'
  simp only [Array.toList_setIfInBounds, List.map_append, List.map_cons, List.map_nil, List.append_assoc]
  rw [List.set_append_right _ _ (by simp [hl])]
  simp [hl]

theorem genA_ten {ps : List Nat} (hl : ps.length = 10) : genA ps 10 = (ps.map Gl.u64 ++ [Value.slice none 0 0, Value.slice none 0 0]).toArray := by
  unfold genA; simp
theorem tenN {ns : List Nat} (h : ns.length = 10) : ∃ a0 a1 a2 a3 a4 a5 a6 a7 a8 a9, ns = [a0, a1, a2, a3, a4, a5, a6, a7, a8, a9] := by
  match ns, h with
  | [a0, a1, a2, a3, a4, a5, a6, a7, a8, a9], _ => exact ⟨a0, a1, a2, a3, a4, a5, a6, a7, a8, a9, rfl⟩
theorem genA_get {ps : List Nat} {j : Nat} (hl : ps.length = j) (hj : j < 10) : (genA ps j)[j]? = some (.int .u64 0) := by
  unfold genA
  obtain ⟨k, hk⟩ : ∃ k, 10 - j = k + 1 := ⟨10 - j - 1, by omega⟩
  rw [hk, List.replicate_succ, List.getElem?_toArray, List.append_assoc, List.getElem?_append_right (by simp [hl])]
  simp [hl]
/-- Decode at work: the reader's state, what has been read -/
structure DS (w0 : World) (br B b5 : Nat) (W : World) (s : RS) (G : Array Value) : Prop where
  at_ : At (w0.heap.size + 2) B br W s
  g : W.heap[w0.heap.size + 1]? = some (.cells G 28 (0, 0))
  r : W.heap[w0.heap.size]? = some (.cells Z12 28 (0, 0))
  v : W.heap[b5]? = some (.cells #[.pointer (some ⟨br, 0, none⟩)] 63 (0, 0))
  hb : B ≤ b5
  new : New w0 W
theorem two_alloc' (w : World) (o1 o2 : Obj) : ((w.alloc o1).alloc o2).heap[w.heap.size]? = some o1 ∧ ((w.alloc o1).alloc o2).heap[w.heap.size + 1]? = some o2 := by
  refine ⟨?_, ?_⟩
  · show ((w.heap.push o1).push o2)[w.heap.size]? = _
    rw [Array.getElem?_push_lt (by simp)]; simp
  · show ((w.heap.push o1).push o2)[w.heap.size + 1]? = _
    rw [show w.heap.size + 1 = (w.heap.push o1).size by simp]; simp only [Array.getElem?_push_size]
section
variable {w0 W W' : World} {br B b5 : Nat} {s s' : RS} {G : Array Value}
theorem DS.read (h : DS w0 br B b5 W s G) (hA : At (w0.heap.size + 2) B br W' s') (hu : Upd (fun b => b = br) W W') : DS w0 br B b5 W' s' G := by
  have h1 := hA.lo_
  have h2 := hA.lt
  have h3 := h.hb
  refine ⟨hA, (hu.block _ (Array.getElem?_eq_some_iff.1 h.g).1 (by omega)).trans h.g, (hu.block _ (Array.getElem?_eq_some_iff.1 h.r).1 (by omega)).trans h.r, (hu.block _ (Array.getElem?_eq_some_iff.1 h.v).1 (by omega)).trans h.v, h.hb, h.new.then hu (fun c hc e => by omega)⟩
theorem DS.fresh (h : DS w0 br B b5 W s G) (hu : New W W') : DS w0 br B b5 W' s G :=
  ⟨h.at_.upd hu (fun _ _ _ => id), (hu.block _ (Array.getElem?_eq_some_iff.1 h.g).1 id).trans h.g, (hu.block _ (Array.getElem?_eq_some_iff.1 h.r).1 id).trans h.r, (hu.block _ (Array.getElem?_eq_some_iff.1 h.v).1 id).trans h.v, h.hb, h.new.trans hu⟩
theorem DS.put (h : DS w0 br B b5 W s G) (i : Nat) (x : Value) : DS w0 br B b5 (W.setCell ⟨w0.heap.size + 1, i, none⟩ x) s (G.setIfInBounds i x) := by
  have hu : Upd (fun b => b = w0.heap.size + 1) W (W.setCell ⟨w0.heap.size + 1, i, none⟩ x) := Upd.setCell W x rfl
  have h1 := h.at_.lo_
  have h2 := h.at_.lt
  have h3 := h.hb
  refine ⟨h.at_.upd hu (fun b hb _ e => by omega), ?_, (hu.block _ (Array.getElem?_eq_some_iff.1 h.r).1 (by omega)).trans h.r, (hu.block _ (Array.getElem?_eq_some_iff.1 h.v).1 (by omega)).trans h.v, h.hb, h.new.then hu (fun c hc e => by omega)⟩
  have := h.g
  simp [World.setCell, Array.getElem?_modify, this]
theorem DS.gcell (h : DS w0 br B b5 W s G) (i : Nat) (x : Value) (hx : G[i]? = some x) : W.cell? ⟨w0.heap.size + 1, i, none⟩ = some x := by simp [World.cell?, h.g, hx]
theorem DS.gfz (h : DS w0 br B b5 W s G) (i : Nat) : W.frozen? ⟨w0.heap.size + 1, i, none⟩ = false := by simp [World.frozen?, h.g]
theorem DS.vcell (h : DS w0 br B b5 W s G) : W.cell? ⟨b5, 0, none⟩ = some (.pointer (some ⟨br, 0, none⟩)) := by simp [World.cell?, h.v]
theorem DS.size (h : DS w0 br B b5 W s G) : B ≤ W.heap.size := by
  have := (Array.getElem?_eq_some_iff.1 h.v).1
  have := h.hb
  omega
theorem DS.rc (h : DS w0 br B b5 W s G) : W.cell? ⟨w0.heap.size, 0, none⟩ = some (.int .u64 0) ∧ W.cell? ⟨w0.heap.size, 1, none⟩ = some (.int .u64 0) ∧ W.cell? ⟨w0.heap.size, 2, none⟩ = some (.int .u64 0) ∧ W.cell? ⟨w0.heap.size, 3, none⟩ = some (.int .u64 0) ∧ W.cell? ⟨w0.heap.size, 4, none⟩ = some (.int .u64 0) ∧ W.cell? ⟨w0.heap.size, 5, none⟩ = some (.int .u64 0) ∧ W.cell? ⟨w0.heap.size, 6, none⟩ = some (.int .u64 0) ∧ W.cell? ⟨w0.heap.size, 7, none⟩ = some (.int .u64 0) ∧ W.cell? ⟨w0.heap.size, 8, none⟩ = some (.int .u64 0) ∧ W.cell? ⟨w0.heap.size, 9, none⟩ = some (.int .u64 0) ∧ W.cell? ⟨w0.heap.size, 10, none⟩ = some (.slice none 0 0) ∧ W.cell? ⟨w0.heap.size, 11, none⟩ = some (.slice none 0 0) ∧ W.frozen? ⟨w0.heap.size, 0, none⟩ = false ∧ W.frozen? ⟨w0.heap.size, 1, none⟩ = false ∧ W.frozen? ⟨w0.heap.size, 2, none⟩ = false ∧ W.frozen? ⟨w0.heap.size, 3, none⟩ = false ∧ W.frozen? ⟨w0.heap.size, 4, none⟩ = false ∧ W.frozen? ⟨w0.heap.size, 5, none⟩ = false ∧ W.frozen? ⟨w0.heap.size, 6, none⟩ = false ∧ W.frozen? ⟨w0.heap.size, 7, none⟩ = false ∧ W.frozen? ⟨w0.heap.size, 8, none⟩ = false ∧ W.frozen? ⟨w0.heap.size, 9, none⟩ = false ∧ W.frozen? ⟨w0.heap.size, 10, none⟩ = false ∧ W.frozen? ⟨w0.heap.size, 11, none⟩ = false := by
  have hr := h.r
  unfold Z12 at hr
  simp [World.cell?, World.frozen?, hr]
end

theorem newReader2 {w : World} {A : Option Addr} {n c : Nat} {bs : List Nat} (h : By w A n c bs) (hn : n ≤ 1073741824) :
    Calls Tryz.prog 17 #[.slice A n c] w fun e w' => ∃ br A' c', e = .returned (.pointer (some ⟨br, 0, none⟩)) ∧ Rd br w' A' n c' bs 0 ∧ New w w' ∧ w.heap.size ≤ br ∧ ∀ a, A' = some a → w.heap.size ≤ a.block ∧ a.block < br := by
  obtain ⟨i0, hi0, hz0, hz1, hz2⟩ := info_parts info5
  have hlen := h.len
  have hs : Src w A n (bs.map u8) := Src.of_sl h.sl
  have HN := Lib.hid hn
  have HS := Lib.hid h.small
  clear hn h
  go_enter Tryz.func17, Tryz.ntmps17
  go_wp2_with (at_builtin
               refine wpList_append_src _ rfl _ _ _ rfl w.heap.size 5 i0 _ 1 1 Tryz.underlying29 hi0 hz0 hz1 hz2 rfl (by omega) (.slice none 0 0) 0 [] rfl (World.ownsRow_nil _ _ _ _) _ _ _ (bs.map u8) rfl (by simp [hlen]) hs (oneCell_u8 _) (by have := HN.out; simp only [maxLen]; omega) (by have := HN.out; omega) (Nat.le_refl _) ?_
               intro A' c' w1 hown1 hg1 hat1)
  go_ret
  simp only [Nat.zero_add, List.nil_append] at hown1 hat1
  have hA : ∀ a, A' = some a → w.heap.size ≤ a.block := fun a ha => by
    subst ha
    rcases hat1 with e | e <;> simp [Value.ownBlock] at e
    omega
  have hu : New w w1 := Upd.of_grown hg1 (fun c hc => by cases hc)
  refine ⟨w1.heap.size, A', c', by simp, ⟨⟨113, ?_⟩, ?_, fun a ha => ?_⟩, hu.trans (Upd.alloc _ _ _), hu.size, fun a ha => ⟨hA a ha, (ownsRow_lt hown1 (c := a.block) (by rw [ha]; rfl)).1⟩⟩
  · have := Ex.alloc_new w1 (.cells #[.slice A' n c', .int .i64 0] 113)
    simpa using this
  · exact (By.of_own hown1 HS.out).new (by have := Upd.alloc (fun _ => False) w1 (.cells #[.slice A' n c', .int .i64 0] 113); simpa using this)
  · subst ha
    have := (ownsRow_lt hown1 (c := a.block) rfl).1
    omega

theorem DS.start {w W1 : World} {br : Nat} {A1 : Option Addr} {n c1 : Nat} {bs : List Nat} (hR : Rd br W1 A1 n c1 bs 0) (hn : n ≤ 65536) (hu : New ((w.alloc (.cells Z12 28)).alloc (.cells Z12 28)) W1) (hbr : ((w.alloc (.cells Z12 28)).alloc (.cells Z12 28)).heap.size ≤ br) (hA : ∀ a, A1 = some a → ((w.alloc (.cells Z12 28)).alloc (.cells Z12 28)).heap.size ≤ a.block ∧ a.block < br) :
    DS w br W1.heap.size W1.heap.size (W1.alloc (.cells #[.pointer (some ⟨br, 0, none⟩)] 63)) (bs, 0) Z12 := by
  have hs : ((w.alloc (.cells Z12 28)).alloc (.cells Z12 28)).heap.size = w.heap.size + 2 := by show ((w.heap.push _).push _).size = _; simp
  rw [hs] at hbr hA
  obtain ⟨h1, h2⟩ := two_alloc' w (.cells Z12 28) (.cells Z12 28)
  have hu2 : New ((w.alloc (.cells Z12 28)).alloc (.cells Z12 28)) (W1.alloc (.cells #[.pointer (some ⟨br, 0, none⟩)] 63)) := hu.trans (Upd.alloc _ _ _)
  have hlt := hR.lt
  refine ⟨⟨⟨A1, n, c1, hR.upd (S := fun _ => False) (Upd.alloc _ _ _) id (fun _ _ _ => id), by omega, fun a ha => ⟨(hA a ha).1, by have := (hA a ha).2; omega⟩⟩, hlt, hbr⟩, (hu2.block _ (by omega) id).trans h2, (hu2.block _ (by omega) id).trans h1, Ex.alloc_new W1 _, Nat.le_refl _, ((Upd.alloc _ _ _).trans (Upd.alloc _ _ _)).trans hu2⟩

theorem putc {W : World} {b i : Nat} {cs : Array Value} {t : TypeId} (h : W.heap[b]? = some (.cells cs t (0, 0))) (hi : i < cs.size) (v : Value) : (W.setCell ⟨b, i, none⟩ v).heap[b]? = some (.cells (cs.setIfInBounds i v) t (0, 0)) ∧ (W.setCell ⟨b, i, none⟩ v).cell? ⟨b, i, none⟩ = some v := by
  refine ⟨by simp [World.setCell, Array.getElem?_modify, h], by simp [World.cell?, World.setCell, Array.getElem?_modify, h, hi]⟩
theorem put12 {W : World} {b : Nat} {cs : Array Value} {t : TypeId} (hs : cs.size = 12) (h : W.heap[b]? = some (.cells cs t (0, 0))) (v0 v1 v2 v3 v4 v5 v6 v7 v8 v9 v10 v11 : Value) : (W.setCell ⟨b, 0, none⟩ v0).cell? ⟨b, 0, none⟩ = some v0 ∧ ((W.setCell ⟨b, 0, none⟩ v0).setCell ⟨b, 1, none⟩ v1).cell? ⟨b, 1, none⟩ = some v1 ∧ (((W.setCell ⟨b, 0, none⟩ v0).setCell ⟨b, 1, none⟩ v1).setCell ⟨b, 2, none⟩ v2).cell? ⟨b, 2, none⟩ = some v2 ∧ ((((W.setCell ⟨b, 0, none⟩ v0).setCell ⟨b, 1, none⟩ v1).setCell ⟨b, 2, none⟩ v2).setCell ⟨b, 3, none⟩ v3).cell? ⟨b, 3, none⟩ = some v3 ∧ (((((W.setCell ⟨b, 0, none⟩ v0).setCell ⟨b, 1, none⟩ v1).setCell ⟨b, 2, none⟩ v2).setCell ⟨b, 3, none⟩ v3).setCell ⟨b, 4, none⟩ v4).cell? ⟨b, 4, none⟩ = some v4 ∧ ((((((W.setCell ⟨b, 0, none⟩ v0).setCell ⟨b, 1, none⟩ v1).setCell ⟨b, 2, none⟩ v2).setCell ⟨b, 3, none⟩ v3).setCell ⟨b, 4, none⟩ v4).setCell ⟨b, 5, none⟩ v5).cell? ⟨b, 5, none⟩ = some v5 ∧ (((((((W.setCell ⟨b, 0, none⟩ v0).setCell ⟨b, 1, none⟩ v1).setCell ⟨b, 2, none⟩ v2).setCell ⟨b, 3, none⟩ v3).setCell ⟨b, 4, none⟩ v4).setCell ⟨b, 5, none⟩ v5).setCell ⟨b, 6, none⟩ v6).cell? ⟨b, 6, none⟩ = some v6 ∧ ((((((((W.setCell ⟨b, 0, none⟩ v0).setCell ⟨b, 1, none⟩ v1).setCell ⟨b, 2, none⟩ v2).setCell ⟨b, 3, none⟩ v3).setCell ⟨b, 4, none⟩ v4).setCell ⟨b, 5, none⟩ v5).setCell ⟨b, 6, none⟩ v6).setCell ⟨b, 7, none⟩ v7).cell? ⟨b, 7, none⟩ = some v7 ∧ (((((((((W.setCell ⟨b, 0, none⟩ v0).setCell ⟨b, 1, none⟩ v1).setCell ⟨b, 2, none⟩ v2).setCell ⟨b, 3, none⟩ v3).setCell ⟨b, 4, none⟩ v4).setCell ⟨b, 5, none⟩ v5).setCell ⟨b, 6, none⟩ v6).setCell ⟨b, 7, none⟩ v7).setCell ⟨b, 8, none⟩ v8).cell? ⟨b, 8, none⟩ = some v8 ∧ ((((((((((W.setCell ⟨b, 0, none⟩ v0).setCell ⟨b, 1, none⟩ v1).setCell ⟨b, 2, none⟩ v2).setCell ⟨b, 3, none⟩ v3).setCell ⟨b, 4, none⟩ v4).setCell ⟨b, 5, none⟩ v5).setCell ⟨b, 6, none⟩ v6).setCell ⟨b, 7, none⟩ v7).setCell ⟨b, 8, none⟩ v8).setCell ⟨b, 9, none⟩ v9).cell? ⟨b, 9, none⟩ = some v9 ∧ (((((((((((W.setCell ⟨b, 0, none⟩ v0).setCell ⟨b, 1, none⟩ v1).setCell ⟨b, 2, none⟩ v2).setCell ⟨b, 3, none⟩ v3).setCell ⟨b, 4, none⟩ v4).setCell ⟨b, 5, none⟩ v5).setCell ⟨b, 6, none⟩ v6).setCell ⟨b, 7, none⟩ v7).setCell ⟨b, 8, none⟩ v8).setCell ⟨b, 9, none⟩ v9).setCell ⟨b, 10, none⟩ v10).cell? ⟨b, 10, none⟩ = some v10 ∧ ((((((((((((W.setCell ⟨b, 0, none⟩ v0).setCell ⟨b, 1, none⟩ v1).setCell ⟨b, 2, none⟩ v2).setCell ⟨b, 3, none⟩ v3).setCell ⟨b, 4, none⟩ v4).setCell ⟨b, 5, none⟩ v5).setCell ⟨b, 6, none⟩ v6).setCell ⟨b, 7, none⟩ v7).setCell ⟨b, 8, none⟩ v8).setCell ⟨b, 9, none⟩ v9).setCell ⟨b, 10, none⟩ v10).setCell ⟨b, 11, none⟩ v11).cell? ⟨b, 11, none⟩ = some v11 ∧ Upd (fun c => c = b) W ((((((((((((W.setCell ⟨b, 0, none⟩ v0).setCell ⟨b, 1, none⟩ v1).setCell ⟨b, 2, none⟩ v2).setCell ⟨b, 3, none⟩ v3).setCell ⟨b, 4, none⟩ v4).setCell ⟨b, 5, none⟩ v5).setCell ⟨b, 6, none⟩ v6).setCell ⟨b, 7, none⟩ v7).setCell ⟨b, 8, none⟩ v8).setCell ⟨b, 9, none⟩ v9).setCell ⟨b, 10, none⟩ v10).setCell ⟨b, 11, none⟩ v11) := by
  obtain ⟨h1, q0⟩ := putc (i := 0) h (by simp [hs]) v0
  obtain ⟨h2, q1⟩ := putc (i := 1) h1 (by simp [hs]) v1
  obtain ⟨h3, q2⟩ := putc (i := 2) h2 (by simp [hs]) v2
  obtain ⟨h4, q3⟩ := putc (i := 3) h3 (by simp [hs]) v3
  obtain ⟨h5, q4⟩ := putc (i := 4) h4 (by simp [hs]) v4
  obtain ⟨h6, q5⟩ := putc (i := 5) h5 (by simp [hs]) v5
  obtain ⟨h7, q6⟩ := putc (i := 6) h6 (by simp [hs]) v6
  obtain ⟨h8, q7⟩ := putc (i := 7) h7 (by simp [hs]) v7
  obtain ⟨h9, q8⟩ := putc (i := 8) h8 (by simp [hs]) v8
  obtain ⟨h10, q9⟩ := putc (i := 9) h9 (by simp [hs]) v9
  obtain ⟨h11, q10⟩ := putc (i := 10) h10 (by simp [hs]) v10
  obtain ⟨h12, q11⟩ := putc (i := 11) h11 (by simp [hs]) v11
  refine ⟨q0, q1, q2, q3, q4, q5, q6, q7, q8, q9, q10, q11, ?_⟩
  exact ((((((((((((Upd.refl _ W).trans (Upd.setCell (S := fun c => c = b) (a := ⟨b, 0, none⟩) _ _ rfl)).trans (Upd.setCell (S := fun c => c = b) (a := ⟨b, 1, none⟩) _ _ rfl)).trans (Upd.setCell (S := fun c => c = b) (a := ⟨b, 2, none⟩) _ _ rfl)).trans (Upd.setCell (S := fun c => c = b) (a := ⟨b, 3, none⟩) _ _ rfl)).trans (Upd.setCell (S := fun c => c = b) (a := ⟨b, 4, none⟩) _ _ rfl)).trans (Upd.setCell (S := fun c => c = b) (a := ⟨b, 5, none⟩) _ _ rfl)).trans (Upd.setCell (S := fun c => c = b) (a := ⟨b, 6, none⟩) _ _ rfl)).trans (Upd.setCell (S := fun c => c = b) (a := ⟨b, 7, none⟩) _ _ rfl)).trans (Upd.setCell (S := fun c => c = b) (a := ⟨b, 8, none⟩) _ _ rfl)).trans (Upd.setCell (S := fun c => c = b) (a := ⟨b, 9, none⟩) _ _ rfl)).trans (Upd.setCell (S := fun c => c = b) (a := ⟨b, 10, none⟩) _ _ rfl)).trans (Upd.setCell (S := fun c => c = b) (a := ⟨b, 11, none⟩) _ _ rfl)
/-- Decode, once all is read -/
structure FS (w0 W : World) (G : Array Value) : Prop where
  g : W.heap[w0.heap.size + 1]? = some (.cells G 28 (0, 0))
  r : W.heap[w0.heap.size]? = some (.cells Z12 28 (0, 0))
  new : New w0 W
theorem DS.after {w0 W W' : World} {br B b5 : Nat} {s : RS} {G : Array Value} (h : DS w0 br B b5 W s G) (hu : Upd (fun b => b = br) W W') : FS w0 W' G := by
  have h1 := h.at_.lo_
  exact ⟨(hu.block _ (Array.getElem?_eq_some_iff.1 h.g).1 (by omega)).trans h.g, (hu.block _ (Array.getElem?_eq_some_iff.1 h.r).1 (by omega)).trans h.r, h.new.then hu (fun c hc e => by omega)⟩
theorem FS.fresh {w0 W W' : World} {G : Array Value} (h : FS w0 W G) (hu : New W W') : FS w0 W' G :=
  ⟨(hu.block _ (Array.getElem?_eq_some_iff.1 h.g).1 id).trans h.g, (hu.block _ (Array.getElem?_eq_some_iff.1 h.r).1 id).trans h.r, h.new.trans hu⟩
theorem FS.rc {w0 W : World} {G : Array Value} (h : FS w0 W G) : W.cell? ⟨w0.heap.size, 0, none⟩ = some (.int .u64 0) ∧ W.cell? ⟨w0.heap.size, 1, none⟩ = some (.int .u64 0) ∧ W.cell? ⟨w0.heap.size, 2, none⟩ = some (.int .u64 0) ∧ W.cell? ⟨w0.heap.size, 3, none⟩ = some (.int .u64 0) ∧ W.cell? ⟨w0.heap.size, 4, none⟩ = some (.int .u64 0) ∧ W.cell? ⟨w0.heap.size, 5, none⟩ = some (.int .u64 0) ∧ W.cell? ⟨w0.heap.size, 6, none⟩ = some (.int .u64 0) ∧ W.cell? ⟨w0.heap.size, 7, none⟩ = some (.int .u64 0) ∧ W.cell? ⟨w0.heap.size, 8, none⟩ = some (.int .u64 0) ∧ W.cell? ⟨w0.heap.size, 9, none⟩ = some (.int .u64 0) ∧ W.cell? ⟨w0.heap.size, 10, none⟩ = some (.slice none 0 0) ∧ W.cell? ⟨w0.heap.size, 11, none⟩ = some (.slice none 0 0) ∧ W.frozen? ⟨w0.heap.size, 0, none⟩ = false ∧ W.frozen? ⟨w0.heap.size, 1, none⟩ = false ∧ W.frozen? ⟨w0.heap.size, 2, none⟩ = false ∧ W.frozen? ⟨w0.heap.size, 3, none⟩ = false ∧ W.frozen? ⟨w0.heap.size, 4, none⟩ = false ∧ W.frozen? ⟨w0.heap.size, 5, none⟩ = false ∧ W.frozen? ⟨w0.heap.size, 6, none⟩ = false ∧ W.frozen? ⟨w0.heap.size, 7, none⟩ = false ∧ W.frozen? ⟨w0.heap.size, 8, none⟩ = false ∧ W.frozen? ⟨w0.heap.size, 9, none⟩ = false ∧ W.frozen? ⟨w0.heap.size, 10, none⟩ = false ∧ W.frozen? ⟨w0.heap.size, 11, none⟩ = false := by
  have hr := h.r
  unfold Z12 at hr
  simp [World.cell?, World.frozen?, hr]
theorem FS.gc {w0 W : World} {p0 p1 p2 p3 p4 p5 p6 p7 p8 p9 : Nat} {Ax Ay : Option Addr} {nx cx ny cy : Nat} (h : FS w0 W (gen p0 p1 p2 p3 p4 p5 p6 p7 p8 p9 Ax nx cx Ay ny cy)) : W.cell? ⟨w0.heap.size + 1, 0, none⟩ = some (.int .u64 (p0 : Int)) ∧ W.cell? ⟨w0.heap.size + 1, 1, none⟩ = some (.int .u64 (p1 : Int)) ∧ W.cell? ⟨w0.heap.size + 1, 2, none⟩ = some (.int .u64 (p2 : Int)) ∧ W.cell? ⟨w0.heap.size + 1, 3, none⟩ = some (.int .u64 (p3 : Int)) ∧ W.cell? ⟨w0.heap.size + 1, 4, none⟩ = some (.int .u64 (p4 : Int)) ∧ W.cell? ⟨w0.heap.size + 1, 5, none⟩ = some (.int .u64 (p5 : Int)) ∧ W.cell? ⟨w0.heap.size + 1, 6, none⟩ = some (.int .u64 (p6 : Int)) ∧ W.cell? ⟨w0.heap.size + 1, 7, none⟩ = some (.int .u64 (p7 : Int)) ∧ W.cell? ⟨w0.heap.size + 1, 8, none⟩ = some (.int .u64 (p8 : Int)) ∧ W.cell? ⟨w0.heap.size + 1, 9, none⟩ = some (.int .u64 (p9 : Int)) ∧ W.cell? ⟨w0.heap.size + 1, 10, none⟩ = some (.slice Ax nx cx) ∧ W.cell? ⟨w0.heap.size + 1, 11, none⟩ = some (.slice Ay ny cy) := by
  have hr := h.g
  unfold gen at hr
  simp [World.cell?, hr]
/-- what Decode comes to -/
def Decd (w : World) (bs : List Nat) (e : Ending) (w' : World) : Prop := New w w' ∧ match dec bs with
  | none => e = .returned (.tuple #[.agg Z12, .int .i64 210])
  | some (ps, xs, ys) => ∃ p0 p1 p2 p3 p4 p5 p6 p7 p8 p9 Aa na ca Av nv cv, ps = [p0, p1, p2, p3, p4, p5, p6, p7, p8, p9] ∧ e = .returned (.tuple #[.agg (gen p0 p1 p2 p3 p4 p5 p6 p7 p8 p9 Aa na ca Av nv cv), .int .i64 0]) ∧
      Sl 2 w' Aa na ca (xs.map u64) ∧ Sl 3 w' Av nv cv (ys.map u64) ∧ Big ps ∧ Big xs ∧ Big ys ∧ na ≤ 256 ∧ nv ≤ 256 ∧ (∀ a, Aa = some a → w.heap.size ≤ a.block) ∧ ∀ a, Av = some a → w.heap.size ≤ a.block

set_option maxHeartbeats 8000000 in
set_option maxRecDepth 100000 in
theorem decode_c {w : World} {A : Option Addr} {n c : Nat} {bs : List Nat} (hb : By w A n c bs) (hn : n ≤ 65536) :
    Calls Tryz.prog 8 #[.slice A n c] w (Decd w bs) := by
  have hn2 : (n : Int) ≤ 65536 := by omega
  have HB := Lib.hid hb
  have hnew : New w ((w.alloc (.cells Z12 28)).alloc (.cells Z12 28)) := (Upd.alloc _ _ _).trans (Upd.alloc _ _ _)
  have hb2 : By ((w.alloc (.cells Z12 28)).alloc (.cells Z12 28)) A n c bs := hb.new hnew
  have hc17 := newReader2 hb2 (by omega)
  have HC17 := Lib.hid hc17
  clear hb hnew hb2 hc17
  unfold Z12 at HC17
  have hn3 : decide ((65536 : Int) < (n : Int)) = false := decide_eq_false (by omega)
  go_enter Tryz.func8, Tryz.ntmps8
  go_wp2_with (first
    | (go_at_call 17; refine HC17.out.mono ?_; rintro e W1 ⟨br, A1, c1, rfl, hR1, hu1, hbr1, hA1⟩; have hD := DS.start hR1 hn hu1 hbr1 hA1; have h18 := hD.at_.u32; clear hR1 hu1 hbr1 hA1)
    | (go_at_call 18; refine h18.mono ?_; rintro e W2 ⟨rfl, hAt2, hu2⟩; have hD2 := hD.read hAt2 hu2; clear h18)
    | (go_at_call 19; refine (nums_c _ _).mono ?_; rintro e W3 ⟨rfl, hh3, ht3, ho3, hv3⟩))
  have hnw3 := New.of_push hh3 ht3 ho3 hv3
  have hD3 := hD2.fresh hnw3
  have hp3 : W3.heap[W2.heap.size]? = some (.cells ((List.range 10).map fun i => Value.pointer (some ⟨w.heap.size + 1, i, none⟩)).toArray 69) := by rw [hh3]; simp only [Array.getElem?_push_size]
  have hB3 : W1.heap.size ≤ W2.heap.size := hD2.size
  clear hD hAt2 hu2 hD2 hh3 ht3 ho3 hv3 hnw3
  obtain ⟨s1, hs1⟩ : ∃ s1, s1 = rU 4 (bs, 0) := ⟨_, rfl⟩
  rw [← hs1] at hD3
  have HS1 := Lib.hid hs1; have HD3 := Lib.hid hD3; have HP3 := Lib.hid hp3; have HB3 := Lib.hid hB3
  clear hs1 hD3 hp3 hB3
  go_loopw [22] (fun i wr => ∃ j : Nat, j ≤ 10 ∧ i = .int .i64 (j : Int) ∧ Hid (DS w br W1.heap.size W1.heap.size wr (items j s1).2 (genA (items j s1).1 j)) ∧ Hid (wr.heap[W2.heap.size]? = some (.cells ((List.range 10).map fun i => Value.pointer (some ⟨w.heap.size + 1, i, none⟩)).toArray 69))) (fun i _ => 10 - (intOf i).toNat)
  case atStart => exact ⟨0, Nat.zero_le _, rfl, HD3, HP3⟩
  case round =>
    obtain ⟨j, hj, rfl, hI, hP⟩ := hrel
    by_cases hj10 : j < 10
    · have hc1 : wr.cell? ⟨W2.heap.size, j, none⟩ = some (.pointer (some ⟨w.heap.size + 1, j, none⟩)) := by have := hP.out; simp [World.cell?, this, hj10]
      have hc2 := hI.out.vcell
      have h20 := hI.out.at_.u64
      obtain ⟨x, hx⟩ : ∃ x, x = rV 8 (items j s1).2 := ⟨_, rfl⟩
      rw [← hx] at h20
      have HX := Lib.hid hx
      clear hx
      go_wp2_with (go_at_call 20; refine h20.mono ?_; rintro e W4 ⟨rfl, hAt4, hu4⟩; have hD4 := hI.out.read hAt4 hu4; have hg4 := hD4.gcell j _ (genA_get (items_length j s1) hj10); have hf4 := hD4.gfz j; have HD4 := Lib.hid hD4; have HU4 := Lib.hid hu4; clear hD4 hAt4 hu4)
      refine ⟨⟨j + 1, by omega, by congr 1, Lib.hid ?_, Lib.hid ?_⟩, by simp [intOf]; omega⟩
      · have h5 := HD4.out.put j (Gl.u64 x)
        rw [genA_put (items_length j s1) hj10, HX.out] at h5
        rw [items_snoc, HX.out]
        exact h5
      · have h6 := hP.out
        have h7 := (Array.getElem?_eq_some_iff.1 h6).1
        have h8 := HB3.out
        have h9 := hI.out.at_.lt
        have h10 := hI.out.at_.lo_
        have hu : Upd (fun b => b = br ∨ b = w.heap.size + 1) wr (W4.setCell ⟨w.heap.size + 1, j, none⟩ (.int .u64 (x : Int))) :=
          (HU4.out.mono (fun _ _ h => .inl h)).trans (Upd.setCell W4 _ (.inr rfl))
        rw [hu.block _ h7 (by omega)]
        exact h6
    · obtain rfl : j = 10 := by omega
      have hD := hI.out
      have hg0 := genA_ten (items_length 10 s1)
      rw [hg0] at hD
      obtain ⟨ps, hps⟩ : ∃ ps, ps = (items 10 s1).1 := ⟨_, rfl⟩
      obtain ⟨s2, hs2⟩ : ∃ s2, s2 = (items 10 s1).2 := ⟨_, rfl⟩
      have hpl : ps.length = 10 := by rw [hps]; exact items_length 10 s1
      have hpb : Big ps := by rw [hps]; exact items_big 10 s1 (by have := HD3.out.at_.small; exact this)
      rw [← hps, ← hs2] at hD
      obtain ⟨p0, p1, p2, p3, p4, p5, p6, p7, p8, p9, hpp⟩ := tenN hpl
      subst hpp
      have hdec : dec bs = match lst 2 256 s2 with
          | (none, _) => none
          | (some xs, s3) => match lst 3 64 s3 with
            | (none, _) => none
            | (some ys, s4) => if s4.2 = 0 ∧ s4.1 = [] ∧ genBytes [p0, p1, p2, p3, p4, p5, p6, p7, p8, p9] xs ys (xs.length / 2) (ys.length / 3) = bs then some ([p0, p1, p2, p3, p4, p5, p6, p7, p8, p9], xs, ys) else none := by
        unfold dec
        rw [← HS1.out, ← hps, ← hs2]
        rfl
      have HDEC := Lib.hid hdec
      have hc2 := hD.vcell
      have h21 := list21 (most := 256) hD.at_ hD.size (by omega)
      have HD := Lib.hid hD; have HPB := Lib.hid hpb
      clear hdec hI hD hps hs2 hpl hpb hg0 hj
      rcases hL : lst 2 256 s2 with ⟨_ | xs, s3⟩
      · rw [hL] at h21 HDEC
        simp only at HDEC
        go_wp2_with (go_at_call 21; refine h21.mono ?_; rintro e W5 ⟨hA5, hu5, rfl⟩; have hD5 := HD.out.read hA5 hu5; have hg5 := hD5.gcell 10 _ rfl; have hf5 := hD5.gfz 10; obtain ⟨r0, r1, r2, r3, r4, r5, r6, r7, r8, r9, r10, r11, z0, z1, z2, z3, z4, z5, z6, z7, z8, z9, z10, z11⟩ := hD5.rc; have HD5 := Lib.hid hD5; clear hD5 hA5 hu5)
        have HD6 := HD5.out.put 10 (.slice none 0 0)
        obtain ⟨q0, q1, q2, q3, q4, q5, q6, q7, q8, q9, q10, q11, hup⟩ := put12 (W := W5.setCell ⟨w.heap.size + 1, 10, none⟩ (.slice none 0 0)) (b := w.heap.size) (by rfl) HD6.r (.int .u64 0) (.int .u64 0) (.int .u64 0) (.int .u64 0) (.int .u64 0) (.int .u64 0) (.int .u64 0) (.int .u64 0) (.int .u64 0) (.int .u64 0) (.slice none 0 0) (.slice none 0 0)
        refine bodyPost_ret (by simp [results, Tryz.results8, go_sem, q0, q1, q2, q3, q4, q5, q6, q7, q8, q9, q10, q11]; try rfl) rfl ?_
        unfold Decd
        rw [HDEC.out]
        exact ⟨HD6.new.then hup (fun c hc e => by omega), rfl⟩
      · rw [hL] at h21 HDEC
        simp only at HDEC
        have hlo := HD.out.at_.lo_
        have hlt := HD.out.at_.lt
        have hne1 : ¬ (W1.heap.size = w.heap.size + 1) := by omega
        have hne2 : ¬ (w.heap.size + 1 = W1.heap.size) := by omega
        have hne3 : ¬ (W1.heap.size = w.heap.size) := by omega
        clear hlo hlt
        rcases hM : lst 3 64 s3 with ⟨_ | ys, s4⟩
        · rw [hM] at HDEC
          simp only at HDEC
          go_wp2_with (first
            | (go_at_call 21; refine h21.mono ?_; rintro e W5 ⟨hA5, hu5, Ax, nx, cx, rfl, hxs, hxb, hnx, hfx⟩; have hD5 := HD.out.read hA5 hu5; have hg5 := hD5.gcell 10 _ rfl; have hf5 := hD5.gfz 10; have hv5 := hD5.vcell; have hD6 := hD5.put 10 (.slice Ax nx cx); have h23 := list23 (most := 64) hD6.at_ hD6.size (by omega); rw [hM] at h23; have HD6 := Lib.hid hD6; clear hD5 hA5 hu5 hxs hxb hfx hD6)
            | (go_at_call 23; refine h23.mono ?_; rintro e W7 ⟨hA7, hu7, rfl⟩; have hD7 := HD6.out.read hA7 hu7; have hg7 := hD7.gcell 11 _ rfl; have hf7 := hD7.gfz 11; obtain ⟨r0, r1, r2, r3, r4, r5, r6, r7, r8, r9, r10, r11, z0, z1, z2, z3, z4, z5, z6, z7, z8, z9, z10, z11⟩ := hD7.rc; have HD7 := Lib.hid hD7; clear hD7 hA7 hu7))
          have HD8 := HD7.out.put 11 (.slice none 0 0)
          obtain ⟨q0, q1, q2, q3, q4, q5, q6, q7, q8, q9, q10, q11, hup⟩ := put12 (W := W7.setCell ⟨w.heap.size + 1, 11, none⟩ (.slice none 0 0)) (b := w.heap.size) (by rfl) HD8.r (.int .u64 0) (.int .u64 0) (.int .u64 0) (.int .u64 0) (.int .u64 0) (.int .u64 0) (.int .u64 0) (.int .u64 0) (.int .u64 0) (.int .u64 0) (.slice none 0 0) (.slice none 0 0)
          refine bodyPost_ret (by simp [results, Tryz.results8, go_sem, q0, q1, q2, q3, q4, q5, q6, q7, q8, q9, q10, q11]; try rfl) rfl ?_
          unfold Decd
          rw [HDEC.out]
          exact ⟨HD8.new.then hup (fun c hc e => by omega), rfl⟩
        · rw [hM] at HDEC
          simp only at HDEC
          by_cases hE : s4.2 = 0 ∧ s4.1 = []
          · obtain ⟨ef, hef⟩ : ∃ ef, (if s4.2 = 0 ∧ 0 < s4.1.length then 43 else s4.2) = ef := ⟨_, rfl⟩
            have hef0 : ef = 0 := by rw [← hef, if_neg (fun h => by have := h.2; rw [hE.2] at this; simp at this), hE.1]
            subst hef0
            have Hsl : ∀ (W5 W7 W9 : World) (Ax : Option Addr) (nx cx : Nat) (Ay : Option Addr) (ny cy : Nat) (xs ys : List Nat), Sl 2 W5 Ax nx cx (xs.map Gl.u64) → Sl 3 W7 Ay ny cy (ys.map Gl.u64) → Upd (fun b => b = br) (W5.setCell ⟨w.heap.size + 1, 10, none⟩ (.slice Ax nx cx)) W7 → Upd (fun b => b = br) (W7.setCell ⟨w.heap.size + 1, 11, none⟩ (.slice Ay ny cy)) W9 →
                (∀ a, Ax = some a → wr.heap.size ≤ a.block) → (∀ a, Ay = some a → (W5.setCell ⟨w.heap.size + 1, 10, none⟩ (.slice Ax nx cx)).heap.size ≤ a.block) → W1.heap.size ≤ (W5.setCell ⟨w.heap.size + 1, 10, none⟩ (.slice Ax nx cx)).heap.size → Sl 2 W9 Ax nx cx (xs.map Gl.u64) ∧ Sl 3 W9 Ay ny cy (ys.map Gl.u64) := fun W5 W7 W9 Ax nx cx Ay ny cy xs ys k1 k2 k3 k4 k5 k6 k7 => by
              have hb1 := HD.out.at_.lo_
              have hb2 := HD.out.at_.lt
              have hb3 := HD.out.size
              have u1 : Upd (fun b => b = br ∨ b = w.heap.size + 1) W5 (W5.setCell ⟨w.heap.size + 1, 10, none⟩ (.slice Ax nx cx)) := Upd.setCell W5 _ (.inr rfl)
              have u2 : Upd (fun b => b = br ∨ b = w.heap.size + 1) W7 (W7.setCell ⟨w.heap.size + 1, 11, none⟩ (.slice Ay ny cy)) := Upd.setCell W7 _ (.inr rfl)
              have u3 := u2.trans (k4.mono (fun _ _ h => .inl h))
              have u4 := (u1.trans (k3.mono (fun _ _ h => .inl h))).trans u3
              exact ⟨k1.upd u4 (fun a ha _ hS => by have := k5 a ha; omega), k2.upd u3 (fun a ha _ hS => by have := k6 a ha; omega)⟩
            by_cases hQ : genBytes [p0, p1, p2, p3, p4, p5, p6, p7, p8, p9] xs ys (xs.length / 2) (ys.length / 3) = bs
            · have hif : dec bs = some ([p0, p1, p2, p3, p4, p5, p6, p7, p8, p9], xs, ys) := by rw [HDEC.out, if_pos ⟨hE.1, hE.2, hQ⟩]
              have HDEC := Lib.hid hif
              have Hdq : ∀ nx ny lx ly : Nat, xs.length = lx → ys.length = ly → xs.length = nx * 2 → ys.length = ny * 3 → decide (genBytes [p0, p1, p2, p3, p4, p5, p6, p7, p8, p9] xs ys nx ny = bs) = true := fun nx ny lx ly _ _ h1 h2 => decide_eq_true (by rw [← hQ, h1, h2, Nat.mul_div_cancel _ (by omega), Nat.mul_div_cancel _ (by omega)])
              clear hif hQ
              go_wp2_with (first
                | (go_at_call 21; refine h21.mono ?_; rintro e W5 ⟨hA5, hu5, Ax, nx, cx, rfl, hxs, hxb, hnx, hfx⟩; have hD5 := HD.out.read hA5 hu5; have hg5 := hD5.gcell 10 _ rfl; have hf5 := hD5.gfz 10; have hv5 := hD5.vcell; have hD6 := hD5.put 10 (.slice Ax nx cx); have h23 := list23 (most := 64) hD6.at_ hD6.size (by omega); rw [hM] at h23; have HD6 := Lib.hid hD6; have HXS := Lib.hid hxs; have HXB := Lib.hid hxb; have HFX := Lib.hid hfx; clear hD5 hA5 hu5 hxs hxb hfx hD6)
                | (go_at_call 23; refine h23.mono ?_; rintro e W7 ⟨hA7, hu7, Ay, ny, cy, rfl, hys, hyb, hny, hfy⟩; have hD7 := HD6.out.read hA7 hu7; have hg7 := hD7.gcell 11 _ rfl; have hf7 := hD7.gfz 11; have hv7 := hD7.vcell; have hD8 := hD7.put 11 (.slice Ay ny cy); have h25 := hD8.at_.fin; rw [hef] at h25; have HD8 := Lib.hid hD8; have HYS := Lib.hid hys; have HYB := Lib.hid hyb; have HFY := Lib.hid hfy; have HU7 := Lib.hid hu7; clear hD7 hA7 hu7 hys hyb hfy hD8)
                | (go_at_call 25; refine h25.mono ?_; rintro e W9 ⟨rfl, hu9⟩; have hF9 := HD8.out.after hu9; obtain ⟨g0, g1, g2, g3, g4, g5, g6, g7, g8, g9, g10, g11⟩ := hF9.gc; obtain ⟨hx9, hy9⟩ := Hsl W5 W7 W9 Ax nx cx Ay ny cy xs ys HXS.out HYS.out HU7.out hu9 HFX.out HFY.out HD6.out.size; have h11 := encode_c HPB.out hx9 hy9 HXB.out HYB.out (by omega) (by omega); unfold gen at h11; have HX9 := Lib.hid hx9; have HY9 := Lib.hid hy9; have HF9 := Lib.hid hF9; clear hF9 hu9 hx9 hy9)
                | (go_at_call 11; refine h11.mono ?_; rintro e W10 ⟨A10, n10, c10, rfl, hby10, hnw10, hfr10, how10⟩; have hF10 := HF9.out.fresh hnw10; obtain ⟨k0, k1, k2, k3, k4, k5, k6, k7, k8, k9, k10, k11⟩ := hF10.gc; obtain ⟨r0, r1, r2, r3, r4, r5, r6, r7, r8, r9, r10, r11, z0, z1, z2, z3, z4, z5, z6, z7, z8, z9, z10, z11⟩ := hF10.rc; have h26 := equal_c hby10 (HB.out.new hF10.new); rw [Hdq nx ny xs.length ys.length rfl rfl (by have := HX9.out.len; rw [List.length_map] at this; exact this) (by have := HY9.out.len; rw [List.length_map] at this; exact this)] at h26; have HF10 := Lib.hid hF10; have HNW10 := Lib.hid hnw10; clear hF10 hby10 hnw10 hfr10 how10)
                | (go_at_call 26; refine h26.mono ?_; rintro e W11 ⟨rfl, rfl⟩))
              obtain ⟨q0, q1, q2, q3, q4, q5, q6, q7, q8, q9, q10, q11, hup⟩ := put12 (W := W11) (b := w.heap.size) (by rfl) HF10.out.r (.int .u64 (p0 : Int)) (.int .u64 (p1 : Int)) (.int .u64 (p2 : Int)) (.int .u64 (p3 : Int)) (.int .u64 (p4 : Int)) (.int .u64 (p5 : Int)) (.int .u64 (p6 : Int)) (.int .u64 (p7 : Int)) (.int .u64 (p8 : Int)) (.int .u64 (p9 : Int)) (.slice Ax nx cx) (.slice Ay ny cy)
              refine bodyPost_ret (by simp [results, Tryz.results8, go_sem, q0, q1, q2, q3, q4, q5, q6, q7, q8, q9, q10, q11]; try rfl) rfl ?_
              unfold Decd
              rw [HDEC.out]
              have hb1 := HD.out.at_.lo_
              have hb2 := HD.out.at_.lt
              have hb3 := HD.out.size
              have hb4 := HD6.out.size
              have hxa : ∀ (Ax : Option Addr), (∀ a, Ax = some a → wr.heap.size ≤ a.block) → Away (fun c => c = w.heap.size) Ax nx := fun Ax h a ha _ e => by have := h a ha; omega
              have hya : ∀ (Ay : Option Addr), (∀ a, Ay = some a → (W5.setCell ⟨w.heap.size + 1, 10, none⟩ (.slice Ax nx cx)).heap.size ≤ a.block) → Away (fun c => c = w.heap.size) Ay ny := fun Ay h a ha _ e => by have := h a ha; omega
              exact ⟨HF10.out.new.then hup (fun c hc e => by omega), p0, p1, p2, p3, p4, p5, p6, p7, p8, p9, Ax, nx, cx, Ay, ny, cy, rfl, rfl, (HX9.out.new HNW10.out).upd hup (hxa Ax HFX.out), (HY9.out.new HNW10.out).upd hup (hya Ay HFY.out), HPB.out, HXB.out, HYB.out, hnx, hny, fun a ha => by have := HFX.out a ha; have := HD.out.new.size; omega, fun a ha => by have := HFY.out a ha; have := HD6.out.new.size; omega⟩
            · have hif : dec bs = none := by rw [HDEC.out, if_neg (fun h => hQ h.2.2)]
              have HDEC := Lib.hid hif
              have Hdq : ∀ nx ny lx ly : Nat, xs.length = lx → ys.length = ly → xs.length = nx * 2 → ys.length = ny * 3 → decide (genBytes [p0, p1, p2, p3, p4, p5, p6, p7, p8, p9] xs ys nx ny = bs) = false := fun nx ny lx ly _ _ h1 h2 => decide_eq_false (fun h => hQ (by rw [← h, h1, h2, Nat.mul_div_cancel _ (by omega), Nat.mul_div_cancel _ (by omega)]))
              clear hif hQ
              go_wp2_with (first
                | (go_at_call 21; refine h21.mono ?_; rintro e W5 ⟨hA5, hu5, Ax, nx, cx, rfl, hxs, hxb, hnx, hfx⟩; have hD5 := HD.out.read hA5 hu5; have hg5 := hD5.gcell 10 _ rfl; have hf5 := hD5.gfz 10; have hv5 := hD5.vcell; have hD6 := hD5.put 10 (.slice Ax nx cx); have h23 := list23 (most := 64) hD6.at_ hD6.size (by omega); rw [hM] at h23; have HD6 := Lib.hid hD6; have HXS := Lib.hid hxs; have HXB := Lib.hid hxb; have HFX := Lib.hid hfx; clear hD5 hA5 hu5 hxs hxb hfx hD6)
                | (go_at_call 23; refine h23.mono ?_; rintro e W7 ⟨hA7, hu7, Ay, ny, cy, rfl, hys, hyb, hny, hfy⟩; have hD7 := HD6.out.read hA7 hu7; have hg7 := hD7.gcell 11 _ rfl; have hf7 := hD7.gfz 11; have hv7 := hD7.vcell; have hD8 := hD7.put 11 (.slice Ay ny cy); have h25 := hD8.at_.fin; rw [hef] at h25; have HD8 := Lib.hid hD8; have HYS := Lib.hid hys; have HYB := Lib.hid hyb; have HFY := Lib.hid hfy; have HU7 := Lib.hid hu7; clear hD7 hA7 hu7 hys hyb hfy hD8)
                | (go_at_call 25; refine h25.mono ?_; rintro e W9 ⟨rfl, hu9⟩; have hF9 := HD8.out.after hu9; obtain ⟨g0, g1, g2, g3, g4, g5, g6, g7, g8, g9, g10, g11⟩ := hF9.gc; obtain ⟨hx9, hy9⟩ := Hsl W5 W7 W9 Ax nx cx Ay ny cy xs ys HXS.out HYS.out HU7.out hu9 HFX.out HFY.out HD6.out.size; have h11 := encode_c HPB.out hx9 hy9 HXB.out HYB.out (by omega) (by omega); unfold gen at h11; have HX9 := Lib.hid hx9; have HY9 := Lib.hid hy9; have HF9 := Lib.hid hF9; clear hF9 hu9 hx9 hy9)
                | (go_at_call 11; refine h11.mono ?_; rintro e W10 ⟨A10, n10, c10, rfl, hby10, hnw10, hfr10, how10⟩; have hF10 := HF9.out.fresh hnw10; obtain ⟨k0, k1, k2, k3, k4, k5, k6, k7, k8, k9, k10, k11⟩ := hF10.gc; obtain ⟨r0, r1, r2, r3, r4, r5, r6, r7, r8, r9, r10, r11, z0, z1, z2, z3, z4, z5, z6, z7, z8, z9, z10, z11⟩ := hF10.rc; have h26 := equal_c hby10 (HB.out.new hF10.new); rw [Hdq nx ny xs.length ys.length rfl rfl (by have := HX9.out.len; rw [List.length_map] at this; exact this) (by have := HY9.out.len; rw [List.length_map] at this; exact this)] at h26; have HF10 := Lib.hid hF10; have HNW10 := Lib.hid hnw10; clear hF10 hby10 hnw10 hfr10 how10)
                | (go_at_call 26; refine h26.mono ?_; rintro e W11 ⟨rfl, rfl⟩))
              obtain ⟨q0, q1, q2, q3, q4, q5, q6, q7, q8, q9, q10, q11, hup⟩ := put12 (W := W11) (b := w.heap.size) (by rfl) HF10.out.r (.int .u64 0) (.int .u64 0) (.int .u64 0) (.int .u64 0) (.int .u64 0) (.int .u64 0) (.int .u64 0) (.int .u64 0) (.int .u64 0) (.int .u64 0) (.slice none 0 0) (.slice none 0 0)
              refine bodyPost_ret (by simp [results, Tryz.results8, go_sem, q0, q1, q2, q3, q4, q5, q6, q7, q8, q9, q10, q11]; try rfl) rfl ?_
              unfold Decd
              rw [HDEC.out]
              exact ⟨HF10.out.new.then hup (fun c hc e => by omega), rfl⟩
          · have hif : dec bs = none := by rw [HDEC.out, if_neg (fun h => hE ⟨h.1, h.2.1⟩)]
            have HDEC := Lib.hid hif
            clear hif
            obtain ⟨ef, hef⟩ : ∃ ef, (if s4.2 = 0 ∧ 0 < s4.1.length then 43 else s4.2) = ef := ⟨_, rfl⟩
            have hne : (((ef : Nat) : Int) != 0) = true := by
              rw [bne_iff_ne]
              intro h0
              have h0 : ef = 0 := by omega
              rw [h0] at hef
              by_cases h1 : s4.2 = 0
              · by_cases h2 : 0 < s4.1.length
                · rw [if_pos ⟨h1, h2⟩] at hef; cases hef
                · exact hE ⟨h1, List.length_eq_zero_iff.1 (by omega)⟩
              · rw [if_neg (fun h => h1 h.1)] at hef; exact h1 hef
            go_wp2_with (first
              | (go_at_call 21; refine h21.mono ?_; rintro e W5 ⟨hA5, hu5, Ax, nx, cx, rfl, hxs, hxb, hnx, hfx⟩; have hD5 := HD.out.read hA5 hu5; have hg5 := hD5.gcell 10 _ rfl; have hf5 := hD5.gfz 10; have hv5 := hD5.vcell; have hD6 := hD5.put 10 (.slice Ax nx cx); have h23 := list23 (most := 64) hD6.at_ hD6.size (by omega); rw [hM] at h23; have HD6 := Lib.hid hD6; have HXS := Lib.hid hxs; have HXB := Lib.hid hxb; have HFX := Lib.hid hfx; clear hD5 hA5 hu5 hxs hxb hfx hD6)
              | (go_at_call 23; refine h23.mono ?_; rintro e W7 ⟨hA7, hu7, Ay, ny, cy, rfl, hys, hyb, hny, hfy⟩; have hD7 := HD6.out.read hA7 hu7; have hg7 := hD7.gcell 11 _ rfl; have hf7 := hD7.gfz 11; have hv7 := hD7.vcell; have hD8 := hD7.put 11 (.slice Ay ny cy); have h25 := hD8.at_.fin; rw [hef] at h25; have HD8 := Lib.hid hD8; have HYS := Lib.hid hys; have HYB := Lib.hid hyb; have HFY := Lib.hid hfy; have HU7 := Lib.hid hu7; clear hD7 hA7 hu7 hys hyb hfy hD8)
              | (go_at_call 25; refine h25.mono ?_; rintro e W9 ⟨rfl, hu9⟩; have hF9 := HD8.out.after hu9; obtain ⟨r0, r1, r2, r3, r4, r5, r6, r7, r8, r9, r10, r11, z0, z1, z2, z3, z4, z5, z6, z7, z8, z9, z10, z11⟩ := hF9.rc; have HF9 := Lib.hid hF9; clear hF9 hu9))
            obtain ⟨q0, q1, q2, q3, q4, q5, q6, q7, q8, q9, q10, q11, hup⟩ := put12 (W := W9) (b := w.heap.size) (by rfl) HF9.out.r (.int .u64 0) (.int .u64 0) (.int .u64 0) (.int .u64 0) (.int .u64 0) (.int .u64 0) (.int .u64 0) (.int .u64 0) (.int .u64 0) (.int .u64 0) (.slice none 0 0) (.slice none 0 0)
            refine bodyPost_ret (by simp [results, Tryz.results8, go_sem, q0, q1, q2, q3, q4, q5, q6, q7, q8, q9, q10, q11]; try rfl) rfl ?_
            unfold Decd
            rw [HDEC.out]
            exact ⟨HF9.out.new.then hup (fun c hc e => by omega), rfl⟩
end Go.Proofs.YtjfmbamiampjmaaGreat
