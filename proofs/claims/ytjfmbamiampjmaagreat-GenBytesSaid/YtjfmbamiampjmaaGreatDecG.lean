/- A part of the proof of the statement of this seat: no condition. -/
import Derived.Test.YtjfmbamiampjmaaGreatEncG
import Derived.Handy
set_option linter.unusedVariables false
set_option linter.unusedSimpArgs false
namespace Go.Proofs.YtjfmbamiampjmaaGreat
open Go Go.RowKit Go.Proofs Gl

/-- a reader's state: bytes left, error -/
abbrev RS := List Nat × Nat
def rU (k : Nat) (s : RS) : RS := (rb k s.1 s.2, re k s.1 s.2)
def rV (k : Nat) (s : RS) : Nat := rv k s.1 s.2
/-- m numbers of 8 bytes -/
def items : Nat → RS → List Nat × RS
  | 0, s => ([], s)
  | m + 1, s => (rV 8 s :: (items m (rU 8 s)).1, (items m (rU 8 s)).2)

/-- the Reader is in a state; its bytes lie in a block below B -/
structure At (lo B br : Nat) (w : World) (s : RS) : Prop where
  rd : ∃ A n c, Rd br w A n c s.1 s.2 ∧ n ≤ 1073741824 ∧ ∀ a, A = some a → lo ≤ a.block ∧ a.block < B
  lt : br < B
  lo_ : lo ≤ br
theorem rb_length {k : Nat} {bs : List Nat} {err : Nat} : (rb k bs err).length ≤ bs.length := by unfold rb; split <;> simp
section
variable {lo B br : Nat} {w w' : World} {s : RS}
theorem At.upd {S : Nat → Prop} (h : At lo B br w s) (hu : Upd S w w') (hS : ∀ b, lo ≤ b → b < B → ¬ S b) : At lo B br w' s := by
  obtain ⟨A, n, c, h1, h2, h3⟩ := h.rd
  exact ⟨⟨A, n, c, h1.upd hu (hS _ h.lo_ h.lt) (fun a ha _ => hS _ (h3 a ha).1 (h3 a ha).2), h2, h3⟩, h.lt, h.lo_⟩
theorem At.small (h : At lo B br w s) : Small s.1 := let ⟨_, _, _, h1, _⟩ := h.rd; h1.by_.small
theorem At.took (h : At lo B br w s) {k : Nat} {v : Value} {e : Ending} (ht : ∀ A n c, Rd br w A n c s.1 s.2 → Took br w A k s.1 s.2 v e w') : e = .returned v ∧ At lo B br w' (rU k s) ∧ Upd (fun b => b = br) w w' := by
  obtain ⟨A, n, c, h1, h2, h3⟩ := h.rd
  obtain ⟨he, A', n', c', k1, k2, k3⟩ := ht A n c h1
  refine ⟨he, ⟨⟨A', n', c', k1, ?_, fun a ha => ?_⟩, h.lt, h.lo_⟩, k2⟩
  · have e1 := k1.by_.len; have e2 := h1.by_.len; have := rb_length (k := k) (bs := s.1) (err := s.2); omega
  · obtain ⟨a0, h0, hb⟩ := k3 a ha
    rw [hb]; exact h3 a0 h0
theorem At.u64 (h : At lo B br w s) : Calls Tryz.prog 20 #[.pointer (some ⟨br, 0, none⟩)] w fun e w' => e = .returned (.int .u64 (rV 8 s : Int)) ∧ At lo B br w' (rU 8 s) ∧ Upd (fun b => b = br) w w' := by
  obtain ⟨A, n, c, h1, h2, h3⟩ := h.rd
  refine (rU64 h1 h2).mono fun e w' ht => ?_
  obtain ⟨he, A', n', c', k1, k2, k3⟩ := ht
  refine ⟨he, ⟨⟨A', n', c', k1, ?_, fun a ha => ?_⟩, h.lt, h.lo_⟩, k2⟩
  · have e1 := k1.by_.len; have e2 := h1.by_.len; have := rb_length (k := 8) (bs := s.1) (err := s.2); omega
  · obtain ⟨a0, h0, hb⟩ := k3 a ha
    rw [hb]; exact h3 a0 h0
theorem At.u32 (h : At lo B br w s) : Calls Tryz.prog 18 #[.pointer (some ⟨br, 0, none⟩)] w fun e w' => e = .returned (.int .u32 (rV 4 s : Int)) ∧ At lo B br w' (rU 4 s) ∧ Upd (fun b => b = br) w w' := by
  obtain ⟨A, n, c, h1, h2, h3⟩ := h.rd
  refine (rU32 h1 h2).mono fun e w' ht => ?_
  obtain ⟨he, A', n', c', k1, k2, k3⟩ := ht
  refine ⟨he, ⟨⟨A', n', c', k1, ?_, fun a ha => ?_⟩, h.lt, h.lo_⟩, k2⟩
  · have e1 := k1.by_.len; have e2 := h1.by_.len; have := rb_length (k := 4) (bs := s.1) (err := s.2); omega
  · obtain ⟨a0, h0, hb⟩ := k3 a ha
    rw [hb]; exact h3 a0 h0
theorem At.e (h : At lo B br w s) : Calls Tryz.prog 48 #[.pointer (some ⟨br, 0, none⟩)] w fun e w' => e = .returned (.int .i64 (s.2 : Int)) ∧ w' = w := by
  obtain ⟨A, n, c, h1, h2, h3⟩ := h.rd
  exact rErr h1
theorem At.fin (h : At lo B br w s) : Calls Tryz.prog 25 #[.pointer (some ⟨br, 0, none⟩)] w fun e w' => e = .returned (.int .i64 ((if s.2 = 0 ∧ 0 < s.1.length then 43 else s.2 : Nat) : Int)) ∧ Upd (fun b => b = br) w w' := by
  obtain ⟨A, n, c, h1, h2, h3⟩ := h.rd
  rw [h1.by_.len]
  exact rEnd h1
end

/-- two new blocks -/
theorem two_new {br B : Nat} {w w' : World} {o1 o2 : Obj} (hB : B ≤ w.heap.size) (hlt : br < B) (hu : Upd (fun b => b = br) ((w.alloc o1).alloc o2).drew w') : w'.heap[w.heap.size]? = some o1 ∧ w'.heap[w.heap.size + 1]? = some o2 ∧ Upd (fun b => b = br) w w' := by
  have hs : ((w.alloc o1).alloc o2).drew.heap.size = w.heap.size + 2 := by show ((w.heap.push o1).push o2).size = _; simp
  refine ⟨?_, ?_, ((Upd.alloc _ w o1).trans (Upd.alloc _ _ o2)).trans hu.of_drew⟩
  · rw [hu.block _ (by rw [hs]; omega) (by omega)]
    show ((w.heap.push o1).push o2)[w.heap.size]? = _
    rw [Array.getElem?_push_lt (by simp)]; simp
  · rw [hu.block _ (by rw [hs]; omega) (by omega)]
    show ((w.heap.push o1).push o2)[w.heap.size + 1]? = _
    rw [show w.heap.size + 1 = (w.heap.push o1).size by simp]; simp only [Array.getElem?_push_size]
theorem cells_at {w : World} {b : Nat} {cs : Array Value} {t : TypeId} (h : w.heap[b]? = some (.cells cs t (0, 0))) (i : Nat) (v : Value) (hv : cs[i]? = some v) : w.cell? ⟨b, i, none⟩ = some v := by simp [World.cell?, h, hv]
theorem fz_at {w : World} {b : Nat} {cs : Array Value} {t : TypeId} (h : w.heap[b]? = some (.cells cs t (0, 0))) (i : Nat) : w.frozen? ⟨b, i, none⟩ = false := by simp [World.frozen?, h]

theorem two_cells {w : World} {b : Nat} {u v x y : Value} {t : TypeId} (h : w.heap[b]? = some (.cells #[u, v] t (0, 0))) : (w.setCell ⟨b, 0, none⟩ x).cell? ⟨b, 0, none⟩ = some x ∧ ((w.setCell ⟨b, 0, none⟩ x).setCell ⟨b, 1, none⟩ y).cell? ⟨b, 1, none⟩ = some y := by
  simp [World.cell?, World.setCell, Array.getElem?_modify, h]
set_option maxHeartbeats 2000000 in
set_option maxRecDepth 100000 in
theorem purse_c {lo B br : Nat} {w : World} {s : RS} (h : At lo B br w s) (hB : B ≤ w.heap.size) :
    Calls Tryz.prog 22 #[.agg #[.pointer (some ⟨br, 0, none⟩)]] w fun e w' => e = .returned (.agg #[.int .u64 (rV 8 s : Int), .int .u64 (rV 8 (rU 8 s) : Int)]) ∧ At lo B br w' (rU 8 (rU 8 s)) ∧ Upd (fun b => b = br) w w' := by
  have hA0 : At lo B br ((w.alloc (.cells #[.pointer (some ⟨br, 0, none⟩)] 63)).alloc (.cells #[.int .u64 0, .int .u64 0] 43)).drew s :=
    h.upd (S := fun _ => False) (((Upd.alloc _ w _).trans (Upd.alloc _ _ _)).drew) (fun _ _ _ => id)
  have hc1 := hA0.u64
  have hlt := h.lt
  have Hk : ∀ W', Upd (fun b => b = br) ((w.alloc (.cells #[.pointer (some ⟨br, 0, none⟩)] 63)).alloc (.cells #[.int .u64 0, .int .u64 0] 43)).drew W' →
      W'.cell? ⟨w.heap.size, 0, none⟩ = some (.pointer (some ⟨br, 0, none⟩)) ∧ W'.cell? ⟨w.heap.size + 1, 0, none⟩ = some (.int .u64 0) ∧ W'.cell? ⟨w.heap.size + 1, 1, none⟩ = some (.int .u64 0) ∧ W'.frozen? ⟨w.heap.size + 1, 0, none⟩ = false ∧ W'.frozen? ⟨w.heap.size + 1, 1, none⟩ = false ∧ Upd (fun b => b = br) w W' ∧ Hid (W'.heap[w.heap.size + 1]? = some (.cells #[.int .u64 0, .int .u64 0] 43 (0, 0))) := fun W' hu => by
    obtain ⟨h1, h2, h3⟩ := two_new hB hlt hu
    exact ⟨cells_at h1 0 _ rfl, cells_at h2 0 _ rfl, cells_at h2 1 _ rfl, fz_at h2 0, fz_at h2 1, h3, Lib.hid h2⟩
  have hres : ∀ W2, At lo B br W2 (rU 8 (rU 8 s)) → Upd (fun b => b = br) w W2 → ∀ x y : Value, At lo B br ((W2.setCell ⟨w.heap.size + 1, 0, none⟩ x).setCell ⟨w.heap.size + 1, 1, none⟩ y) (rU 8 (rU 8 s)) ∧ Upd (fun b => b = br) w ((W2.setCell ⟨w.heap.size + 1, 0, none⟩ x).setCell ⟨w.heap.size + 1, 1, none⟩ y) := fun W2 h1 h2 x y => by
    have hu : Upd (fun b => b = w.heap.size + 1) W2 ((W2.setCell ⟨w.heap.size + 1, 0, none⟩ x).setCell ⟨w.heap.size + 1, 1, none⟩ y) :=
      (Upd.setCell (S := fun b => b = w.heap.size + 1) (a := ⟨w.heap.size + 1, 0, none⟩) W2 x rfl).trans (Upd.setCell (a := ⟨w.heap.size + 1, 1, none⟩) _ y rfl)
    exact ⟨h1.upd hu (fun b _ hb e => by omega), h2.then hu (fun c hc e => by omega)⟩
  obtain ⟨x, hx⟩ : ∃ x, x = rV 8 s := ⟨_, rfl⟩
  obtain ⟨y, hy⟩ : ∃ y, y = rV 8 (rU 8 s) := ⟨_, rfl⟩
  rw [← hx, ← hy]
  rw [← hx] at hc1
  have HK := Lib.hid Hk; have HR := Lib.hid hres; have HY := Lib.hid hy; have HC := Lib.hid hc1
  clear h hx hy hB hA0 hlt Hk hres hc1
  go_enter Tryz.func22, Tryz.ntmps22
  go_wp2
  go_region_with (first
    | (go_at_call 20; refine HC.out.mono ?_; rintro e W1 ⟨rfl, hA1, hu1⟩; obtain ⟨f1, f2, f3, f4, f5, f6, f7⟩ := HK.out W1 hu1; have hc2 := Lib.hid hA1.u64; rw [← HY.out] at hc2)
    | (go_at_call 20; refine hc2.out.mono ?_; rintro e W2 ⟨rfl, hA2, hu2⟩; obtain ⟨g1, g2, g3, g4, g5, g6, g7⟩ := HK.out W2 (hu1.trans hu2)))
  all_goals go_wp2
  all_goals
    obtain ⟨q1, q2⟩ := two_cells (x := .int .u64 (x : Int)) (y := .int .u64 (y : Int)) g7.out
    refine bodyPost_ret (by simp [results, Tryz.results22, go_sem, q1, q2]; try rfl) rfl ?_
    exact ⟨rfl, HR.out W2 hA2 g6 _ _⟩
end Go.Proofs.YtjfmbamiampjmaaGreat
