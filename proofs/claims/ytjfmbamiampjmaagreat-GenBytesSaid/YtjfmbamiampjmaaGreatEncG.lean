/- A part of the proof of the statement of this seat: no condition. -/
import Derived.Test.YtjfmbamiampjmaaGreatEncR
set_option linter.unusedVariables false
set_option linter.unusedSimpArgs false
namespace Go.Proofs.YtjfmbamiampjmaaGreat
open Go Go.RowKit Go.Proofs Gl

theorem Wr.upd {base bw : Nat} {S : Nat → Prop} {w w' : World} {A : Option Addr} {n c : Nat} {bs : List Nat} (h : Wr base bw w A n c bs) (hu : Upd S w w') (h1 : ¬ S bw) (h2 : ∀ b, (Value.slice A n c).ownBlock = some b → ¬ S b) : Wr base bw w' A n c bs :=
  ⟨let ⟨t, hb⟩ := h.blk; ⟨t, (hu.block bw h.lt h1).trans hb⟩, ownsRow_keep h.own (fun b hb hl => hu.block b hl (h2 b hb)), h.ne, h.small, h.hb⟩

/-- a Writer at work: what was there before is untouched; so are the things of K -/
structure Enc (bw : Nat) (w0 : World) (K : List (Nat × Obj)) (w : World) (A : Option Addr) (n c : Nat) (bs : List Nat) : Prop where
  wr : Wr w0.heap.size bw w A n c bs
  new : New w0 w
  kept : ∀ x ∈ K, w.heap[x.1]? = some x.2
  away : ∀ x ∈ K, x.1 ≠ bw ∧ (Value.slice A n c).ownBlock ≠ some x.1
section
variable {bw : Nat} {w0 w w' : World} {K : List (Nat × Obj)} {A : Option Addr} {n c : Nat} {bs : List Nat}
theorem Enc.le (h : Enc bw w0 K w A n c bs) : w0.heap.size ≤ w.heap.size := h.new.size
theorem Enc.wrote (h : Enc bw w0 K w A n c bs) {k : Nat} {news : List Nat} {e : Ending} (hw : Wrote w0.heap.size bw w A n c bs k news e w') : e = .returned (.tuple #[]) ∧ ∃ A' c', Enc bw w0 K w' A' (n + k) c' (bs ++ news) := by
  obtain ⟨he, A', c', h1, h2, h3⟩ := hw
  refine ⟨he, A', c', h1, h.new.then h2 (fun b hb hS => ?_), fun x hx => ?_, fun x hx => ⟨(h.away x hx).1, fun e => ?_⟩⟩
  · rcases hS with rfl | e
    · exact absurd hb (by have := h.wr.hb; omega)
    · have := (ownsRow_lt h.wr.own e).2; omega
  · have hk := h.kept x hx
    rw [h2.block x.1 (Array.getElem?_eq_some_iff.1 hk).1 (fun hS => ?_)]
    · exact hk
    · rcases hS with e | e
      · exact (h.away x hx).1 e
      · exact (h.away x hx).2 e
  · rcases h3 with e' | ⟨g, e', hg⟩
    · exact (h.away x hx).2 (e'.symm.trans e)
    · rw [e'] at e
      cases e
      have := (Array.getElem?_eq_some_iff.1 (h.kept x hx)).1
      omega
theorem Enc.fresh (h : Enc bw w0 K w A n c bs) (hu : New w w') : Enc bw w0 K w' A n c bs :=
  ⟨h.wr.upd hu id (fun _ _ => id), h.new.trans hu, fun x hx => (hu.block x.1 (Array.getElem?_eq_some_iff.1 (h.kept x hx)).1 id).trans (h.kept x hx), h.away⟩
/-- what is new to a world is kept from then on -/
theorem Enc.keep (h : Enc bw w0 K w A n c bs) (hu : New w w') {b : Nat} {o : Obj} (hb : w'.heap[b]? = some o) (hl : w.heap.size ≤ b) : Enc bw w0 ((b, o) :: K) w' A n c bs := by
  have h' := h.fresh hu
  refine ⟨h'.wr, h'.new, fun x hx => ?_, fun x hx => ?_⟩
  · rcases List.mem_cons.1 hx with rfl | hx
    · exact hb
    · exact h'.kept x hx
  · rcases List.mem_cons.1 hx with rfl | hx
    · refine ⟨fun e => ?_, fun e => ?_⟩
      · have := h.wr.lt; have e : b = bw := e; omega
      · have := (ownsRow_lt h.wr.own e).1; have : b < w.heap.size := this; omega
    · exact h'.away x hx
theorem Enc.less (h : Enc bw w0 K w A n c bs) {K' : List (Nat × Obj)} (hK : ∀ x ∈ K', x ∈ K) : Enc bw w0 K' w A n c bs := ⟨h.wr, h.new, fun x hx => h.kept x (hK x hx), fun x hx => h.away x (hK x hx)⟩
theorem Enc.u64 (h : Enc bw w0 K w A n c bs) (x : Nat) (hx : x < 18446744073709551616) (hn : n + 8 ≤ 1073741824) :
    Calls Tryz.prog 31 #[.pointer (some ⟨bw, 0, none⟩), .int .u64 (x : Int)] w fun e w' => e = .returned (.tuple #[]) ∧ ∃ A' c', Enc bw w0 K w' A' (n + 8) c' (bs ++ be 8 x) :=
  (wU64 h.wr x hx hn h.le).mono fun e w' hw => h.wrote hw
theorem Enc.u32 (h : Enc bw w0 K w A n c bs) (x : Nat) (hx : x < 4294967296) (hn : n + 8 ≤ 1073741824) :
    Calls Tryz.prog 30 #[.pointer (some ⟨bw, 0, none⟩), .int .u32 (x : Int)] w fun e w' => e = .returned (.tuple #[]) ∧ ∃ A' c', Enc bw w0 K w' A' (n + 4) c' (bs ++ be 4 x) :=
  (wU32 h.wr x hx hn h.le).mono fun e w' hw => h.wrote hw
theorem ownsRow_base {w : World} {base base' : Nat} {e : TypeId} {size : Nat} {v : Value} {n : Nat} {xs : List Value} (h : w.ownsRow base e size v n xs) (hb : base' ≤ base) : w.ownsRow base' e size v n xs :=
  ⟨h.1, h.2.imp id fun ⟨g, cap, cur, h1, h2, h3⟩ => ⟨g, cap, cur, h1, Nat.le_trans hb h2, h3⟩⟩
theorem Enc.out (h : Enc bw w0 K w A n c bs) (hn : n ≤ 1073741824) :
    Calls Tryz.prog 32 #[.pointer (some ⟨bw, 0, none⟩)] w fun e w' => ∃ A' c', e = .returned (.tuple #[.slice A' n c', .int .i64 0]) ∧ By w' A' n c' bs ∧ New w0 w' ∧ (∀ a, A' = some a → w0.heap.size ≤ a.block) ∧ w'.ownsRow w0.heap.size 5 1 (.slice A' n c') n (bs.map u8) :=
  (wOut h.wr hn).mono fun e w' ⟨A', c', h1, h2, h3, h4, h5⟩ => ⟨A', c', h1, h2, h.new.trans h3, fun a ha => Nat.le_trans h.le (h4 a ha), ownsRow_base h5 h.le⟩
theorem Enc.cell (h : Enc bw w0 K w A n c bs) {b : Nat} {cs : Array Value} {t : TypeId} {f : Nat × Nat} (hx : (b, Obj.cells cs t f) ∈ K) (i : Nat) (v : Value) (hv : cs[i]? = some v) : w.cell? ⟨b, i, none⟩ = some v := by
  have := h.kept _ hx
  simp [World.cell?, this, hv]
end

theorem New.of_push {w w' : World} {o : Obj} (h : w'.heap = w.heap.push o) (ht : w'.tape = w.tape) (ho : w'.os = w.os) (hu : w'.output = w.output) : New w w' :=
  ⟨ho, hu, ht, by rw [h]; simp, fun c hc _ => by rw [h, Array.getElem?_push_lt hc]; simp [hc]⟩
theorem Enc.push {bw : Nat} {w0 w w' : World} {K : List (Nat × Obj)} {A : Option Addr} {n c : Nat} {bs : List Nat} (h : Enc bw w0 K w A n c bs) {o : Obj} (hw : w'.heap = w.heap.push o) (ht : w'.tape = w.tape) (ho : w'.os = w.os) (hu : w'.output = w.output) : Enc bw w0 ((w.heap.size, o) :: K) w' A n c bs :=
  h.keep (New.of_push hw ht ho hu) (by rw [hw]; simp only [Array.getElem?_push_size]) (Nat.le_refl _)
set_option maxHeartbeats 2000000 in
theorem nums_c (w : World) (b : Nat) : Calls Tryz.prog 19 #[.pointer (some ⟨b, 0, none⟩)] w fun e w' => e = .returned (.slice (some ⟨w.heap.size, 0, none⟩) 10 10) ∧
    w'.heap = w.heap.push (.cells ((List.range 10).map fun i => Value.pointer (some ⟨b, i, none⟩)).toArray 69) ∧ w'.tape = w.tape ∧ w'.os = w.os ∧ w'.output = w.output := by
  go_enter Tryz.func19, Tryz.ntmps19
  go_wp2
  go_region
  go_wp2
  go_ret
  exact ⟨rfl, rfl, rfl, rfl, rfl⟩

def Big (xs : List Nat) : Prop := ∀ x ∈ xs, x < 18446744073709551616
/-- a genesis' bytes -/
def genBytes (ps xs ys : List Nat) (na nv : Nat) : List Nat := be 4 1196183089 ++ ps.flatMap (be 8) ++ be 4 na ++ xs.flatMap (be 8) ++ be 4 nv ++ ys.flatMap (be 8)
def gen (p0 p1 p2 p3 p4 p5 p6 p7 p8 p9 : Nat) (Aa : Option Addr) (na ca : Nat) (Av : Option Addr) (nv cv : Nat) : Array Value := #[u64 p0, u64 p1, u64 p2, u64 p3, u64 p4, u64 p5, u64 p6, u64 p7, u64 p8, u64 p9, .slice Aa na ca, .slice Av nv cv]

theorem gen_get {p0 p1 p2 p3 p4 p5 p6 p7 p8 p9 : Nat} {x y : Value} : ∀ (j : Nat) (h : j < 10), (#[u64 p0, u64 p1, u64 p2, u64 p3, u64 p4, u64 p5, u64 p6, u64 p7, u64 p8, u64 p9, x, y] : Array Value)[j]? = some (u64 ([p0, p1, p2, p3, p4, p5, p6, p7, p8, p9][j]'h))
  | 0, _ | 1, _ | 2, _ | 3, _ | 4, _ | 5, _ | 6, _ | 7, _ | 8, _ | 9, _ => rfl
theorem flat_take (xs : List Nat) (j : Nat) (h : j < xs.length) : (xs.take j).flatMap (be 8) ++ be 8 xs[j] = (xs.take (j + 1)).flatMap (be 8) := by
  rw [List.take_succ_eq_append_getElem h, List.flatMap_append]
  simp

set_option maxHeartbeats 4000000 in
set_option maxRecDepth 100000 in
theorem encode_c {w : World} {p0 p1 p2 p3 p4 p5 p6 p7 p8 p9 : Nat} {Aa Av : Option Addr} {na ca nv cv : Nat} {xs ys : List Nat} (hp : Big [p0, p1, p2, p3, p4, p5, p6, p7, p8, p9]) (hx : Sl 2 w Aa na ca (xs.map u64)) (hy : Sl 3 w Av nv cv (ys.map u64)) (hxb : Big xs) (hyb : Big ys) (hna : na ≤ 1048576) (hnv : nv ≤ 1048576) :
    Calls Tryz.prog 11 #[.agg (gen p0 p1 p2 p3 p4 p5 p6 p7 p8 p9 Aa na ca Av nv cv)] w fun e w' => ∃ A n c, e = .returned (.slice A n c) ∧ By w' A n c (genBytes [p0, p1, p2, p3, p4, p5, p6, p7, p8, p9] xs ys na nv) ∧ New w w' ∧ (∀ a, A = some a → w.heap.size ≤ a.block) ∧ w'.ownsRow w.heap.size 5 1 (.slice A n c) n ((genBytes [p0, p1, p2, p3, p4, p5, p6, p7, p8, p9] xs ys na nv).map u8) := by
  have HP := Lib.hid hp; have HX := Lib.hid hx; have HY := Lib.hid hy; have HXB := Lib.hid hxb; have HYB := Lib.hid hyb; have HNA := Lib.hid hna; have HNV := Lib.hid hnv
  clear hp hx hy hxb hyb hna hnv
  have hstart : ∀ W : World, W.heap = (w.heap.push (.cells (gen p0 p1 p2 p3 p4 p5 p6 p7 p8 p9 Aa na ca Av nv cv) 28)).push (.cells #[.slice none 0 0, .int .i64 0] 88) → W.tape = w.tape → W.os = w.os → W.output = w.output →
      Enc (w.heap.size + 1) w [(w.heap.size, .cells (gen p0 p1 p2 p3 p4 p5 p6 p7 p8 p9 Aa na ca Av nv cv) 28)] W none 0 0 [] := fun W h1 h2 h3 h4 => by
    refine ⟨⟨⟨88, by rw [h1, show w.heap.size + 1 = (w.heap.push (.cells (gen p0 p1 p2 p3 p4 p5 p6 p7 p8 p9 Aa na ca Av nv cv) 28)).size by simp]; simp only [Array.getElem?_push_size]⟩, World.ownsRow_nil _ _ _ _, fun a ha => (by cases ha), fun b hb => (by cases hb), by omega⟩, ⟨h3, h4, h2, by rw [h1]; simp; omega, fun c hc _ => by rw [h1, Array.getElem?_push_lt (by simp; omega)]; simp [Array.getElem_push_lt hc, hc]⟩, fun x hx => ?_, fun x hx => ?_⟩
    · simp only [List.mem_singleton] at hx
      subst hx
      rw [h1, Array.getElem?_push_lt (by simp)]
      simp
    · simp only [List.mem_singleton] at hx
      subst hx
      exact ⟨by simp, by simp [Value.ownBlock]⟩
  have HS := Lib.hid hstart
  clear hstart
  have hE0 : Enc (w.heap.size + 1) w [(w.heap.size, .cells (gen p0 p1 p2 p3 p4 p5 p6 p7 p8 p9 Aa na ca Av nv cv) 28)] ((w.alloc (.cells (gen p0 p1 p2 p3 p4 p5 p6 p7 p8 p9 Aa na ca Av nv cv) 28)).alloc (.cells #[.slice none 0 0, .int .i64 0] 88)) none 0 0 [] := HS.out _ rfl rfl rfl rfl
  have h30 := hE0.u32 1196183089 (by omega) (by omega)
  clear HS hE0
  unfold gen at h30 ⊢
  go_enter Tryz.func11, Tryz.ntmps11
  go_wp2_with (first
    | (go_at_call 30; refine h30.mono ?_; rintro e w1 ⟨rfl, A1, c1, hE1⟩)
    | (go_at_call 19; refine (nums_c _ _).mono ?_; rintro e w2 ⟨rfl, hh2, ht2, ho2, hu2⟩; have hE2 := hE1.push hh2 ht2 ho2 hu2))
  obtain ⟨K2, hK2⟩ : ∃ K2, K2 = [(w1.heap.size, Obj.cells ((List.range 10).map fun i => Value.pointer (some ⟨w.heap.size, i, none⟩)).toArray 69), (w.heap.size, Obj.cells #[u64 p0, u64 p1, u64 p2, u64 p3, u64 p4, u64 p5, u64 p6, u64 p7, u64 p8, u64 p9, .slice Aa na ca, .slice Av nv cv] 28)] := ⟨_, rfl⟩
  rw [← hK2] at hE2
  have hk1 : (w1.heap.size, Obj.cells ((List.range 10).map fun i => Value.pointer (some ⟨w.heap.size, i, none⟩)).toArray 69) ∈ K2 := by rw [hK2]; simp
  have hk2 : (w.heap.size, Obj.cells #[u64 p0, u64 p1, u64 p2, u64 p3, u64 p4, u64 p5, u64 p6, u64 p7, u64 p8, u64 p9, .slice Aa na ca, .slice Av nv cv] 28) ∈ K2 := by rw [hK2]; simp
  have HK1 := Lib.hid hk1; have HK2 := Lib.hid hk2
  have HE2 := Lib.hid hE2
  clear hk1 hk2 hK2 hE2 hE1 h30 hh2 ht2 ho2 hu2
  obtain ⟨ps, hps⟩ : ∃ ps, ps = [p0, p1, p2, p3, p4, p5, p6, p7, p8, p9] := ⟨_, rfl⟩
  have hpl : ps.length = 10 := by rw [hps]; rfl
  have HPS := Lib.hid hps
  rw [← hps] at HP
  clear hps
  go_loopw [16] (fun i wr => ∃ j : Nat, j ≤ 10 ∧ i = .int .i64 (j : Int) ∧ Hid (∃ A c, Enc (w.heap.size + 1) w K2 wr A (4 + 8 * j) c (be 4 1196183089 ++ (ps.take j).flatMap (be 8)))) (fun i _ => 10 - (intOf i).toNat)
  case atStart => exact ⟨0, Nat.zero_le _, rfl, Lib.hid ⟨A1, c1, by simpa using HE2.out⟩⟩
  case round =>
    obtain ⟨j, hj, rfl, hI⟩ := hrel
    by_cases hj10 : j < 10
    · obtain ⟨A, c, hE⟩ := hI.out
      have hc1 : wr.cell? ⟨w1.heap.size, j, none⟩ = some (.pointer (some ⟨w.heap.size, j, none⟩)) := hE.cell HK1.out j _ (by simp [hj10])
      obtain ⟨px, hpx⟩ : ∃ px, px = ps[j]'(by omega) := ⟨_, rfl⟩
      have hc2 : wr.cell? ⟨w.heap.size, j, none⟩ = some (.int .u64 (px : Int)) := by
        have e : px = [p0, p1, p2, p3, p4, p5, p6, p7, p8, p9][j]'hj10 := by rw [hpx]; simp only [HPS.out]
        rw [e]; exact hE.cell HK2.out j _ (gen_get j hj10)
      have hpb : px < 18446744073709551616 := by rw [hpx]; exact HP.out _ (List.getElem_mem _)
      have hcall := hE.u64 px hpb (by omega)
      have HPX := Lib.hid hpx
      clear hpx hpb hE
      go_wp2_with (go_at_call 31; refine hcall.mono ?_; rintro e w3 ⟨rfl, A3, c3, hE3⟩)
      refine ⟨⟨j + 1, by omega, by congr 1, Lib.hid ⟨A3, c3, ?_⟩⟩, by simp [intOf]; omega⟩
      rw [← flat_take ps j (by omega), ← HPX.out, ← List.append_assoc, show 4 + 8 * (j + 1) = 4 + 8 * j + 8 by omega]
      exact hE3
    · obtain rfl : j = 10 := by omega
      obtain ⟨A, c, hE⟩ := hI.out
      rw [List.take_of_length_le (by omega)] at hE
      have hs10 := hE.cell HK2.out 10 _ rfl
      have hwa : IntKind.u32.wrap (na : Int) = (na : Int) := by have := HNA.out; simp [IntKind.wrap, IntKind.bits, IntKind.signed]; omega
      have hcall := hE.u32 na (by have := HNA.out; omega) (by omega)
      clear hI hE hj
      go_wp2_with (go_at_call 30; refine hcall.mono ?_; rintro e w4 ⟨rfl, A4, c4, hE4⟩; have hs10' := hE4.cell HK2.out 10 _ rfl)
      have HE4 := Lib.hid hE4
      clear hE4 hcall
      obtain ⟨bs4, hbs4⟩ : ∃ bs4, bs4 = be 4 1196183089 ++ ps.flatMap (be 8) ++ be 4 na := ⟨_, rfl⟩
      rw [← hbs4] at HE4
      have HB4 := Lib.hid hbs4
      clear hbs4
      have hca : ca ≤ maxLen ∧ na ≤ ca := ⟨HX.out.max, HX.out.le⟩
      have hxl := HX.out.len
      rw [List.length_map] at hxl
      go_loopw [33] (fun i wr => ∃ j : Nat, j ≤ na ∧ i = .int .i64 (j : Int) ∧ Hid (∃ A c, Enc (w.heap.size + 1) w K2 wr A (88 + 16 * j) c (bs4 ++ (xs.take (2 * j)).flatMap (be 8)))) (fun i _ => na - (intOf i).toNat)
      case atStart => exact ⟨0, Nat.zero_le _, rfl, Lib.hid ⟨A4, c4, by simpa using HE4.out⟩⟩
      case round =>
        obtain ⟨j, hj, rfl, hI⟩ := hrel
        have hna := HNA.out
        by_cases hjn : j < na
        · obtain ⟨A, c, hE⟩ := hI.out
          obtain ⟨b, off, rfl, hrow⟩ := HX.out.row (by omega)
          obtain ⟨x0, hx0⟩ : ∃ x0, x0 = xs[2 * j]'(by omega) := ⟨_, rfl⟩
          obtain ⟨x1, hx1⟩ : ∃ x1, x1 = xs[2 * j + 1]'(by omega) := ⟨_, rfl⟩
          have hrw : Row wr b off (xs.map Gl.u64) := hrow.upd hE.new id
          have hr0 : wr.cell? ⟨b, off + j * 2, none⟩ = some (.int .u64 (x0 : Int)) := by rw [hx0, Nat.mul_comm j 2]; exact hrw.2 (2 * j) _ (by simp [show 2 * j < xs.length by omega])
          have hr1 : wr.cell? ⟨b, off + j * 2 + 1, none⟩ = some (.int .u64 (x1 : Int)) := by rw [hx1, Nat.mul_comm j 2, Nat.add_assoc]; exact hrw.2 (2 * j + 1) _ (by simp [show 2 * j + 1 < xs.length by omega])
          have hb0 : x0 < 18446744073709551616 := by rw [hx0]; exact HXB.out _ (List.getElem_mem _)
          have hb1 : x1 < 18446744073709551616 := by rw [hx1]; exact HXB.out _ (List.getElem_mem _)
          have hE5 : Enc (w.heap.size + 1) w ((wr.heap.size, .cells #[.int .u64 (x0 : Int), .int .u64 (x1 : Int)] 43) :: K2) (wr.alloc (.cells #[.int .u64 (x0 : Int), .int .u64 (x1 : Int)] 43)) A (88 + 16 * j) c (bs4 ++ (xs.take (2 * j)).flatMap (be 8)) := hE.push rfl rfl rfl rfl
          have hcA := hE5.u64 x0 hb0 (by have := HNA.out; omega)
          have HX0 := Lib.hid hx0; have HX1 := Lib.hid hx1; have HB1 := Lib.hid hb1; have HN4 := Lib.hid HNA.out
          clear hE5 hE hrow hrw hx0 hx1 hb0 hb1
          go_wp2_with (first
            | (go_at_call 31; refine hcA.mono ?_; rintro e w5 ⟨rfl, A5, c5, hE6⟩; have hv1 := hE6.cell (List.mem_cons_self ..) 1 _ rfl; have hcB := hE6.u64 x1 HB1.out (by have := HN4.out; omega); clear hE6)
            | (go_at_call 31; refine hcB.mono ?_; rintro e w6 ⟨rfl, A6, c6, hE7⟩))
          refine ⟨⟨j + 1, by omega, by congr 1, Lib.hid ⟨A6, c6, ?_⟩⟩, by simp [intOf]; omega⟩
          have h7 := hE7.less (K' := K2) (fun x hx => List.mem_cons_of_mem _ hx)
          rw [HX0.out, HX1.out, List.append_assoc, List.append_assoc, ← List.append_assoc (List.flatMap _ _), flat_take xs (2 * j) (by omega), flat_take xs (2 * j + 1) (by omega)] at h7
          exact h7
        · obtain rfl : j = na := by omega
          obtain ⟨A, c, hE⟩ := hI.out
          rw [List.take_of_length_le (by omega)] at hE
          obtain ⟨bs5, hbs5⟩ : ∃ bs5, bs5 = bs4 ++ xs.flatMap (be 8) := ⟨_, rfl⟩
          rw [← hbs5] at hE
          have HB5 := Lib.hid hbs5
          clear hbs5
          have hs11 := hE.cell HK2.out 11 _ rfl
          have hwv : IntKind.u32.wrap (nv : Int) = (nv : Int) := by have := HNV.out; simp [IntKind.wrap, IntKind.bits, IntKind.signed]; omega
          have hcall := hE.u32 nv (by have := HNV.out; omega) (by omega)
          clear hI hE
          go_wp2_with (go_at_call 30; refine hcall.mono ?_; rintro e w8 ⟨rfl, A8, c8, hE8⟩; have hs11' := hE8.cell HK2.out 11 _ rfl)
          have HE8 := Lib.hid hE8
          clear hE8 hcall
          obtain ⟨bs8, hbs8⟩ : ∃ bs8, bs8 = bs5 ++ be 4 nv := ⟨_, rfl⟩
          rw [← hbs8] at HE8
          have HB8 := Lib.hid hbs8
          clear hbs8
          have hyl := HY.out.len
          rw [List.length_map] at hyl
          have hcv : cv ≤ maxLen ∧ nv ≤ cv := ⟨HY.out.max, HY.out.le⟩
          have hnv := HNV.out
          obtain ⟨m0, hm0⟩ : ∃ m0, m0 = 88 + 16 * j + 4 := ⟨_, rfl⟩
          rw [← hm0] at HE8
          have hm1 : m0 ≤ 16777308 := by omega
          clear hm0
          go_loopw [52] (fun i wr => ∃ k : Nat, k ≤ nv ∧ i = .int .i64 (k : Int) ∧ Hid (∃ A c, Enc (w.heap.size + 1) w K2 wr A (m0 + 24 * k) c (bs8 ++ (ys.take (3 * k)).flatMap (be 8)))) (fun i _ => nv - (intOf i).toNat)
          case atStart => exact ⟨0, Nat.zero_le _, rfl, Lib.hid ⟨A8, c8, by simpa using HE8.out⟩⟩
          case round =>
            obtain ⟨k, hk, rfl, hI⟩ := hrel
            by_cases hkn : k < nv
            · obtain ⟨A, c, hE⟩ := hI.out
              obtain ⟨b, off, rfl, hrow⟩ := HY.out.row (by omega)
              obtain ⟨x0, hx0⟩ : ∃ x0, x0 = ys[3 * k]'(by omega) := ⟨_, rfl⟩
              obtain ⟨x1, hx1⟩ : ∃ x1, x1 = ys[3 * k + 1]'(by omega) := ⟨_, rfl⟩
              obtain ⟨x2, hx2⟩ : ∃ x2, x2 = ys[3 * k + 2]'(by omega) := ⟨_, rfl⟩
              have hrw : Row wr b off (ys.map Gl.u64) := hrow.upd hE.new id
              have hr0 : wr.cell? ⟨b, off + k * 3, none⟩ = some (.int .u64 (x0 : Int)) := by rw [hx0, Nat.mul_comm k 3]; exact hrw.2 (3 * k) _ (by simp [show 3 * k < ys.length by omega])
              have hr1 : wr.cell? ⟨b, off + k * 3 + 1, none⟩ = some (.int .u64 (x1 : Int)) := by rw [hx1, Nat.mul_comm k 3, Nat.add_assoc]; exact hrw.2 (3 * k + 1) _ (by simp [show 3 * k + 1 < ys.length by omega])
              have hr2 : wr.cell? ⟨b, off + k * 3 + 2, none⟩ = some (.int .u64 (x2 : Int)) := by rw [hx2, Nat.mul_comm k 3, Nat.add_assoc]; exact hrw.2 (3 * k + 2) _ (by simp [show 3 * k + 2 < ys.length by omega])
              have hb0 : x0 < 18446744073709551616 := by rw [hx0]; exact HYB.out _ (List.getElem_mem _)
              have hb1 : x1 < 18446744073709551616 := by rw [hx1]; exact HYB.out _ (List.getElem_mem _)
              have hb2 : x2 < 18446744073709551616 := by rw [hx2]; exact HYB.out _ (List.getElem_mem _)
              have hE5 : Enc (w.heap.size + 1) w ((wr.heap.size, .cells #[.int .u64 (x0 : Int), .int .u64 (x1 : Int), .int .u64 (x2 : Int)] 45) :: K2) (wr.alloc (.cells #[.int .u64 (x0 : Int), .int .u64 (x1 : Int), .int .u64 (x2 : Int)] 45)) A (m0 + 24 * k) c (bs8 ++ (ys.take (3 * k)).flatMap (be 8)) := hE.push rfl rfl rfl rfl
              have hcA := hE5.u64 x0 hb0 (by omega)
              have HX0 := Lib.hid hx0; have HX1 := Lib.hid hx1; have HX2 := Lib.hid hx2; have HB1 := Lib.hid hb1; have HB2 := Lib.hid hb2
              clear hE5 hE hrow hrw hx0 hx1 hx2 hb0 hb1 hb2
              go_wp2_with (first
                | (go_at_call 31; refine hcA.mono ?_; rintro e w5 ⟨rfl, A5, c5, hE6⟩; have hv1 := hE6.cell (List.mem_cons_self ..) 1 _ rfl; have hcB := hE6.u64 x1 HB1.out (by omega); clear hE6)
                | (go_at_call 31; refine hcB.mono ?_; rintro e w6 ⟨rfl, A6, c6, hE7⟩; have hv2 := hE7.cell (List.mem_cons_self ..) 2 _ rfl; have hcC := hE7.u64 x2 HB2.out (by omega); clear hE7)
                | (go_at_call 31; refine hcC.mono ?_; rintro e w7 ⟨rfl, A7, c7, hE9⟩))
              refine ⟨⟨k + 1, by omega, by congr 1, Lib.hid ⟨A7, c7, ?_⟩⟩, by simp [intOf]; omega⟩
              have h7 := hE9.less (K' := K2) (fun x hx => List.mem_cons_of_mem _ hx)
              rw [HX0.out, HX1.out, HX2.out, List.append_assoc, List.append_assoc, List.append_assoc, ← List.append_assoc (List.flatMap _ _), flat_take ys (3 * k) (by omega), ← List.append_assoc (List.flatMap _ _), flat_take ys (3 * k + 1) (by omega), flat_take ys (3 * k + 2) (by omega)] at h7
              exact h7
            · obtain rfl : k = nv := by omega
              obtain ⟨A, c, hE⟩ := hI.out
              rw [List.take_of_length_le (by omega), HB8.out, HB5.out, HB4.out] at hE
              have hcall := hE.out (by omega)
              clear hE hI
              go_wp2_with (go_at_call 32; refine hcall.mono ?_; rintro e w9 ⟨A9, c9, rfl, hby, hnw, hfr, how⟩)
              go_ret
              have hby2 := And.intro hby how
              clear hby how
              refine ⟨A9, _, c9, rfl, ?_⟩
              have e : genBytes [p0, p1, p2, p3, p4, p5, p6, p7, p8, p9] xs ys j k = be 4 1196183089 ++ ps.flatMap (be 8) ++ be 4 j ++ xs.flatMap (be 8) ++ be 4 k ++ ys.flatMap (be 8) := by rw [HPS.out]; rfl
              rw [e]; exact ⟨hby2.1, hnw, hfr, hby2.2⟩
end Go.Proofs.YtjfmbamiampjmaaGreat
