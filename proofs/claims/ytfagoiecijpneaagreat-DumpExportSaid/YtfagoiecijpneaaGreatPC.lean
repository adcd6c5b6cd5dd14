/- A part of the proof of the statement of this seat: no condition. -/
import Derived.Test.YtfagoiecijpneaaGreatPB
import Derived.RangeFuncBox
import Derived.Test.YtfagoiecijpneaaGreatPA
import Derived.Test.YtfagoiecijpneaaGreatIB
set_option linter.unusedVariables false
set_option linter.unusedSimpArgs false
section
namespace Go.Proofs.YtfagoiecijpneaaGreat
open Go Go.RowKit Go.Proofs Gl Go.Shelf

set_option maxRecDepth 100000 in
theorem rising1_nil {base bm n c b1 b2 nf cf : Nat} {D : Nat → Prop} {A Af : Option Addr} {vs : List Value} {css : List (List Value)} :
    Gives Tryz.prog 70 #[.pointer (some ⟨b1, 0, none⟩), .pointer (some ⟨b2, 0, none⟩)] (fun x _ _ vals => vals = encE x) (fun _ => False) (Ris base bm n c b1 b2 nf cf D A Af vs [] css) (ceAll css []).flatten := by
  intro l J Jx W hJ hJx hK h0 hY
  have hn : n = 0 := hK.map.map.toMapRaw.n_eq
  subst hn
  have hc0 := hK.map.map.toMapRaw.cell0
  have d1 := hK.box1
  have e0 : (ceAll css []).flatten = [] := by simp [ceAll]
  have H0 := Lib.hid h0; have HE := Lib.hid e0; have HKK := Lib.hid hK
  clear hJ hJx hY h0 hK e0
  go_enter Tryz.func70, Tryz.ntmps70
  go_wp2
  refine bodyPost_ret (results_none rfl _ _ _) rfl ?_
  exact ⟨⟨_, rfl⟩, W.heap.size, Nat.le_refl _, Nat.le_refl _, .inl ⟨by rw [HE.out]; exact H0.out _, HKK.out⟩⟩
theorem rising1_all {base bm n c b1 b2 nf cf : Nat} {D : Nat → Prop} {A Af : Option Addr} {vs : List Value} {ps : List (List Ent)} {css : List (List Value)} (hlen : ps.length ≤ 1000000) :
    Gives Tryz.prog 70 #[.pointer (some ⟨b1, 0, none⟩), .pointer (some ⟨b2, 0, none⟩)] (fun x _ _ vals => vals = encE x) (fun _ => False) (Ris base bm n c b1 b2 nf cf D A Af vs ps css) (ceAll css ps).flatten := by
  by_cases h : ps = []
  · subst h; exact rising1_nil
  · exact rising1_gives hlen (List.length_pos_iff.2 h)
theorem owned_nil {w : World} : Calls Tryz.prog 33 #[.slice none 0 0] w fun e w' => e = .returned (.slice none 0 0) ∧ w' = w := by
  obtain ⟨i0, hi0, hz0, hz1, hz2⟩ := info_parts info5
  have hr : ∀ ty, (Builtin.append_ #[28, 28] ty #[.slice none 0 0, .slice none 0 0]).run Tryz.prog w = .ok (.slice none 0 0) w := fun ty => by
    simp [Builtin.append_, run_underlying Tryz.underlying28, Go.sizeOf, typeInfo, hi0, Builtin.lenOf, Builtin.firstCells]
  go_enter Tryz.func33, Tryz.ntmps33
  go_wp2_with (at_builtin; refine Lib.wpList_append_run _ rfl _ _ _ _ rfl _ _ rfl rfl _ _ (hr _) ?_)
  go_ret
  exact ⟨rfl, rfl⟩
theorem rising_c {w : World} {bm nf cf : Nat} {Af : Option Addr} :
    Calls Tryz.prog 35 #[.pointer (some ⟨bm, 0, none⟩), .slice Af nf cf] w fun e w' => ∃ b1 b2, e = .returned (.func (.func 70) #[] #[.pointer (some ⟨b1, 0, none⟩), .pointer (some ⟨b2, 0, none⟩)]) ∧ New w w' ∧ w.heap.size ≤ b1 ∧ w.heap.size ≤ b2 ∧ b1 < w'.heap.size ∧ b2 < w'.heap.size ∧ w'.cell? ⟨b1, 0, none⟩ = some (.pointer (some ⟨bm, 0, none⟩)) ∧ w'.cell? ⟨b2, 0, none⟩ = some (.slice Af nf cf) := by
  go_enter Tryz.func35, Tryz.ntmps35
  go_wp2
  go_ret
  refine ⟨w.heap.size, w.heap.size + 1, rfl, (Upd.alloc _ _ _).trans (Upd.alloc _ _ _), Nat.le_refl _, by omega, ?_, ?_, ?_, ?_⟩
  · show _ < ((w.heap.push _).push _).size; simp; omega
  · show _ < ((w.heap.push _).push _).size; simp
  · exact cell_of (t := 45) (fr := (0, 0)) (cs := #[.pointer (some ⟨bm, 0, none⟩)]) (by rw [heap_alloc_lt _ (by show _ < (w.heap.push _).size; simp)]; exact Ex.alloc_new w _) 0 _ rfl
  · have e := Ex.alloc_new (w.alloc (.cells #[.pointer (some ⟨bm, 0, none⟩)] 45)) (.cells #[.slice Af nf cf] 28)
    rw [show (w.alloc (.cells #[.pointer (some ⟨bm, 0, none⟩)] 45)).heap.size = w.heap.size + 1 by show (w.heap.push _).size = _; simp] at e
    exact cell_of e 0 _ rfl
/-- Walk from nothing to nothing -/
theorem walk_c {w : World} {bm : Nat} :
    Calls Tryz.prog 17 #[.pointer (some ⟨bm, 0, none⟩), .slice none 0 0, .slice none 0 0] w fun e w' => ∃ b1 b2 b3, e = .returned (.func (.func 34) #[] #[.pointer (some ⟨b1, 0, none⟩), .pointer (some ⟨b2, 0, none⟩), .pointer (some ⟨b3, 0, none⟩)]) ∧ New w w' ∧ (w.heap.size ≤ b1 ∧ w.heap.size ≤ b2 ∧ w.heap.size ≤ b3) ∧ w'.cell? ⟨b1, 0, none⟩ = some (.pointer (some ⟨bm, 0, none⟩)) ∧ w'.cell? ⟨b2, 0, none⟩ = some (.slice none 0 0) ∧ w'.cell? ⟨b3, 0, none⟩ = some (.slice none 0 0) := by
  obtain ⟨W, hW⟩ : ∃ W, W = ((w.alloc (.cells #[.pointer (some ⟨bm, 0, none⟩)] 45)).alloc (.cells #[.slice none 0 0] 28)).alloc (.cells #[.slice none 0 0] 28) := ⟨_, rfl⟩
  have hu : New w W := by rw [hW]; exact ((Upd.alloc _ _ _).trans (Upd.alloc _ _ _)).trans (Upd.alloc _ _ _)
  have e0 : W.heap[w.heap.size]? = some (.cells #[.pointer (some ⟨bm, 0, none⟩)] 45 (0, 0)) := by
    rw [hW]; show (((w.heap.push _).push _).push _)[w.heap.size]? = _
    rw [Array.getElem?_push_lt (by simp; omega), Array.getElem_push_lt (by simp), Array.getElem_push_eq]
  have e1 : W.heap[w.heap.size + 1]? = some (.cells #[.slice none 0 0] 28 (0, 0)) := by
    rw [hW]; show (((w.heap.push _).push _).push _)[w.heap.size + 1]? = _
    rw [Array.getElem?_push_lt (by simp)]
    congr 1
    have : w.heap.size + 1 = (w.heap.push (Obj.cells #[.pointer (some ⟨bm, 0, none⟩)] 45)).size := by simp
    simp only [this, Array.getElem_push_eq]
  have e2 : W.heap[w.heap.size + 1 + 1]? = some (.cells #[.slice none 0 0] 28 (0, 0)) := by
    have e := Ex.alloc_new ((w.alloc (.cells #[.pointer (some ⟨bm, 0, none⟩)] 45)).alloc (.cells #[.slice none 0 0] 28)) (.cells #[.slice none 0 0] 28)
    rw [show ((w.alloc (.cells #[.pointer (some ⟨bm, 0, none⟩)] 45)).alloc (.cells #[.slice none 0 0] 28)).heap.size = w.heap.size + 1 + 1 by show ((w.heap.push _).push _).size = _; simp] at e
    rw [hW]; exact e
  have c1 := cell_of e1 0 (.slice none 0 0) rfl
  have c2 := cell_of e2 0 (.slice none 0 0) rfl
  have f1 := frozen_of e1 0
  have f2 := frozen_of e2 0
  have s1 := setCell_at e1 (.slice none 0 0) (i := 0)
  have s2 := setCell_at (i := 0) (b := w.heap.size + 1 + 1) ((setCell_not (i := 0) (b := w.heap.size + 1) (.slice none 0 0) (by omega)).trans e2) (.slice none 0 0)
  have hne : ¬ (w.heap.size + 1 = w.heap.size + 1 + 1) := by omega
  have e3 : (W.setCell ⟨w.heap.size + 1, 0, none⟩ (.slice none 0 0)).cell? ⟨w.heap.size + 1 + 1, 0, none⟩ = some (.slice none 0 0) := cell_of ((setCell_not (i := 0) _ (by omega)).trans e2) 0 _ rfl
  have f3 : (W.setCell ⟨w.heap.size + 1, 0, none⟩ (.slice none 0 0)).frozen? ⟨w.heap.size + 1 + 1, 0, none⟩ = false := frozen_of ((setCell_not (i := 0) _ (by omega)).trans e2) 0
  have HF : Hid (∀ Wx : World, Wx.heap = W.heap → Wx.tape = W.tape → Wx.os = W.os → Wx.output = W.output → New w Wx ∧ Wx.cell? ⟨w.heap.size, 0, none⟩ = some (.pointer (some ⟨bm, 0, none⟩)) ∧ Wx.cell? ⟨w.heap.size + 1, 0, none⟩ = some (.slice none 0 0) ∧ Wx.cell? ⟨w.heap.size + 1 + 1, 0, none⟩ = some (.slice none 0 0)) := Lib.hid (fun Wx h1 h2 h3 h4 =>
    ⟨hu.trans ⟨h3, h4, h2, by rw [h1]; exact Nat.le_refl _, fun b _ _ => by rw [h1]⟩, cell_of (by rw [h1]; exact e0) 0 _ rfl, cell_of (by rw [h1]; exact e1) 0 _ rfl, cell_of (by rw [h1]; exact e2) 0 _ rfl⟩)
  clear hu e0 e1 e2 s1 s2
  go_enter Tryz.func17, Tryz.ntmps17
  go_upto_region 1 with fail
  rw [← hW]
  have h33 : ∀ Wx, Calls Tryz.prog 33 #[.slice none 0 0] Wx fun e w' => e = .returned (.slice none 0 0) ∧ w' = Wx := fun Wx => owned_nil
  go_region_with (first
    | (go_at_call 33; refine (h33 _).mono ?_; rintro e w2 ⟨rfl, rfl⟩))
  all_goals go_wp2
  all_goals go_ret
  all_goals
    obtain ⟨q1, q2, q3, q4⟩ := HF.out _ (by rw [hW]) (by rw [hW]) (by rw [hW]) (by rw [hW])
    exact ⟨w.heap.size, w.heap.size + 1, w.heap.size + 1 + 1, rfl, q1.drew, ⟨Nat.le_refl _, by omega, by omega⟩, q2, q3, q4⟩
end Go.Proofs.YtfagoiecijpneaaGreat
end
section
namespace Go.Proofs.YtfagoiecijpneaaGreat
open Go Go.RowKit Go.Proofs Gl Go.Shelf
attribute [local go_sem] Oper.semAt_some

/-- what a walk hands out: copies of its own -/
def Copies (e : Ent) (W0 W1 : World) (vals : Array Value) : Prop := ∃ A1 n1 c1 A2 n2 c2, vals = #[.slice A1 n1 c1, .slice A2 n2 c2] ∧ BV (fun b => W0.heap.size ≤ b) W1 (.slice A1 n1 c1) e.1 ∧ BV (fun b => W0.heap.size ≤ b) W1 (.slice A2 n2 c2) e.2
/-- what Walk's closure asks of the world -/
structure Wlk (base bm n c b1 b2 b3 : Nat) (D : Nat → Prop) (A : Option Addr) (vs : List Value) (ps : List (List Ent)) (css : List (List Value)) (W : World) : Prop where
  map : MapC 93 124 base W bm D A n c vs ps css
  box1 : W.cell? ⟨b1, 0, none⟩ = some (.pointer (some ⟨bm, 0, none⟩))
  box2 : W.cell? ⟨b2, 0, none⟩ = some (.slice none 0 0)
  box3 : W.cell? ⟨b3, 0, none⟩ = some (.slice none 0 0)
theorem Wlk.upd {base bm n c b1 b2 b3 : Nat} {D T : Nat → Prop} {A : Option Addr} {vs : List Value} {ps : List (List Ent)} {css : List (List Value)} {W W' : World} (h : Wlk base bm n c b1 b2 b3 D A vs ps css W) (hu : Upd T W W') (hf : ∀ b, foot bm D A n c vs b → ¬ T b) (h1 : ¬ T b1) (h2 : ¬ T b2) (h3 : ¬ T b3) : Wlk base bm n c b1 b2 b3 D A vs ps css W' :=
  ⟨h.map.upd hu hf, (hu.cell (a := ⟨b1, 0, none⟩) (World.block_lt_of_cell? W _ h.box1) h1).trans h.box1, (hu.cell (a := ⟨b2, 0, none⟩) (World.block_lt_of_cell? W _ h.box2) h2).trans h.box2, (hu.cell (a := ⟨b3, 0, none⟩) (World.block_lt_of_cell? W _ h.box3) h3).trans h.box3⟩
theorem enters_of' (f : FuncId) {fn : Func} (hf : Tryz.prog.funcs[f]? = some fn) (hn : (fn.name == "runtime.NumGoroutine") = false) (hb : fn.body.isNone = false) (args : Array Value) (w : World) : (callFunc f args).run Tryz.prog w = .ok (.enter f args) w := by
  have h1 : fn.name ≠ "runtime.NumGoroutine" := by simpa using hn
  have h2 : fn.body ≠ none := fun e => by rw [e] at hb; cases hb
  simp [callFunc, hf, h1, h2]
set_option maxHeartbeats 8000000 in
set_option maxRecDepth 100000 in
theorem walk1_gives {base bm n c b1 b2 b3 : Nat} {D : Nat → Prop} {A : Option Addr} {vs : List Value} {ps : List (List Ent)} {css : List (List Value)} (hlen : ps.flatten.length ≤ 1000000) (hsz : ∀ e ∈ ps.flatten, e.1.length ≤ 1073741824 ∧ e.2.length ≤ 1073741824) (w0 : World) (hw0 : Wlk base bm n c b1 b2 b3 D A vs ps css w0) :
    Gives Tryz.prog 34 #[.pointer (some ⟨b1, 0, none⟩), .pointer (some ⟨b2, 0, none⟩), .pointer (some ⟨b3, 0, none⟩)] Copies (fun _ => False) (Wlk base bm n c b1 b2 b3 D A vs ps css) ps.flatten := by
  intro l J Jx W hJ hJx hK h0 hY
  have d1 := hK.box1
  have d2 := hK.box2
  have d3 := hK.box3
  have l1 := World.block_lt_of_cell? W ⟨b1, 0, none⟩ d1
  have l2 := World.block_lt_of_cell? W ⟨b2, 0, none⟩ d2
  have l3 := World.block_lt_of_cell? W ⟨b3, 0, none⟩ d3
  have hal : ∀ v, New W (W.alloc (.cells #[v] 34)) := fun v => Upd.alloc _ _ _
  have k1 : (W.alloc (.cells #[.func (.yield l) #[] #[]] 34)).cell? ⟨b1, 0, none⟩ = _ := ((hal _).cell (a := ⟨b1, 0, none⟩) l1 id).trans d1
  have k2 : (W.alloc (.cells #[.func (.yield l) #[] #[]] 34)).cell? ⟨b2, 0, none⟩ = _ := ((hal _).cell (a := ⟨b2, 0, none⟩) l2 id).trans d2
  have l1' : b1 < W.heap.size := l1
  have l2' : b2 < W.heap.size := l2
  have l3' : b3 < W.heap.size := l3
  have HY := Lib.hid hY; have HJ := Lib.hid hJ; have HJX := Lib.hid hJx; have HK := Lib.hid hK; have H0 := Lib.hid h0; have HL := Lib.hid hlen; have HSZ := Lib.hid hsz
  clear hY hJ hJx hK h0 hlen hsz hal
  refine (callsIn_wide (n := 0)).1 ?_
  refine callsIn_of_wp_marks Tryz.func34 rfl trivial ?_ rfl
  simp only [Tryz.ntmps34, List.size_toArray, List.length_cons, List.length_nil, Nat.reduceAdd, Nat.reduceSub, Array.replicate_succ, Array.replicate_zero, List.push_toArray, List.append_toArray, List.nil_append, List.cons_append]
  gi_wp2_with (refine ⟨trivial, rfl, ?_⟩; gi_at_call 35; refine (callsIn_wide.2 rising_c).mono ?_; rintro e w1 ⟨r1, r2, rfl, hn1, hr1, hr2, hl1, hl2, hc1, hc2⟩; have HN1 := Lib.hid hn1; clear hn1)
  have hlW : W.heap.size + 1 ≤ w1.heap.size := by have := HN1.out.size; have e : (W.alloc (.cells #[.func (.yield l) #[] #[]] 34)).heap.size = W.heap.size + 1 := (by show (W.heap.push _).size = _; simp); omega
  have hnW : New W w1 := (Upd.alloc _ _ _).trans HN1.out
  have hby : w1.cell? ⟨W.heap.size, 0, none⟩ = some (.func (.yield l) #[] #[]) := (HN1.out.cell (a := ⟨W.heap.size, 0, none⟩) (by show _ < (W.heap.push _).size; simp) id).trans (cell_of (Ex.alloc_new W _) 0 _ rfl)
  have hwl := HK.out.upd hnW (fun _ _ => id) id id id
  have hfl : ∀ b, foot bm D A n c vs b → b < W.heap.size := fun b hb => HK.out.map.map.toMapRaw.foot_lt hb
  refine range_out (gf := 70) (lb := #[.pointer (some ⟨r1, 0, none⟩), .pointer (some ⟨r2, 0, none⟩)]) rfl (fun args w => enters_of' 70 Tryz.func70 (by kernel_rfl) (by kernel_rfl) args w)
    (rising1_all (base := base) (bm := bm) (n := n) (c := c) (nf := 0) (cf := 0) (D := D) (A := A) (Af := none) (vs := vs) (ps := ps) (css := css) (Nat.le_trans (pages_le HK.out.map.map.good.1) HL.out)) (fun x _ _ vals he => by rw [he]; rfl) (fun b h => h.elim)
    (fun P Q hk hu => hk.upd hu (fun b hb => by have := hfl b hb; omega) (by omega) (by omega) (fun a e => by cases e)) ⟨hwl.map, hc1, hc2, By.nil _⟩ (fun x W0 P Q vals _ he _ => he)
    (fun Z (pre : List CE) V => J Z (entsOf pre) V ∧ Wlk base bm n c b1 b2 b3 D A vs ps css V ∧ V.cell? ⟨W.heap.size, 0, none⟩ = some (.func (.yield l) #[] #[]))
    (fun Z cd (pre : List CE) V => cd = .ret ∧ Jx Z (entsOf pre) V)
    (fun Z hZ s P Q hs hu => ⟨HJ.out Z _ P Q hs.1 (hu.mono (fun b _ hb => hb.imp id (fun hb => ⟨by omega, hb.2⟩))), hs.2.1.upd hu (fun b hb h => by have := hfl b hb; exact h.elim id (fun h => by omega)) (fun h => h.elim id (fun h => by omega)) (fun h => h.elim id (fun h => by omega)) (fun h => h.elim id (fun h => by omega)), (hu.cell (a := ⟨W.heap.size, 0, none⟩) (World.block_lt_of_cell? P _ hs.2.2) (fun h => h.elim id (fun h => by simp only at h; omega))).trans hs.2.2⟩)
    (fun Z cd hZ s P Q hs hu => ⟨hs.1, HJX.out Z _ P Q hs.2 (hu.mono (fun b _ hb => hb.imp id (fun hb => ⟨by omega, hb.2⟩)))⟩)
    (fun Z hZ => ⟨(HJ.out Z) _ _ _ (H0.out Z) (hnW.mono (fun _ _ h => h.elim)), hwl, hby⟩)
    (fun W0 vals a' V => ∃ bx k1 n1 e1 k2 n2 e2, vals = #[.agg #[.slice k1 n1 e1, .slice k2 n2 e2]] ∧ a' = { tmps := #[.func (.yield l) #[] #[], .pointer (some ⟨b1, 0, none⟩), .pointer (some ⟨b2, 0, none⟩), .pointer (some ⟨b3, 0, none⟩), .pointer (some ⟨W.heap.size, 0, none⟩), .pointer (some ⟨bx, 0, none⟩), .pointer (some ⟨bm, 0, none⟩), .slice none 0 0, .func (.func 70) #[] #[.pointer (some ⟨r1, 0, none⟩), .pointer (some ⟨r2, 0, none⟩)], .agg #[.slice k1 n1 e1, .slice k2 n2 e2], undef, undef, undef, undef, undef, undef, undef, undef, undef, undef, undef, undef, undef, undef, undef, undef, undef, undef, undef, undef, undef], defers := [] } ∧ V.heap[bx]? = some (.cells #[.slice k1 n1 e1, .slice k2 n2 e2] 93 (0, 0)) ∧ w1.heap.size + 2 ≤ bx ∧ W0.heap.size ≤ bx)
    (fun W0 vals a' P Q hs hu => by
      obtain ⟨bx, k1, n1, e1, k2, n2, e2, q1, q2, q3, q4⟩ := hs
      exact ⟨bx, k1, n1, e1, k2, n2, e2, q1, q2, (hu.block bx (Array.getElem?_eq_some_iff.1 q3).1 (by have := q4.1; omega)).trans q3, q4⟩)
    ?assign ?body ?done ?stop
  case assign =>
    rintro l2 x W0 V vals K ⟨pre, post, hx⟩ hz hz0 rfl hk hK'
    obtain ⟨⟨k1, n1, e1, g1, _⟩, ⟨k2, n2, e2, g2, _⟩⟩ := hk.map.all_by x (by rw [hx]; simp)
    obtain ⟨xk, xv, xe⟩ := x
    simp only at g1 g2
    subst g1 g2
    unfold encE
    gi_wp2
    exact hK' _ _ (Upd.alloc _ _ _) ⟨V.heap.size, k1, n1, e1, k2, n2, e2, rfl, rfl, Ex.alloc_new V _, hz, hz0⟩
  case body =>
    rintro Z pre x W0 V vals a' ⟨post, hx⟩ hZ1 hZ2 ⟨hi, hwk, hyb⟩ hu0 rfl ⟨bx, k1, n1, e1, k2, n2, e2, q1, rfl, q3, q4, q5⟩ hk
    have HBX := Lib.hid q5
    obtain ⟨xk, xv, xe⟩ := x
    obtain ⟨g1, g2⟩ := hk.map.all_by (xk, xv, xe) (by rw [hx]; simp)
    have hxe : xe ∈ ps.flatten := by
      rw [← hk.map.all_ents, hx]; simp
    simp only [encE] at q1 g1 g2
    injection q1 with q1
    simp only [List.cons.injEq, Value.agg.injEq, and_true] at q1
    injection q1 with q1
    simp only [List.cons.injEq, and_true] at q1
    obtain ⟨rfl, rfl⟩ := q1
    have d3 := hwk.box3
    have huV : Upd (Priv (fun _ => False) w1.heap.size Z) W0 V := hu0
    have hpv : ∀ b, b < w1.heap.size → ¬ Priv (fun _ => False) w1.heap.size Z b := fun b hb h => h.elim id (fun h => by omega)
    have hwV := hwk.upd huV (fun b hb => hpv b (by have := hfl b hb; omega)) (hpv _ (by omega)) (hpv _ (by omega)) (hpv _ (by omega))
    have v3 := hwV.box3
    have vy : V.cell? ⟨W.heap.size, 0, none⟩ = some (.func (.yield l) #[] #[]) := (huV.cell (a := ⟨W.heap.size, 0, none⟩) (World.block_lt_of_cell? W0 _ hyb) (hpv W.heap.size (by omega))).trans hyb
    have vb0 := cell_of q3 0 (.slice k1 n1 e1) rfl
    have vb1 := cell_of q3 1 (.slice k2 n2 e2) rfl
    have hs1 := HSZ.out _ hxe
    have hby1 : By V k1 n1 e1 xe.1 := by obtain ⟨_, _, _, q, h, _⟩ := g1; cases q; exact h
    have hby2 : By V k2 n2 e2 xe.2 := by obtain ⟨_, _, _, q, h, _⟩ := g2; cases q; exact h
    have h33a : ∀ Vx, New V Vx → Calls Tryz.prog 33 #[.slice k1 n1 e1] Vx fun e w' => ∃ A' c', e = .returned (.slice A' n1 c') ∧ BV (fun b => Vx.heap.size ≤ b) w' (.slice A' n1 c') xe.1 ∧ New Vx w' := fun Vx hx => owned_c (hby1.new hx) (by rw [← hby1.len]; exact hs1.1)
    have h33b : ∀ Vx, New V Vx → Calls Tryz.prog 33 #[.slice k2 n2 e2] Vx fun e w' => ∃ A' c', e = .returned (.slice A' n2 c') ∧ BV (fun b => Vx.heap.size ≤ b) w' (.slice A' n2 c') xe.2 ∧ New Vx w' := fun Vx hx => owned_c (hby2.new hx) (by rw [← hby2.len]; exact hs1.2)
    have hpre : ∃ post, ps.flatten = entsOf pre ++ xe :: post := ⟨entsOf post, by rw [← hk.map.all_ents, hx]; simp [entsOf]⟩
    have hyz : ∀ V2 vals, New V V2 → Copies xe W0 V2 vals → YieldAt FW 0 Tryz.prog l vals V2 fun e W' => Kept W.heap.size Z W0.heap.size V2 W' ∧ Wlk base bm n c b1 b2 b3 D A vs ps css W' ∧ ((e = .returned (.bool true) ∧ J Z (entsOf pre ++ [xe]) W') ∨ (e = .returned (.bool false) ∧ Jx Z (entsOf pre ++ [xe]) W')) := fun V2 vals hn hc =>
      HY.out Z (entsOf pre) xe W0 V2 vals hpre (by omega) hZ2 hi ((huV.mono (fun b _ hb => hb.imp id (fun hb => ⟨by omega, hb.2⟩))).trans (hn.mono (fun _ _ h => h.elim))) hc (hwV.upd hn (fun _ _ => id) id id id)
    have hkv : ∀ Vx, New V Vx → Vx.cell? ⟨b3, 0, none⟩ = some (.slice none 0 0) ∧ Vx.cell? ⟨W.heap.size, 0, none⟩ = some (.func (.yield l) #[] #[]) ∧ Vx.cell? ⟨bx, 0, none⟩ = some (.slice k1 n1 e1) ∧ Vx.cell? ⟨bx, 1, none⟩ = some (.slice k2 n2 e2) := fun Vx hn =>
      ⟨(hn.cell (a := ⟨b3, 0, none⟩) (World.block_lt_of_cell? V _ v3) id).trans v3, (hn.cell (a := ⟨W.heap.size, 0, none⟩) (World.block_lt_of_cell? V _ vy) id).trans vy, (hn.cell (a := ⟨bx, 0, none⟩) (World.block_lt_of_cell? V _ vb0) id).trans vb0, (hn.cell (a := ⟨bx, 1, none⟩) (World.block_lt_of_cell? V _ vb1) id).trans vb1⟩
    have HKV := Lib.hid hkv
    clear hkv
    have HSZV := Lib.hid huV.size
    have HUV := Lib.hid huV
    have HA := Lib.hid h33a; have HB := Lib.hid h33b; have HYZ := Lib.hid hyz; have HQ3 := Lib.hid q3
    have HK5 := Lib.hid hk
    clear hx hxe g1 g2 hi hwk hyb hu0 d3 huV hwV hs1 hby1 hby2 h33a h33b hpre hyz hk q3
    have mixed : Tryz.prog.follows .mixedOrders = true := by kernel_rfl
    gi_wp2
    refine beginS (S := fun w' => w'.cell? ⟨b3, 0, none⟩ = some (.slice none 0 0) ∧ w'.cell? ⟨W.heap.size, 0, none⟩ = some (.func (.yield l) #[] #[]) ∧ w'.cell? ⟨bx, 0, none⟩ = some (.slice k1 n1 e1) ∧ w'.cell? ⟨bx, 1, none⟩ = some (.slice k2 n2 e2)) mixed ?_
    have hS0 : V.drew.cell? ⟨b3, 0, none⟩ = some (.slice none 0 0) ∧ V.drew.cell? ⟨W.heap.size, 0, none⟩ = some (.func (.yield l) #[] #[]) ∧ V.drew.cell? ⟨bx, 0, none⟩ = some (.slice k1 n1 e1) ∧ V.drew.cell? ⟨bx, 1, none⟩ = some (.slice k2 n2 e2) := ⟨v3, vy, vb0, vb1⟩
    refine takeS 0 (oi := { dst := some 10, op := Op.load 28 (Operand.tmp 3), type := 28, pos := "page.go:156", after := #[], guard := none }) (fun _ => trivial) (by rfl) rfl (by kernel_rfl) (by kernel_rfl) (by kernel_rfl) (fun _ _ _ h => h) (v := .slice none 0 0) (Or.inl ⟨by rfl, ?_⟩) hS0 ?_
    · rintro w' ⟨y1, y2, y3, y4⟩
      go_simp
    simp only [Act.put, List.setIfInBounds_toArray, List.set_cons_zero, List.set_cons_succ]
    refine takeS 1 (oi := { dst := some 11, op := Op.call { callee := Callee.builtin Builtin.len, args := #[Operand.tmp 10], argTypes := #[28] }, type := 3, pos := "page.go:156", after := #[{ on := 0, ground := Ground.data }], guard := none }) (fun _ => trivial) (by rfl) rfl (by kernel_rfl) (by kernel_rfl) (by kernel_rfl) (fun _ _ _ h => h) (v := .int .i64 0) (Or.inl ⟨by rfl, ?_⟩) hS0 ?_
    · rintro w' ⟨y1, y2, y3, y4⟩
      go_simp
    simp only [Act.put, List.setIfInBounds_toArray, List.set_cons_zero, List.set_cons_succ]
    refine takeS 2 (oi := { dst := some 12, op := Op.binOp BinOp.gtr 3 (Operand.tmp 11) (Operand.const (Value.int IntKind.i64 0)) 3, type := 4, pos := "page.go:156", after := #[{ on := 1, ground := Ground.data }], guard := none }) (fun _ => trivial) (by rfl) rfl (by kernel_rfl) (by kernel_rfl) (by kernel_rfl) (fun _ _ _ h => h) (v := .bool false) (Or.inl ⟨by rfl, ?_⟩) hS0 ?_
    · rintro w' ⟨y1, y2, y3, y4⟩
      go_simp
    simp only [Act.put, List.setIfInBounds_toArray, List.set_cons_zero, List.set_cons_succ]
    refine takeS 3 (oi := { dst := some 13, op := Op.move (Operand.tmp 12), type := 4, pos := "page.go:156", after := #[{ on := 2, ground := Ground.data }], guard := none }) (fun _ => trivial) (by rfl) rfl (by kernel_rfl) (by kernel_rfl) (by kernel_rfl) (fun _ _ _ h => h) (v := .bool false) (Or.inl ⟨by rfl, ?_⟩) hS0 ?_
    · rintro w' ⟨y1, y2, y3, y4⟩
      go_simp
    simp only [Act.put, List.setIfInBounds_toArray, List.set_cons_zero, List.set_cons_succ]
    refine takeS 4 (oi := { dst := some 14, op := Op.fieldAddr 93 (Operand.tmp 5) 0, type := 0, pos := "page.go:156", after := #[{ on := 3, ground := Ground.guard }], guard := some (3, true) }) (fun _ => trivial) (by rfl) rfl (by kernel_rfl) (by kernel_rfl) (by kernel_rfl) (fun _ _ _ h => h) (v := undef) (Or.inr ⟨by rfl, rfl⟩) hS0 ?_
    simp only [Act.put, List.setIfInBounds_toArray, List.set_cons_zero, List.set_cons_succ]
    refine takeS 5 (oi := { dst := some 15, op := Op.load 28 (Operand.tmp 14), type := 28, pos := "page.go:156", after := #[{ on := 4, ground := Ground.data }, { on := 3, ground := Ground.guard }], guard := some (3, true) }) (fun _ => trivial) (by rfl) rfl (by kernel_rfl) (by kernel_rfl) (by kernel_rfl) (fun _ _ _ h => h) (v := undef) (Or.inr ⟨by rfl, rfl⟩) hS0 ?_
    simp only [Act.put, List.setIfInBounds_toArray, List.set_cons_zero, List.set_cons_succ]
    refine takeS 6 (oi := { dst := some 16, op := Op.load 28 (Operand.tmp 3), type := 28, pos := "page.go:156", after := #[{ on := 3, ground := Ground.guard }], guard := some (3, true) }) (fun _ => trivial) (by rfl) rfl (by kernel_rfl) (by kernel_rfl) (by kernel_rfl) (fun _ _ _ h => h) (v := undef) (Or.inr ⟨by rfl, rfl⟩) hS0 ?_
    simp only [Act.put, List.setIfInBounds_toArray, List.set_cons_zero, List.set_cons_succ]
    refine takeS 7 (oi := { dst := some 17, op := Op.call { callee := Callee.value (Operand.func 36), args := #[Operand.tmp 15, Operand.tmp 16], argTypes := #[28, 28] }, type := 3, pos := "page.go:156", after := #[{ on := 5, ground := Ground.data }, { on := 6, ground := Ground.data }, { on := 3, ground := Ground.chain }, { on := 3, ground := Ground.guard }], guard := some (3, true) }) (fun _ => trivial) (by rfl) rfl (by kernel_rfl) (by kernel_rfl) (by kernel_rfl) (fun _ _ _ h => h) (v := undef) (Or.inr ⟨by rfl, rfl⟩) hS0 ?_
    simp only [Act.put, List.setIfInBounds_toArray, List.set_cons_zero, List.set_cons_succ]
    refine takeS 8 (oi := { dst := some 18, op := Op.binOp BinOp.geq 3 (Operand.tmp 17) (Operand.const (Value.int IntKind.i64 0)) 3, type := 4, pos := "page.go:156", after := #[{ on := 7, ground := Ground.data }, { on := 3, ground := Ground.guard }], guard := some (3, true) }) (fun _ => trivial) (by rfl) rfl (by kernel_rfl) (by kernel_rfl) (by kernel_rfl) (fun _ _ _ h => h) (v := undef) (Or.inr ⟨by rfl, rfl⟩) hS0 ?_
    simp only [Act.put, List.setIfInBounds_toArray, List.set_cons_zero, List.set_cons_succ]
    refine takeS 9 (oi := { dst := some 19, op := Op.pick (Operand.tmp 13) (Operand.tmp 18) (Operand.const (Value.bool false)), type := 4, pos := "page.go:156", after := #[{ on := 3, ground := Ground.data }, { on := 8, ground := Ground.data }], guard := none }) (fun _ => trivial) (by rfl) rfl (by kernel_rfl) (by kernel_rfl) (by kernel_rfl) (fun _ _ _ h => h) (v := .bool false) (Or.inl ⟨by rfl, ?_⟩) hS0 ?_
    · rintro w' ⟨y1, y2, y3, y4⟩
      go_simp
    simp only [Act.put, List.setIfInBounds_toArray, List.set_cons_zero, List.set_cons_succ]
    refine takeS 10 (oi := { dst := some 20, op := Op.move (Operand.tmp 19), type := 4, pos := "page.go:156", after := #[{ on := 9, ground := Ground.data }, { on := 7, ground := Ground.chain }], guard := none }) (fun _ => trivial) (by rfl) rfl (by kernel_rfl) (by kernel_rfl) (by kernel_rfl) (fun _ _ _ h => h) (v := .bool false) (Or.inl ⟨by rfl, ?_⟩) hS0 ?_
    · rintro w' ⟨y1, y2, y3, y4⟩
      go_simp
    simp only [Act.put, List.setIfInBounds_toArray, List.set_cons_zero, List.set_cons_succ]
    refine takeS 11 (oi := { dst := some 21, op := Op.load 34 (Operand.tmp 4), type := 34, pos := "page.go:156", after := #[{ on := 10, ground := Ground.guard }], guard := some (10, false) }) (fun _ => trivial) (by rfl) rfl (by kernel_rfl) (by kernel_rfl) (by kernel_rfl) (fun _ _ _ h => h) (v := .func (.yield l) #[] #[]) (Or.inl ⟨by rfl, ?_⟩) hS0 ?_
    · rintro w' ⟨y1, y2, y3, y4⟩
      go_simp
    simp only [Act.put, List.setIfInBounds_toArray, List.set_cons_zero, List.set_cons_succ]
    refine takeS 12 (oi := { dst := some 22, op := Op.fieldAddr 93 (Operand.tmp 5) 0, type := 0, pos := "page.go:156", after := #[{ on := 10, ground := Ground.guard }], guard := some (10, false) }) (fun _ => trivial) (by rfl) rfl (by kernel_rfl) (by kernel_rfl) (by kernel_rfl) (fun _ _ _ h => h) (v := .pointer (some ⟨bx, 0, none⟩)) (Or.inl ⟨by rfl, ?_⟩) hS0 ?_
    · rintro w' ⟨y1, y2, y3, y4⟩
      go_simp
    simp only [Act.put, List.setIfInBounds_toArray, List.set_cons_zero, List.set_cons_succ]
    refine takeS 13 (oi := { dst := some 23, op := Op.load 28 (Operand.tmp 22), type := 28, pos := "page.go:156", after := #[{ on := 12, ground := Ground.data }, { on := 10, ground := Ground.guard }], guard := some (10, false) }) (fun _ => trivial) (by rfl) rfl (by kernel_rfl) (by kernel_rfl) (by kernel_rfl) (fun _ _ _ h => h) (v := .slice k1 n1 e1) (Or.inl ⟨by rfl, ?_⟩) hS0 ?_
    · rintro w' ⟨y1, y2, y3, y4⟩
      go_simp
    simp only [Act.put, List.setIfInBounds_toArray, List.set_cons_zero, List.set_cons_succ]
    refine takeS 15 (oi := { dst := some 25, op := Op.fieldAddr 93 (Operand.tmp 5) 1, type := 0, pos := "page.go:156", after := #[{ on := 10, ground := Ground.guard }], guard := some (10, false) }) (fun _ => trivial) (by rfl) rfl (by kernel_rfl) (by kernel_rfl) (by kernel_rfl) (fun _ _ _ h => h) (v := .pointer (some ⟨bx, 1, none⟩)) (Or.inl ⟨by rfl, ?_⟩) hS0 ?_
    · rintro w' ⟨y1, y2, y3, y4⟩
      go_simp
    simp only [Act.put, List.setIfInBounds_toArray, List.set_cons_zero, List.set_cons_succ]
    refine takeS 16 (oi := { dst := some 26, op := Op.load 28 (Operand.tmp 25), type := 28, pos := "page.go:156", after := #[{ on := 15, ground := Ground.data }, { on := 10, ground := Ground.guard }], guard := some (10, false) }) (fun _ => trivial) (by rfl) rfl (by kernel_rfl) (by kernel_rfl) (by kernel_rfl) (fun _ _ _ h => h) (v := .slice k2 n2 e2) (Or.inl ⟨by rfl, ?_⟩) hS0 ?_
    · rintro w' ⟨y1, y2, y3, y4⟩
      go_simp
    simp only [Act.put, List.setIfInBounds_toArray, List.set_cons_zero, List.set_cons_succ]
    refine callS 14 (o := { dst := some 24, op := Op.call { callee := Callee.value (Operand.func 33), args := #[Operand.tmp 23], argTypes := #[28] }, type := 28, pos := "page.go:156", after := #[{ on := 13, ground := Ground.data }, { on := 10, ground := Ground.chain }, { on := 10, ground := Ground.guard }], guard := some (10, false) }) rfl (by kernel_rfl) (by rfl) (fun K hK => ?_)
    go_simp
    refine ⟨trivial, rfl, (CallsIn.inRound _ (callsIn_wide.2 (HA.out V.drew ((Upd.refl _ V).drew)))).mono ?_⟩
    rintro e V1 ⟨A1, c1, rfl, hv1, hn1⟩
    have hn1' : New V V1 := Upd.of_drew hn1
    have hS1 := HKV.out V1 hn1'
    refine hK _ _ ⟨hS1, ?_⟩
    try simp only [Act.put, List.setIfInBounds_toArray, List.set_cons_zero, List.set_cons_succ]
    refine callS 17 (o := { dst := some 27, op := Op.call { callee := Callee.value (Operand.func 33), args := #[Operand.tmp 26], argTypes := #[28] }, type := 28, pos := "page.go:156", after := #[{ on := 16, ground := Ground.data }, { on := 14, ground := Ground.chain }, { on := 10, ground := Ground.guard }], guard := some (10, false) }) rfl (by kernel_rfl) (by rfl) (fun K2 hK2 => ?_)
    go_simp
    refine ⟨trivial, rfl, (CallsIn.inRound _ (callsIn_wide.2 (HB.out V1 hn1'))).mono ?_⟩
    rintro e V2 ⟨A2, c2, rfl, hv2, hn2⟩
    have hS2 := HKV.out V2 (hn1'.trans hn2)
    refine hK2 _ _ ⟨hS2, ?_⟩
    try simp only [Act.put, List.setIfInBounds_toArray, List.set_cons_zero, List.set_cons_succ]
    obtain ⟨fn, tmps, asg, bdy, hy, hR⟩ := HYZ.out V2 _ (hn1'.trans hn2) ⟨A1, n1, c1, A2, n2, c2, rfl, (hv1.upd hn2 (fun _ _ => id)).mono (fun b hb => Nat.le_trans HSZV.out hb), hv2.mono (fun b hb => Nat.le_trans (Nat.le_trans HSZV.out hn1'.size) hb)⟩
    refine callS 18 (o := { dst := some 28, op := Op.call { callee := Callee.value (Operand.tmp 21), args := #[Operand.tmp 24, Operand.tmp 27], argTypes := #[28, 28] }, type := 4, pos := "page.go:156", after := #[{ on := 11, ground := Ground.data }, { on := 14, ground := Ground.data }, { on := 17, ground := Ground.data }, { on := 17, ground := Ground.chain }, { on := 10, ground := Ground.guard }], guard := some (10, false) }) rfl (by kernel_rfl) (by rfl) (fun K3 hK3 => ?_)
    go_simp
    refine ⟨rfl, hR.mono ?_⟩
    rintro e V3 ⟨hk3, hw3, h4⟩
    obtain ⟨r, rfl, h5⟩ : ∃ r, e = .returned (.bool r) ∧ ((r = true ∧ J Z (entsOf pre ++ [xe]) V3) ∨ (r = false ∧ Jx Z (entsOf pre ++ [xe]) V3)) := h4.elim (fun h => ⟨true, h.1, .inl ⟨rfl, h.2⟩⟩) (fun h => ⟨false, h.1, .inr ⟨rfl, h.2⟩⟩)
    have hkb : ∀ b, (W.heap.size ≤ b ∧ b < Z) ∨ (W0.heap.size ≤ b ∧ b < V2.heap.size) → V3.heap[b]? = V2.heap[b]? := hk3.2
    have hbxV : bx < V.heap.size := World.block_lt_of_cell? V ⟨bx, 0, none⟩ vb0
    have hn12 := hn1'.trans hn2
    have hbx3 : V3.heap[bx]? = V2.heap[bx]? := by
      by_cases hb : bx < Z
      · exact hkb bx (.inl ⟨by omega, hb⟩)
      · exact hkb bx (.inr ⟨HBX.out, Nat.lt_of_lt_of_le hbxV hn12.size⟩)
    have hS3 : V3.cell? ⟨b3, 0, none⟩ = some (.slice none 0 0) ∧ V3.cell? ⟨W.heap.size, 0, none⟩ = some (.func (.yield l) #[] #[]) ∧ V3.cell? ⟨bx, 0, none⟩ = some (.slice k1 n1 e1) ∧ V3.cell? ⟨bx, 1, none⟩ = some (.slice k2 n2 e2) :=
      ⟨hw3.box3, (World.cell?_of_block (a := ⟨W.heap.size, 0, none⟩) (hkb W.heap.size (.inl ⟨Nat.le_refl _, by omega⟩))).trans hS2.2.1, (World.cell?_of_block (a := ⟨bx, 0, none⟩) hbx3).trans hS2.2.2.1, (World.cell?_of_block (a := ⟨bx, 1, none⟩) hbx3).trans hS2.2.2.2⟩
    refine hK3 _ _ ⟨hS3, ?_⟩
    try simp only [Act.put, List.setIfInBounds_toArray, List.set_cons_zero, List.set_cons_succ]
    refine takeS 19 (oi := { dst := some 29, op := Op.unOp UnOp.not 4 (Operand.tmp 28), type := 4, pos := "page.go:156", after := #[{ on := 18, ground := Ground.data }, { on := 10, ground := Ground.guard }], guard := some (10, false) }) (fun _ => trivial) (by rfl) rfl (by kernel_rfl) (by kernel_rfl) (by kernel_rfl) (fun _ _ _ h => h) (v := .bool (!r)) (Or.inl ⟨by rfl, ?_⟩) hS3 ?_
    · rintro w' ⟨y1, y2, y3, y4⟩
      go_simp
    refine takeS 20 (oi := { dst := some 30, op := Op.pick (Operand.tmp 20) (Operand.const (Value.bool true)) (Operand.tmp 29), type := 4, pos := "page.go:156", after := #[{ on := 10, ground := Ground.data }, { on := 19, ground := Ground.data }], guard := none }) (fun _ => trivial) (by rfl) rfl (by kernel_rfl) (by kernel_rfl) (by kernel_rfl) (fun _ _ _ h => h) (v := .bool (!r)) (Or.inl ⟨by rfl, ?_⟩) hS3 ?_
    · rintro w' ⟨y1, y2, y3, y4⟩
      go_simp
    refine doneS (by kernel_rfl) ?_ _
    have hkept : V3.heap[w1.heap.size]? = V.heap[w1.heap.size]? ∧ V3.heap[w1.heap.size + 1]? = V.heap[w1.heap.size + 1]? ∧ Kept (w1.heap.size + 2) Z W0.heap.size V V3 := by
      have hlZ : Z ≤ V.heap.size := Nat.le_trans hZ2 HSZV.out
      have hold : ∀ b, (W.heap.size ≤ b ∧ b < Z) ∨ (W0.heap.size ≤ b ∧ b < V.heap.size) → V3.heap[b]? = V.heap[b]? := fun b hb => (hkb b (hb.imp id (fun h => ⟨h.1, Nat.lt_of_lt_of_le h.2 hn12.size⟩))).trans (hn12.block b (by omega) id)
      exact ⟨hold _ (.inl ⟨by omega, by omega⟩), hold _ (.inl ⟨by omega, by omega⟩), Nat.le_trans hn12.size hk3.1, fun k hk => hold k (hk.imp (fun h => ⟨by omega, h.2⟩) id)⟩
    have HKE := Lib.hid hkept; have HW3 := Lib.hid hw3; have H5 := Lib.hid h5; have HS3 := Lib.hid hS3
    have hkris : Ris base bm n c r1 r2 0 0 D A none vs ps css V3 := by
      have hold : ∀ b, W.heap.size ≤ b → b < Z → V3.heap[b]? = V.heap[b]? := fun b hb1 hb2 => (hkb b (.inl ⟨hb1, hb2⟩)).trans (hn12.block b (Nat.lt_of_lt_of_le hb2 (Nat.le_trans hZ2 HSZV.out)) id)
      have hsz1 : W.heap.size + 1 = (W.alloc (.cells #[.func (.yield l) #[] #[]] 34)).heap.size := by show _ = (W.heap.push _).size; simp
      exact ⟨hw3.map, (World.cell?_of_block (a := ⟨r1, 0, none⟩) (hold r1 (by omega) (by omega))).trans HK5.out.box1, (World.cell?_of_block (a := ⟨r2, 0, none⟩) (hold r2 (by omega) (by omega))).trans HK5.out.box2, By.nil _⟩
    have HKR := Lib.hid hkris
    clear hkept hw3 h5 h4 hS3 hkris hk3 hkb hbx3 hy hR
    cases r with
    | true =>
      simp only [Act.put, List.setIfInBounds_toArray, List.set_cons_zero, List.set_cons_succ, Bool.not_true, Bool.not_false]
      gi_wp2
      refine ⟨HKE.out, HKR.out, ?_, HW3.out, HS3.out.2.1⟩
      show J Z (entsOf (pre ++ [(Value.slice k1 n1 e1, Value.slice k2 n2 e2, xe)])) V3
      rw [entsOf_snoc]
      exact H5.out.elim (fun h => h.2) (fun h => by cases h.1)
    | false =>
      simp only [Act.put, List.setIfInBounds_toArray, List.set_cons_zero, List.set_cons_succ, Bool.not_true, Bool.not_false]
      gi_wp2
      refine ⟨HKE.out, HKR.out, rfl, ?_⟩
      show Jx Z (entsOf (pre ++ [(Value.slice k1 n1 e1, Value.slice k2 n2 e2, xe)])) V3
      rw [entsOf_snoc]
      exact H5.out.elim (fun h => by cases h.1) (fun h => h.2)
  case done =>
    rintro Z V hZ1 hZ2 ⟨hj, hwk, hyb⟩ hd _
    have hall := hwk.map.all_ents
    gi_wp2
    refine ⟨by simp, .inl ⟨_, _, rfl, run_takeDeferred hd, ?_⟩⟩
    refine ⟨_, results_none rfl _ _ _, ⟨_, rfl⟩, Z, by omega, by simpa using hZ2, .inl ⟨?_, hwk.upd (Upd.putObj (S := fun b => b = w1.heap.size) V _ rfl) (fun b hb e => by have h1 := HK.out.map.map.toMapRaw.foot_lt hb; have h2 := HN1.out.size; have h3 : (W.alloc (.cells #[.func (.yield l) #[] #[]] 34)).heap.size = W.heap.size + 1 := (by show (W.heap.push _).size = _; simp); omega) (by omega) (by omega) (by omega)⟩⟩
    have hj' : J Z ps.flatten V := by rw [← hall]; exact hj
    exact HJ.out Z _ _ _ hj' (Upd.putObj _ _ (.inr ⟨by omega, by omega⟩))
  case stop =>
    rintro Z cd pre x post V hZ1 hZ2 hx ⟨rfl, hjx⟩ hd
    gi_wp2
    refine ⟨by simp, .inl ⟨_, _, rfl, run_takeDeferred hd, ?_⟩⟩
    refine ⟨_, results_none rfl _ _ _, ⟨_, rfl⟩, Z, by omega, by simpa using hZ2, .inr ⟨entsOf pre, x.2.2, entsOf post, ?_, ?_⟩⟩
    · rw [← HK.out.map.all_ents, hx]; simp [entsOf]
    · rw [entsOf_snoc] at hjx
      exact HJX.out Z _ _ _ hjx (Upd.putObj _ _ (.inr ⟨by omega, by omega⟩))
end Go.Proofs.YtfagoiecijpneaaGreat
end
section
namespace Go.Proofs.YtfagoiecijpneaaGreat
open Go Go.RowKit Go.Proofs Gl Go.Shelf

/-- a counter in a cell is raised -/
theorem add_c {w : World} {b o : Nat} {cs : Array Value} {t : TypeId} {k : Int} (h : w.heap[b]? = some (.cells cs t (0, 0))) (hk : cs[o]? = some (.int .i64 k)) :
    Calls Tryz.prog 28 #[.pointer (some ⟨b, o, none⟩), .int .i64 1] w fun e w' => (∃ v, e = .returned v) ∧ w' = w.setCell ⟨b, o, none⟩ (.int .i64 (IntKind.i64.wrap (k + 1))) := by
  have hc := cell_of h o _ hk
  have hf := frozen_of h o
  have hr : (Extern.Atomic.update (Op.intArith .add) .i64 true #[.pointer (some ⟨b, o, none⟩), .int .i64 1]).run Tryz.prog w = .ok (.int .i64 (IntKind.i64.wrap (k + 1))) (w.setCell ⟨b, o, none⟩ (.int .i64 (IntKind.i64.wrap (k + 1)))) := by
    have hld : ∀ m, (load ⟨b, o, none⟩ m).run Tryz.prog w = .ok (.int .i64 k) w := fun m => by rw [run_load]; simp [hc]
    have hst : ∀ m x, (store ⟨b, o, none⟩ (.int .i64 x) m).run Tryz.prog w = .ok () (w.setCell ⟨b, o, none⟩ (.int .i64 x)) := fun m x => by rw [run_store Tryz.prog w _ _ _ rfl]; simp [hc, hf]
    show (do
      let a ← asAddr (.pointer (some ⟨b, o, none⟩))
      let old ← Extern.Atomic.read (.int .i64) a
      let n ← Op.intArith .add .i64 (← asInt old) (← asInt (.int .i64 1))
      store a n .atomic
      pure (if true then n else old) : Sem Value).run Tryz.prog w = _
    simp [asAddr, Extern.Atomic.read, asInt, asIntOf, Op.intArith, Result.andThen, hld, hst]
  have hx : (callFunc 49 #[.pointer (some ⟨b, o, none⟩), .int .i64 1]).run Tryz.prog w = .ok (.value (.int .i64 (IntKind.i64.wrap (k + 1)))) (w.setCell ⟨b, o, none⟩ (.int .i64 (IntKind.i64.wrap (k + 1)))) := add_run 49 rfl _ _ _ _ _ hr
  obtain ⟨r, hr2⟩ : ∃ r, r = IntKind.i64.wrap (k + 1) := ⟨_, rfl⟩
  rw [← hr2] at hx ⊢
  clear hr hc hf hr2 h hk
  go_enter Tryz.func28, Tryz.ntmps28
  go_wp2_with (simp only [hx])
  go_ret
  exact ⟨⟨_, rfl⟩, rfl⟩
theorem counted_c {w : World} {bs g : Nat} {lb : Array Value} :
    Calls Tryz.prog 37 #[.pointer (some ⟨bs, 0, none⟩), .func (.func g) #[] lb] w fun e w' => ∃ b1 b2, e = .returned (.func (.func 74) #[] #[.pointer (some ⟨b1, 0, none⟩), .pointer (some ⟨b2, 0, none⟩)]) ∧ New w w' ∧ w.heap.size ≤ b1 ∧ w.heap.size ≤ b2 ∧ b1 < w'.heap.size ∧ b2 < w'.heap.size ∧ w'.cell? ⟨b1, 0, none⟩ = some (.pointer (some ⟨bs, 0, none⟩)) ∧ w'.cell? ⟨b2, 0, none⟩ = some (.func (.func g) #[] lb) := by
  go_enter Tryz.func37, Tryz.ntmps37
  go_wp2
  go_ret
  refine ⟨w.heap.size, w.heap.size + 1, rfl, (Upd.alloc _ _ _).trans (Upd.alloc _ _ _), Nat.le_refl _, by omega, ?_, ?_, ?_, ?_⟩
  · show _ < ((w.heap.push _).push _).size; simp; omega
  · show _ < ((w.heap.push _).push _).size; simp
  · exact cell_of (t := 25) (fr := (0, 0)) (cs := #[.pointer (some ⟨bs, 0, none⟩)]) (by rw [heap_alloc_lt _ (by show _ < (w.heap.push _).size; simp)]; exact Ex.alloc_new w _) 0 _ rfl
  · have e := Ex.alloc_new (w.alloc (.cells #[.pointer (some ⟨bs, 0, none⟩)] 25)) (.cells #[.func (.func g) #[] lb] 44)
    rw [show (w.alloc (.cells #[.pointer (some ⟨bs, 0, none⟩)] 25)).heap.size = w.heap.size + 1 by show (w.heap.push _).size = _; simp] at e
    exact cell_of e 0 _ rfl
/-- the store's own block -/
def StoB (w : World) (bs bm : Nat) : Prop := ∃ k : Int, w.heap[bs]? = some (.cells #[.pointer (some ⟨bm, 0, none⟩), .slice none 0 0, .int .i64 k] 53 (0, 0))
theorem kwalk_c {w : World} {bs bm : Nat} (hs : StoB w bs bm) :
    Calls Tryz.prog 18 #[.pointer (some ⟨bs, 0, none⟩), .slice none 0 0, .slice none 0 0] w fun e w' => ∃ p1 p2 b1 b2 b3, e = .returned (.func (.func 74) #[] #[.pointer (some ⟨p1, 0, none⟩), .pointer (some ⟨p2, 0, none⟩)]) ∧ New w w' ∧ (w.heap.size ≤ p1 ∧ w.heap.size ≤ p2 ∧ w.heap.size ≤ b1 ∧ w.heap.size ≤ b2 ∧ w.heap.size ≤ b3) ∧
      w'.cell? ⟨p1, 0, none⟩ = some (.pointer (some ⟨bs, 0, none⟩)) ∧ w'.cell? ⟨p2, 0, none⟩ = some (.func (.func 34) #[] #[.pointer (some ⟨b1, 0, none⟩), .pointer (some ⟨b2, 0, none⟩), .pointer (some ⟨b3, 0, none⟩)]) ∧
      w'.cell? ⟨b1, 0, none⟩ = some (.pointer (some ⟨bm, 0, none⟩)) ∧ w'.cell? ⟨b2, 0, none⟩ = some (.slice none 0 0) ∧ w'.cell? ⟨b3, 0, none⟩ = some (.slice none 0 0) := by
  obtain ⟨k, hk⟩ := hs
  have hc := cell_of hk 0 (.pointer (some ⟨bm, 0, none⟩)) rfl
  clear hk
  go_enter Tryz.func18, Tryz.ntmps18
  go_wp2_with (first
    | (go_at_call 17; refine walk_c.mono ?_; rintro e w1 ⟨b1, b2, b3, rfl, hn1, hb, h1, h2, h3⟩; have H1 := Lib.hid (And.intro hn1 (And.intro hb (And.intro h1 (And.intro h2 h3)))); clear hn1 hb h1 h2 h3)
    | (go_at_call 37; refine counted_c.mono ?_; rintro e w2 ⟨p1, p2, rfl, hn2, hp1, hp2, hl1, hl2, hc1, hc2⟩; have H2 := Lib.hid (And.intro hn2 (And.intro hp1 (And.intro hp2 (And.intro hc1 hc2)))); clear hn2 hp1 hp2 hl1 hl2 hc1 hc2))
  go_ret
  obtain ⟨hn1, ⟨g1, g2, g3⟩, h1, h2, h3⟩ := H1.out
  obtain ⟨hn2, hp1, hp2, hc1, hc2⟩ := H2.out
  have hsz := hn1.size
  exact ⟨p1, p2, b1, b2, b3, rfl, hn1.trans hn2, ⟨by omega, by omega, g1, g2, g3⟩, hc1, hc2, (hn2.cell (a := ⟨b1, 0, none⟩) (World.block_lt_of_cell? w1 _ h1) id).trans h1, (hn2.cell (a := ⟨b2, 0, none⟩) (World.block_lt_of_cell? w1 _ h2) id).trans h2, (hn2.cell (a := ⟨b3, 0, none⟩) (World.block_lt_of_cell? w1 _ h3) id).trans h3⟩
end Go.Proofs.YtfagoiecijpneaaGreat
end
section
namespace Go.Proofs.YtfagoiecijpneaaGreat
open Go Go.RowKit Go.Proofs Gl Go.Shelf
attribute [local go_sem] Oper.semAt_some

/-- what counted's closure asks of the world -/
structure Cnt (base bm n c b1 b2 b3 bs p1 p2 : Nat) (D : Nat → Prop) (A : Option Addr) (vs : List Value) (ps : List (List Ent)) (css : List (List Value)) (W : World) : Prop where
  wlk : Wlk base bm n c b1 b2 b3 D A vs ps css W
  box1 : W.cell? ⟨p1, 0, none⟩ = some (.pointer (some ⟨bs, 0, none⟩))
  box2 : W.cell? ⟨p2, 0, none⟩ = some (.func (.func 34) #[] #[.pointer (some ⟨b1, 0, none⟩), .pointer (some ⟨b2, 0, none⟩), .pointer (some ⟨b3, 0, none⟩)])
  sto : StoB W bs bm
theorem StoB.lt {w : World} {bs bm : Nat} (h : StoB w bs bm) : bs < w.heap.size := by obtain ⟨k, hk⟩ := h; exact (Array.getElem?_eq_some_iff.1 hk).1
theorem StoB.upd {T : Nat → Prop} {w w' : World} {bs bm : Nat} (h : StoB w bs bm) (hu : Upd T w w') (hn : ¬ T bs) : StoB w' bs bm := by
  obtain ⟨k, hk⟩ := h; exact ⟨k, (hu.block bs (Array.getElem?_eq_some_iff.1 hk).1 hn).trans hk⟩
theorem StoB.count {w : World} {bs bm : Nat} (h : StoB w bs bm) : Calls Tryz.prog 28 #[.pointer (some ⟨bs, 2, none⟩), .int .i64 1] w fun e w' => (∃ v, e = .returned v) ∧ StoB w' bs bm ∧ Upd (fun b => b = bs) w w' := by
  obtain ⟨k, hk⟩ := h
  refine (add_c hk (o := 2) rfl).mono fun e w' ⟨hv, hw⟩ => ⟨hv, ?_, ?_⟩
  · rw [hw]; exact ⟨_, setCell_at hk _ (i := 2)⟩
  · rw [hw]; exact Upd.setCell w _ rfl
theorem Cnt.upd {base bm n c b1 b2 b3 bs p1 p2 : Nat} {D T : Nat → Prop} {A : Option Addr} {vs : List Value} {ps : List (List Ent)} {css : List (List Value)} {W W' : World} (h : Cnt base bm n c b1 b2 b3 bs p1 p2 D A vs ps css W) (hu : Upd T W W') (hf : ∀ b, foot bm D A n c vs b → ¬ T b) (h1 : ¬ T b1) (h2 : ¬ T b2) (h3 : ¬ T b3) (h4 : ¬ T p1) (h5 : ¬ T p2) (h6 : StoB W' bs bm) : Cnt base bm n c b1 b2 b3 bs p1 p2 D A vs ps css W' :=
  ⟨h.wlk.upd hu hf h1 h2 h3, (hu.cell (a := ⟨p1, 0, none⟩) (World.block_lt_of_cell? W _ h.box1) h4).trans h.box1, (hu.cell (a := ⟨p2, 0, none⟩) (World.block_lt_of_cell? W _ h.box2) h5).trans h.box2, h6⟩
theorem Copies.upd {T : Nat → Prop} {x : Ent} {W0 A B : World} {vals : Array Value} (h : Copies x W0 A vals) (hu : Upd T A B) (hT : ∀ b, W0.heap.size ≤ b → ¬ T b) : Copies x W0 B vals := by
  obtain ⟨A1, n1, c1, A2, n2, c2, e, h1, h2⟩ := h
  exact ⟨A1, n1, c1, A2, n2, c2, e, h1.upd hu hT, h2.upd hu hT⟩
set_option maxHeartbeats 8000000 in
set_option maxRecDepth 100000 in
theorem counted1_gives {base bm n c b1 b2 b3 bs p1 p2 : Nat} {D : Nat → Prop} {A : Option Addr} {vs : List Value} {ps : List (List Ent)} {css : List (List Value)} (hlen : ps.flatten.length ≤ 1000000) (hsz : ∀ e ∈ ps.flatten, e.1.length ≤ 1073741824 ∧ e.2.length ≤ 1073741824) (w0 : World) (hw0 : Cnt base bm n c b1 b2 b3 bs p1 p2 D A vs ps css w0)
    (hfb : ¬ foot bm D A n c vs bs) (hne : bs ≠ b1 ∧ bs ≠ b2 ∧ bs ≠ b3 ∧ bs ≠ p1 ∧ bs ≠ p2) :
    Gives Tryz.prog 74 #[.pointer (some ⟨p1, 0, none⟩), .pointer (some ⟨p2, 0, none⟩)] Copies (fun b => b = bs) (Cnt base bm n c b1 b2 b3 bs p1 p2 D A vs ps css) ps.flatten := by
  intro l J Jx W hJ hJx hK h0 hY
  have d1 := hK.box1
  have d2 := hK.box2
  have l1 : p1 < W.heap.size := World.block_lt_of_cell? W ⟨p1, 0, none⟩ d1
  have l2 : p2 < W.heap.size := World.block_lt_of_cell? W ⟨p2, 0, none⟩ d2
  have l3 : b1 < W.heap.size := World.block_lt_of_cell? W ⟨b1, 0, none⟩ hK.wlk.box1
  have l4 : b2 < W.heap.size := World.block_lt_of_cell? W ⟨b2, 0, none⟩ hK.wlk.box2
  have l5 : b3 < W.heap.size := World.block_lt_of_cell? W ⟨b3, 0, none⟩ hK.wlk.box3
  have l6 : bs < W.heap.size := hK.sto.lt
  obtain ⟨WA, hWA⟩ : ∃ WA, WA = W.alloc (.cells #[.func (.yield l) #[] #[]] 34) := ⟨_, rfl⟩
  have hal : New W WA := by rw [hWA]; exact Upd.alloc _ _ _
  have hWAs : WA.heap.size = W.heap.size + 1 := by rw [hWA]; show (W.heap.push _).size = _; simp
  have hpy : WA.cell? ⟨W.heap.size, 0, none⟩ = some (.func (.yield l) #[] #[]) := by rw [hWA]; exact cell_of (Ex.alloc_new W _) 0 _ rfl
  have hKA := hK.upd hal (fun _ _ => id) id id id id id (hK.sto.upd hal id)
  have k1 := hKA.box1
  have k2a := hKA.box2
  have h28 := hKA.sto.count
  have HY := Lib.hid hY; have HJ := Lib.hid hJ; have HJX := Lib.hid hJx; have HK := Lib.hid hK; have H0 := Lib.hid h0; have HL := Lib.hid hlen; have HSZ := Lib.hid hsz; have HKA := Lib.hid hKA; have HFB := Lib.hid hfb; have HNE := Lib.hid hne; have HAL := Lib.hid hal
  have hflW : ∀ b, foot bm D A n c vs b → b < W.heap.size := fun b hb => hK.wlk.map.map.toMapRaw.foot_lt hb
  have HFL := Lib.hid hflW
  clear hY hJ hJx hK h0 hlen hsz hal hKA hfb hflW
  refine (callsIn_wide (n := 0)).1 ?_
  refine callsIn_of_wp_marks Tryz.func74 rfl trivial ?_ rfl
  simp only [Tryz.ntmps74, List.size_toArray, List.length_cons, List.length_nil, Nat.reduceAdd, Nat.reduceSub, Array.replicate_succ, Array.replicate_zero, List.push_toArray, List.append_toArray, List.nil_append, List.cons_append]
  rw [hWA] at h28 k1 k2a
  have K2A := Lib.hid k2a
  clear k2a
  gi_wp2_with (refine ⟨trivial, rfl, ?_⟩; gi_at_call 28; refine (callsIn_wide.2 h28).mono ?_; rintro e w1 ⟨⟨rv, rfl⟩, hsto1, hu1⟩; have k2 := (hu1.cell (a := ⟨p2, 0, none⟩) (World.block_lt_of_cell? _ _ K2A.out) (Ne.symm HNE.out.2.2.2.2)).trans K2A.out; have H1 := Lib.hid (And.intro hsto1 hu1); clear hsto1 hu1 h28)
  have HU1 : Hid (Upd (fun b => b = bs) WA w1) := by rw [hWA]; exact Lib.hid H1.out.2
  have hsz1 : WA.heap.size ≤ w1.heap.size := HU1.out.size
  have hK1 := HKA.out.upd HU1.out (fun b hb e => HFB.out (e ▸ hb)) (Ne.symm HNE.out.1) (Ne.symm HNE.out.2.1) (Ne.symm HNE.out.2.2.1) (Ne.symm HNE.out.2.2.2.1) (Ne.symm HNE.out.2.2.2.2) H1.out.1
  have hpy1 : w1.cell? ⟨W.heap.size, 0, none⟩ = some (.func (.yield l) #[] #[]) := (HU1.out.cell (a := ⟨W.heap.size, 0, none⟩) (by simp only; omega) (by simp only; omega)).trans hpy
  have hUW : Upd (fun b => b = bs) W w1 := (HAL.out.mono (fun _ _ h => h.elim)).trans HU1.out
  have hnp : ∀ Z b, b < W.heap.size → b ≠ bs → ¬ Priv (fun _ => False) w1.heap.size Z b := fun Z b hb _ h => h.elim id (fun h => by omega)
  refine range_out (gf := 34) (lb := #[.pointer (some ⟨b1, 0, none⟩), .pointer (some ⟨b2, 0, none⟩), .pointer (some ⟨b3, 0, none⟩)]) rfl (fun args w => enters_of' 34 Tryz.func34 (by kernel_rfl) (by kernel_rfl) args w)
    (walk1_gives (base := base) (bm := bm) (n := n) (c := c) (D := D) (A := A) (vs := vs) (ps := ps) (css := css) HL.out HSZ.out w1 hK1.wlk) (fun x _ _ vals he => by obtain ⟨_, _, _, _, _, _, e, _⟩ := he; rw [e]; rfl) (fun b h => h.elim)
    (fun P Q hk hu => hk.upd hu (fun b hb => by have := HFL.out b hb; omega) (by omega) (by omega) (by omega)) hK1.wlk
    (fun x W0 P Q vals hz he hu => hu.elim (fun hu => he.upd hu (fun _ _ => id)) (fun hu => he.upd hu (fun b hb => by omega)))
    (fun Z (pre : List Ent) V => J Z pre V ∧ Cnt base bm n c b1 b2 b3 bs p1 p2 D A vs ps css V ∧ V.cell? ⟨W.heap.size, 0, none⟩ = some (.func (.yield l) #[] #[]))
    (fun Z cd (pre : List Ent) V => cd = .ret ∧ Jx Z pre V)
    (fun Z hZ s P Q hs hu => ⟨HJ.out Z _ P Q hs.1 (hu.mono (fun b _ hb => .inr (hb.elim (fun h => h.elim) (fun h => ⟨by omega, h.2⟩)))), hs.2.1.upd hu (fun b hb h => by have := HFL.out b hb; exact h.elim id (fun h => by omega)) (fun h => h.elim id (fun h => by omega)) (fun h => h.elim id (fun h => by omega)) (fun h => h.elim id (fun h => by omega)) (fun h => h.elim id (fun h => by omega)) (fun h => h.elim id (fun h => by omega)) (hs.2.1.sto.upd hu (fun h => h.elim id (fun h => by omega))), (hu.cell (a := ⟨W.heap.size, 0, none⟩) (World.block_lt_of_cell? P _ hs.2.2) (fun h => h.elim id (fun h => by simp only at h; omega))).trans hs.2.2⟩)
    (fun Z cd hZ s P Q hs hu => ⟨hs.1, HJX.out Z _ P Q hs.2 (hu.mono (fun b _ hb => .inr (hb.elim (fun h => h.elim) (fun h => ⟨by omega, h.2⟩))))⟩)
    (fun Z hZ => ⟨(HJ.out Z) _ _ _ (H0.out Z) (hUW.mono (fun _ _ h => .inl h)), hK1, hpy1⟩)
    (fun W0 vals a' V => ∃ k1 n1 e1 k2 n2 e2, vals = #[.slice k1 n1 e1, .slice k2 n2 e2] ∧ a' = { tmps := #[.func (.yield l) #[] #[], .pointer (some ⟨p1, 0, none⟩), .pointer (some ⟨p2, 0, none⟩), .pointer (some ⟨W.heap.size, 0, none⟩), .slice k1 n1 e1, .slice k2 n2 e2, .pointer (some ⟨bs, 0, none⟩), .pointer (some ⟨bs, 0, none⟩), .pointer (some ⟨bs, 2, none⟩), rv, .func (.func 34) #[] #[.pointer (some ⟨b1, 0, none⟩), .pointer (some ⟨b2, 0, none⟩), .pointer (some ⟨b3, 0, none⟩)], .slice k1 n1 e1, .slice k2 n2 e2, undef, undef, undef, undef, undef, undef, undef, undef, undef], defers := [] })
    (fun W0 vals a' P Q hs hu => hs)
    ?assign ?body ?done ?stop
  case assign =>
    rintro l2 x W0 V vals K ⟨pre, post, hx⟩ hz hz0 ⟨A1, n1, e1, A2, n2, e2, rfl, g1, g2⟩ hk hK'
    gi_wp2
    exact hK' _ _ (Upd.refl _ _) ⟨A1, n1, e1, A2, n2, e2, rfl, rfl⟩
  case body =>
    rintro Z pre x W0 V vals a' ⟨post, hx⟩ hZ1 hZ2 ⟨hi, hck, hyb⟩ hu0 hcp ⟨k1, n1, e1, k2, n2, e2, rfl, rfl⟩ hk
    have hcV := hck.upd hu0 (fun b hb h => by have := HFL.out b hb; exact h.elim id (fun h => by omega)) (fun h => h.elim id (fun h => by omega)) (fun h => h.elim id (fun h => by omega)) (fun h => h.elim id (fun h => by omega)) (fun h => h.elim id (fun h => by omega)) (fun h => h.elim id (fun h => by omega)) (hck.sto.upd hu0 (fun h => h.elim id (fun h => by omega)))
    have vy : V.cell? ⟨W.heap.size, 0, none⟩ = some (.func (.yield l) #[] #[]) := (hu0.cell (a := ⟨W.heap.size, 0, none⟩) (World.block_lt_of_cell? W0 _ hyb) (fun h => h.elim id (fun h => by simp only at h; omega))).trans hyb
    have v1 := hcV.box1
    have h28 := hcV.sto.count
    have HCV := Lib.hid hcV; have HVY := Lib.hid vy; have HU0 := Lib.hid hu0; have HCP := Lib.hid hcp; have HI := Lib.hid hi; have HX := Lib.hid hx
    have HYF : Hid (∀ V2, StoB V2 bs bm → Upd (fun b => b = bs) V V2 → YieldAt FW 0 Tryz.prog l #[.slice k1 n1 e1, .slice k2 n2 e2] V2 fun e W' => Kept W.heap.size Z W0.heap.size V2 W' ∧ Cnt base bm n c b1 b2 b3 bs p1 p2 D A vs ps css W' ∧ ((e = .returned (.bool true) ∧ J Z (pre ++ [x]) W') ∨ (e = .returned (.bool false) ∧ Jx Z (pre ++ [x]) W'))) := Lib.hid (fun V2 hsto2 hu2 =>
      HY.out Z pre x W0 V2 _ ⟨post, hx⟩ (by omega) hZ2 hi ((hu0.mono (fun b _ hb => .inr (hb.elim (fun h => h.elim) (fun h => ⟨by omega, h.2⟩)))).trans (hu2.mono (fun b _ h => .inl h))) (hcp.upd hu2 (fun b hb e => by omega))
        (hcV.upd hu2 (fun b hb e => HFB.out (e ▸ hb)) (Ne.symm HNE.out.1) (Ne.symm HNE.out.2.1) (Ne.symm HNE.out.2.2.1) (Ne.symm HNE.out.2.2.2.1) (Ne.symm HNE.out.2.2.2.2) hsto2))
    clear hck hyb hcV vy hu0 hcp hi hx hk
    gi_wp2_with (refine ⟨trivial, rfl, ?_⟩; gi_at_call 28; refine (CallsIn.inRound _ (callsIn_wide.2 h28)).mono ?_; rintro e V2 ⟨⟨rv2, rfl⟩, hsto2, hu2⟩; have vy2 := (hu2.cell (a := ⟨W.heap.size, 0, none⟩) (World.block_lt_of_cell? V _ HVY.out) (by simp only; omega)).trans HVY.out; have H2 := Lib.hid (And.intro hsto2 hu2); obtain ⟨fn, tmps, asg, bdy, hy, hR⟩ := HYF.out V2 hsto2 hu2; have HR := Lib.hid hR; clear hsto2 hu2 h28 hR)
    refine ⟨rfl, HR.out.mono ?_⟩
    rintro e V3 ⟨hk3, hc3, h4⟩
    obtain ⟨r, rfl, h5⟩ : ∃ r, e = .returned (.bool r) ∧ ((r = true ∧ J Z (pre ++ [x]) V3) ∨ (r = false ∧ Jx Z (pre ++ [x]) V3)) := h4.elim (fun h => ⟨true, h.1, .inl ⟨rfl, h.2⟩⟩) (fun h => ⟨false, h.1, .inr ⟨rfl, h.2⟩⟩)
    have hu2 := H2.out.2
    have hy3 : V3.cell? ⟨W.heap.size, 0, none⟩ = some (.func (.yield l) #[] #[]) := (World.cell?_of_block (a := ⟨W.heap.size, 0, none⟩) (hk3.2 W.heap.size (.inl ⟨Nat.le_refl _, by omega⟩))).trans vy2
    have hkept : V3.heap[w1.heap.size]? = V.heap[w1.heap.size]? ∧ V3.heap[w1.heap.size + 1]? = V.heap[w1.heap.size + 1]? ∧ Kept (w1.heap.size + 2) Z W0.heap.size V V3 := by
      have hlZ : Z ≤ V.heap.size := Nat.le_trans hZ2 HU0.out.size
      have hold : ∀ b, (W.heap.size ≤ b ∧ b < Z) ∨ (W0.heap.size ≤ b ∧ b < V.heap.size) → V3.heap[b]? = V.heap[b]? := fun b hb => (hk3.2 b (hb.imp id (fun h => ⟨h.1, Nat.lt_of_lt_of_le h.2 hu2.size⟩))).trans (hu2.block b (by omega) (by omega))
      exact ⟨hold _ (.inl ⟨by omega, by omega⟩), hold _ (.inl ⟨by omega, by omega⟩), Nat.le_trans hu2.size hk3.1, fun k hk => hold k (hk.imp (fun h => ⟨by omega, h.2⟩) id)⟩
    have HKE := Lib.hid hkept; have HC3 := Lib.hid hc3; have H5 := Lib.hid h5; have HY3 := Lib.hid hy3
    clear hkept hc3 h5 h4 hk3 hu2 hy3 hy HR vy2
    cases r with
    | true =>
      gi_wp2
      exact ⟨HKE.out, HC3.out.wlk, H5.out.elim (fun h => h.2) (fun h => by cases h.1), HC3.out, HY3.out⟩
    | false =>
      gi_wp2
      exact ⟨HKE.out, HC3.out.wlk, rfl, H5.out.elim (fun h => by cases h.1) (fun h => h.2)⟩
  case done =>
    rintro Z V hZ1 hZ2 ⟨hj, hwk, hyb⟩ hd _
    gi_wp2
    refine ⟨by simp, .inl ⟨_, _, rfl, run_takeDeferred hd, ?_⟩⟩
    refine ⟨_, results_none rfl _ _ _, ⟨_, rfl⟩, Z, by omega, by simpa using hZ2, .inl ⟨?_, hwk.upd (Upd.putObj (S := fun b => b = w1.heap.size) V _ rfl) (fun b hb e => by have := HFL.out b hb; omega) (by omega) (by omega) (by omega) (by omega) (by omega) (hwk.sto.upd (Upd.putObj (S := fun b => b = w1.heap.size) V _ rfl) (by omega))⟩⟩
    exact HJ.out Z _ _ _ hj (Upd.putObj _ _ (.inr ⟨by omega, by omega⟩))
  case stop =>
    rintro Z cd pre x post V hZ1 hZ2 hx ⟨rfl, hjx⟩ hd
    gi_wp2
    refine ⟨by simp, .inl ⟨_, _, rfl, run_takeDeferred hd, ?_⟩⟩
    refine ⟨_, results_none rfl _ _ _, ⟨_, rfl⟩, Z, by omega, by simpa using hZ2, .inr ⟨pre, x, post, hx, ?_⟩⟩
    exact HJX.out Z _ _ _ hjx (Upd.putObj _ _ (.inr ⟨by omega, by omega⟩))
end Go.Proofs.YtfagoiecijpneaaGreat
end
