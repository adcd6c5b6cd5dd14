/- A verified executor for closed Go calls, part of it: its lemmas carry no condition. -/
import Derived.Test.YtacchpkmjgdebaaGreatExJ
set_option linter.unusedVariables false
set_option linter.unusedSimpArgs false
namespace Ex
open Go
variable {E : Env} {ρ ρ' : Rho} {H H' : Heap} {w w' : World}

theorem lenA_sound {x x' : Value} {n : Nat} (hx : VR ρ x x') (hl : lenA x' = some n) (P : Program) (w : World) : (Builtin.lenOf x).run P w = .ok n w := by
  cases hx <;> simp only [lenA] at hl <;> first
    | (cases hl; rfl)
    | (cases hl; done)
    | skip

theorem ofBytes_eq : ∀ l : List UInt8, ofBytes l = l.map fun b => Value.int .u8 (b.toNat : Int)
  | [] => rfl
  | b :: l => by simp only [ofBytes, List.map_cons, ofBytes_eq l]; rfl
theorem freeL_ofBytes : ∀ l : List UInt8, freeL (ofBytes l) = true
  | [] => rfl
  | b :: l => by simp only [ofBytes, freeL, freeL_ofBytes l]; rfl

/-- what a slice or a string holds, read in any world with the same cells -/
theorem src_sound_le (h : HR E.ng ρ H w) {size n m : Nat} {x x' : Value} {l' : List Value} (hx : VR ρ x x') (hl : lenA x' = some m) (hnm : n ≤ m) (hs : srcCells H size n x' = some l') :
    ∃ l, LR ρ l l' ∧ ∀ w1 : World, w1.heap = w.heap → (Builtin.firstCells size n x).run E.P w1 = .ok ⟨l⟩ w1 := by
  cases x' with
  | slice a len cap =>
    cases hl
    cases a with
    | none =>
      cases hs
      cases hx
      exact ⟨[], LR.nil _, fun _ _ => rfl⟩
    | some a =>
      obtain ⟨b, o, s⟩ := a
      have hs : readCells H b o (n * size) = some l' := hs
      obtain ⟨p, hp, ⟨c, rfl, -⟩ | ⟨a, c, rfl, rfl, rfl, hk⟩⟩ := slice_inv hx
      · obtain ⟨l, h1, h2, h3⟩ := read_cells h hp hs
        refine ⟨l, h1, fun w1 hw => ?_⟩
        have hrun := run_loadCells_list (P := E.P) w1 ⟨p.c, p.s + o, none⟩ l (fun j v hv => by
          rw [addr_add]
          have := h3 j v hv
          simpa [World.cell?, hw] using this)
        rw [h2] at hrun
        exact hrun
      · obtain ⟨l, h1, h2, h3⟩ := read_cells h hp hs
        have hn0 : n = 0 := by omega
        subst hn0
        have : l = [] := by rw [Nat.zero_mul] at h2; simpa using h2
        subst this
        refine ⟨[], h1, fun w1 _ => ?_⟩
        show (loadCells a (0 * size)).run E.P w1 = _
        rw [Nat.zero_mul]; rfl
  | string bs =>
    obtain ⟨⟨s⟩⟩ := bs
    cases hl
    have hs : takeL n (ofBytes s) = some l' := hs
    rw [hx.string_inv]
    obtain ⟨hn, rfl⟩ := takeL_some hs
    have hfree : freeL ((ofBytes s).take n) = true := by
      rw [ofBytes_eq, ← List.map_take, ← ofBytes_eq]; exact freeL_ofBytes _
    refine ⟨(ofBytes s).take n, ⟨rfl, LR.of_free ρ _ hfree⟩, fun w1 _ => ?_⟩
    show Result.ok (((⟨⟨s⟩⟩ : ByteArray).extract 0 n).data.map fun b => Value.int .u8 (b.toNat : Int)) w1 = _
    congr 1
    rw [ByteArray.data_extract, ofBytes_eq]
    apply Array.ext'
    simp [List.extract_eq_take_drop]
  | _ => cases hl
theorem src_sound (h : HR E.ng ρ H w) {size n : Nat} {x x' : Value} {l' : List Value} (hx : VR ρ x x') (hl : lenA x' = some n) (hs : srcCells H size n x' = some l') :
    ∃ l, LR ρ l l' ∧ ∀ w1 : World, w1.heap = w.heap → (Builtin.firstCells size n x).run E.P w1 = .ok ⟨l⟩ w1 := src_sound_le h hx hl (Nat.le_refl n) hs

theorem allOne_mem {l : List Value} (h : allOne l = true) : ∀ v ∈ l, oneCell v = true := allOne_rel (ρ := fun _ => none) (l := l) (l' := l) |> fun f => by
  intro v hv
  induction l with
  | nil => cases hv
  | cons a t ih =>
    simp only [allOne, Bool.and_eq_true] at h
    rcases List.mem_cons.1 hv with rfl | hv
    · exact h.1
    · exact ih h.2 (fun hlr => allOne_rel hlr) hv

/-! append -/
theorem appSize_inv (hE : EnvOk E) {t : TypeId} {n : Nat} (h : appSize E.tt t = some n) :
    ∃ e i z, E.P.underlying t = some (.slice e) ∧ E.P.info? e = some i ∧ i.size = n ∧ i.zero = some z ∧ z.cells.size = n ∧ i.bytes ≤ 1024 ∧ 0 < i.bytes ∧ 0 < n := by
  unfold appSize at h
  cases he : elemA E.tt t with
  | none => rw [he] at h; cases h
  | some e =>
    rw [he] at h
    obtain ⟨hu, hs⟩ := elemA_inv hE he
    obtain ⟨e, size⟩ := e
    simp only at hu hs h
    cases hi : E.tt.info e with
    | none => rw [hi] at h; cases h
    | some i =>
      rw [hi] at h
      simp only at h
      cases hb : (Nat.ble i.bytes 1024 && Nat.blt 0 i.bytes && Nat.blt 0 size) with
      | false => rw [hb] at h; cases h
      | true =>
        rw [hb] at h
        simp only [Bool.and_eq_true, Nat.blt_eq] at hb
        simp only at h
        cases hz : zeroA E.tt e with
        | none => rw [hz] at h; cases h
        | some z =>
          rw [hz] at h
          simp only at h
          cases hq : Nat.beq (cellsV z).length size with
          | false => rw [hq] at h; cases h
          | true =>
            rw [hq] at h
            cases h
            obtain ⟨i', hi', hzi, _⟩ := zeroA_inv hE hz
            rw [hE.tt e i hi] at hi'; cases hi'
            obtain ⟨i', hi', hn⟩ := size_eq hE hs
            rw [hE.tt e i hi] at hi'; cases hi'
            have := Nat.eq_of_beq_eq_true hq
            rw [cellsV_eq] at this
            exact ⟨e, i, z, hu, hE.tt e i hi, hn, hzi, by simpa using this, Nat.le_of_ble_eq_true hb.1.1, hb.1.2, hb.2⟩

/-- the growing append -/
theorem run_append_far {P : Program} {t u ty e : TypeId} {i : TypeInfo} {z x : Value} {d : TypeDesc} (ht : P.underlying t = some (.slice e)) (hu : P.underlying u = some d) (hd : ∀ k, d ≠ .int k) (hi : P.info? e = some i) (hz : i.zero = some z)
    {base : Option Addr} {sLen sCap n : Nat} {old new : List Value} (hn : ∀ w, (Builtin.lenOf x).run P w = .ok n w) (hfo : (Builtin.firstCells i.size sLen (.slice base sLen sCap)).run P w.drew = .ok ⟨old⟩ w.drew)
    (hf : (Builtin.firstCells i.size n x).run P w.drew = .ok ⟨new⟩ w.drew) (hg : sCap < sLen + n) (hsm : sLen + n ≤ 1048576) (hb : i.bytes ≤ 1024) (hb0 : 0 < i.bytes) :
    (Builtin.append_ #[t, u] ty #[.slice base sLen sCap, x]).run P w =
      .ok (.slice (some ⟨w.heap.size, 0, none⟩) (sLen + n) (grownCap w (sLen + n) sCap e)) (w.drew.alloc (.cells ⟨old ++ (new ++ (Builtin.zeroCells z.cells (grownCap w (sLen + n) sCap e - (sLen + n))).toList)⟩ e)) := by
  have hneed : ¬ (sLen + n ≤ sCap) := by omega
  have hmul : (sLen + n) * i.bytes ≤ 1048576 * 1024 := Nat.mul_le_mul hsm hb
  have hfit := growslice_fits (bytes := i.bytes) hg (by omega)
  have h63' : ¬ (9223372036854775807 < ((sLen : Int) + (n : Int))) := by omega
  have h48' : ¬ (281474976710656 < Builtin.nextslicecap (sLen + n) sCap * i.bytes) := by omega
  have hnot : (match d with | .int _ => true | _ => false) = false := by cases d <;> simp at hd ⊢
  have hb1 : i.bytes ≠ 0 := by omega
  simp [Builtin.append_, run_underlying ht, run_underlying hu, Go.sizeOf, typeInfo, zeroValue, hi, hz, hn, hneed, h63', h48', Question.forced, hf, hfo, newRow, grownCap, hnot]
  congr 2
  apply Array.ext'
  simp

/-- the append that stays -/
theorem run_append_near {P : Program} {t u ty e : TypeId} {i : TypeInfo} {x : Value} {d : TypeDesc} (ht : P.underlying t = some (.slice e)) (hu : P.underlying u = some d) (hd : ∀ k, d ≠ .int k) (hi : P.info? e = some i)
    {base : Option Addr} {sLen sCap n : Nat} {new : List Value} (hn : ∀ w, (Builtin.lenOf x).run P w = .ok n w)
    (hf : (Builtin.firstCells i.size n x).run P w = .ok ⟨new⟩ w) (hg : sLen + n ≤ sCap)
    (hst : ∀ a, base = some a → (storeCells (a.add (sLen * i.size)) new).run P w = .ok () w') (hno : base = none → w' = w) :
    (Builtin.append_ #[t, u] ty #[.slice base sLen sCap, x]).run P w = .ok (.slice base (sLen + n) sCap) w' := by
  have hnot : (match d with | .int _ => true | _ => false) = false := by cases d <;> simp at hd ⊢
  cases base with
  | none => have := hno rfl; subst this; simp [Builtin.append_, run_underlying ht, run_underlying hu, Go.sizeOf, typeInfo, hi, hn, hg, hf, hnot]
  | some a => simp [Builtin.append_, run_underlying ht, run_underlying hu, Go.sizeOf, typeInfo, hi, hn, hg, hf, hnot, hst a rfl]

theorem grownCap_ge (w : World) (need old : Nat) (e : TypeId) : need ≤ grownCap w need old e := by
  simp only [grownCap, Question.cut]; omega
theorem zeroCells_size (z : Array Value) (n : Nat) : (Builtin.zeroCells z n).size = n * z.size := by simp [Builtin.zeroCells]

theorem freshRes (h : HR E.ng ρ H w) {s : Sem Value} {old new old' new' : List Value} {need size cap : Nat} {e : TypeId} {z : Array Value} (hsz : z.size = size) (hpos : 0 < size) (hcap : need ≤ cap) (hlen : (old ++ new).length = need * size)
    (ho : LR ρ old old') (hn : LR ρ new new')
    (hr : s.run E.P w = .ok (.slice (some ⟨w.heap.size, 0, none⟩) need cap) (w.drew.alloc (.cells ⟨old ++ (new ++ (Builtin.zeroCells z (cap - need)).toList)⟩ e))) :
    ∃ ρ' v w', s.run E.P w = .ok v w' ∧ VR ρ' v (.slice (some ⟨H.next, 0, none⟩) need need) ∧ HR E.ng ρ' (newRowA H (old' ++ new') size) w' ∧ Ext ρ H w ρ' (newRowA H (old' ++ new') size) w' := by
  obtain ⟨h1, h2⟩ := new_open (w1 := w.drew) (rest := (Builtin.zeroCells z (cap - need)).toList) h e (Nat.pos_iff_ne_zero.1 hpos) (ho.append hn) rfl rfl rfl rfl
  rw [← List.append_assoc] at hr
  refine ⟨_, _, _, hr, ?_, h1, h2⟩
  refine VR.slice (o := 0) (p := ⟨w.heap.size, 0, (old ++ new ++ (Builtin.zeroCells z (cap - need)).toList).length, size⟩) (Rho.put_same _ _ _) hcap (fun h0 => absurd h0 (Nat.pos_iff_ne_zero.1 hpos)) (fun _ => ?_)
  have e1 : (Builtin.zeroCells z (cap - need)).toList.length = (cap - need) * size := by rw [Array.length_toList, zeroCells_size, hsz]
  simp only [List.length_append] at hlen ⊢
  rw [e1]
  have e2 : need * size + (cap - need) * size = cap * size := by rw [← Nat.add_mul]; congr 1; omega
  have e3 : size * cap = cap * size := Nat.mul_comm _ _
  omega
end Ex
