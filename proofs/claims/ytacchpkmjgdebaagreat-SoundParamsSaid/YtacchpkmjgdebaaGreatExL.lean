/- A verified executor for closed Go calls, part of it: its lemmas carry no condition. -/
import Derived.Laws.BytesString
import Derived.Laws.Externs
import Derived.Lib.ConvBytes
import Derived.Test.YtacchpkmjgdebaaGreatExK2
set_option linter.unusedVariables false
set_option linter.unusedSimpArgs false
namespace Ex
open Go
variable {E : Env} {ρ ρ' : Rho} {H H' : Heap} {w w' : World}

theorem src_zero {size : Nat} {x : Value} {l : List Value} (h : srcCells H size 0 x = some l) : l = [] := by
  have hz : ∀ (m : List Value) (r : List Value), takeL 0 m = some r → r = [] := fun m r hr => by obtain ⟨_, e⟩ := takeL_some hr; simpa using e
  cases x with
  | slice a len cap =>
    cases a with
    | none => cases h; rfl
    | some a =>
      obtain ⟨b, o, s⟩ := a
      have h : readCells H b o (0 * size) = some l := h
      rw [Nat.zero_mul] at h
      unfold readCells at h
      cases hb : H.get b <;> rw [hb] at h <;> simp only at h <;> try (cases h; done)
      exact hz _ _ h
  | string bs => obtain ⟨⟨s⟩⟩ := bs; exact hz (ofBytes s) _ h
  | _ => cases h

theorem copy_sound (hE : EnvOk E) (h : HR E.ng ρ H w) {A : Array TypeId} {t ty : TypeId} {d d' x x' v' : Value} (hA : A[0]? = some t) (hd : VR ρ d d') (hx : VR ρ x x') (hc : copyA H d' x' (elemA E.tt t) = .ok v' H') :
    ∃ v w', (Builtin.copy_ A ty #[d, x]).run E.P w = .ok v w' ∧ VR ρ v v' ∧ HR E.ng ρ H' w' ∧ Ext ρ H w ρ H' w' := by
  cases he : elemA E.tt t with
  | none => rw [he] at hc; cases hc
  | some e =>
    rw [he] at hc
    obtain ⟨hu, hsz⟩ := elemA_inv hE he
    obtain ⟨e, size⟩ := e
    simp only at hu hsz
    simp only [copyA] at hc
    cases d' with
    | slice a len cap =>
      simp only at hc
      cases hl : lenA x' with
      | none => rw [hl] at hc; cases hc
      | some m =>
        rw [hl] at hc
        simp only at hc
        cases hsrc : srcCells H size (Nat.min m len) x' with
        | none => rw [hsrc] at hc; cases hc
        | some l' =>
          rw [hsrc] at hc
          obtain ⟨l, h1, h2⟩ := src_sound_le h hx hl (Nat.min_le_left m len) hsrc
          have hlen := lenA_sound hx hl E.P
          obtain ⟨base, c0, rfl⟩ : ∃ base c0, d = .slice base len c0 := by cases hd <;> exact ⟨_, _, rfl⟩
          have hrun : ∀ w', (∀ a, base = some a → (storeCells a l).run E.P w = .ok () w') → (base = none → w' = w) → (Builtin.copy_ A ty #[.slice base len c0, x]).run E.P w = .ok (goInt (Nat.min m len)) w' := by
            intro w' g1 g2
            cases base with
            | none => have := g2 rfl; subst this; simp [Builtin.copy_, hA, run_underlying hu, Result.andThen, hlen, run_sizeOf_eq hE hsz, h2 w' rfl]
            | some a => simp [Builtin.copy_, hA, run_underlying hu, Result.andThen, hlen, run_sizeOf_eq hE hsz, h2 w rfl, g1 a rfl]
          cases hl' : l' with
          | nil =>
            rw [hl'] at hc h1
            cases hc
            have := h1.nil_inv
            subst this
            exact ⟨_, w, hrun w (fun a _ => rfl) (fun _ => rfl), .int _ _, h, Ext.refl _ _ _⟩
          | cons y ys =>
            rw [hl'] at hc
            simp only [copyTo] at hc
            cases a with
            | none => cases hc
            | some a =>
              obtain ⟨b, o, s⟩ := a
              simp only at hc
              cases ho : allOne (y :: ys) with
              | false => rw [ho] at hc; cases hc
              | true =>
                rw [ho] at hc
                simp only at hc
                cases hw : writeCells H b o (y :: ys) with
                | none => rw [hw] at hc; cases hc
                | some H1 =>
                  rw [hw] at hc
                  cases hc
                  rw [hl'] at h1
                  obtain ⟨p, hp, ⟨c, hse, -⟩ | ⟨a, c, hse, h0, -⟩⟩ := slice_inv hd
                  · cases hse
                    obtain ⟨w', g1, g2, g3⟩ := write_cells h hp hw h1 (allOne_rel h1 ho)
                    exact ⟨_, w', hrun w' (fun a e => by cases e; exact g1) (fun e => by cases e), .int _ _, g2, g3⟩
                  · exfalso
                    subst h0
                    rw [show Nat.min m 0 = 0 from Nat.min_zero m] at hsrc
                    have := src_zero hsrc
                    rw [this] at hl'; cases hl'
    | _ => simp only at hc; cases hc

theorem clear_sound (hE : EnvOk E) (h : HR E.ng ρ H w) {A : Array TypeId} {t ty : TypeId} {x x' v' : Value} (hA : A[0]? = some t) (hx : VR ρ x x') (hc : clearA E.tt H x' (elemA E.tt t) = .ok v' H') :
    ∃ v w', (Builtin.clear_ A ty #[x]).run E.P w = .ok v w' ∧ VR ρ v v' ∧ HR E.ng ρ H' w' ∧ Ext ρ H w ρ H' w' := by
  cases he : elemA E.tt t with
  | none => rw [he] at hc; cases hc
  | some e =>
    rw [he] at hc
    obtain ⟨hu, hsz⟩ := elemA_inv hE he
    obtain ⟨e, size⟩ := e
    simp only at hu hsz
    simp only [clearA] at hc
    cases x' with
    | slice a len cap =>
      cases a with
      | none =>
        cases hc
        cases hx
        exact ⟨.tuple #[], w, by simp [Builtin.clear_, hA, run_underlying hu, Result.andThen], .undef, h, Ext.refl _ _ _⟩
      | some a =>
        obtain ⟨b, o, s⟩ := a
        have hc : clearTo H b o (zeros E.tt e len) = .ok v' H' := hc
        cases hz : zeros E.tt e len with
        | none => rw [hz] at hc; cases hc
        | some z =>
          rw [hz] at hc
          obtain ⟨i, z0, hi, hzi, hzs, hpos, rfl, hlr⟩ := zeros_inv hE hz
          obtain ⟨p, hp, hcase⟩ := slice_inv hx
          cases len with
          | zero =>
            have hc : clearTo H b o (some []) = .ok v' H' := hc
            cases hc
            rcases hcase with ⟨c, rfl, -⟩ | ⟨a, c, rfl, -⟩
            · exact ⟨.tuple #[], w, by simp [Builtin.clear_, hA, run_underlying hu, Result.andThen], .undef, h, Ext.refl _ _ _⟩
            · exact ⟨.tuple #[], w, by simp [Builtin.clear_, hA, run_underlying hu, Result.andThen], .undef, h, Ext.refl _ _ _⟩
          | succ len =>
            rcases hcase with ⟨c, rfl, -⟩ | ⟨a, c, -, h0, -⟩
            · have hrun : ∀ w', (storeCells ⟨p.c, p.s + o, none⟩ (repl (len + 1) z0.cells.toList)).run E.P w = .ok () w' → (Builtin.clear_ A ty #[.slice (some ⟨p.c, p.s + o, none⟩) (len + 1) c]).run E.P w = .ok (.tuple #[]) w' := by
                intro w' g
                have hzc : Builtin.zeroCells z0.cells (len + 1) = ⟨repl (len + 1) z0.cells.toList⟩ := zeros_eq (len + 1) z0.cells (by rw [hzs]; exact hpos)
                simp [Builtin.clear_, hA, run_underlying hu, Result.andThen, runZero hi hzi, hzc, g]
              cases hl' : repl (len + 1) z0.cells.toList with
              | nil =>
                have := repl_length (len + 1) z0.cells.toList
                rw [hl'] at this
                have e1 : (len + 1) * z0.cells.toList.length = 0 := this.symm
                rcases Nat.mul_eq_zero.1 e1 with h | h
                · omega
                · rw [Array.length_toList] at h; omega
              | cons y ys =>
                rw [hl'] at hc
                have hc : (match allOne (y :: ys) with | true => ounit (writeCells H b o (y :: ys)) | false => .bad) = Out.ok v' H' := hc
                cases ho : allOne (y :: ys) with
                | false => rw [ho] at hc; cases hc
                | true =>
                  rw [ho] at hc
                  simp only at hc
                  cases hw : writeCells H b o (y :: ys) with
                  | none => rw [hw] at hc; cases hc
                  | some H1 =>
                    rw [hw] at hc
                    cases hc
                    have hlr := hlr ρ
                    rw [hl'] at hlr hrun
                    obtain ⟨w', g1, g2, g3⟩ := write_cells h hp hw hlr (allOne_rel hlr ho)
                    exact ⟨.tuple #[], w', hrun w' g1, .undef, g2, g3⟩
            · cases h0
    | _ => cases hc

/-! conversions -/
theorem bytesA_sound {l l' : List Value} {bs : List UInt8} (hl : LR ρ l l') (hb : bytesA l' = some bs) : ∃ ns : List Int, l = ns.map (Value.int .u8) ∧ bs = ns.map fun n => UInt8.ofNat n.toNat := by
  induction l' generalizing l bs with
  | nil => rw [hl.nil_inv]; cases hb; exact ⟨[], rfl, rfl⟩
  | cons v t ih =>
    obtain ⟨x, y, rfl, hx, hy⟩ := hl.cons_inv
    simp only [bytesA] at hb
    cases hv : byteA v with
    | none => rw [hv] at hb; cases hb
    | some b =>
      rw [hv] at hb
      simp only at hb
      cases ht : bytesA t with
      | none => rw [ht] at hb; cases hb
      | some r =>
        rw [ht] at hb
        cases hb
        obtain ⟨ns, h1, h2⟩ := ih hy ht
        unfold byteA at hv
        split at hv
        · cases hv
          rename_i n
          refine ⟨(n : Int) :: ns, ?_, ?_⟩
          · rw [h1, hx.int_inv]; rfl
          · rw [h2]; rfl
        · cases hv
theorem foldl_push : ∀ (ns : List Int) (acc : ByteArray), (ns.foldl (fun r n => r.push (UInt8.ofNat n.toNat)) acc).data.toList = acc.data.toList ++ ns.map fun n => UInt8.ofNat n.toNat
  | [], acc => by simp
  | n :: ns, acc => by
    rw [List.foldl_cons, foldl_push ns]
    simp [ByteArray.push]
theorem loadBytes_run {P : Program} (w : World) (c : Nat) : ∀ (ns : List Int) (o : Nat) (acc : ByteArray), (∀ (j : Nat) v, (ns.map (Value.int .u8))[j]? = some v → w.cell? ⟨c, o + j, none⟩ = some v) →
    ∃ r, (Extern.Bytes.loadBytes ⟨c, o, none⟩ ns.length acc).run P w = .ok r w ∧ r.data.toList = acc.data.toList ++ ns.map fun n => UInt8.ofNat n.toNat
  | [], o, acc, _ => ⟨acc, rfl, by simp⟩
  | n :: ns, o, acc, h => by
    have h0 := h 0 (.int .u8 n) rfl
    obtain ⟨r, h1, h2⟩ := loadBytes_run (P := P) w c ns (o + 1) (acc.push n.toNat.toUInt8) (fun j v hv => by
      have := h (j + 1) v (by simpa using hv)
      rwa [show o + (j + 1) = o + 1 + j by omega] at this)
    refine ⟨r, ?_, ?_⟩
    · simp only [List.length_cons, Extern.Bytes.loadBytes, Sem.run_bind, run_load]
      have h0 : w.cell? ⟨c, o, none⟩ = some (.int .u8 n) := h0
      simp only [h0, Result.andThen, addr_add]
      exact h1
    · rw [h2]; simp [ByteArray.push]

theorem isByteSl_inv (hE : EnvOk E) {t : TypeId} (h : isByteSl E.tt t = true) : ∃ e, E.P.underlying t = some (.slice e) ∧ E.P.underlying e = some (.int .u8) := by
  unfold isByteSl at h
  split at h
  · rename_i e he
    obtain ⟨hu, _⟩ := elemA_inv hE he
    split at h
    · rename_i hd; exact ⟨e, hu, und_eq hE hd⟩
    · cases h
  · cases h
theorem isStr_inv (hE : EnvOk E) {t : TypeId} (h : isStr E.tt t = true) : E.P.underlying t = some .string := by
  unfold isStr at h
  split at h
  · rename_i hd; exact und_eq hE hd
  · cases h

theorem ofBytes_row (l : List UInt8) (n : Nat) : ∃ rest, bytesRow ⟨⟨l⟩⟩ n = ⟨ofBytes l ++ rest⟩ := by
  refine ⟨List.replicate (n - l.length) (.int .u8 0), ?_⟩
  apply Array.ext'
  rw [ofBytes_eq]
  simp [bytesRow]
  rfl

theorem bytes_string (hE : EnvOk E) (h : HR E.ng ρ H w) {s d : TypeId} {x x' v' : Value} {n : Nat} (hx : VR ρ x x') (hl : lenA x' = some n) (hsl : ∃ a l c, x' = .slice a l c) (hs : isByteSl E.tt s = true) (hd : isStr E.tt d = true)
    (hv : strOf (srcCells H 1 n x') = some v') : (convert s d x).run E.P w = .ok v' w ∧ free v' = true := by
  obtain ⟨e, hu, he⟩ := isByteSl_inv hE hs
  have hd := isStr_inv hE hd
  cases hsrc : srcCells H 1 n x' with
  | none => rw [hsrc] at hv; cases hv
  | some l' =>
    rw [hsrc] at hv
    simp only [strOf] at hv
    cases hb : bytesA l' with
    | none => rw [hb] at hv; cases hv
    | some bs =>
      rw [hb] at hv
      cases hv
      refine ⟨?_, rfl⟩
      obtain ⟨l, h1, h2⟩ := src_sound h hx hl hsrc
      obtain ⟨ns, rfl, rfl⟩ := bytesA_sound h1 hb
      obtain ⟨a, len, c, rfl⟩ := hsl
      cases hl
      obtain ⟨a0, c0, rfl⟩ : ∃ a0 c0, x = .slice a0 n c0 := by cases hx <;> exact ⟨_, _, rfl⟩
      rw [run_convert_bytes_string w s d e a0 n c0 hu he hd]
      cases a0 with
      | none =>
        have hf : (Builtin.firstCells 1 n (.slice none n c0)).run E.P w = .ok ⟨[]⟩ w := rfl
        rw [h2 w rfl] at hf
        have : ns.map (Value.int .u8) = [] := by injection hf with a; injection a
        have hns : ns = [] := by simpa using this
        subst hns
        rfl
      | some a0 =>
        have hf := h2 w rfl
        simp only [Builtin.firstCells, Nat.mul_one] at hf
        rw [run_bytesToString w a0 n c0 ns hf]
        congr 2
        apply ByteArray.ext
        apply Array.ext'
        rw [foldl_push]
        simp

theorem bytes_row_string (hE : EnvOk E) (h : HR E.ng ρ H w) {s d : TypeId} {l : List UInt8} {v' : Value} (hs : isStr E.tt s = true) (hd : isByteSl E.tt d = true) (hf : fresh H (ofBytes l) l.length 1 = .ok v' H') :
    ∃ ρ' v w', (convert s d (.string ⟨⟨l⟩⟩)).run E.P w = .ok v w' ∧ VR ρ' v v' ∧ HR E.ng ρ' H' w' ∧ Ext ρ H w ρ' H' w' := by
  obtain ⟨e, hu, he⟩ := isByteSl_inv hE hd
  have hss := isStr_inv hE hs
  have hrun := run_bytes_of_string w s d e ⟨⟨l⟩⟩ hss hu he
  simp only [fresh] at hf
  cases hf
  obtain ⟨rest, hrow⟩ := ofBytes_row l (grownCap w l.length 0 e)
  have hsz : (⟨⟨l⟩⟩ : ByteArray).size = l.length := rfl
  rw [hsz, hrow] at hrun
  have hp : ObjAt (ρ.put H.next ⟨w.heap.size, 0, (ofBytes l ++ rest).length, 1⟩) (w.drew.alloc (.cells ⟨ofBytes l ++ rest⟩ e ((⟨ofBytes l ++ rest⟩ : Array Value).size, (⟨ofBytes l ++ rest⟩ : Array Value).size + 1))) H.next (.cells (ofBytes l) 1) := by
    refine ⟨_, Rho.put_same _ _ _, rfl, _, _, _, alloc_new w.drew _, by simp, by simp, fun h0 => absurd h0 Nat.one_ne_zero, fun o ho => by simp at ho ⊢; omega, fun i v' hv => ?_⟩
    have hi := (List.getElem?_eq_some_iff.1 hv).1
    refine ⟨v', ?_, LR.of_free _ _ (freeL_ofBytes l) i _ _ hv hv⟩
    simp only [Nat.zero_add, List.getElem?_toArray, List.getElem?_append_left hi]
    exact hv
  obtain ⟨h1, h2⟩ := ext_alloc (w' := w.drew.alloc (.cells ⟨ofBytes l ++ rest⟩ e ((⟨ofBytes l ++ rest⟩ : Array Value).size, (⟨ofBytes l ++ rest⟩ : Array Value).size + 1))) h _ _ _ rfl rfl rfl rfl rfl hp
  refine ⟨_, _, _, hrun, ?_, h1, h2⟩
  have hge := grownCap_ge w l.length 0 e
  refine VR.slice (o := 0) (p := ⟨w.heap.size, 0, (ofBytes l ++ rest).length, 1⟩) (Rho.put_same _ _ _) hge (fun h0 => absurd h0 Nat.one_ne_zero) (fun _ => ?_)
  have hlen : (ofBytes l ++ rest).length = (bytesRow ⟨⟨l⟩⟩ (grownCap w l.length 0 e)).size := by rw [hrow]; rfl
  simp only [hlen]
  simp [bytesRow]
  show grownCap w l.length 0 e ≤ l.length + (grownCap w l.length 0 e - l.length)
  omega

theorem conv_sound (hE : EnvOk E) (h : HR E.ng ρ H w) {ev : Operand → Value} {t : Tr Value} {o : Oper} {s d : TypeId} {x : Operand} {v' : Value} (ho : o.op = .convert s d x) (hx : VR ρ (ev x) (evA t x)) (hc : convA E H t o s d (evA t x) = .ok v' H') :
    OpRes E ρ H w (execOp ev o) v' H' := by
  have hexec : execOp ev o = (do pure (Next.value (← convert s d (ev x)))) := by
    obtain ⟨dst, op', type, pos, after, guard⟩ := o
    simp only at ho; subst ho; rfl
  have pureCase : oval H (pureOp E.P t o (free (evA t x))) = .ok v' H' → OpRes E ρ H w (execOp ev o) v' H' := by
    intro hv
    obtain ⟨hv2, rfl⟩ := oval_inv hv
    unfold pureOp at hv2
    cases hf : free (evA t x) with
    | false => rw [hf] at hv2; cases hv2
    | true =>
      rw [hf] at hv2
      simp only at hv2
      refine pureOp_sound h (by rw [ho]; simp) (fun z hz => ?_) hv2
      rw [ho] at hz
      simp [Op.operands] at hz
      subst hz
      exact free_operands hx hf
  have slow : convSlow E H t o s d (evA t x) = .ok v' H' → OpRes E ρ H w (execOp ev o) v' H' := by
    intro hv
    generalize hxe : evA t x = x' at hv pureCase hx
    cases x' with
    | slice a n c =>
      have hv : (match isByteSl E.tt s && isStr E.tt d with | true => oval H (strOf (srcCells H 1 n (.slice a n c))) | false => .bad) = Out.ok v' H' := hv
      cases hb : (isByteSl E.tt s && isStr E.tt d) with
      | false => rw [hb] at hv; cases hv
      | true =>
        rw [hb] at hv
        simp only [Bool.and_eq_true] at hb
        obtain ⟨hv2, rfl⟩ := oval_inv hv
        obtain ⟨h1, h2⟩ := bytes_string hE h hx rfl ⟨a, n, c, rfl⟩ hb.1 hb.2 hv2
        exact OpRes.ofSem h hexec h1 (VR.of_free ρ _ h2)
    | string bs =>
      obtain ⟨⟨l⟩⟩ := bs
      have hv : (match isStr E.tt s && isByteSl E.tt d with | true => fresh H (ofBytes l) l.length 1 | false => oval H (pureOp E.P t o (free (.string ⟨⟨l⟩⟩)))) = Out.ok v' H' := hv
      cases hb : (isStr E.tt s && isByteSl E.tt d) with
      | false => rw [hb] at hv; exact pureCase hv
      | true =>
        rw [hb] at hv
        simp only [Bool.and_eq_true] at hb
        obtain ⟨ρ', v, w', h1, h2, h3, h4⟩ := bytes_row_string hE h hb.1 hb.2 hv
        rw [hx.string_inv] at hexec
        exact ⟨ρ', v, w', .inl (by rw [hexec]; exact run_v h1), h2, h3, h4⟩
    | _ => exact pureCase hv
  unfold convA at hc
  split at hc
  · rename_i k n hxe
    cases hi : intTo E.tt s d n with
    | none => rw [hi] at hc; exact slow hc
    | some u =>
      rw [hi] at hc
      cases hc
      unfold intTo at hi
      split at hi
      · rename_i k' hd
        cases hsd0 : E.tt.und s with
        | none => rw [hsd0] at hi; cases hi
        | some sd =>
        rw [hsd0] at hi
        cases hi
        rw [hxe] at hx
        have hxv := hx.int_inv
        have hsd := und_eq hE hsd0
        refine OpRes.ofSem h hexec (v := fit k' n) ?_ (VR.of_free ρ _ (free_fit _ _))
        rw [hxv, fit_eq]
        simp [convert, run_underlying hsd, run_underlying (und_eq hE hd), Result.andThen, Conv.intToInt]
      · cases hi
  · exact slow hc
end Ex
