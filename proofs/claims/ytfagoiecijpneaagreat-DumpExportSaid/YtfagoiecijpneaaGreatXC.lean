/- A verified executor for closed Go calls, part of it: its lemmas carry no condition. -/
import Derived.Orders
import Derived.Test.YtfagoiecijpneaaGreatXB
set_option linter.unusedVariables false
set_option linter.unusedSimpArgs false
section
namespace Ex
open Go
variable {E : Env} {ρ ρ' : Rho} {H H' : Heap} {w w' : World} {ex : Ex}

/-! equal values -/
mutual
theorem veq_eq : ∀ {a b : Value}, veq a b = true → a = b
  | .bool a, .bool b, h => by simp [veq] at h; rw [h]
  | .int k a, .int k' b, h => by simp [veq] at h; rw [h.1, h.2]
  | .string ⟨⟨a⟩⟩, .string ⟨⟨b⟩⟩, h => by simp [veq] at h; rw [h]
  | .pointer none, .pointer none, _ => rfl
  | .pointer (some ⟨a, b, none⟩), .pointer (some ⟨c, d, none⟩), h => by simp [veq] at h; rw [h.1, h.2]
  | .map none, .map none, _ => rfl
  | .map (some a), .map (some b), h => by simp [veq] at h; rw [h]
  | .slice none a b, .slice none c d, h => by simp [veq] at h; rw [h.1, h.2]
  | .slice (some ⟨a, b, none⟩) x y, .slice (some ⟨c, d, none⟩) x' y', h => by simp [veq] at h; obtain ⟨⟨⟨h1, h2⟩, h3⟩, h4⟩ := h; rw [h1, h2, h3, h4]
  | .func f ⟨a⟩ ⟨b⟩, .func f' ⟨a'⟩ ⟨b'⟩, h => by
    simp only [veq, Bool.and_eq_true, decide_eq_true_eq] at h
    rw [h.1.1, veqL_eq h.1.2, veqL_eq h.2]
  | .nilFunc, .nilFunc, _ => rfl
  | .iface t v, .iface t' v', h => by
    simp only [veq, Bool.and_eq_true] at h
    rw [Nat.eq_of_beq_eq_true h.1, veq_eq h.2]
  | .nilIface, .nilIface, _ => rfl
  | .agg ⟨a⟩, .agg ⟨b⟩, h => by simp only [veq] at h; rw [veqL_eq h]
  | .tuple ⟨a⟩, .tuple ⟨b⟩, h => by simp only [veq] at h; rw [veqL_eq h]
theorem veqL_eq : ∀ {a b : List Value}, veqL a b = true → a = b
  | [], [], _ => rfl
  | a :: x, b :: y, h => by
    simp only [veqL, Bool.and_eq_true] at h
    rw [veq_eq h.1, veqL_eq h.2]
end

/-! places below a bound -/
def cut (ρ : Rho) (n : Nat) : Rho := fun b => if b < n then ρ b else none
theorem cut_lt {n b : Nat} (h : b < n) : cut ρ n b = ρ b := by simp [cut, h]
theorem cut_le (ρ : Rho) (n : Nat) : (cut ρ n).le ρ := fun b x h => by
  unfold cut at h
  split at h
  · exact h
  · cases h
theorem cut_mono {n m : Nat} (h : n ≤ m) : (cut ρ n).le (cut ρ m) := fun b x hx => by
  unfold cut at hx ⊢
  split at hx
  · rw [if_pos (by omega)]; exact hx
  · cases hx

theorem FnR.cut {f f' : Fn} {n : Nat} (h : FnR ρ f f') (hb : ∀ l, f' = .yield l → Nat.blt l n = true) : FnR (Ex.cut ρ n) f f' := by
  cases h with
  | func f => exact .func f
  | yield h => exact .yield (by rw [cut_lt (by simpa [Nat.blt_eq] using hb _ rfl)]; exact h)

mutual
theorem VR.cut {n : Nat} : ∀ {v v' : Value}, VR ρ v v' → Ex.below n v' = true → VR (Ex.cut ρ n) v v'
  | _, _, .bool b, _ => .bool b
  | _, _, .int k m, _ => .int k m
  | _, _, .float k m, _ => .float k m
  | _, _, .complex k a b, _ => .complex k a b
  | _, _, .string s, _ => .string s
  | _, _, .pnil, _ => .pnil
  | _, _, .mnil, _ => .mnil
  | _, _, .cnil, _ => .cnil
  | _, _, .mp h, hb => .mp (by rw [cut_lt (by simpa [Ex.below, Nat.blt_eq] using hb)]; exact h)
  | _, _, .snil, _ => .snil
  | _, _, .nilFunc, _ => .nilFunc
  | _, _, .nilIface, _ => .nilIface
  | _, _, .ptr h, hb => .ptr (by rw [cut_lt (by simpa [Ex.below, Nat.blt_eq] using hb)]; exact h)
  | _, _, .slice h hc h0 hk, hb => .slice (by rw [cut_lt (by simpa [Ex.below, Nat.blt_eq] using hb)]; exact h) hc h0 hk
  | _, _, .sempty a h hk, hb => .sempty a (by rw [cut_lt (by simpa [Ex.below, Nat.blt_eq] using hb)]; exact h) hk
  | _, _, .func x x' y y' hf hx h hy h', hb => by
    simp only [Ex.below, Bool.and_eq_true] at hb
    exact .func x x' y y' (hf.cut (fun l e => by have := hb.1.1; rw [e] at this; exact this)) hx (VR.cutL h hx hb.1.2) hy (VR.cutL h' hy hb.2)
  | _, _, .iface t h, hb => .iface t (VR.cut h (by simpa [Ex.below] using hb))
  | _, _, .agg x x' hx h, hb => .agg x x' hx (VR.cutL h hx (by simpa [Ex.below] using hb))
  | _, _, .tuple x x' hx h, hb => .tuple x x' hx (VR.cutL h hx (by simpa [Ex.below] using hb))
theorem VR.cutL {n : Nat} : ∀ {x x' : List Value}, (∀ (i : Nat) u v, x[i]? = some u → x'[i]? = some v → VR ρ u v) → x.length = x'.length → Ex.belowL n x' = true → ∀ (i : Nat) u v, x[i]? = some u → x'[i]? = some v → VR (Ex.cut ρ n) u v
  | [], _, _, _, _, i, u, v, a, _ => by simp at a
  | _ :: _, [], _, hl, _, _, _, _, _, _ => by simp at hl
  | x :: l, x' :: l', h, hl, hb, i, u, v, a, b => by
    simp only [Ex.belowL, Bool.and_eq_true] at hb
    cases i with
    | zero =>
      simp at a b; subst a; subst b
      exact VR.cut (h 0 x x' rfl rfl) hb.1
    | succ i => exact VR.cutL (fun i u w a b => h (i + 1) u w (by simpa using a) (by simpa using b)) (by simpa using hl) hb.2 i u v (by simpa using a) (by simpa using b)
end

theorem evs_mem {t : Tr Value} {n : Nat} : ∀ {l : List Operand}, belowL n (evs t l) = true → ∀ x ∈ l, below n (evA t x) = true
  | [], _, _, hx => by cases hx
  | y :: l, h, x, hx => by
    simp only [evs, belowL, Bool.and_eq_true] at h
    rcases List.mem_cons.1 hx with rfl | hx
    · exact h.1
    · exact evs_mem h.2 x hx

/-! an operation's outcome hangs on its operands alone -/
theorem mem_tmpOf : ∀ {l : List Operand} {d : Tmp}, Operand.tmp d ∈ l → d ∈ tmpOf l
  | [], _, h => by cases h
  | x :: l, d, h => by
    rcases List.mem_cons.1 h with e | h
    · subst e; simp [tmpOf]
    · have := mem_tmpOf h
      cases x <;> simp [tmpOf, this]
theorem evs_congr {t t' : Tr Value} : ∀ {l : List Operand}, (∀ x ∈ l, evA t x = evA t' x) → evs t l = evs t' l
  | [], _ => rfl
  | x :: l, h => by simp only [evs]; rw [h x (by simp), evs_congr (fun y hy => h y (by simp [hy]))]

/-! pure operations and readers: no memory is changed; the memory matters for readers alone -/
def bump (H : Heap) (n : Nat) : Heap := match H with | .mk o _ => .mk o n
theorem bump_get (H : Heap) (n b : Nat) : (bump H n).get b = H.get b := by cases H; rfl
theorem bump_next (H : Heap) (n : Nat) : (bump H n).next = n := by cases H; rfl

theorem oval_pure {o : Option Value} {v : Value} {H' : Heap} (h : oval H o = .ok v H') : H' = H ∧ ∀ H2, oval H2 o = .ok v H2 := by
  obtain ⟨h1, rfl⟩ := oval_inv h
  exact ⟨rfl, fun H2 => by rw [h1]; rfl⟩
theorem convInt_pure {t : Tr Value} {o : Oper} {s d : TypeId} {k : IntKind} {x v : Value} (hd : E.tt.und d = some (.int k)) (h : convA E H t o s d x = .ok v H') : H' = H ∧ ∀ H2, convA E H2 t o s d x = .ok v H2 := by
  have hbs : isByteSl E.tt d = false := by
    unfold isByteSl elemA
    rw [hd]
  have hst : isStr E.tt d = false := by unfold isStr; rw [hd]
  have slow : ∀ H0 H0' v0, convSlow E H0 t o s d x = .ok v0 H0' → H0' = H0 ∧ ∀ H2, convSlow E H2 t o s d x = .ok v0 H2 := by
    intro H0 H0' v0 hs
    cases x with
    | slice a n c =>
      have e : ∀ H2, convSlow E H2 t o s d (.slice a n c) = .bad := fun H2 => by simp only [convSlow, hst, Bool.and_false]
      rw [e] at hs; cases hs
    | string bs =>
      obtain ⟨⟨l⟩⟩ := bs
      have e : ∀ H2, convSlow E H2 t o s d (.string ⟨⟨l⟩⟩) = oval H2 (pureOp E.P t o (free (.string ⟨⟨l⟩⟩))) := fun H2 => by simp only [convSlow, hbs, Bool.and_false]
      rw [e] at hs
      obtain ⟨h1, h2⟩ := oval_pure hs
      exact ⟨h1, fun H2 => by rw [e]; exact h2 H2⟩
    | func f a b =>
      simp only [convSlow] at hs ⊢
      exact oval_pure hs
    | _ => exact oval_pure hs
  unfold convA at h ⊢
  split at h
  · rename_i k' n
    cases hi : intTo E.tt s d n with
    | some u => rw [hi] at h; cases h; exact ⟨rfl, fun H2 => by simp only [hi]⟩
    | none =>
      rw [hi] at h
      obtain ⟨h1, h2⟩ := slow _ _ _ h
      exact ⟨h1, fun H2 => by simp only [hi]; exact h2 H2⟩
  · rename_i hne
    obtain ⟨h1, h2⟩ := slow _ _ _ h
    exact ⟨h1, h2⟩

theorem kind0 {t : Tr Value} {o : Oper} {v : Value} (hk : kindOf E.tt o.op = 0) (h : opA E ex H t o = .ok v H') : H' = H ∧ ∀ H2, opA E ex H2 t o = .ok v H2 := by
  obtain ⟨dst, op, type, pos, after, guard⟩ := o
  cases op <;> simp only [kindOf] at hk <;> try (cases hk; done)
  case move x => have h : Out.ok (evA t x) H = .ok v H' := h; cases h; exact ⟨rfl, fun _ => rfl⟩
  case assign x => have h : Out.ok (evA t x) H = .ok v H' := h; cases h; exact ⟨rfl, fun _ => rfl⟩
  case pick c a b => exact oval_pure (show oval H (asBoolA (evA t c) (evA t a) (evA t b)) = .ok v H' from h)
  case build ty ps => exact oval_pure (show oval H (buildA E.tt ty (evParts t ps.toList)) = .ok v H' from h)
  case nilCheck x => exact oval_pure (show oval H (nilCk (evA t x)) = .ok v H' from h)
  case binOp op ty x y ty' => exact oval_pure (show oval H (binA E.P t ⟨dst, .binOp op ty x y ty', type, pos, after, guard⟩ op (E.tt.und ty) (evA t x) (evA t y)) = .ok v H' from h)
  case unOp op ty x => exact oval_pure (show oval H (pureOp E.P t ⟨dst, .unOp op ty x, type, pos, after, guard⟩ (free (evA t x))) = .ok v H' from h)
  case convert s d x =>
    split at hk
    · rename_i k hd
      exact convInt_pure hd (show convA E H t ⟨dst, .convert s d x, type, pos, after, guard⟩ s d (evA t x) = .ok v H' from h)
    · cases hk
  case makeInterface ty x => exact oval_pure (show oval H (ifaceA E.tt ty (evA t x)) = .ok v H' from h)
  case makeFunc fn a b => exact oval_pure (show oval H (fnA fn (evs t a.toList) (evs t b.toList)) = .ok v H' from h)
  case fieldAddr ty x i => exact oval_pure (show oval H (fieldAddrV (evA t x) (fieldOf E.tt ty i)) = .ok v H' from h)
  case field ty x i => exact oval_pure (show oval H (fieldV E.tt (evA t x) (fieldOf E.tt ty i)) = .ok v H' from h)
  case indexAddr ty x i => exact oval_pure (show oval H (idxAddr1 E.tt ty (evA t x) (natOf (evA t i))) = .ok v H' from h)
  case index ty x i => exact oval_pure (show oval H (indexV E.tt ty (evA t x) (evA t i)) = .ok v H' from h)
  case extract x i => exact oval_pure (show oval H (extractV (evA t x) i) = .ok v H' from h)
  case call c =>
    obtain ⟨callee, args, argTypes⟩ := c
    cases callee with
    | value g => cases hk
    | invoke r m => cases hk
    | builtin b =>
      cases b <;> simp only at hk <;> try (cases hk; done)
      case len =>
        have h : (match evs t args.toList with | [x] => (match argTypes.toList with | ty :: _ => oval H (lenM H (E.tt.und ty) x) | _ => .bad) | _ => .bad) = Out.ok v H' := h
        split at h
        · rename_i x hx
          split at h
          · rename_i ty tl hts
            have hlm : ∀ H2, lenM H2 (E.tt.und ty) x = lenV (E.tt.und ty) x := fun H2 => by
              simp only [lenKind, hts] at hk
              unfold lenM
              split
              · rename_i kt et hd; rw [hd] at hk; cases hk
              · rfl
            rw [hlm] at h
            obtain ⟨h1, h2⟩ := oval_pure h
            refine ⟨h1, fun H2 => ?_⟩
            show (match evs t args.toList with | [x] => (match argTypes.toList with | ty :: _ => oval H2 (lenM H2 (E.tt.und ty) x) | _ => .bad) | _ => .bad) = Out.ok v H2
            rw [hx, hts]
            show oval H2 (lenM H2 (E.tt.und ty) x) = _
            rw [hlm]; exact h2 H2
          · cases h
        · cases h
      case max => exact oval_pure (show oval H (pureOp E.P t ⟨dst, .call ⟨.builtin .max, args, argTypes⟩, type, pos, after, guard⟩ (freeL (evs t args.toList))) = .ok v H' from h)
      case min => exact oval_pure (show oval H (pureOp E.P t ⟨dst, .call ⟨.builtin .min, args, argTypes⟩, type, pos, after, guard⟩ (freeL (evs t args.toList))) = .ok v H' from h)

/-- a reader sees cells alone -/
theorem readCells_bump (n b o k : Nat) : readCells (bump H n) b o k = readCells H b o k := by unfold readCells; rw [bump_get]
theorem loadV_bump (n : Nat) (T : Ts) (ty : TypeId) (v : Value) : loadV T (bump H n) ty v = loadV T H ty v := by
  unfold loadV loadAddr load1 load2 readCell
  simp only [readCells_bump, bump_get]
theorem sliceA_bump (n : Nat) (T : Ts) (ty : TypeId) (v : Value) (a b c : Option Value) : sliceA T (bump H n) ty v a b c = sliceA T H ty v a b c := by
  unfold sliceA slSl slArr
  simp only [bump_get]
theorem kind1 {t : Tr Value} {o : Oper} {v : Value} (hk : kindOf E.tt o.op = 1) (h : opA E ex H t o = .ok v H') : H' = H ∧ ∀ n, opA E ex (bump H n) t o = .ok v (bump H n) := by
  obtain ⟨dst, op, type, pos, after, guard⟩ := o
  cases op <;> simp only [kindOf] at hk <;> try (cases hk; done)
  case load ty a =>
    obtain ⟨h1, h2⟩ := oval_pure (show oval H (loadV E.tt H ty (evA t a)) = .ok v H' from h)
    refine ⟨h1, fun n => ?_⟩
    show oval (bump H n) (loadV E.tt (bump H n) ty (evA t a)) = _
    rw [loadV_bump]; exact h2 _
  case slice ty x lo hi mx =>
    obtain ⟨h1, h2⟩ := oval_pure (show oval H (sliceA E.tt H ty (evA t x) (evO t lo) (evO t hi) (evO t mx)) = .ok v H' from h)
    refine ⟨h1, fun n => ?_⟩
    show oval (bump H n) (sliceA E.tt (bump H n) ty (evA t x) (evO t lo) (evO t hi) (evO t mx)) = _
    rw [sliceA_bump]; exact h2 _
  case lookup ty x k ok =>
    obtain ⟨h1, h2⟩ := oval_pure (show oval H (lookupA E.P E.tt H (evA t x) (evA t k) ok (mapD (E.tt.und ty))) = .ok v H' from h)
    refine ⟨h1, fun n => ?_⟩
    show oval (bump H n) (lookupA E.P E.tt (bump H n) (evA t x) (evA t k) ok (mapD (E.tt.und ty))) = _
    have e : lookupA E.P E.tt (bump H n) (evA t x) (evA t k) ok (mapD (E.tt.und ty)) = lookupA E.P E.tt H (evA t x) (evA t k) ok (mapD (E.tt.und ty)) := by
      unfold lookupA mapOf
      simp only [bump_get]
    rw [e]; exact h2 _
  case convert s d x => split at hk <;> cases hk
  case call c =>
    obtain ⟨callee, args, argTypes⟩ := c
    cases callee with
    | value g => cases hk
    | invoke r m => cases hk
    | builtin b =>
      cases b <;> simp only at hk <;> try (cases hk; done)
      case len =>
        have h : (match evs t args.toList with | [x] => (match argTypes.toList with | ty :: _ => oval H (lenM H (E.tt.und ty) x) | _ => .bad) | _ => .bad) = Out.ok v H' := h
        split at h
        · rename_i x hx
          split at h
          · rename_i ty tl hts
            obtain ⟨h1, h2⟩ := oval_pure h
            refine ⟨h1, fun n => ?_⟩
            show (match evs t args.toList with | [x] => (match argTypes.toList with | ty :: _ => oval (bump H n) (lenM (bump H n) (E.tt.und ty) x) | _ => .bad) | _ => .bad) = Out.ok v (bump H n)
            rw [hx, hts]
            show oval (bump H n) (lenM (bump H n) (E.tt.und ty) x) = _
            have e : lenM (bump H n) (E.tt.und ty) x = lenM H (E.tt.und ty) x := by
              unfold lenM mapLen
              simp only [bump_get]
            rw [e]; exact h2 _
          · cases h
        · cases h
/-- a maker makes one row, known to its end -/
theorem kind2 {t : Tr Value} {o : Oper} {v : Value} (hk : kindOf E.tt o.op = 2) (h : opA E ex H t o = .ok v H') :
    ∃ cs, ∃ f : Nat → Value, v = f H.next ∧ H' = newRowA H cs 0 ∧ (∀ H2, opA E ex H2 t o = .ok (f H2.next) (newRowA H2 cs 0)) ∧ ((∀ b, f b = ptrAt b 0) ∨ ∃ l c, ∀ b, f b = .slice (some ⟨b, 0, none⟩) l c) := by
  obtain ⟨dst, op, type, pos, after, guard⟩ := o
  cases op <;> simp only [kindOf] at hk <;> try (cases hk; done)
  case alloc ty =>
    have h : (match zeroA E.tt ty with | some z => Ex.newVar H (cellsV z) | none => .bad) = Out.ok v H' := h
    cases hz : zeroA E.tt ty with
    | none => rw [hz] at h; cases h
    | some z =>
      rw [hz] at h; cases h
      refine ⟨cellsV z, fun b => ptrAt b 0, rfl, rfl, fun H2 => ?_, .inl fun _ => rfl⟩
      show (match zeroA E.tt ty with | some z => Ex.newVar H2 (cellsV z) | none => .bad) = _
      rw [hz]; rfl
  case box ty x =>
    have h : Ex.newVar H (cellsV (evA t x)) = Out.ok v H' := h
    cases h
    exact ⟨cellsV (evA t x), fun b => ptrAt b 0, rfl, rfl, fun H2 => rfl, .inl fun _ => rfl⟩
  case buildSlice ty len ps =>
    have hb : ∀ H2, opA E ex H2 t ⟨dst, .buildSlice ty len ps, type, pos, after, guard⟩ = bslA E.tt H2 len (evParts t ps.toList) (elemA E.tt ty) := fun _ => rfl
    rw [hb] at h
    cases he : elemA E.tt ty with
    | none => rw [he] at h; cases h
    | some e =>
      obtain ⟨e, size⟩ := e
      rw [he] at h hb
      simp only [bslA] at h hb
      cases hle : Nat.ble (len * size) 65536 with
      | false => rw [hle] at h; cases h
      | true =>
        rw [hle] at h hb
        simp only at h hb
        cases hz : zeros E.tt e len with
        | none => rw [hz] at h; cases h
        | some z =>
          rw [hz] at h hb
          simp only [bslA2, rowA] at h hb
          cases hf : fillA (elemPlace size) (evParts t ps.toList) z with
          | none => rw [hf] at h; cases h
          | some cs =>
            rw [hf] at h hb
            cases h
            exact ⟨cs, fun b => .slice (some ⟨b, 0, none⟩) len len, rfl, rfl, hb, .inr ⟨len, len, fun _ => rfl⟩⟩
  case makeSlice ty l c =>
    have hb : ∀ H2, opA E ex H2 t ⟨dst, .makeSlice ty l c, type, pos, after, guard⟩ = mkSlA E.tt H2 ty (natOf (evA t l)) (natOf (evA t c)) := fun _ => rfl
    rw [hb] at h
    cases hnl : natOf (evA t l) with
    | none => rw [hnl] at h; cases h
    | some nl =>
    cases hnc : natOf (evA t c) with
    | none => rw [hnl, hnc] at h; cases h
    | some nc =>
    rw [hnl, hnc] at h hb
    simp only [mkSlA] at h hb
    cases he : elemA E.tt ty with
    | none => rw [he] at h; cases h
    | some e =>
      obtain ⟨e, size⟩ := e
      rw [he] at h hb
      simp only [mkSl2] at h hb
      cases hle : (Nat.ble nl nc && Nat.ble nc 65536) with
      | false => rw [hle] at h; cases h
      | true =>
        rw [hle] at h hb
        simp only at h hb
        cases hi : E.tt.info e with
        | none => rw [hi] at h; cases h
        | some i =>
          rw [hi] at h hb
          simp only at h hb
          cases hby : Nat.ble i.bytes 1024 with
          | false => rw [hby] at h; cases h
          | true =>
            rw [hby] at h hb
            simp only at h hb
            cases hz : zeros E.tt e nc with
            | none => rw [hz] at h; cases h
            | some z =>
              rw [hz] at h hb
              cases h
              exact ⟨z, fun b => .slice (some ⟨b, 0, none⟩) nl nc, rfl, rfl, hb, .inr ⟨nl, nc, fun _ => rfl⟩⟩
  case convert s d x => split at hk <;> cases hk
  case call c =>
    obtain ⟨callee, args, argTypes⟩ := c
    cases callee with
    | value g => cases hk
    | invoke r m => cases hk
    | builtin b =>
      cases b <;> simp only at hk <;> try (cases hk; done)
      case len =>
        unfold lenKind at hk
        split at hk
        · split at hk <;> cases hk
        · cases hk
end Ex
end
section
namespace Ex
open Go
variable {E : Env} {ρ ρ' : Rho} {H H' : Heap} {w w' : World} {ex : Ex}

/-! which operations are ahead of which -/
inductive Reach (l : List Oper) : Nat → Nat → Prop
  | direct {j : Nat} {o : Oper} {e : Edge} (hj : l[j]? = some o) (he : e ∈ o.after.toList) (hb : Region.binds .any e = true) : Reach l j e.on
  | trans {j i : Nat} {o : Oper} {e : Edge} (hj : l[j]? = some o) (he : e ∈ o.after.toList) (hb : Region.binds .any e = true) (h : Reach l e.on i) : Reach l j i

theorem edgeMask_reach {l : List Oper} {acc : List Nat} (hacc : ∀ (j m : Nat), acc[j]? = some m → ∀ i, m.testBit i = true → Reach l j i) {j : Nat} {o : Oper} (hj : l[j]? = some o) :
    ∀ (es : List Edge), (∀ e ∈ es, e ∈ o.after.toList) → ∀ i, (edgeMask acc es).testBit i = true → Reach l j i
  | [], _, i, h => by simp [edgeMask] at h
  | e :: es, hes, i, h => by
    simp only [edgeMask] at h
    have ih := edgeMask_reach hacc hj es (fun e he => hes e (by simp [he])) i
    cases hb : Region.binds .any e with
    | false => rw [hb] at h; exact ih h
    | true =>
      rw [hb] at h
      have h : (((2 ^ e.on ||| (match nth acc e.on with | some m => m | none => 0)) ||| edgeMask acc es : Nat)).testBit i = true := h
      rw [Nat.testBit_or, Nat.testBit_or] at h
      simp only [Bool.or_eq_true] at h
      rcases h with (h | h) | h
      · rw [Nat.testBit_two_pow] at h
        have : e.on = i := by simpa using h
        subst this
        exact .direct hj (hes e (by simp)) hb
      · rw [nth_eq] at h
        cases hm : acc[e.on]? with
        | none => rw [hm] at h; simp at h
        | some m => rw [hm] at h; exact .trans hj (hes e (by simp)) hb (hacc _ m hm i h)
      · exact ih h

theorem masks_reach {l : List Oper} : ∀ (rest : List Oper) (acc : List Nat), l.drop acc.length = rest → (∀ (j m : Nat), acc[j]? = some m → ∀ i, m.testBit i = true → Reach l j i) →
    ∀ (j m : Nat), (masks rest acc)[j]? = some m → ∀ i, m.testBit i = true → Reach l j i
  | [], acc, _, hacc => hacc
  | o :: rest, acc, hd, hacc => by
    have hj : l[acc.length]? = some o := by
      have := congrArg (·[0]?) hd
      simpa [List.getElem?_drop] using this
    have hd' : l.drop (acc ++ [edgeMask acc o.after.toList]).length = rest := by
      have := congrArg List.tail hd
      simpa [List.tail_drop] using this
    refine masks_reach rest _ hd' (fun j m hm i hi => ?_)
    rcases Nat.lt_or_ge j acc.length with hlt | hge
    · rw [List.getElem?_append_left hlt] at hm; exact hacc j m hm i hi
    · rw [List.getElem?_append_right hge] at hm
      have hj0 : j = acc.length := by
        have := (List.getElem?_eq_some_iff.1 hm).1
        simp at this; omega
      subst hj0
      simp at hm
      subst hm
      exact edgeMask_reach hacc hj _ (fun e he => he) i hi

theorem ahead_reach {l : List Oper} {i j : Nat} (h : ahead (masks l []) i j = true) : Reach l j i := by
  unfold ahead at h
  rw [nth_eq] at h
  cases hm : (masks l [])[j]? with
  | none => rw [hm] at h; cases h
  | some m => rw [hm] at h; exact masks_reach l [] (by simp) (fun j m hm => by simp at hm) j m hm i h

/-- what has been listed holds all that is ahead of it -/
def Closed (l : List Oper) (S : Nat → Prop) : Prop := ∀ j o, S j → l[j]? = some o → ∀ e ∈ o.after.toList, Region.binds .any e = true → S e.on
theorem Reach.mem {l : List Oper} {S : Nat → Prop} (hS : Closed l S) {j i : Nat} (h : Reach l j i) (hj : ∀ o, l[j]? = some o → ∀ e ∈ o.after.toList, Region.binds .any e = true → S e.on) : S i := by
  induction h with
  | direct hjo he hb => exact hj _ hjo _ he hb
  | trans hjo he hb _ ih => exact ih (fun o ho e he' hb' => hS _ o (hj _ hjo _ he hb) ho e he' hb')
theorem Closed.reach {l : List Oper} {S : Nat → Prop} (hS : Closed l S) {j i : Nat} (h : Reach l j i) (hj : S j) : S i := h.mem hS (fun o ho e he hb => hS j o hj ho e he hb)

/-! the run in the text's own order -/
structure Chain (E : Env) (ex : Ex) (all : Array Oper) (l : List Oper) (s : Nat → St) : Prop where
  skip : ∀ i o, l[i]? = some o → wantedA all (s i).t o.guard = false → (s i).v = Undef ∧ (s (i + 1)).t = putTmp (s i).t o.dst Undef ∧ (s (i + 1)).H = (s i).H
  op : ∀ i o, l[i]? = some o → wantedA all (s i).t o.guard = true → opA E ex (s i).H (s i).t o = .ok (s i).v (s (i + 1)).H ∧ (s (i + 1)).t = putTmp (s i).t o.dst (s i).v

def stOf (tr : List St) (i : Nat) : St := (tr[i]?).getD ⟨.nil, .mk .nil 0, Undef⟩

theorem trace_chain {all : Array Oper} : ∀ (l : List Oper) (t : Tr Value) (H : Heap) (tr : List St), traceOps E ex all l t H = .ok tr →
    tr.length = l.length + 1 ∧ (stOf tr 0).t = t ∧ (stOf tr 0).H = H ∧ Chain E ex all l (stOf tr)
  | [], t, H, tr, h => by
    have h : OutL.ok [⟨t, H, Undef⟩] = .ok tr := h
    cases h
    exact ⟨rfl, rfl, rfl, ⟨fun i o hi => by simp at hi, fun i o hi => by simp at hi⟩⟩
  | o :: l, t, H, tr, h => by
    have h : @Bool.rec (fun _ => OutL) (consL ⟨t, H, Undef⟩ (traceOps E ex all l (putTmp t o.dst Undef) H))
      (@Out.rec (fun _ => OutL) .bad (fun v H' => consL ⟨t, H, v⟩ (traceOps E ex all l (putTmp t o.dst v) H')) (opA E ex H t o)) (wantedA all t o.guard) = .ok tr := h
    have cons : ∀ (x : St) (t1 : Tr Value) (H1 : Heap), consL x (traceOps E ex all l t1 H1) = .ok tr → ∃ tr1, tr = x :: tr1 ∧ traceOps E ex all l t1 H1 = .ok tr1 := by
      intro x t1 H1 hc
      cases hr : traceOps E ex all l t1 H1 with
      | bad => rw [hr] at hc; cases hc
      | ok tr1 => rw [hr] at hc; cases hc; exact ⟨tr1, rfl, rfl⟩
    have shift : ∀ (x : St) (tr1 : List St) i, stOf (x :: tr1) (i + 1) = stOf tr1 i := fun x tr1 i => by simp [stOf]
    cases hw : wantedA all t o.guard with
    | false =>
      rw [hw] at h
      obtain ⟨tr1, rfl, h1⟩ := cons _ _ _ h
      obtain ⟨g1, g2, g3, g4⟩ := trace_chain l _ _ tr1 h1
      refine ⟨by simp [g1], rfl, rfl, ⟨fun i o' hi hw' => ?_, fun i o' hi hw' => ?_⟩⟩
      · cases i with
        | zero => simp at hi; subst hi; rw [shift]; exact ⟨rfl, g2, g3⟩
        | succ i => rw [shift] at hw'; rw [shift, shift]; exact g4.skip i o' (by simpa using hi) hw'
      · cases i with
        | zero => simp at hi; subst hi; have : wantedA all t o.guard = true := hw'; rw [hw] at this; cases this
        | succ i => rw [shift] at hw'; rw [shift, shift]; exact g4.op i o' (by simpa using hi) hw'
    | true =>
      rw [hw] at h
      cases hop : opA E ex H t o with
      | bad => rw [hop] at h; cases h
      | ok v H1 =>
        rw [hop] at h
        obtain ⟨tr1, rfl, h1⟩ := cons _ _ _ h
        obtain ⟨g1, g2, g3, g4⟩ := trace_chain l _ _ tr1 h1
        refine ⟨by simp [g1], rfl, rfl, ⟨fun i o' hi hw' => ?_, fun i o' hi hw' => ?_⟩⟩
        · cases i with
          | zero => simp at hi; subst hi; have : wantedA all t o.guard = false := hw'; rw [hw] at this; cases this
          | succ i => rw [shift] at hw'; rw [shift, shift]; exact g4.skip i o' (by simpa using hi) hw'
        · cases i with
          | zero => simp at hi; subst hi; rw [shift]; refine ⟨?_, g2⟩; rw [g3]; exact hop
          | succ i => rw [shift] at hw'; rw [shift, shift]; exact g4.op i o' (by simpa using hi) hw'

/-- what the static look says -/
theorem binds_any {e : Edge} (md : Region.Mode) (h : Region.binds .any e = true) : Region.binds md e = true := by
  unfold Region.binds at h ⊢
  cases hg : e.ground <;> rw [hg] at h <;> first | rfl | (exact absurd (show false = true from h) (by decide))
theorem depsIn_spec {md : Region.Mode} {mask : Nat} : ∀ {es : List Edge}, depsIn md mask es = true → ∀ e ∈ es, Region.binds md e = true → mask.testBit e.on = true
  | [], _, _, he, _ => by cases he
  | x :: es, h, e, he, hb => by
    simp only [depsIn, Bool.and_eq_true, Bool.or_eq_true, Bool.not_eq_true'] at h
    rcases List.mem_cons.1 he with rfl | he
    · exact h.1.resolve_left (by rw [hb]; decide)
    · exact depsIn_spec h.2 e he hb
theorem pass_mem {md : Region.Mode} {l : List Oper} {S : Nat → Prop} (hS : ∀ (i : Nat) (o : Oper), l[i]? = some o → (∀ e ∈ o.after.toList, Region.binds md e = true → S e.on) → S i) : ∀ (r : List Oper) (i mask : Nat), l.drop i = r → (∀ j, mask.testBit j = true → S j) → ∀ j, (pass md r i mask).testBit j = true → S j
  | [], _, _, _, hm => hm
  | o :: r, i, mask, hd, hm => by
    have hi : l[i]? = some o := by
      have := congrArg (·[0]?) hd
      simpa [List.getElem?_drop] using this
    have hd' : l.drop (i + 1) = r := by
      have := congrArg List.tail hd
      simpa [List.tail_drop] using this
    simp only [pass]
    split
    · rename_i hdeps
      refine pass_mem hS r (i + 1) _ hd' (fun j hj => ?_)
      have hj : (mask ||| 2 ^ i : Nat).testBit j = true := hj
      rw [Nat.testBit_or, Nat.testBit_two_pow] at hj
      simp only [Bool.or_eq_true, decide_eq_true_eq] at hj
      rcases hj with hj | rfl
      · exact hm j hj
      · exact hS i o hi (fun e he hb => hm _ (depsIn_spec hdeps e he hb))
    · exact pass_mem hS r (i + 1) mask hd' hm
theorem top_of {md : Region.Mode} {l : List Oper} (h : topOk md l l.length = true) {S : Nat → Prop} (hS : ∀ (i : Nat) (o : Oper), l[i]? = some o → (∀ e ∈ o.after.toList, Region.binds md e = true → S e.on) → S i) : ∀ i, i < l.length → S i := by
  intro i hi
  have he := Nat.eq_of_beq_eq_true h
  have h1 := pass_mem hS l 0 0 (by simp) (fun j hj => by simp at hj)
  have h2 := pass_mem hS l 0 _ (by simp) h1
  have h3 := pass_mem hS l 0 _ (by simp) h2
  refine h3 i ?_
  rw [he, Nat.testBit_two_pow_sub_one]
  simpa using hi

structure Good (T : Ts) (all : Array Oper) (l : List Oper) : Prop where
  dst : ∀ (i j : Nat) (a b : Oper) (d : Tmp), l[i]? = some a → l[j]? = some b → a.dst = some d → b.dst = some d → i = j
  self : ∀ (i : Nat) (a : Oper) (d : Tmp), l[i]? = some a → a.dst = some d → d ∉ looks all a
  top : ∀ (md : Region.Mode) (S : Nat → Prop), (∀ (i : Nat) (o : Oper), l[i]? = some o → (∀ e ∈ o.after.toList, Region.binds md e = true → S e.on) → S i) → ∀ i, i < l.length → S i
  read : ∀ (i j : Nat) (a b : Oper) (d : Tmp), l[i]? = some a → l[j]? = some b → a.dst = some d → d ∈ looks all b → i < j → Reach l j i
  anti : ∀ (i j : Nat) (a b : Oper) (d : Tmp), l[i]? = some a → l[j]? = some b → b.dst = some d → d ∈ looks all a → i < j → Reach l j i
  act : ∀ (i j : Nat) (a b : Oper), l[i]? = some a → l[j]? = some b → kindOf T b.op = 3 → 2 ≤ kindOf T a.op → i < j → Reach l j i

theorem hasT_mem {d : Tmp} {l : List Tmp} : hasT (some d) l = true ↔ d ∈ l := by
  simp only [hasT, List.any_eq_true]
  constructor
  · rintro ⟨x, hx, he⟩; have := Nat.eq_of_beq_eq_true he; subst this; exact hx
  · intro h; exact ⟨d, h, by simp⟩

theorem good_of {T : Ts} {all : Array Oper} (h : okDraw T all (masks all.toList []) = true) : Good T all all.toList := by
  unfold okDraw at h
  simp only [Bool.and_eq_true] at h
  obtain ⟨⟨⟨hp, hl⟩, ht⟩, hgc⟩ := h
  have pair : ∀ i j a b, all.toList[i]? = some a → all.toList[j]? = some b → i < j → pairOk T all (masks all.toList []) i j a b = true := by
    intro i j a b ha hb hij
    have hi := (List.getElem?_eq_some_iff.1 ha).1
    have hj := (List.getElem?_eq_some_iff.1 hb).1
    unfold pairsOk at hp
    have h1 := List.all_eq_true.1 hp i (List.mem_range.2 hi)
    have h2 := List.all_eq_true.1 h1 j (List.mem_range.2 hj)
    rw [nth_eq, nth_eq, ha, hb] at h2
    have hlt : Nat.blt i j = true := by simpa [Nat.blt_eq] using hij
    rw [hlt] at h2
    simpa using h2
  have lone : ∀ (i : Nat) (a : Oper), all.toList[i]? = some a → ((hasT a.dst (looks all a)).not) = true := by
    intro i a ha
    have hi := (List.getElem?_eq_some_iff.1 ha).1
    unfold lonesOk at hl
    have h1 := List.all_eq_true.1 hl i (List.mem_range.2 hi)
    rw [nth_eq, ha] at h1
    exact h1
  have parts : ∀ i j a b, all.toList[i]? = some a → all.toList[j]? = some b → i < j → (sameDst a.dst b.dst = false) ∧ ((hasT a.dst (looks all b) || hasT b.dst (looks all a) || (Nat.beq (kindOf T b.op) 3 && Nat.ble 2 (kindOf T a.op))) = true → Reach all.toList j i) := by
    intro i j a b ha hb hij
    have := pair i j a b ha hb hij
    unfold pairOk at this
    simp only [Bool.and_eq_true, Bool.or_eq_true, Bool.not_eq_true'] at this
    refine ⟨this.1, fun hc => ?_⟩
    rcases this.2 with h | h
    · simp only [Bool.or_eq_false_iff] at h
      simp only [Bool.or_eq_true] at hc
      rcases hc with (hc | hc) | hc
      · rw [h.1.1] at hc; cases hc
      · rw [h.1.2] at hc; cases hc
      · rw [h.2] at hc; cases hc
    · exact ahead_reach h
  refine ⟨?_, ?_, ?_, ?_, ?_, ?_⟩
  · intro i j a b d ha hb hda hdb
    rcases Nat.lt_trichotomy i j with hlt | heq | hgt
    · have := (parts i j a b ha hb hlt).1
      rw [hda, hdb] at this
      simp [sameDst] at this
    · exact heq
    · have := (parts j i b a hb ha hgt).1
      rw [hda, hdb] at this
      simp [sameDst] at this
  · intro i a d ha hd hm
    have := lone i a ha
    simp only [Bool.not_eq_true'] at this
    rw [hd] at this
    rw [hasT_mem.2 hm] at this
    cases this
  · intro md S hS
    cases md with
    | text => exact top_of ht hS
    | gc => exact top_of hgc hS
    | any => exact top_of hgc (fun i o hi h => hS i o hi (fun e he hb => h e he (binds_any _ hb)))
  · intro i j a b d ha hb hd hm hij
    refine (parts i j a b ha hb hij).2 ?_
    rw [hd, hasT_mem.2 hm]; rfl
  · intro i j a b d ha hb hd hm hij
    refine (parts i j a b ha hb hij).2 ?_
    rw [hd, hasT_mem.2 hm]; simp
  · intro i j a b ha hb hk3 hk2 hij
    refine (parts i j a b ha hb hij).2 ?_
    have h1 : Nat.beq (kindOf T b.op) 3 = true := by rw [hk3]; rfl
    have h2 : Nat.ble 2 (kindOf T a.op) = true := Nat.ble_eq_true_of_le hk2
    rw [h1, h2]; simp

/-! the slots along the chain -/
theorem looks_op {all : Array Oper} {o : Oper} {d : Tmp} (h : Operand.tmp d ∈ o.op.operands) : d ∈ looks all o := by
  have h1 : d ∈ tmpOf o.op.operands.toList := mem_tmpOf (by simpa using h)
  unfold looks
  split
  · split
    · exact List.mem_cons_of_mem _ h1
    · exact h1
  · exact h1
theorem looks_guard {all : Array Oper} {o : Oper} {g : Nat} {b : Bool} {d : Tmp} (h : o.guard = some (g, b)) (hd : guardOf all g = some d) : d ∈ looks all o := by
  unfold looks
  rw [h]
  simp only [hd]
  exact List.mem_cons_self

theorem Chain.tstep {all : Array Oper} {l : List Oper} {s : Nat → St} (h : Chain E ex all l s) {i : Nat} {o : Oper} (hi : l[i]? = some o) : (s (i + 1)).t = putTmp (s i).t o.dst (s i).v := by
  cases hw : wantedA all (s i).t o.guard with
  | false => obtain ⟨a, b, _⟩ := h.skip i o hi hw; rw [b, a]
  | true => exact (h.op i o hi hw).2

theorem putTmp_ne {t : Tr Value} {dst : Option Tmp} {v : Value} {d : Tmp} (h : dst ≠ some d) : (putTmp t dst v).get Undef d = t.get Undef d := by
  cases dst with
  | none => rfl
  | some x => exact Tr.get_set_other _ _ _ _ _ (fun e => h (by rw [e]))
theorem putTmp_has {t : Tr Value} {dst : Option Tmp} {v : Value} {d : Tmp} : (putTmp t dst v).has d = t.has d := by
  cases dst with
  | none => rfl
  | some x => exact Tr.has_set _ _ _ _

theorem chain_has {all : Array Oper} {l : List Oper} {s : Nat → St} (h : Chain E ex all l s) (d : Tmp) : ∀ i, i ≤ l.length → (s i).t.has d = (s 0).t.has d
  | 0, _ => rfl
  | i + 1, hi => by
    obtain ⟨o, ho⟩ : ∃ o, l[i]? = some o := ⟨_, List.getElem?_eq_getElem (by omega)⟩
    rw [h.tstep ho, putTmp_has]
    exact chain_has h d i (by omega)
theorem chain_none {all : Array Oper} {l : List Oper} {s : Nat → St} (h : Chain E ex all l s) {d : Tmp} : ∀ i, i ≤ l.length → (∀ j o, j < i → l[j]? = some o → o.dst ≠ some d) → (s i).t.get Undef d = (s 0).t.get Undef d
  | 0, _, _ => rfl
  | i + 1, hi, hn => by
    obtain ⟨o, ho⟩ : ∃ o, l[i]? = some o := ⟨_, List.getElem?_eq_getElem (by omega)⟩
    rw [h.tstep ho, putTmp_ne (hn i o (by omega) ho)]
    exact chain_none h i (by omega) (fun j o hj => hn j o (by omega))
theorem chain_some {T : Ts} {all : Array Oper} {l : List Oper} {s : Nat → St} (h : Chain E ex all l s) (hg : Good T all l) {nt : Nat} (hh : ∀ d, d < nt → (s 0).t.has d = true) {j : Nat} {o : Oper} {d : Tmp} (hj : l[j]? = some o) (hd : o.dst = some d) (hdn : d < nt) :
    ∀ i, i ≤ l.length → j < i → (s i).t.get Undef d = (s j).v
  | 0, _, hji => by omega
  | i + 1, hi, hji => by
    obtain ⟨o', ho'⟩ : ∃ o, l[i]? = some o := ⟨_, List.getElem?_eq_getElem (by omega)⟩
    rw [h.tstep ho']
    by_cases e : i = j
    · subst e
      rw [hj] at ho'; cases ho'
      rw [hd]
      exact Tr.get_set_same _ _ _ _ (by rw [chain_has h d i (by omega)]; exact hh d hdn)
    · rw [putTmp_ne (fun e' => e (hg.dst i j o' o d ho' hj e' hd))]
      exact chain_some h hg hh hj hd hdn i (by omega) (by omega)
end Ex
end
section
namespace Ex
open Go
variable {E : Env} {ρ ρ' : Rho} {H H' : Heap} {w w' : World} {ex : Ex}

theorem HR.grow {ng : Nat} (h : HR ng ρ H w) (hw : ∀ c, c < w.heap.size → w'.heap[c]? = w.heap[c]?) : HR ng ρ H w' where
  obj b := by
    by_cases hn : H.get b = .none
    · rw [hn]; trivial
    · exact (h.obj b).mono ρ.le_refl (fun q hq => hw _ (h.lt hn hq))
  inj := h.inj
  fresh := h.fresh
  glob := h.glob

/-- an empty heap -/
def bare (n : Nat) : Heap := .mk (Tr.full .none (depthOf n)) n
theorem bare_get (n b : Nat) : (bare n).get b = .none := by
  show Tr.get AObj.none (Tr.full AObj.none (depthOf n)) b = AObj.none
  exact Tr.get_full _ _ _
theorem bare_HR {ng n : Nat} (w : World) (hf : ∀ b, n ≤ b → ρ b = none) (hg : ∀ g, g < ng → ∃ z, ρ g = some ⟨g, 0, z, 0⟩) : HR ng ρ (bare n) w where
  obj b := by rw [bare_get]; trivial
  inj b _ _ _ h := absurd (bare_get n b) h
  fresh := hf
  glob := hg
theorem bare_held {n c : Nat} (h : Held ρ (bare n) c) : False := by
  obtain ⟨b, _, h1, _⟩ := h
  exact h1 (bare_get n b)
theorem bare_add_get (n : Nat) (o : AObj) : ((bare n).add o).get n = o := by
  show Tr.get .none ((Tr.full AObj.none (depthOf n)).set n o) n = o
  refine Tr.get_set_same _ _ _ _ (Tr.has_full _ _ _ ?_)
  have := Nat.lt_log2_self (n := n)
  unfold depthOf
  have e : 2 ^ (n.log2 + 2) = 2 * 2 ^ (n.log2 + 1) := by rw [Nat.pow_succ 2 (n.log2 + 1), Nat.mul_comm]
  rw [e]; omega

/-- the heap with room for more ids -/
theorem HR.wider {ng m : Nat} (h : HR ng ρ H w) (hle : ρ.le ρ') (hf : ∀ b, m ≤ b → ρ' b = none) : HR ng ρ' (bump H m) w where
  obj b := by
    rw [bump_get]
    exact (h.obj b).mono hle (fun _ _ => rfl)
  inj b b' p p' h1 h2 e1 e2 ec := by
    rw [bump_get] at h1 h2
    have old : ∀ b p, H.get b ≠ .none → ρ' b = some p → ρ b = some p := fun b p hb hp => by
      have : ∃ q, ρ b = some q := let ⟨q, hq, _⟩ := (h.obj b).place hb; ⟨q, hq⟩
      obtain ⟨q, hq⟩ := this
      rw [hle _ _ hq] at hp
      rw [hq, hp]
    exact h.inj b b' p p' h1 h2 (old _ _ h1 e1) (old _ _ h2 e2) ec
  fresh b hb := by rw [bump_next] at hb; exact hf b hb
  glob g hg := let ⟨z, hz⟩ := h.glob g hg; ⟨z, hle _ _ hz⟩

/-- a region, and its run in the text's own order -/
structure Drw (E : Env) (ex : Ex) (ops : Array Oper) (s : Nat → St) (nt : Nat) : Prop where
  good : Good E.tt ops ops.toList
  chain : Chain E ex ops ops.toList s
  oks : okOps E.ng nt ops.toList = true
  has : ∀ d, d < nt → (s 0).t.has d = true
  next : ∀ i, i < ops.size → (s i).H.next ≤ (s (i + 1)).H.next
  read : ∀ (i m : Nat) (o : Oper), ops.toList[i]? = some o → wantedA ops (s i).t o.guard = true → kindOf E.tt o.op = 1 → m ≤ ops.size → stageOk E.tt ops.toList (masks ops.toList []) ops.size i m = true → ∃ H', opA E ex (s m).H (s i).t o = .ok (s i).v H'
  act : ∀ (i : Nat) (o : Oper), ops.toList[i]? = some o → wantedA ops (s i).t o.guard = true → 2 ≤ kindOf E.tt o.op → belowL (s i).H.next (evs (s i).t o.op.operands.toList) = true

theorem Drw.mono {ops : Array Oper} {s : Nat → St} {nt : Nat} (h : Drw E ex ops s nt) {i : Nat} : ∀ {j : Nat}, i ≤ j → j ≤ ops.size → (s i).H.next ≤ (s j).H.next
  | 0, hij, _ => by rw [show i = 0 by omega]; exact Nat.le_refl _
  | j + 1, hij, hj => by
    rcases Nat.lt_or_ge j i with hlt | hge
    · rw [show i = j + 1 by omega]; exact Nat.le_refl _
    · exact Nat.le_trans (h.mono hge (by omega)) (h.next j (by omega))

def Pend (E : Env) (ops : Array Oper) (s : Nat → St) (L : Nat → Prop) (m j : Nat) : Prop :=
  m ≤ j ∧ L j ∧ ∃ o, ops.toList[j]? = some o ∧ kindOf E.tt o.op = 2 ∧ wantedA ops (s j).t o.guard = true

structure Core (E : Env) (ops : Array Oper) (s : Nat → St) (nt : Nat) (ρ0 : Rho) (w0 : World) (L : Nat → Prop) (m : Nat) (ρ : Rho) (a : Array Value) (w : World) : Prop where
  lt : ∀ j, L j → j < ops.size
  closed : Closed ops.toList L
  le : m ≤ ops.size
  hr : HR E.ng (cut ρ (s m).H.next) (s m).H w
  dom : ∀ b p, ρ b = some p → b < (s m).H.next ∨ ∃ j, Pend E ops s L m j ∧ b = (s j).H.next
  pend : ∀ j, Pend E ops s L m j → ∃ p cs, ρ (s j).H.next = some p ∧ p.k = 0 ∧ (s (j + 1)).H = newRowA (s j).H cs 0 ∧ CellsAt (cut ρ ((s j).H.next + 1)) w p cs ∧
    ¬ Held (cut ρ (s m).H.next) (s m).H p.c ∧ w0.heap.size ≤ p.c ∧ p.c < w.heap.size
  inj : ∀ j j' p p', Pend E ops s L m j → Pend E ops s L m j' → ρ (s j).H.next = some p → ρ (s j').H.next = some p' → p.c = p'.c → j = j'
  size : a.size = nt
  done : ∀ (j : Nat) (o : Oper) (d : Tmp), L j → ops.toList[j]? = some o → o.dst = some d → VR ρ (a.getD d undef) (s j).v
  old : ∀ d, (∀ (j : Nat) (o : Oper), L j → ops.toList[j]? = some o → o.dst ≠ some d) → VR ρ (a.getD d undef) ((s 0).t.get Undef d)
  ext : Ext ρ0 (s 0).H w0 (cut ρ (s m).H.next) (s m).H w

theorem okOps_mem {ng nt : Nat} : ∀ {l : List Oper}, okOps ng nt l = true → ∀ o ∈ l, okDst nt o.dst = true ∧ okXs ng o.op.operands.toList = true
  | [], _, _, h => by cases h
  | x :: l, h, o, ho => by
    simp only [okOps, Bool.and_eq_true] at h
    rcases List.mem_cons.1 ho with rfl | ho
    · exact ⟨h.1.1, h.1.2⟩
    · exact okOps_mem h.2 o ho

section
variable {ops : Array Oper} {s : Nat → St} {nt : Nat} {ρ0 : Rho} {w0 : World} {L : Nat → Prop} {m : Nat} {a : Array Value}

theorem Drw.dst_lt (hD : Drw E ex ops s nt) {i : Nat} {o : Oper} {d : Tmp} (hi : ops.toList[i]? = some o) (hd : o.dst = some d) : d < nt := by
  have := (okOps_mem hD.oks o (List.mem_of_getElem? hi)).1
  rw [hd] at this
  simpa [okDst, Nat.blt_eq] using this

/-- whoever is ready sees the slots as in the text's own order -/
theorem Core.slot (hD : Drw E ex ops s nt) (hC : Core E ops s nt ρ0 w0 L m ρ a w) {i : Nat} {o : Oper} (hi : ops.toList[i]? = some o) (hn : ¬ L i) (hdep : ∀ e ∈ o.after.toList, Region.binds .any e = true → L e.on) {d : Tmp} (hd : d ∈ looks ops o) :
    VR ρ (a.getD d undef) ((s i).t.get Undef d) := by
  have hlt : i < ops.toList.length := (List.getElem?_eq_some_iff.1 hi).1
  have hdep' : ∀ o', ops.toList[i]? = some o' → ∀ e ∈ o'.after.toList, Region.binds .any e = true → L e.on := fun o' ho' => by rw [hi] at ho'; cases ho'; exact hdep
  by_cases hw : ∃ (j : Nat) (o' : Oper), ops.toList[j]? = some o' ∧ o'.dst = some d
  · obtain ⟨j, o', hj, hd'⟩ := hw
    rcases Nat.lt_trichotomy j i with hji | hji | hji
    · have hL : L j := (hD.good.read j i o' o d hj hi hd' hd hji).mem hC.closed hdep'
      rw [chain_some hD.chain hD.good hD.has hj hd' (hD.dst_lt hj hd') i (by omega) hji]
      exact hC.done j o' d hL hj hd'
    · subst hji
      rw [hi] at hj; cases hj
      exact absurd hd (hD.good.self _ _ _ hi hd')
    · have hR := hD.good.anti i j o o' d hi hj hd' hd hji
      have uniq : ∀ (j' : Nat) (o2 : Oper), ops.toList[j']? = some o2 → o2.dst = some d → j' = j := fun j' o2 h2 hd2 => hD.good.dst j' j o2 o' d h2 hj hd2 hd'
      rw [chain_none hD.chain i (by omega) (fun j' o2 hlt2 h2 hd2 => by have := uniq j' o2 h2 hd2; omega)]
      refine hC.old d (fun j' o2 hL2 h2 hd2 => ?_)
      have := uniq j' o2 h2 hd2
      subst this
      exact hn (hC.closed.reach hR hL2)
  · rw [chain_none hD.chain i (by omega) (fun j' o2 _ h2 hd2 => hw ⟨j', o2, h2, hd2⟩)]
    exact hC.old d (fun j' o2 _ h2 hd2 => hw ⟨j', o2, h2, hd2⟩)

theorem Core.glob (hC : Core E ops s nt ρ0 w0 L m ρ a w) : ∀ g, g < E.ng → ∃ z, ρ g = some ⟨g, 0, z, 0⟩ := fun g hg =>
  let ⟨z, hz⟩ := hC.hr.glob g hg
  ⟨z, cut_le _ _ _ _ hz⟩

theorem Core.eval {fr : Frame} (hD : Drw E ex ops s nt) (hC : Core E ops s nt ρ0 w0 L m ρ fr.tmps w) {i : Nat} {o : Oper} (hi : ops.toList[i]? = some o) (hn : ¬ L i) (hdep : ∀ e ∈ o.after.toList, Region.binds .any e = true → L e.on) {x : Operand} (hx : x ∈ o.op.operands) :
    VR ρ (fr.eval x) (evA (s i).t x) := by
  have hok := okXs_mem (okOps_mem hD.oks o (List.mem_of_getElem? hi)).2 x (by simpa using hx)
  cases x with
  | tmp d => exact hC.slot hD hi hn hdep (looks_op hx)
  | const v => exact VR.of_free ρ v hok
  | global g =>
    obtain ⟨z, hz⟩ := hC.glob g (by simpa [okX, Nat.blt_eq] using hok)
    exact .ptr (o := 0) (p := ⟨g, 0, z, 0⟩) hz
  | func f => exact .func [] [] [] [] (.func f) rfl (by simp) rfl (by simp)

theorem wanted_eq' {a : Array Value} {t : Tr Value} {o : Oper} (h : ∀ d, d ∈ looks ops o → VR ρ (a.getD d undef) (t.get Undef d)) : Region.wanted o (yielded ops a) = wantedA ops t o.guard := by
  unfold Region.wanted
  cases hg : o.guard with
  | none => rfl
  | some x =>
    obtain ⟨j, b⟩ := x
    show (yielded ops a j == some b) = wantedAt t (guardOf ops j) b
    cases hgo : guardOf ops j with
    | none =>
      unfold yielded
      unfold guardOf at hgo
      cases hj : ops[j]? with
      | none => simp [wantedAt]
      | some p =>
        rw [hj] at hgo
        simp only at hgo
        simp [hgo, wantedAt]
    | some d =>
      have hr := h d (looks_guard hg hgo)
      unfold guardOf at hgo
      unfold yielded
      cases hj : ops[j]? with
      | none => rw [hj] at hgo; cases hgo
      | some p =>
        rw [hj] at hgo
        simp only at hgo
        simp only [Option.bind_some, hgo, wantedAt]
        rw [Array.getD_eq_getD_getElem?] at hr
        cases hv : a[d]? with
        | none =>
          rw [hv] at hr
          simp only [Option.getD_none] at hr
          generalize t.get Undef d = y at hr
          cases hr
          rfl
        | some v =>
          rw [hv] at hr
          simp only [Option.getD_some] at hr
          generalize t.get Undef d = y at hr
          cases hr <;> first
            | rfl
            | (rename_i c; cases c <;> cases b <;> rfl)

theorem putA_ne {a : Array Value} {dst : Option Tmp} {v : Value} {d : Tmp} (h : dst ≠ some d) : (putA a dst v).getD d undef = a.getD d undef := by
  cases dst with
  | none => rfl
  | some x =>
    have : x ≠ d := fun e => h (by rw [e])
    simp only [putA, Array.getD_eq_getD_getElem?, Array.getElem?_setIfInBounds_ne this]
theorem putA_eq {a : Array Value} {dst : Option Tmp} {v : Value} {d : Tmp} (h : dst = some d) (hd : d < a.size) : (putA a dst v).getD d undef = v := by
  subst h
  simp only [putA, Array.getD_eq_getD_getElem?]
  simp [hd]
theorem putA_size {a : Array Value} {dst : Option Tmp} {v : Value} : (putA a dst v).size = a.size := by
  cases dst <;> simp [putA]

/-- one more is listed -/
def more (L : Nat → Prop) (i : Nat) : Nat → Prop := fun j => L j ∨ j = i

theorem more_closed {l : List Oper} (hL : Closed l L) {i : Nat} {o : Oper} (hi : l[i]? = some o) (hdep : ∀ e ∈ o.after.toList, Region.binds .any e = true → L e.on) : Closed l (more L i) := by
  intro j o' hj ho' e he hb
  rcases hj with hj | rfl
  · exact .inl (hL j o' hj ho' e he hb)
  · rw [hi] at ho'; cases ho'; exact .inl (hdep e he hb)

theorem Core.done' (hD : Drw E ex ops s nt) (hC : Core E ops s nt ρ0 w0 L m ρ a w) {i : Nat} {o : Oper} (hi : ops.toList[i]? = some o) {v : Value} (hle : ρ.le ρ') (hv : VR ρ' v (s i).v) :
    ∀ (j : Nat) (o' : Oper) (d : Tmp), more L i j → ops.toList[j]? = some o' → o'.dst = some d → VR ρ' ((putA a o.dst v).getD d undef) (s j).v := by
  intro j o' d hj ho' hd
  by_cases e : j = i
  · subst e
    rw [hi] at ho'; cases ho'
    rw [putA_eq hd (by rw [hC.size]; exact hD.dst_lt hi hd)]
    exact hv
  · have hL : L j := hj.resolve_right e
    rw [putA_ne (fun e' => e (hD.good.dst j i o' o d ho' hi hd e'))]
    exact (hC.done j o' d hL ho' hd).mono hle
theorem Core.old' (hC : Core E ops s nt ρ0 w0 L m ρ a w) {i : Nat} {o : Oper} (hi : ops.toList[i]? = some o) {v : Value} (hle : ρ.le ρ') :
    ∀ d, (∀ (j : Nat) (o' : Oper), more L i j → ops.toList[j]? = some o' → o'.dst ≠ some d) → VR ρ' ((putA a o.dst v).getD d undef) ((s 0).t.get Undef d) := by
  intro d hd
  rw [putA_ne (hd i o (.inr rfl) hi)]
  exact (hC.old d (fun j o' hL => hd j o' (.inl hL))).mono hle

theorem Ext.grow {w1 : World} (h : Ext ρ H w ρ' H' w') (hs : w'.heap.size ≤ w1.heap.size) (hw : ∀ c, c < w'.heap.size → w1.heap[c]? = w'.heap[c]?) (ht : w1.tape = w'.tape) (ho : w1.os = w'.os) (hu : w1.output = w'.output) : Ext ρ H w ρ' H' w1 :=
  { le := h.le, size := Nat.le_trans h.size hs, keep := fun c hc hn => (hw c (Nat.lt_of_lt_of_le hc h.size)).trans (h.keep c hc hn), range := h.range, dom := h.dom, next := h.next, tape := ht.trans h.tape, os := ho.trans h.os, output := hu.trans h.output }

/-- one that makes nothing -/
theorem Core.quiet (hD : Drw E ex ops s nt) (hC : Core E ops s nt ρ0 w0 L m ρ a w) {i : Nat} {o : Oper} (hi : ops.toList[i]? = some o) (hdep : ∀ e ∈ o.after.toList, Region.binds .any e = true → L e.on) {v : Value}
    (hk : wantedA ops (s i).t o.guard = true → kindOf E.tt o.op ≠ 2) (hv : VR ρ v (s i).v) (hs : w.heap.size ≤ w'.heap.size) (hw : ∀ c, c < w.heap.size → w'.heap[c]? = w.heap[c]?) (ht : w'.tape = w.tape) (ho : w'.os = w.os) (hu : w'.output = w.output) :
    Core E ops s nt ρ0 w0 (more L i) m ρ (putA a o.dst v) w' := by
  have hp : ∀ j, Pend E ops s (more L i) m j → Pend E ops s L m j := by
    rintro j ⟨h1, h2, o', h3, h4, h5⟩
    rcases h2 with h2 | rfl
    · exact ⟨h1, h2, o', h3, h4, h5⟩
    · rw [hi] at h3; cases h3; exact absurd h4 (hk h5)
  have hq : ∀ j, Pend E ops s L m j → Pend E ops s (more L i) m j := fun j ⟨h1, h2, h3⟩ => ⟨h1, .inl h2, h3⟩
  refine ⟨?_, more_closed hC.closed hi hdep, hC.le, hC.hr.grow hw, ?_, ?_, ?_, ?_, hC.done' hD hi ρ.le_refl hv, hC.old' hi ρ.le_refl, hC.ext.grow hs hw ht ho hu⟩
  · rintro j (hj | rfl)
    · exact hC.lt j hj
    · simpa using (List.getElem?_eq_some_iff.1 hi).1
  · intro b p hb
    rcases hC.dom b p hb with h | ⟨j, h, e⟩
    · exact .inl h
    · exact .inr ⟨j, hq j h, e⟩
  · intro j hj
    obtain ⟨p, cs, h1, h2, h3, h4, h5, h6, h7⟩ := hC.pend j (hp j hj)
    exact ⟨p, cs, h1, h2, h3, h4.mono (Rho.le_refl _) (hw _ h7), h5, h6, Nat.lt_of_lt_of_le h7 hs⟩
  · intro j j' p p' h1 h2
    exact hC.inj j j' p p' (hp j h1) (hp j' h2)
  · rw [putA_size]; exact hC.size
end
end Ex
end
section
namespace Ex
open Go
variable {E : Env} {ρ ρ' : Rho} {H H' : Heap} {w w' : World} {ex : Ex}
variable {ops : Array Oper} {s : Nat → St} {nt : Nat} {ρ0 : Rho} {w0 : World} {L : Nat → Prop} {m : Nat} {a : Array Value}

theorem Core.pend_next (hC : Core E ops s nt ρ0 w0 L m ρ a w) {j : Nat} (hj : Pend E ops s L m j) : (s (j + 1)).H.next = (s j).H.next + 1 := by
  obtain ⟨p, cs, _, _, h3, _⟩ := hC.pend j hj
  rw [h3]; exact Heap.next_add _ _

theorem Core.start (hD : Drw E ex ops s nt) (hC : Core E ops s nt ρ0 w0 L m ρ a w) : (s 0).H.next ≤ (s m).H.next := hD.mono (Nat.zero_le _) hC.le

/-- what isn't pending leaves the heap as it is -/
theorem Core.pass (hC : Core E ops s nt ρ0 w0 L m ρ a w) (hm : m < ops.size) (hH : (s (m + 1)).H = (s m).H) (hp : ¬ Pend E ops s L m m) : Core E ops s nt ρ0 w0 L (m + 1) ρ a w := by
  have hP : ∀ j, Pend E ops s L (m + 1) j → Pend E ops s L m j := fun j ⟨h1, h2, h3⟩ => ⟨by omega, h2, h3⟩
  have hQ : ∀ j, Pend E ops s L m j → Pend E ops s L (m + 1) j := fun j ⟨h1, h2, h3⟩ => by
    refine ⟨?_, h2, h3⟩
    rcases Nat.lt_or_ge m j with h | h
    · exact h
    · have : j = m := by omega
      subst this; exact absurd ⟨h1, h2, h3⟩ hp
  refine ⟨hC.lt, hC.closed, hm, by rw [hH]; exact hC.hr, ?_, ?_, ?_, hC.size, hC.done, hC.old, by rw [hH]; exact hC.ext⟩
  · intro b p hb
    rw [hH]
    exact (hC.dom b p hb).imp id (fun ⟨j, h, e⟩ => ⟨j, hQ j h, e⟩)
  · intro j hj
    rw [hH]
    exact hC.pend j (hP j hj)
  · intro j j' p p' h1 h2
    exact hC.inj j j' p p' (hP j h1) (hP j' h2)

/-- what is pending comes to its place -/
theorem Core.take (hD : Drw E ex ops s nt) (hC : Core E ops s nt ρ0 w0 L m ρ a w) (hm : m < ops.size) (hp : Pend E ops s L m m) : Core E ops s nt ρ0 w0 L (m + 1) ρ a w := by
  have hP : ∀ j, Pend E ops s L (m + 1) j → Pend E ops s L m j := fun j ⟨h1, h2, h3⟩ => ⟨by omega, h2, h3⟩
  have hQ : ∀ j, Pend E ops s L m j → j = m ∨ Pend E ops s L (m + 1) j := fun j ⟨h1, h2, h3⟩ => by
    rcases Nat.lt_or_ge m j with h | h
    · exact .inr ⟨h, h2, h3⟩
    · exact .inl (by omega)
  obtain ⟨p, cs, h1, h2, h3, h4, h5, h6, h7⟩ := hC.pend m hp
  have hn := hC.pend_next hp
  have hcut : (cut ρ (s m).H.next).put (s m).H.next p = cut ρ (s (m + 1)).H.next := by
    funext b
    rw [hn]
    by_cases e : b = (s m).H.next
    · subst e; rw [Rho.put_same]; simp [cut, h1]
    · rw [Rho.put_ne _ _ e]
      unfold cut
      by_cases hlt : b < (s m).H.next
      · rw [if_pos hlt, if_pos (by omega)]
      · rw [if_neg hlt, if_neg (by omega)]
  have hadd := hC.hr.addObj (w' := w) (p := p) (o := .cells cs 0) h5 (fun _ _ => rfl) ⟨p, Rho.put_same _ _ _, h2, by rw [hcut, hn]; exact h4⟩
  rw [hcut] at hadd
  have hH : (s m).H.add (.cells cs 0) = (s (m + 1)).H := h3.symm
  rw [hH] at hadd
  have held : ∀ c, Held (cut ρ (s (m + 1)).H.next) (s (m + 1)).H c → c = p.c ∨ Held (cut ρ (s m).H.next) (s m).H c := fun c hc => by
    rw [← hcut, ← hH] at hc
    exact Held.add hc
  refine ⟨hC.lt, hC.closed, hm, hadd, ?_, ?_, ?_, hC.size, hC.done, hC.old, ?_⟩
  · intro b q hb
    rcases hC.dom b q hb with h | ⟨j, h, e⟩
    · exact .inl (by omega)
    · rcases hQ j h with rfl | h
      · exact .inl (by omega)
      · exact .inr ⟨j, h, e⟩
  · intro j hj
    obtain ⟨q, cs', g1, g2, g3, g4, g5, g6, g7⟩ := hC.pend j (hP j hj)
    refine ⟨q, cs', g1, g2, g3, g4, fun hh => ?_, g6, g7⟩
    rcases held _ hh with e | e
    · have := hC.inj j m q p (hP j hj) hp g1 h1 e
      have := hj.1
      omega
    · exact g5 e
  · intro j j' q q' k1 k2
    exact hC.inj j j' q q' (hP j k1) (hP j' k2)
  · have hext := hC.ext
    exact { le := Rho.le_trans hext.le (cut_mono (by omega)), size := hext.size, keep := hext.keep,
            range := fun c hc => (held c hc).elim (fun e => .inl (by rw [e]; exact h6)) (hext.range c),
            dom := fun b q hq => by
              have hs := hC.start hD
              by_cases hlt : b < (s m).H.next
              · refine hext.dom b q ?_
                rw [cut_lt hlt]
                exact cut_le _ _ _ _ hq
              · exact .inr (by omega)
            next := by have := hext.next; omega, tape := hext.tape, os := hext.os, output := hext.output }

/-- all that is pending up to i comes to its place -/
theorem Core.absorb (hD : Drw E ex ops s nt) {i : Nat} (hi : i ≤ ops.size) : ∀ (k m : Nat), m + k = i → Core E ops s nt ρ0 w0 L m ρ a w →
    (∀ (j : Nat) (o : Oper), m ≤ j → j < i → ops.toList[j]? = some o → wantedA ops (s j).t o.guard = true → kindOf E.tt o.op ≤ 2 ∧ (kindOf E.tt o.op = 2 → L j)) → Core E ops s nt ρ0 w0 L i ρ a w
  | 0, m, hm, hC, _ => by simp at hm; subst hm; exact hC
  | k + 1, m, hm, hC, hall => by
    have hlt : m < ops.size := by omega
    obtain ⟨o, ho⟩ : ∃ o, ops.toList[m]? = some o := ⟨_, List.getElem?_eq_getElem (by simpa using hlt)⟩
    refine Core.absorb hD hi k (m + 1) (by omega) ?_ (fun j o' h1 h2 => hall j o' (by omega) h2)
    cases hw : wantedA ops (s m).t o.guard with
    | false => exact hC.pass hlt (hD.chain.skip m o ho hw).2.2 (fun ⟨_, _, o', h3, _, h5⟩ => by rw [ho] at h3; cases h3; rw [hw] at h5; cases h5)
    | true =>
      obtain ⟨hk, hk2⟩ := hall m o (Nat.le_refl _) (by omega) ho hw
      have hop := (hD.chain.op m o ho hw).1
      rcases Nat.lt_or_ge (kindOf E.tt o.op) 2 with h2 | h2
      · have hH : (s (m + 1)).H = (s m).H := by
          rcases (show kindOf E.tt o.op = 0 ∨ kindOf E.tt o.op = 1 by omega) with h | h
          · exact (kind0 h hop).1
          · exact (kind1 h hop).1
        exact hC.pass hlt hH (fun ⟨_, _, o', h3, h4, _⟩ => by rw [ho] at h3; cases h3; omega)
      · have h2 : kindOf E.tt o.op = 2 := by omega
        exact hC.take hD hlt ⟨Nat.le_refl _, hk2 h2, o, ho, h2, hw⟩

theorem bare_next (n : Nat) : (bare n).next = n := rfl
/-- a maker -/
theorem Core.make (hD : Drw E ex ops s nt) (hC : Core E ops s nt ρ0 w0 L m ρ a w) {i : Nat} {o : Oper} (hi : ops.toList[i]? = some o) (hn : ¬ L i) (hmi : m ≤ i) (hdep : ∀ e ∈ o.after.toList, Region.binds .any e = true → L e.on) {v : Value} {cs : List Value}
    (hk : kindOf E.tt o.op = 2) (hw : wantedA ops (s i).t o.guard = true) (hH : (s (i + 1)).H = newRowA (s i).H cs 0) {ρ2 : Rho} (hv : VR ρ2 v (s i).v) (hr : HR E.ng ρ2 (newRowA (bare (s i).H.next) cs 0) w')
    (he : Ext (cut ρ (s i).H.next) (bare (s i).H.next) w ρ2 (newRowA (bare (s i).H.next) cs 0) w') :
    ∃ ρ', ρ.le ρ' ∧ Core E ops s nt ρ0 w0 (more L i) m ρ' (putA a o.dst v) w' := by
  have hlt : i < ops.size := by simpa using (List.getElem?_eq_some_iff.1 hi).1
  have hobj := hr.obj (s i).H.next
  rw [show (newRowA (bare (s i).H.next) cs 0).get (s i).H.next = .cells cs 0 from bare_add_get _ _] at hobj
  obtain ⟨p, hp, hpk, hcells⟩ := hobj
  have hmono := hD.mono hmi (Nat.le_of_lt hlt)
  have hne : ∀ j, Pend E ops s L m j → (s j).H.next ≠ (s i).H.next := fun j hj e => by
    have hji : j ≠ i := fun e' => hn (e' ▸ hj.2.1)
    have hjn := hC.pend_next hj
    have hjl := hC.lt j hj.2.1
    rcases Nat.lt_or_ge j i with h | h
    · have := hD.mono (i := j + 1) (j := i) (by omega) (by omega); omega
    · have h1 := hD.mono (i := i + 1) (j := j) (by omega) (by omega)
      have : (s (i + 1)).H.next = (s i).H.next + 1 := by rw [hH]; exact Heap.next_add _ _
      omega
  have hnone : ρ (s i).H.next = none := by
    cases hq : ρ (s i).H.next with
    | none => rfl
    | some q =>
      rcases hC.dom _ q hq with h | ⟨j, h, e⟩
      · omega
      · exact absurd e.symm (hne j h)
  have hle : ρ.le (ρ.put (s i).H.next p) := Rho.le_put hnone
  have hcut : ρ2 = cut (ρ.put (s i).H.next p) ((s i).H.next + 1) := by
    funext b
    unfold cut
    by_cases hb : b < (s i).H.next + 1
    · rw [if_pos hb]
      by_cases e : b = (s i).H.next
      · subst e; rw [Rho.put_same]; exact hp
      · rw [Rho.put_ne _ _ e]
        have hb' : b < (s i).H.next := by omega
        cases hq : ρ b with
        | some q => exact he.le b q (by rw [cut_lt hb']; exact hq)
        | none =>
          cases hq2 : ρ2 b with
          | none => rfl
          | some q2 =>
            rcases he.dom b q2 hq2 with h | h
            · rw [cut_lt hb', hq] at h; cases h
            · rw [bare_next] at h; omega
    · rw [if_neg hb]
      exact hr.fresh b (by rw [show (newRowA (bare (s i).H.next) cs 0).next = (s i).H.next + 1 from Heap.next_add _ _]; omega)
  have hcutm : cut (ρ.put (s i).H.next p) (s m).H.next = cut ρ (s m).H.next := by
    funext b
    unfold cut
    by_cases hb : b < (s m).H.next
    · rw [if_pos hb, if_pos hb, Rho.put_ne _ _ (by omega)]
    · rw [if_neg hb, if_neg hb]
  have halive : (newRowA (bare (s i).H.next) cs 0).get (s i).H.next ≠ .none := by
    rw [show (newRowA (bare (s i).H.next) cs 0).get (s i).H.next = .cells cs 0 from bare_add_get _ _]; intro e; cases e
  have hpc : w.heap.size ≤ p.c := (he.range p.c ⟨_, p, halive, hp, rfl⟩).resolve_right bare_held
  have hkeep : ∀ c, c < w.heap.size → w'.heap[c]? = w.heap[c]? := fun c hc => he.keep c hc bare_held
  have hQ : ∀ j, Pend E ops s (more L i) m j → j = i ∨ Pend E ops s L m j := by
    rintro j ⟨h1, h2, h3⟩
    rcases h2 with h2 | rfl
    · exact .inr ⟨h1, h2, h3⟩
    · exact .inl rfl
  have hP : ∀ j, Pend E ops s L m j → Pend E ops s (more L i) m j := fun j ⟨h1, h2, h3⟩ => ⟨h1, .inl h2, h3⟩
  have hle2 : ρ2.le (ρ.put (s i).H.next p) := by rw [hcut]; exact cut_le _ _
  refine ⟨ρ.put (s i).H.next p, hle, ?_, more_closed hC.closed hi hdep, hC.le, ?_, ?_, ?_, ?_, by rw [putA_size]; exact hC.size, hC.done' hD hi hle (hv.mono hle2), hC.old' hi hle, ?_⟩
  · rintro j (hj | rfl)
    · exact hC.lt j hj
    · exact hlt
  · rw [hcutm]; exact hC.hr.grow hkeep
  · intro b q hb
    by_cases e : b = (s i).H.next
    · exact .inr ⟨i, ⟨hmi, .inr rfl, o, hi, hk, hw⟩, e⟩
    · rw [Rho.put_ne _ _ e] at hb
      exact (hC.dom b q hb).imp id (fun ⟨j, h, e⟩ => ⟨j, hP j h, e⟩)
  · intro j hj
    rw [hcutm]
    rcases hQ j hj with rfl | hj
    · refine ⟨p, cs, Rho.put_same _ _ _, hpk, hH, by rw [← hcut]; exact hcells, fun hh => ?_, Nat.le_trans hC.ext.size hpc, hr.lt halive hp⟩
      have := Held.lt hC.hr hh
      omega
    · obtain ⟨q, cs', g1, g2, g3, g4, g5, g6, g7⟩ := hC.pend j hj
      refine ⟨q, cs', hle _ _ g1, g2, g3, g4.mono ?_ (hkeep _ g7), g5, g6, Nat.lt_of_lt_of_le g7 he.size⟩
      intro b x hx
      unfold cut at hx ⊢
      split at hx
      · rename_i hb; rw [if_pos hb]; exact hle _ _ hx
      · cases hx
  · intro j j' q q' k1 k2 e1 e2 ec
    rcases hQ j k1 with rfl | k3 <;> rcases hQ j' k2 with rfl | k4
    · rfl
    · rw [Rho.put_same] at e1; cases e1
      obtain ⟨q2, _, g1, _, _, _, _, _, g7⟩ := hC.pend j' k4
      rw [hle _ _ g1] at e2; cases e2
      omega
    · rw [Rho.put_same] at e2; cases e2
      obtain ⟨q2, _, g1, _, _, _, _, _, g7⟩ := hC.pend j k3
      rw [hle _ _ g1] at e1; cases e1
      omega
    · obtain ⟨q2, _, g1, _⟩ := hC.pend j k3
      obtain ⟨q3, _, g2, _⟩ := hC.pend j' k4
      rw [hle _ _ g1] at e1; cases e1
      rw [hle _ _ g2] at e2; cases e2
      exact hC.inj j j' _ _ k3 k4 g1 g2 ec
  · rw [hcutm]
    exact hC.ext.grow he.size hkeep he.tape he.os he.output

/-- an active one -/
theorem Core.act (hD : Drw E ex ops s nt) {i : Nat} (hC : Core E ops s nt ρ0 w0 L i ρ a w) {o : Oper} (hi : ops.toList[i]? = some o) (hdep : ∀ e ∈ o.after.toList, Region.binds .any e = true → L e.on) {v : Value}
    (hk : kindOf E.tt o.op ≠ 2) {ρ2 : Rho} (hv : VR ρ2 v (s i).v) (hr : HR E.ng ρ2 (s (i + 1)).H w') (he : Ext (cut ρ (s i).H.next) (s i).H w ρ2 (s (i + 1)).H w') :
    ∃ ρ', ρ.le ρ' ∧ Core E ops s nt ρ0 w0 (more L i) (i + 1) ρ' (putA a o.dst v) w' := by
  have hlt : i < ops.size := by simpa using (List.getElem?_eq_some_iff.1 hi).1
  have hQ : ∀ j, Pend E ops s (more L i) (i + 1) j → Pend E ops s L i j ∧ i < j := by
    rintro j ⟨h1, h2, h3⟩
    rcases h2 with h2 | rfl
    · exact ⟨⟨by omega, h2, h3⟩, by omega⟩
    · omega
  have hQ' : ∀ j, Pend E ops s L i j → Pend E ops s (more L i) (i + 1) j := by
    rintro j ⟨h1, h2, o', h3, h4, h5⟩
    refine ⟨?_, .inl h2, o', h3, h4, h5⟩
    rcases Nat.lt_or_ge i j with h | h
    · exact h
    · have : j = i := by omega
      subst this; rw [hi] at h3; cases h3; exact absurd h4 hk
  have habove : ∀ j, Pend E ops s L i j → (s (i + 1)).H.next ≤ (s j).H.next := fun j hj => hD.mono (hQ' j hj).1 (Nat.le_of_lt (hC.lt j hj.2.1))
  let ρ' : Rho := fun b => if b < (s (i + 1)).H.next then ρ2 b else ρ b
  have hcut : cut ρ' (s (i + 1)).H.next = ρ2 := by
    funext b
    unfold cut
    by_cases hb : b < (s (i + 1)).H.next
    · rw [if_pos hb]; show (if _ then _ else _) = _; rw [if_pos hb]
    · rw [if_neg hb]; exact (hr.fresh b (by omega)).symm
  have hle : ρ.le ρ' := fun b q hq => by
    show (if _ then _ else _) = _
    by_cases hb : b < (s (i + 1)).H.next
    · rw [if_pos hb]
      rcases hC.dom b q hq with h | ⟨j, h, e⟩
      · exact he.le b q (by rw [cut_lt h]; exact hq)
      · have := habove j h; omega
    · rw [if_neg hb]; exact hq
  have hle2 : ρ2.le ρ' := by rw [← hcut]; exact cut_le _ _
  refine ⟨ρ', hle, ?_, more_closed hC.closed hi hdep, hlt, by rw [hcut]; exact hr, ?_, ?_, ?_, by rw [putA_size]; exact hC.size, hC.done' hD hi hle (hv.mono hle2), hC.old' hi hle, by rw [hcut]; exact hC.ext.trans he⟩
  · rintro j (hj | rfl)
    · exact hC.lt j hj
    · exact hlt
  · intro b q hb
    rcases Nat.lt_or_ge b (s (i + 1)).H.next with h | h
    · exact .inl h
    · have hb : (if b < (s (i + 1)).H.next then ρ2 b else ρ b) = some q := hb
      rw [if_neg (by omega)] at hb
      rcases hC.dom b q hb with h' | ⟨j, h', e⟩
      · have := hD.next i hlt; omega
      · exact .inr ⟨j, hQ' j h', e⟩
  · intro j hj
    obtain ⟨hj', hij⟩ := hQ j hj
    obtain ⟨p, cs, g1, g2, g3, g4, g5, g6, g7⟩ := hC.pend j hj'
    refine ⟨p, cs, hle _ _ g1, g2, g3, g4.mono ?_ (he.keep _ g7 g5), ?_, g6, Nat.lt_of_lt_of_le g7 he.size⟩
    · intro b x hx
      unfold cut at hx ⊢
      split at hx
      · rename_i hb; rw [if_pos hb]; exact hle _ _ hx
      · cases hx
    · rw [hcut]
      intro hh
      rcases he.range _ hh with h | h
      · omega
      · exact g5 h
  · intro j j' q q' k1 k2 e1 e2 ec
    obtain ⟨k1, _⟩ := hQ j k1
    obtain ⟨k2, _⟩ := hQ j' k2
    obtain ⟨q2, _, g1, _⟩ := hC.pend j k1
    obtain ⟨q3, _, g2, _⟩ := hC.pend j' k2
    rw [hle _ _ g1] at e1; cases e1
    rw [hle _ _ g2] at e2; cases e2
    exact hC.inj j j' _ _ k1 k2 g1 g2 ec
end Ex
end
section
namespace Ex
open Go
variable {E : Env} {ρ ρ' : Rho} {H H' : Heap} {w w' : World} {ex : Ex}

theorem read_go (hG : EnvGood E) (h : HR E.ng ρ H w) {ev : Operand → Value} {t : Tr Value} {o : Oper} {v' : Value} (hev : ∀ x ∈ o.op.operands, VR ρ (ev x) (evA t x)) (hk : kindOf E.tt o.op = 1)
    (hc : opA E ex H t o = .ok v' H') : ∃ v, (execOp ev o).run E.P w = .ok (.value v) w ∧ VR ρ v v' := by
  have hE := hG.toEnvOk
  obtain ⟨dst, op, type, pos, after, guard⟩ := o
  cases op <;> simp only [kindOf] at hk <;> try (cases hk; done)
  case load ty a =>
    simp only [Op.operands] at hev
    obtain ⟨h1, rfl⟩ := oval_inv (show oval H (loadV E.tt H ty (evA t a)) = .ok v' H' from hc)
    have ha := hev a (by simp)
    unfold loadV at h1
    split at h1
    · rename_i x hx
      obtain ⟨b, o, s⟩ := x
      rw [hx] at ha
      obtain ⟨p, hp2, hpe⟩ := ptr_inv ha
      obtain ⟨v, g1, g2⟩ := load_sound hE h hp2 (show load1 _ b o (shapeA E.tt ty) = some v' from h1)
      refine ⟨v, run_v (s := Instr.loadAt ty (ev a)) ?_, g2⟩
      rw [hpe]
      simp only [Instr.loadAt, Instr.sureAddr, Sem.run_bind, Sem.run_pure, Result.andThen]
      exact g1
    · cases h1
  case slice ty x lo hi mx =>
    simp only [Op.operands] at hev
    obtain ⟨h1, rfl⟩ := oval_inv (show oval H (sliceA E.tt H ty (evA t x) (evO t lo) (evO t hi) (evO t mx)) = .ok v' H' from hc)
    obtain ⟨v, g1, g2⟩ := slice_sound hE h (hev x (by simp)) (evO_rel (fun y hy => hev y (by subst hy; simp))) (evO_rel (fun y hy => hev y (by subst hy; simp))) (evO_rel (fun y hy => hev y (by subst hy; simp))) h1
    exact ⟨v, run_v g1, g2⟩
  case lookup ty x k ok =>
    simp only [Op.operands] at hev
    obtain ⟨h1, rfl⟩ := oval_inv (show oval H (lookupA E.P E.tt H (evA t x) (evA t k) ok (mapD (E.tt.und ty))) = .ok v' H' from hc)
    obtain ⟨v, g1, g2⟩ := lookup_sound hE h (hev x (by simp)) (hev k (by simp)) h1
    exact ⟨v, run_v g1, g2⟩
  case convert s d x => split at hk <;> cases hk
  case call c =>
    obtain ⟨callee, args, argTypes⟩ := c
    cases callee with
    | value g => cases hk
    | invoke r m => cases hk
    | builtin b =>
      cases b <;> simp only at hk <;> try (cases hk; done)
      case len =>
        have hc : (match evs t args.toList with | [x] => (match argTypes.toList with | ty :: _ => oval H (lenM H (E.tt.und ty) x) | _ => .bad) | _ => .bad) = Out.ok v' H' := hc
        have hargs := evs_rel (l := args.toList) (ρ := ρ) (ev := ev) (t := t) (fun x hx => hev x (by simp [Op.operands, Call.operands] at hx ⊢; exact hx))
        have e1 : args.map ev = ⟨args.toList.map ev⟩ := by apply Array.ext'; simp
        split at hc
        · rename_i x' he
          split at hc
          · rename_i ty tl hts
            rw [he] at hargs
            obtain ⟨x, l, e, hx, hl⟩ := hargs.cons_inv
            have := hl.nil_inv
            subst this
            have ea : args.map ev = #[x] := by rw [e1, e]
            obtain ⟨h1, rfl⟩ := oval_inv hc
            simp only [lenKind, hts] at hk
            unfold lenM at h1
            split at h1
            · rename_i kt et hd
              obtain ⟨g1, g2⟩ := mapLen_sound hE h (ty := type) (head_of hts) hd hx h1
              refine ⟨v', ?_, VR.of_free ρ _ g2⟩
              show (do pure (Next.value (← Builtin.len_ argTypes type (args.map ev))) : Sem Next).run E.P w = _
              rw [ea]; exact run_v g1
            · rename_i hne
              split at hk
              · rename_i kt et hd; exact absurd hd (hne kt et)
              · cases hk
          · cases hc
        · cases hc

theorem kindOf_le (T : Ts) (op : Op) : kindOf T op ≤ 3 := by
  cases op <;> simp only [kindOf] <;> try omega
  · split <;> omega
  · split <;> first | omega | skip
    unfold lenKind
    split
    · split <;> omega
    · omega

variable {ops : Array Oper} {s : Nat → St} {nt : Nat} {ρ0 : Rho} {w0 : World} {L : Nat → Prop} {m : Nat}

def Stg (E : Env) (ops : Array Oper) (L : Nat → Prop) (m : Nat) : Prop :=
  (m = 0 ∨ ∃ (p : Nat) (o : Oper), m = p + 1 ∧ L p ∧ ops.toList[p]? = some o ∧ kindOf E.tt o.op = 3) ∧ ∀ (q : Nat) (o : Oper), L q → ops.toList[q]? = some o → kindOf E.tt o.op = 3 → q < m

theorem Stg.keep (h : Stg E ops L m) {i : Nat} {o : Oper} (hi : ops.toList[i]? = some o) (hk : kindOf E.tt o.op ≠ 3) : Stg E ops (more L i) m := by
  refine ⟨h.1.imp id (fun ⟨p, o', a, b, c⟩ => ⟨p, o', a, .inl b, c⟩), fun q o' hq ho' hk' => ?_⟩
  rcases hq with hq | rfl
  · exact h.2 q o' hq ho' hk'
  · rw [hi] at ho'; cases ho'; exact absurd hk' hk

/-- all that is active and listed is ahead of one that isn't listed and makes or acts -/
theorem Stg.le (hD : Drw E ex ops s nt) (hcl : Closed ops.toList L) (h : Stg E ops L m) {i : Nat} {o : Oper} (hi : ops.toList[i]? = some o) (hn : ¬ L i) (hk : 2 ≤ kindOf E.tt o.op) : m ≤ i := by
  rcases h.1 with rfl | ⟨p, o', rfl, h1, h2, h3⟩
  · exact Nat.zero_le _
  · rcases Nat.lt_trichotomy p i with hp | hp | hp
    · exact hp
    · subst hp; exact absurd h1 hn
    · exact absurd (hcl.reach (hD.good.act i p o o' hi h2 h3 hk hp) h1) hn

theorem Core.upTo (hD : Drw E ex ops s nt) {a : Array Value} (hC : Core E ops s nt ρ0 w0 L m ρ a w) (hS : Stg E ops L m) {i : Nat} {o : Oper} (hi : ops.toList[i]? = some o) (hn : ¬ L i) (hdep : ∀ e ∈ o.after.toList, Region.binds .any e = true → L e.on) (hk : kindOf E.tt o.op = 3) :
    Core E ops s nt ρ0 w0 L i ρ a w := by
  have hlt : i < ops.size := by simpa using (List.getElem?_eq_some_iff.1 hi).1
  have hmi := hS.le hD hC.closed hi hn (by omega)
  have hdep' : ∀ o', ops.toList[i]? = some o' → ∀ e ∈ o'.after.toList, Region.binds .any e = true → L e.on := fun o' ho' => by rw [hi] at ho'; cases ho'; exact hdep
  refine Core.absorb hD (Nat.le_of_lt hlt) (i - m) m (by omega) hC (fun j oj h1 h2 hj hw => ?_)
  have hL : 2 ≤ kindOf E.tt oj.op → L j := fun h => (hD.good.act j i oj o hj hi hk h h2).mem hC.closed hdep'
  have h3 := kindOf_le E.tt oj.op
  refine ⟨?_, fun h => hL (by omega)⟩
  rcases Nat.lt_or_ge (kindOf E.tt oj.op) 3 with h | h
  · omega
  · have := hS.2 j oj (hL (by omega)) hj (by omega); omega

theorem draw_step (hG : EnvGood E) (hex : SoundEx E ex) (hD : Drw E ex ops s nt) {fr : Frame} {cs : List Frame} (hC : Core E ops s nt ρ0 w0 L m ρ fr.tmps w) (hS : Stg E ops L m) {i : Nat} {rest : List Nat} {k' : List Item}
    (ht : fr.todo = .inRegion ops (i :: rest) :: k') (hm : fr.mode = .run) {o : Oper} (hi : ops.toList[i]? = some o) (hn : ¬ L i) (hdep : ∀ e ∈ o.after.toList, Region.binds .any e = true → L e.on) :
    ∃ m' ρ' v w', Steps E.P (lone fr cs w) (lone { fr with tmps := putA fr.tmps o.dst v, todo := .inRegion ops rest :: k' } cs w') ∧ Core E ops s nt ρ0 w0 (more L i) m' ρ' (putA fr.tmps o.dst v) w' ∧ Stg E ops (more L i) m' := by
  have hlt : i < ops.size := by simpa using (List.getElem?_eq_some_iff.1 hi).1
  have hi' : ops[i]? = some o := by simpa using hi
  have hwe := wanted_eq' (ops := ops) (a := fr.tmps) (t := (s i).t) (o := o) (fun d hd => hC.slot hD hi hn hdep hd)
  have hev : ∀ x ∈ o.op.operands, VR ρ (fr.eval x) (evA (s i).t x) := fun x hx => hC.eval hD hi hn hdep hx
  have hplain : Plain fr := fun d r s kk e => by rw [ht] at e; cases e
  cases hw : wantedA ops (s i).t o.guard with
  | false =>
    rw [hw] at hwe
    have hs := step_skipped (P := E.P) (w := w) (cs := cs) hm ht hi' hwe
    rw [finish_region ht hi'] at hs
    obtain ⟨c1, c2, c3⟩ := hD.chain.skip i o hi hw
    have hv : VR ρ undef (s i).v := by rw [c1]; exact .undef
    by_cases hk : kindOf E.tt o.op = 3
    · have hCi := hC.upTo hD hS hi hn hdep hk
      have hq := hCi.quiet hD hi hdep (v := undef) (w' := w) (fun h => by rw [hw] at h; cases h) hv (Nat.le_refl _) (fun _ _ => rfl) rfl rfl rfl
      have hq2 := hq.pass hlt c3 (fun ⟨_, _, o', h3, _, h5⟩ => by rw [hi] at h3; cases h3; rw [hw] at h5; cases h5)
      refine ⟨i + 1, ρ, undef, w, .one hs, hq2, .inr ⟨i, o, rfl, .inr rfl, hi, hk⟩, fun q oq hq hoq hkq => ?_⟩
      have hmi := hS.le hD hC.closed hi hn (by omega)
      rcases hq with hq | rfl
      · have := hS.2 q oq hq hoq hkq; omega
      · omega
    · exact ⟨m, ρ, undef, w, .one hs, hC.quiet hD hi hdep (fun h => by rw [hw] at h; cases h) hv (Nat.le_refl _) (fun _ _ => rfl) rfl rfl rfl, hS.keep hi hk⟩
  | true =>
    rw [hw] at hwe
    obtain ⟨c1, c2⟩ := hD.chain.op i o hi hw
    have hstep := step_oper (P := E.P) (w := w) (cs := cs) hm ht hi' hwe (opA_no_defer c1)
    have hk3 := kindOf_le E.tt o.op
    rcases (show kindOf E.tt o.op = 0 ∨ kindOf E.tt o.op = 1 ∨ kindOf E.tt o.op = 2 ∨ kindOf E.tt o.op = 3 by omega) with hk | hk | hk | hk
    · -- pure
      obtain ⟨_, hall⟩ := kind0 hk c1
      have hfresh : ∀ b, (s ops.size).H.next + 1 ≤ b → ρ b = none := fun b hb => by
        cases hq : ρ b with
        | none => rfl
        | some q =>
          have hle := hD.mono hC.le (Nat.le_refl ops.size)
          rcases hC.dom b q hq with h | ⟨j, h, e⟩
          · omega
          · have := hD.mono (i := j) (j := ops.size) (Nat.le_of_lt (hC.lt j h.2.1)) (Nat.le_refl _); omega
      have hr0 : HR E.ng ρ (bare ((s ops.size).H.next + 1)) w := bare_HR w hfresh hC.glob
      obtain ⟨ρ2, v, w2, g1, g2, g3, g4⟩ := op_go hG hex hr0 (ev := fr.eval) (fr := fr) (cs := cs) hev hplain (hall _)
      have hs := g1.steps hstep
      rw [finish_region ht hi'] at hs
      have hρ : ρ2 = ρ := by
        funext b
        cases hq : ρ b with
        | some q => exact g4.le b q hq
        | none =>
          cases hq2 : ρ2 b with
          | none => rfl
          | some q2 =>
            rcases g4.dom b q2 hq2 with h | h
            · rw [hq] at h; cases h
            · rw [g3.fresh b h] at hq2; cases hq2
      rw [hρ] at g2
      exact ⟨m, ρ, v, w2, hs, hC.quiet hD hi hdep (fun _ => by omega) g2 g4.size (fun c hc => g4.keep c hc bare_held) g4.tape g4.os g4.output, hS.keep hi (by omega)⟩
    · -- a reader
      have hst : stageOk E.tt ops.toList (masks ops.toList []) ops.size i m = true := by
        have hdep' : ∀ o', ops.toList[i]? = some o' → ∀ e ∈ o'.after.toList, Region.binds .any e = true → L e.on := fun o' ho' => by rw [hi] at ho'; cases ho'; exact hdep
        have kat : ∀ q, Nat.beq (kindAt E.tt ops.toList q) 3 = true → ∃ oq, ops.toList[q]? = some oq ∧ kindOf E.tt oq.op = 3 := fun q hq => by
          unfold kindAt at hq
          rw [nth_eq] at hq
          cases ho : ops.toList[q]? with
          | none => rw [ho] at hq; simp at hq
          | some oq => rw [ho] at hq; exact ⟨oq, rfl, Nat.eq_of_beq_eq_true hq⟩
        rcases hS.1 with h0 | ⟨p, op', rfl, h1, h2, h3⟩
        · subst h0
          simp only [stageOk, List.all_eq_true, List.mem_range, Bool.not_eq_true', Bool.and_eq_false_iff]
          intro q hq
          cases ha : ahead (masks ops.toList []) q i with
          | false => exact .inr rfl
          | true =>
            refine .inl ?_
            cases hb : Nat.beq (kindAt E.tt ops.toList q) 3 with
            | false => rfl
            | true =>
              obtain ⟨oq, e1, e2⟩ := kat q hb
              have := hS.2 q oq ((ahead_reach ha).mem hC.closed hdep') e1 e2
              omega
        · simp only [stageOk, Bool.and_eq_true, List.all_eq_true, List.mem_range, Bool.not_eq_true', Bool.and_eq_false_iff]
          refine ⟨⟨?_, ?_⟩, fun q hq => ?_⟩
          · unfold kindAt; rw [nth_eq, h2]; simp only; rw [h3]; rfl
          · cases ha : ahead (masks ops.toList []) i p with
            | false => rfl
            | true => exact absurd (hC.closed.reach (ahead_reach ha) h1) hn
          · cases ha : ahead (masks ops.toList []) q i with
            | false => exact .inl (.inr rfl)
            | true =>
              cases hb : Nat.beq (kindAt E.tt ops.toList q) 3 with
              | false => exact .inl (.inl rfl)
              | true =>
                obtain ⟨oq, e1, e2⟩ := kat q hb
                have := hS.2 q oq ((ahead_reach ha).mem hC.closed hdep') e1 e2
                refine .inr ?_
                cases hc : Nat.blt p q with
                | false => rfl
                | true => rw [Nat.blt_eq] at hc; omega
      obtain ⟨H2, hread⟩ := hD.read i m o hi hw hk hC.le hst
      have hfresh : ∀ b, (s ops.size).H.next + 1 ≤ b → ρ b = none := fun b hb => by
        cases hq : ρ b with
        | none => rfl
        | some q =>
          have hle := hD.mono hC.le (Nat.le_refl ops.size)
          rcases hC.dom b q hq with h | ⟨j, h, e⟩
          · omega
          · have := hD.mono (i := j) (j := ops.size) (Nat.le_of_lt (hC.lt j h.2.1)) (Nat.le_refl _); omega
      have hr0 := hC.hr.wider (cut_le ρ _) hfresh
      obtain ⟨v, g1, g2⟩ := read_go hG hr0 hev hk ((kind1 hk hread).2 _)
      have hs := (App.value (fr := fr) (cs := cs) g1).steps hstep
      rw [finish_region ht hi'] at hs
      exact ⟨m, ρ, v, w, hs, hC.quiet hD hi hdep (fun _ => by omega) g2 (Nat.le_refl _) (fun _ _ => rfl) rfl rfl rfl, hS.keep hi (by omega)⟩
    · -- a maker
      obtain ⟨cells, f, e1, e2, e3, _⟩ := kind2 hk c1
      have hmi := hS.le hD hC.closed hi hn (by omega)
      have hbl := hD.act i o hi hw (by omega)
      have hev2 : ∀ x ∈ o.op.operands, VR (cut ρ (s i).H.next) (fr.eval x) (evA (s i).t x) := fun x hx => (hev x hx).cut (evs_mem hbl x (by simpa using hx))
      have hglob : ∀ g, g < E.ng → ∃ z, cut ρ (s i).H.next g = some ⟨g, 0, z, 0⟩ := fun g hg => by
        obtain ⟨z, hz⟩ := hC.hr.glob g hg
        exact ⟨z, cut_mono (hD.mono hmi (Nat.le_of_lt hlt)) _ _ hz⟩
      have hr0 : HR E.ng (cut ρ (s i).H.next) (bare (s i).H.next) w := bare_HR w (fun b hb => by unfold cut; rw [if_neg (by omega)]) hglob
      obtain ⟨ρ2, v, w2, g1, g2, g3, g4⟩ := op_go hG hex hr0 (ev := fr.eval) (fr := fr) (cs := cs) hev2 hplain (e3 _)
      have hs := g1.steps hstep
      rw [finish_region ht hi'] at hs
      rw [bare_next, ← e1] at g2
      obtain ⟨ρ', _, hC'⟩ := hC.make hD hi hn hmi hdep hk hw e2 g2 g3 g4
      exact ⟨m, ρ', v, w2, hs, hC', hS.keep hi (by omega)⟩
    · -- an active one
      have hCi := hC.upTo hD hS hi hn hdep hk
      have hbl := hD.act i o hi hw (by omega)
      have hev2 : ∀ x ∈ o.op.operands, VR (cut ρ (s i).H.next) (fr.eval x) (evA (s i).t x) := fun x hx => (hev x hx).cut (evs_mem hbl x (by simpa using hx))
      obtain ⟨ρ2, v, w2, g1, g2, g3, g4⟩ := op_go hG hex hCi.hr (ev := fr.eval) (fr := fr) (cs := cs) hev2 hplain c1
      have hs := g1.steps hstep
      rw [finish_region ht hi'] at hs
      obtain ⟨ρ', _, hC'⟩ := hCi.act hD hi hdep (by omega) g2 g3 g4
      refine ⟨i + 1, ρ', v, w2, hs, hC', .inr ⟨i, o, rfl, .inr rfl, hi, hk⟩, fun q oq hq hoq hkq => ?_⟩
      have hmi := hS.le hD hC.closed hi hn (by omega)
      rcases hq with hq | rfl
      · have := hS.2 q oq hq hoq hkq; omega
      · omega
end Ex
end
section
namespace Ex
open Go
variable {E : Env} {ρ ρ' : Rho} {H H' : Heap} {w w' : World} {ex : Ex}
variable {ops : Array Oper} {s : Nat → St} {nt : Nat} {ρ0 : Rho} {w0 : World}

def Lof (listed : Array Bool) : Nat → Prop := fun j => listed.getD j false = true
theorem Lof_set {listed : Array Bool} {i : Nat} (hi : i < listed.size) : Lof (listed.setIfInBounds i true) = more (Lof listed) i := by
  funext j
  apply propext
  unfold Lof more
  by_cases e : i = j
  · subst e; simp [hi]
  · rw [getD_set_ne false e]
    simp only [Ne.symm (a := i) e, or_false]

/-- when none is ready all are listed -/
theorem all_listed {md : Region.Mode} (hg : Good E.tt ops ops.toList) {listed : Array Bool} (hs : listed.size = ops.size) (hr : Region.ready md ops listed = []) : ∀ j, j < ops.size → Lof listed j := by
  intro j hj
  refine hg.top md (Lof listed) (fun i o hi hdep => ?_) j (by simpa using hj)
  have hlt : i < ops.size := by simpa using (List.getElem?_eq_some_iff.1 hi).1
  cases hb : listed.getD i false with
  | true => exact hb
  | false =>
    have hbt : listed.getD i true = false := by
      rw [Array.getD_eq_getD_getElem?] at hb ⊢
      rw [Array.getElem?_eq_getElem (by omega)] at hb ⊢
      exact hb
    have hm : i ∈ Region.ready md ops listed := by
      rw [mem_ready]
      exact ⟨hbt, o, by simpa using hi, fun e he hbn => hdep e (by simpa using he) hbn⟩
    rw [hr] at hm; cases hm

theorem draw_loop (hG : EnvGood E) (hex : SoundEx E ex) (hD : Drw E ex ops s nt) {md : Region.Mode} {cs : List Frame} {k' : List Item} : ∀ (fuel t : Nat) (listed : Array Bool) (U : List Nat) (m : Nat) (ρ : Rho) (w : World) (fr : Frame), listed.size = ops.size →
    (∀ j, j < ops.size → ¬ Lof listed j → j ∈ U) → U.length ≤ fuel → Core E ops s nt ρ0 w0 (Lof listed) m ρ fr.tmps w → Stg E ops (Lof listed) m → fr.mode = .run → fr.todo = .inRegion ops (Region.linearise.go md ops fuel t listed []) :: k' →
    ∃ m' ρ' a' w' L, (∀ j, j < ops.size → L j) ∧ Steps E.P (lone fr cs w) (lone { fr with tmps := a', todo := .inRegion ops [] :: k' } cs w') ∧ Core E ops s nt ρ0 w0 L m' ρ' a' w' ∧ Stg E ops L m'
  | 0, t, listed, U, m, ρ, w, fr, hsz, hU, hf, hC, hS, hm, ht => by
    refine ⟨m, ρ, fr.tmps, w, Lof listed, fun j hj => ?_, ?_, hC, hS⟩
    · by_cases h : Lof listed j
      · exact h
      · have hmem := hU j hj h
        have : U = [] := by simpa using hf
        rw [this] at hmem; cases hmem
    · have : fr = { fr with tmps := fr.tmps, todo := .inRegion ops [] :: k' } := by
        have ht : fr.todo = .inRegion ops [] :: k' := by simpa [Region.linearise.go] using ht
        rw [← ht]
      rw [← this]; exact Steps.refl _ _
  | fuel + 1, t, listed, U, m, ρ, w, fr, hsz, hU, hf, hC, hS, hm, ht => by
    simp only [Region.linearise.go] at ht
    have ht : fr.todo = .inRegion ops (match (Region.ready md ops listed)[t % (Region.ready md ops listed).length]? with
      | some i => Region.linearise.go md ops fuel (t / (Region.ready md ops listed).length) (listed.setIfInBounds i true) [i]
      | none => [].reverse) :: k' := ht
    cases hi : (Region.ready md ops listed)[t % (Region.ready md ops listed).length]? with
    | none =>
      have hnil : Region.ready md ops listed = [] := by
        cases hr : Region.ready md ops listed with
        | nil => rfl
        | cons x xs =>
          rw [hr] at hi
          have hlt : t % (x :: xs).length < (x :: xs).length := Nat.mod_lt _ (by simp)
          simp at hi
          simp at hlt
          omega
      rw [hi] at ht
      refine ⟨m, ρ, fr.tmps, w, Lof listed, all_listed hD.good hsz hnil, ?_, hC, hS⟩
      have : fr = { fr with tmps := fr.tmps, todo := .inRegion ops [] :: k' } := by
        have ht : fr.todo = .inRegion ops [] :: k' := by simpa using ht
        rw [← ht]
      rw [← this]; exact Steps.refl _ _
    | some i =>
      rw [hi] at ht
      simp only [] at ht
      rw [linearise_go_acc, List.reverse_singleton, List.singleton_append] at ht
      have hmem := List.mem_of_getElem? hi
      rw [mem_ready] at hmem
      obtain ⟨hl, o, ho, hdep⟩ := hmem
      have hlt : i < ops.size := (Array.getElem?_eq_some_iff.1 ho).1
      have hn : ¬ Lof listed i := by
        unfold Lof
        rw [Array.getD_eq_getD_getElem?] at hl ⊢
        rw [Array.getElem?_eq_getElem (by omega)] at hl ⊢
        simp at hl ⊢
        exact hl
      obtain ⟨m', ρ', v, w', g1, g2, g3⟩ := draw_step hG hex hD (cs := cs) hC hS ht hm (by simpa using ho) hn (fun e he hb => hdep e (by simpa using he) (binds_any md hb))
      rw [← Lof_set (by omega)] at g2 g3
      have hiU := hU i hlt hn
      obtain ⟨m2, ρ2, a2, w2, L2, k1, k2, k3, k4⟩ := draw_loop hG hex hD (cs := cs) (k' := k') fuel _ (listed.setIfInBounds i true) (U.erase i) m' ρ' w' { fr with tmps := putA fr.tmps o.dst v, todo := .inRegion ops (Region.linearise.go md ops fuel (t / (Region.ready md ops listed).length) (listed.setIfInBounds i true) []) :: k' } (by simpa using hsz)
        (fun j hj hnj => by
          have hne : j ≠ i := fun e => by
            subst e
            rw [Lof_set (by omega)] at hnj
            exact hnj (.inr rfl)
          have : ¬ Lof listed j := fun h => by rw [Lof_set (by omega)] at hnj; exact hnj (.inl h)
          exact (List.mem_erase_of_ne hne).2 (hU j hj this))
        (by rw [List.length_erase_of_mem hiU]; omega) g2 g3 hm rfl
      exact ⟨m2, ρ2, a2, w2, L2, k1, Steps.trans g1 k2, k3, k4⟩

theorem step_draw {P : Program} {fr : Frame} {cs : List Frame} {id : Nat} {k' : List Item} (hm : fr.mode = .run) (ht : fr.todo = .code (.region id ops true) :: k') :
    Go.step P (lone fr cs w) = .next (lone { fr with todo := .inRegion ops (Region.schedule (P.follows .mixedOrders) ops (w.tape w.drawn (.order fr.fn id))) :: k' } cs { w with drawn := w.drawn + 1 }) :=
  step_lone_go (by simp [stepG, stepG.exec, hm, ht, choose, Sem.run, Question.forced, Question.cut])

theorem nextsOk_spec : ∀ {tr : List St}, nextsOk tr = true → ∀ i, i + 1 < tr.length → (stOf tr i).H.next ≤ (stOf tr (i + 1)).H.next
  | [], _, i, hi => by simp at hi
  | [x], _, i, hi => by simp at hi
  | x :: y :: l, h, i, hi => by
    have h : (Nat.ble x.H.next y.H.next && nextsOk (y :: l)) = true := h
    simp only [Bool.and_eq_true] at h
    cases i with
    | zero => have := Nat.le_of_ble_eq_true h.1; simpa [stOf] using this
    | succ i =>
      have := nextsOk_spec h.2 i (by simpa using hi)
      simpa [stOf] using this

theorem stOf_nth {tr : List St} {i : Nat} {x : St} (h : nth tr i = some x) : stOf tr i = x := by
  rw [nth_eq] at h; unfold stOf; rw [h]; rfl

theorem draw_ok (hG : EnvGood E) (hex : SoundEx E ex) : DrawOk E ex := by
  intro ops nt t t' H H' hdo hok ρ fr w cs id k' ht hm htr h
  unfold drawOps at hdo
  cases hst : okDraw E.tt ops (masks ops.toList []) with
  | false => rw [hst] at hdo; cases hdo
  | true =>
    rw [hst] at hdo
    simp only at hdo
    cases htrc : traceOps E ex ops ops.toList t H with
    | bad => rw [htrc] at hdo; cases hdo
    | ok tr =>
      rw [htrc] at hdo
      simp only [drawTr] at hdo
      cases hck : (drawChk E ex ops ops.toList (masks ops.toList []) ops.toList.length tr && nextsOk tr) with
      | false => rw [hck] at hdo; cases hdo
      | true =>
        rw [hck] at hdo
        simp only [lastSt] at hdo
        simp only [Bool.and_eq_true] at hck
        obtain ⟨hck, hnx⟩ := hck
        obtain ⟨hlen, h0t, h0H, hch⟩ := trace_chain ops.toList t H tr htrc
        cases hlast : nth tr ops.toList.length with
        | none => rw [hlast] at hdo; cases hdo
        | some x =>
          rw [hlast] at hdo
          cases hdo
          have hx := stOf_nth hlast
          have hsize : ops.toList.length = ops.size := by simp
          have one : ∀ (i : Nat) (o : Oper), ops.toList[i]? = some o → drawOne E ex ops ops.toList (masks ops.toList []) ops.toList.length tr i o (stOf tr i) = true := by
            intro i o hi
            have hlt := (List.getElem?_eq_some_iff.1 hi).1
            unfold drawChk at hck
            have h1 := List.all_eq_true.1 hck i (List.mem_range.2 hlt)
            rw [nth_eq, hi] at h1
            simp only at h1
            cases hy : nth tr i with
            | none => rw [hy] at h1; cases h1
            | some y => rw [hy] at h1; rw [stOf_nth hy]; exact h1
          have hD : Drw E ex ops (stOf tr) nt := by
            refine ⟨good_of hst, hch, hok, fun d hd => by rw [h0t]; exact htr.has d hd, fun i hi => nextsOk_spec hnx i (by rw [hlen]; omega), ?_, ?_⟩
            · intro i m o hi hw hk hm hs
              have h1 := one i o hi
              unfold drawOne at h1
              rw [hw, hk] at h1
              simp only [readOk] at h1
              have h2 := List.all_eq_true.1 h1 m (List.mem_range.2 (by omega))
              rw [hsize, hs] at h2
              simp only [Bool.not_true, Bool.false_or] at h2
              cases hy : nth tr m with
              | none => rw [hy] at h2; cases h2
              | some y =>
                rw [hy] at h2
                rw [stOf_nth hy]
                simp only at h2
                cases hop : opA E ex y.H (stOf tr i).t o with
                | bad => rw [hop] at h2; cases h2
                | ok u H2 =>
                  rw [hop] at h2
                  have := veq_eq h2
                  exact ⟨H2, by rw [this]⟩
            · intro i o hi hw hk
              have h1 := one i o hi
              unfold drawOne at h1
              rw [hw] at h1
              simp only at h1
              have h2 : actOk o (stOf tr i) = true := by
                have := kindOf_le E.tt o.op
                rcases (show kindOf E.tt o.op = 2 ∨ kindOf E.tt o.op = 3 by omega) with h | h <;> rw [h] at h1 <;> exact h1
              unfold actOk at h2
              generalize hg : (stOf tr i).H = HH at h2
              cases HH with
              | mk o n => exact h2
          have hs1 := step_draw (P := E.P) (w := w) (cs := cs) hm ht
          obtain ⟨md, u, hsch⟩ : ∃ md u, Region.schedule (E.P.follows .mixedOrders) ops (w.tape w.drawn (.order fr.fn id)) = Region.linearise.go md ops ops.size u (Array.replicate ops.size false) [] := by
            unfold Region.schedule
            split
            · exact ⟨_, _, rfl⟩
            · exact ⟨_, _, rfl⟩
          rw [hsch] at hs1
          have hnone : ∀ j, ¬ Lof (Array.replicate ops.size false) j := fun j hj => by
            unfold Lof at hj
            rw [Array.getD_eq_getD_getElem?] at hj
            by_cases hlt : j < ops.size <;> simp [Array.getElem?_replicate, hlt] at hj
          have hcut : cut ρ (stOf tr 0).H.next = ρ := by
            funext b
            unfold cut
            split
            · rfl
            · rename_i hb; rw [h0H] at hb; exact (h.fresh b (by omega)).symm
          have hC0 : Core E ops (stOf tr) nt ρ w (Lof (Array.replicate ops.size false)) 0 ρ fr.tmps { w with drawn := w.drawn + 1 } := by
            refine ⟨fun j hj => absurd hj (hnone j), fun j _ hj => absurd hj (hnone j), Nat.zero_le _, ?_, ?_, fun j hj => absurd hj.2.1 (hnone j), fun j _ _ _ hj => absurd hj.2.1 (hnone j), htr.size, fun j _ _ hj => absurd hj (hnone j), fun d _ => ?_, ?_⟩
            · rw [hcut, h0H]; exact h.world rfl
            · intro b p hb
              rw [h0H]
              rcases Nat.lt_or_ge b H.next with hlt | hge
              · exact .inl hlt
              · rw [h.fresh b hge] at hb; cases hb
            · rw [h0t]; exact htr.rel d
            · rw [hcut]
              exact (Ext.refl ρ (stOf tr 0).H w).grow (Nat.le_refl _) (fun _ _ => rfl) rfl rfl rfl
          have hS0 : Stg E ops (Lof (Array.replicate ops.size false)) 0 := ⟨.inl rfl, fun q _ hq => absurd hq (hnone q)⟩
          obtain ⟨m', ρ', a', w', L, k1, k2, k3, k4⟩ := draw_loop hG hex hD (cs := cs) (k' := k') ops.size u (Array.replicate ops.size false) (List.range ops.size) 0 ρ { w with drawn := w.drawn + 1 }
            { fr with todo := .inRegion ops (Region.linearise.go md ops ops.size u (Array.replicate ops.size false) []) :: k' } (by simp) (fun j hj _ => List.mem_range.2 hj) (by simp) hC0 hS0 hm rfl
          have hCn := Core.absorb hD (Nat.le_refl ops.size) (ops.size - m') m' (by have := k3.le; omega) k3 (fun j o h1 h2 hj hw => by
            have hk := kindOf_le E.tt o.op
            have hL := k1 j h2
            refine ⟨?_, fun _ => hL⟩
            rcases Nat.lt_or_ge (kindOf E.tt o.op) 3 with h | h
            · omega
            · have := k4.2 j o hL hj (by omega); omega)
          have hρ : cut ρ' (stOf tr ops.size).H.next = ρ' := by
            funext b
            unfold cut
            split
            · rfl
            · rename_i hb
              cases hq : ρ' b with
              | none => rfl
              | some q =>
                rcases hCn.dom b q hq with h | ⟨j, h, _⟩
                · omega
                · have := hCn.lt j h.2.1; have := h.1; omega
          have hfin := hCn.hr
          have hext := hCn.ext
          rw [hρ] at hfin hext
          rw [← hsize, hx] at hfin hext
          rw [h0H] at hext
          refine ⟨ρ', a', w', Steps.trans (.one hs1) (Steps.trans k2 (.one (step_lone_go ?_))), ⟨hCn.size, fun d => ?_, fun d hd => ?_⟩, hfin, hext⟩
          · simp [stepG, stepG.exec, hm]
          · rw [← hx]
            by_cases hwr : ∃ (j : Nat) (o : Oper), ops.toList[j]? = some o ∧ o.dst = some d
            · obtain ⟨j, o, hj, hd⟩ := hwr
              have hlt := (List.getElem?_eq_some_iff.1 hj).1
              rw [chain_some hch hD.good hD.has hj hd (hD.dst_lt hj hd) ops.toList.length (Nat.le_refl _) hlt]
              exact hCn.done j o d (k1 j (by omega)) hj hd
            · rw [chain_none hch ops.toList.length (Nat.le_refl _) (fun j o _ h2 hd2 => hwr ⟨j, o, h2, hd2⟩)]
              exact hCn.old d (fun j o _ h2 hd2 => hwr ⟨j, o, h2, hd2⟩)
          · rw [← hx, chain_has hch d ops.toList.length (Nat.le_refl _), h0t]; exact htr.has d hd

theorem run_sound (hG : EnvGood E) : ∀ n, SoundEx E (run E n)
  | 0 => fun _ _ _ _ _ _ _ h => by cases h
  | n + 1 => step_go hG (run_sound hG n) (draw_ok hG (run_sound hG n))
end Ex
end
section
namespace Ex
open Go
variable {E : Env} {ρ ρ' : Rho} {H H' : Heap} {w w' : World} {ex : Ex}

/-- what a call leaves behind, by what stands for it -/
def Left (E : Env) (ρ : Rho) (H : Heap) (w : World) (v' : Value) (H' : Heap) (e : Ending) (w' : World) : Prop :=
  ∃ ρ' v, e = .returned v ∧ VR ρ' v v' ∧ HR E.ng ρ' H' w' ∧ Ext ρ H w ρ' H' w'

theorem callFn_sound (hG : EnvGood E) (hex : SoundEx E ex) {f : FuncId} {args args' : List Value} {v' : Value} (hb : ∃ fn c, E.ft.get none f = some fn ∧ fn.body = some c) (hc : callFn E ex H f args' (E.ft.get none f) = .ok v' H')
    (h : HR E.ng ρ H w) (ha : LR ρ args args') : Calls E.P f ⟨args⟩ w (Left E ρ H w v' H') := by
  intro cs
  obtain ⟨fn, c, hfn, hb⟩ := hb
  simp only [callFn, hfn] at hc
  have hpf := hG.ft f fn hfn
  rw [hb] at hc
  simp only [enterA] at hc
  cases hle : Nat.ble args'.length fn.ntmps with
  | false => rw [hle] at hc; cases hc
  | true =>
    rw [hle] at hc
    have hle := Nat.le_of_ble_eq_true hle
    simp only at hc
    rw [← ha.1] at hle
    have hent : Frame.enter E.P f ⟨args⟩ .normal = { fn := f, tmps := (⟨args⟩ : Array Value) ++ Array.replicate (fn.ntmps - args.length) undef, todo := [.code c], defers := [], mode := .run, kind := .normal } := by
      simp [Frame.enter, hpf, hb]
    have hfr : FrR ρ ⟨f, fn.ntmps, none⟩ [] [.code c] (setArgs (Tr.full Undef (depthOf fn.ntmps)) 0 args') (Frame.enter E.P f ⟨args⟩ .normal) := by
      rw [hent]
      exact ⟨rfl, rfl, rfl, enter_TR hle ha, .code c .nil, .nil, rfl⟩
    obtain ⟨ρ', v, w', g1, g2⟩ := hex _ _ _ _ _ _ _ hc ρ _ w cs hfr h
    obtain ⟨fr', s1, s2, s3⟩ := g1.1 (by rw [hent])
    refine ⟨.returned v, w', fr', ⟨ρ', v, rfl, g2⟩, s1, ?_, s3⟩
    rw [s2, hent]
theorem call_sound (hG : EnvGood E) (hex : SoundEx E ex) {f : FuncId} {args args' : List Value} {v' : Value} (hb : ∃ fn c, E.ft.get none f = some fn ∧ fn.body = some c) (hc : callA E ex H f args' = .ok v' H')
    (h : HR E.ng ρ H w) (ha : LR ρ args args') : Calls E.P f ⟨args⟩ w (Left E ρ H w v' H') := by
  unfold callA at hc
  cases ho : E.ovr f with
  | some g =>
    rw [ho] at hc
    cases hg : g H args' with
    | bad => exact callFn_sound hG hex hb (by simp only [hg] at hc; exact hc) h ha
    | ok u H1 =>
      have hc : Out.ok u H1 = .ok v' H' := by simp only [hg] at hc; exact hc
      rw [hc] at hg
      obtain ⟨_, h2⟩ := hG.ovr f g ho args args' ρ H w v' H' h ha hg
      intro cs
      obtain ⟨ρ', v, w', fr', g1, g2, g3, g4⟩ := h2 cs
      exact ⟨.returned v, w', fr', ⟨ρ', v, rfl, g4⟩, g1, g2, g3⟩
  | none =>
    rw [ho] at hc
    exact callFn_sound hG hex hb hc h ha

/-- a call that starts from nothing -/
def Fresh (w w' : World) : Prop := w'.os = w.os ∧ w'.output = w.output ∧ w'.tape = w.tape ∧ w.heap.size ≤ w'.heap.size ∧ ∀ c, c < w.heap.size → w'.heap[c]? = w.heap[c]?
theorem Fresh.refl (w : World) : Fresh w w := ⟨rfl, rfl, rfl, Nat.le_refl _, fun _ _ => rfl⟩
theorem Fresh.trans {w1 w2 w3 : World} (h : Fresh w1 w2) (h' : Fresh w2 w3) : Fresh w1 w3 :=
  ⟨h'.1.trans h.1, h'.2.1.trans h.2.1, h'.2.2.1.trans h.2.2.1, Nat.le_trans h.2.2.2.1 h'.2.2.2.1, fun c hc => (h'.2.2.2.2 c (Nat.lt_of_lt_of_le hc h.2.2.2.1)).trans (h.2.2.2.2 c hc)⟩

theorem Fresh.kept {w w' : World} (h : Fresh w w') (may : MemPlace → Prop) : w.keptBut w' may := by
  refine ⟨h.1, h.2.1, fun i hi => ?_⟩
  rw [h.2.2.2.2 i hi]
  cases w.heap[i]? with
  | none => rfl
  | some o =>
    cases o <;> first
      | rfl
      | exact ⟨rfl, rfl, rfl, fun _ _ => rfl⟩
      | exact .inr ⟨rfl, rfl⟩
theorem Fresh.frozen {w w' : World} (h : Fresh w w') (a : Addr) (ha : a.block < w.heap.size) : w'.frozen? a = w.frozen? a := by
  simp only [World.frozen?, h.2.2.2.2 _ ha]

/-- an empty heap with room for 2^d things -/
def wide (d n : Nat) : Heap := .mk (Tr.full .none d) n
theorem wide_get (d n b : Nat) : (wide d n).get b = .none := by
  show Tr.get AObj.none (Tr.full AObj.none d) b = AObj.none
  exact Tr.get_full _ _ _
theorem wide_HR {ng d n : Nat} (w : World) (hf : ∀ b, n ≤ b → ρ b = none) (hg : ∀ g, g < ng → ∃ z, ρ g = some ⟨g, 0, z, 0⟩) : HR ng ρ (wide d n) w where
  obj b := by rw [wide_get]; trivial
  inj b _ _ _ h := absurd (wide_get d n b) h
  fresh := hf
  glob := hg
theorem wide_held {d n c : Nat} (h : Held ρ (wide d n) c) : False := by
  obtain ⟨b, _, h1, _⟩ := h
  exact h1 (wide_get d n b)

/-- a closed call, seen from nothing -/
theorem closed_sound (hG : EnvGood E) {n d : Nat} {f : FuncId} {v' : Value} (hb : ∃ fn c, E.ft.get none f = some fn ∧ fn.body = some c) (hf : free v' = true) (hc : callA E (run E n) (wide d E.ng) f [] = .ok v' H') (w : World) :
    Calls E.P f #[] w fun e w' => e = .returned v' ∧ Fresh w w' := by
  let ρ0 : Rho := fun g => if g < E.ng then some ⟨g, 0, 0, 0⟩ else none
  have h0 : HR E.ng ρ0 (wide d E.ng) w := wide_HR w (fun b hb => if_neg (by omega)) (fun g hg => ⟨0, if_pos hg⟩)
  refine (call_sound hG (run_sound hG n) hb hc h0 (LR.nil ρ0)).mono fun e w' ⟨ρ', v, he, hv, _, hx⟩ => ?_
  rw [free_eq hv hf] at he
  exact ⟨he, hx.os, hx.output, hx.tape, hx.size, fun c hc => hx.keep c hc wide_held⟩
/-- the executor's tables, made of the program's own -/
noncomputable def envOf (P : Program) (n m ng : Nat) (ext : FuncId → ExtK) (ovr : FuncId → Option (Heap → List Value → Out)) : Env := { P := P, tt := Tr.ofList n P.types.toList, ft := Tr.ofList m P.funcs.toList, ng := ng, ext := ext, ovr := ovr }
theorem envOf_ft {P : Program} {m : Nat} {f : FuncId} {fn : Func} (h : (Tr.ofList m P.funcs.toList).get none f = some fn) : P.funcs[f]? = some fn := by
  have := Tr.get_ofList _ _ _ _ h
  rwa [Array.getElem?_toList] at this
theorem envOf_ok (P : Program) (n m ng : Nat) (ext : FuncId → ExtK) (ovr : FuncId → Option (Heap → List Value → Out)) : EnvOk (envOf P n m ng ext ovr) where
  tt t i h := by
    have := Tr.get_ofList n P.types.toList t i h
    rw [Array.getElem?_toList] at this
    show P.info? t = some i
    unfold Tables.info?
    rw [if_pos (Array.getElem?_eq_some_iff.1 this).1]
    exact this
  ft f fn h := envOf_ft h
theorem envOf_nog {P : Program} {m : Nat} (hn : (P.funcs.toList.all fun fn => (fn.name == "runtime.NumGoroutine") == false) = true) (f : FuncId) (fn : Func) (h : (Tr.ofList m P.funcs.toList).get none f = some fn) : (fn.name == "runtime.NumGoroutine") = false := by
  have h1 := envOf_ft h
  have h2 := List.all_eq_true.1 hn fn (by
    have h3 : P.funcs.toList[f]? = some fn := by rw [Array.getElem?_toList]; exact h1
    exact List.mem_of_getElem? h3)
  simpa using h2
end Ex
end
