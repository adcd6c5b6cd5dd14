/- A verified executor for closed Go calls, part of it: its lemmas carry no condition. -/
import Derived.Orders
import Derived.Test.YtacchpkmjgdebaaGreatExT
set_option linter.unusedVariables false
set_option linter.unusedSimpArgs false
namespace Ex
open Go
variable {E : Env} {ρ ρ' : Rho} {H H' : Heap} {w w' : World} {ex : Ex}

/-! equal values -/
mutual
theorem veq_eq : ∀ {a b : Value}, veq a b = true → a = b
  | .bool a, .bool b, h => by simp [veq] at h; rw [h]
  | .int k a, .int k' b, h => by simp [veq] at h; rw [h.1, h.2]
  | .string ⟨⟨a⟩⟩, .string ⟨⟨b⟩⟩, h => by simp [veq] at h; rw [h]
  | .pointer none, .pointer none, _ => rfl
  | .pointer (some ⟨a, b, none⟩), .pointer (some ⟨c, d, none⟩), h => by simp [veq] at h; rw [h.1, h.2]
  | .map none, .map none, _ => rfl
  | .map (some a), .map (some b), h => by simp [veq] at h; rw [h]
  | .slice none a b, .slice none c d, h => by simp [veq] at h; rw [h.1, h.2]
  | .slice (some ⟨a, b, none⟩) x y, .slice (some ⟨c, d, none⟩) x' y', h => by simp [veq] at h; obtain ⟨⟨⟨h1, h2⟩, h3⟩, h4⟩ := h; rw [h1, h2, h3, h4]
  | .func f ⟨a⟩ ⟨b⟩, .func f' ⟨a'⟩ ⟨b'⟩, h => by
    simp only [veq, Bool.and_eq_true, decide_eq_true_eq] at h
    rw [h.1.1, veqL_eq h.1.2, veqL_eq h.2]
  | .nilFunc, .nilFunc, _ => rfl
  | .iface t v, .iface t' v', h => by
    simp only [veq, Bool.and_eq_true] at h
    rw [Nat.eq_of_beq_eq_true h.1, veq_eq h.2]
  | .nilIface, .nilIface, _ => rfl
  | .agg ⟨a⟩, .agg ⟨b⟩, h => by simp only [veq] at h; rw [veqL_eq h]
  | .tuple ⟨a⟩, .tuple ⟨b⟩, h => by simp only [veq] at h; rw [veqL_eq h]
theorem veqL_eq : ∀ {a b : List Value}, veqL a b = true → a = b
  | [], [], _ => rfl
  | a :: x, b :: y, h => by
    simp only [veqL, Bool.and_eq_true] at h
    rw [veq_eq h.1, veqL_eq h.2]
end

/-! places below a bound -/
def cut (ρ : Rho) (n : Nat) : Rho := fun b => if b < n then ρ b else none
theorem cut_lt {n b : Nat} (h : b < n) : cut ρ n b = ρ b := by simp [cut, h]
theorem cut_le (ρ : Rho) (n : Nat) : (cut ρ n).le ρ := fun b x h => by
  unfold cut at h
  split at h
  · exact h
  · cases h
theorem cut_mono {n m : Nat} (h : n ≤ m) : (cut ρ n).le (cut ρ m) := fun b x hx => by
  unfold cut at hx ⊢
  split at hx
  · rw [if_pos (by omega)]; exact hx
  · cases hx

theorem FnR.cut {f f' : Fn} {n : Nat} (h : FnR ρ f f') (hb : ∀ l, f' = .yield l → Nat.blt l n = true) : FnR (Ex.cut ρ n) f f' := by
  cases h with
  | func f => exact .func f
  | yield h => exact .yield (by rw [cut_lt (by simpa [Nat.blt_eq] using hb _ rfl)]; exact h)

mutual
theorem VR.cut {n : Nat} : ∀ {v v' : Value}, VR ρ v v' → Ex.below n v' = true → VR (Ex.cut ρ n) v v'
  | _, _, .bool b, _ => .bool b
  | _, _, .int k m, _ => .int k m
  | _, _, .float k m, _ => .float k m
  | _, _, .complex k a b, _ => .complex k a b
  | _, _, .string s, _ => .string s
  | _, _, .pnil, _ => .pnil
  | _, _, .mnil, _ => .mnil
  | _, _, .cnil, _ => .cnil
  | _, _, .mp h, hb => .mp (by rw [cut_lt (by simpa [Ex.below, Nat.blt_eq] using hb)]; exact h)
  | _, _, .snil, _ => .snil
  | _, _, .nilFunc, _ => .nilFunc
  | _, _, .nilIface, _ => .nilIface
  | _, _, .ptr h, hb => .ptr (by rw [cut_lt (by simpa [Ex.below, Nat.blt_eq] using hb)]; exact h)
  | _, _, .slice h hc h0 hk, hb => .slice (by rw [cut_lt (by simpa [Ex.below, Nat.blt_eq] using hb)]; exact h) hc h0 hk
  | _, _, .sempty a h hk, hb => .sempty a (by rw [cut_lt (by simpa [Ex.below, Nat.blt_eq] using hb)]; exact h) hk
  | _, _, .func x x' y y' hf hx h hy h', hb => by
    simp only [Ex.below, Bool.and_eq_true] at hb
    exact .func x x' y y' (hf.cut (fun l e => by have := hb.1.1; rw [e] at this; exact this)) hx (VR.cutL h hx hb.1.2) hy (VR.cutL h' hy hb.2)
  | _, _, .iface t h, hb => .iface t (VR.cut h (by simpa [Ex.below] using hb))
  | _, _, .agg x x' hx h, hb => .agg x x' hx (VR.cutL h hx (by simpa [Ex.below] using hb))
  | _, _, .tuple x x' hx h, hb => .tuple x x' hx (VR.cutL h hx (by simpa [Ex.below] using hb))
theorem VR.cutL {n : Nat} : ∀ {x x' : List Value}, (∀ (i : Nat) u v, x[i]? = some u → x'[i]? = some v → VR ρ u v) → x.length = x'.length → Ex.belowL n x' = true → ∀ (i : Nat) u v, x[i]? = some u → x'[i]? = some v → VR (Ex.cut ρ n) u v
  | [], _, _, _, _, i, u, v, a, _ => by simp at a
  | _ :: _, [], _, hl, _, _, _, _, _, _ => by simp at hl
  | x :: l, x' :: l', h, hl, hb, i, u, v, a, b => by
    simp only [Ex.belowL, Bool.and_eq_true] at hb
    cases i with
    | zero =>
      simp at a b; subst a; subst b
      exact VR.cut (h 0 x x' rfl rfl) hb.1
    | succ i => exact VR.cutL (fun i u w a b => h (i + 1) u w (by simpa using a) (by simpa using b)) (by simpa using hl) hb.2 i u v (by simpa using a) (by simpa using b)
end

theorem evs_mem {t : Tr Value} {n : Nat} : ∀ {l : List Operand}, belowL n (evs t l) = true → ∀ x ∈ l, below n (evA t x) = true
  | [], _, _, hx => by cases hx
  | y :: l, h, x, hx => by
    simp only [evs, belowL, Bool.and_eq_true] at h
    rcases List.mem_cons.1 hx with rfl | hx
    · exact h.1
    · exact evs_mem h.2 x hx

/-! an operation's outcome hangs on its operands alone -/
theorem mem_tmpOf : ∀ {l : List Operand} {d : Tmp}, Operand.tmp d ∈ l → d ∈ tmpOf l
  | [], _, h => by cases h
  | x :: l, d, h => by
    rcases List.mem_cons.1 h with e | h
    · subst e; simp [tmpOf]
    · have := mem_tmpOf h
      cases x <;> simp [tmpOf, this]
theorem evs_congr {t t' : Tr Value} : ∀ {l : List Operand}, (∀ x ∈ l, evA t x = evA t' x) → evs t l = evs t' l
  | [], _ => rfl
  | x :: l, h => by simp only [evs]; rw [h x (by simp), evs_congr (fun y hy => h y (by simp [hy]))]

/-! pure operations and readers: no memory is changed; the memory matters for readers alone -/
def bump (H : Heap) (n : Nat) : Heap := match H with | .mk o _ => .mk o n
theorem bump_get (H : Heap) (n b : Nat) : (bump H n).get b = H.get b := by cases H; rfl
theorem bump_next (H : Heap) (n : Nat) : (bump H n).next = n := by cases H; rfl

theorem oval_pure {o : Option Value} {v : Value} {H' : Heap} (h : oval H o = .ok v H') : H' = H ∧ ∀ H2, oval H2 o = .ok v H2 := by
  obtain ⟨h1, rfl⟩ := oval_inv h
  exact ⟨rfl, fun H2 => by rw [h1]; rfl⟩
theorem convInt_pure {t : Tr Value} {o : Oper} {s d : TypeId} {k : IntKind} {x v : Value} (hd : E.tt.und d = some (.int k)) (h : convA E H t o s d x = .ok v H') : H' = H ∧ ∀ H2, convA E H2 t o s d x = .ok v H2 := by
  have hbs : isByteSl E.tt d = false := by
    unfold isByteSl elemA
    rw [hd]
  have hst : isStr E.tt d = false := by unfold isStr; rw [hd]
  have slow : ∀ H0 H0' v0, convSlow E H0 t o s d x = .ok v0 H0' → H0' = H0 ∧ ∀ H2, convSlow E H2 t o s d x = .ok v0 H2 := by
    intro H0 H0' v0 hs
    cases x with
    | slice a n c =>
      have e : ∀ H2, convSlow E H2 t o s d (.slice a n c) = .bad := fun H2 => by simp only [convSlow, hst, Bool.and_false]
      rw [e] at hs; cases hs
    | string bs =>
      obtain ⟨⟨l⟩⟩ := bs
      have e : ∀ H2, convSlow E H2 t o s d (.string ⟨⟨l⟩⟩) = oval H2 (pureOp E.P t o (free (.string ⟨⟨l⟩⟩))) := fun H2 => by simp only [convSlow, hbs, Bool.and_false]
      rw [e] at hs
      obtain ⟨h1, h2⟩ := oval_pure hs
      exact ⟨h1, fun H2 => by rw [e]; exact h2 H2⟩
    | func f a b =>
      simp only [convSlow] at hs ⊢
      exact oval_pure hs
    | _ => exact oval_pure hs
  unfold convA at h ⊢
  split at h
  · rename_i k' n
    cases hi : intTo E.tt s d n with
    | some u => rw [hi] at h; cases h; exact ⟨rfl, fun H2 => by simp only [hi]⟩
    | none =>
      rw [hi] at h
      obtain ⟨h1, h2⟩ := slow _ _ _ h
      exact ⟨h1, fun H2 => by simp only [hi]; exact h2 H2⟩
  · rename_i hne
    obtain ⟨h1, h2⟩ := slow _ _ _ h
    exact ⟨h1, h2⟩

theorem kind0 {t : Tr Value} {o : Oper} {v : Value} (hk : kindOf E.tt o.op = 0) (h : opA E ex H t o = .ok v H') : H' = H ∧ ∀ H2, opA E ex H2 t o = .ok v H2 := by
  obtain ⟨dst, op, type, pos, after, guard⟩ := o
  cases op <;> simp only [kindOf] at hk <;> try (cases hk; done)
  case move x => have h : Out.ok (evA t x) H = .ok v H' := h; cases h; exact ⟨rfl, fun _ => rfl⟩
  case assign x => have h : Out.ok (evA t x) H = .ok v H' := h; cases h; exact ⟨rfl, fun _ => rfl⟩
  case pick c a b => exact oval_pure (show oval H (asBoolA (evA t c) (evA t a) (evA t b)) = .ok v H' from h)
  case build ty ps => exact oval_pure (show oval H (buildA E.tt ty (evParts t ps.toList)) = .ok v H' from h)
  case nilCheck x => exact oval_pure (show oval H (nilCk (evA t x)) = .ok v H' from h)
  case binOp op ty x y ty' => exact oval_pure (show oval H (binA E.P t ⟨dst, .binOp op ty x y ty', type, pos, after, guard⟩ op (E.tt.und ty) (evA t x) (evA t y)) = .ok v H' from h)
  case unOp op ty x => exact oval_pure (show oval H (pureOp E.P t ⟨dst, .unOp op ty x, type, pos, after, guard⟩ (free (evA t x))) = .ok v H' from h)
  case convert s d x =>
    split at hk
    · rename_i k hd
      exact convInt_pure hd (show convA E H t ⟨dst, .convert s d x, type, pos, after, guard⟩ s d (evA t x) = .ok v H' from h)
    · cases hk
  case makeInterface ty x => exact oval_pure (show oval H (ifaceA E.tt ty (evA t x)) = .ok v H' from h)
  case makeFunc fn a b => exact oval_pure (show oval H (fnA fn (evs t a.toList) (evs t b.toList)) = .ok v H' from h)
  case fieldAddr ty x i => exact oval_pure (show oval H (fieldAddrV (evA t x) (fieldOf E.tt ty i)) = .ok v H' from h)
  case field ty x i => exact oval_pure (show oval H (fieldV E.tt (evA t x) (fieldOf E.tt ty i)) = .ok v H' from h)
  case indexAddr ty x i => exact oval_pure (show oval H (idxAddr1 E.tt ty (evA t x) (natOf (evA t i))) = .ok v H' from h)
  case index ty x i => exact oval_pure (show oval H (indexV E.tt ty (evA t x) (evA t i)) = .ok v H' from h)
  case extract x i => exact oval_pure (show oval H (extractV (evA t x) i) = .ok v H' from h)
  case call c =>
    obtain ⟨callee, args, argTypes⟩ := c
    cases callee with
    | value g => cases hk
    | invoke r m => cases hk
    | builtin b =>
      cases b <;> simp only at hk <;> try (cases hk; done)
      case len =>
        have h : (match evs t args.toList with | [x] => (match argTypes.toList with | ty :: _ => oval H (lenM H (E.tt.und ty) x) | _ => .bad) | _ => .bad) = Out.ok v H' := h
        split at h
        · rename_i x hx
          split at h
          · rename_i ty tl hts
            have hlm : ∀ H2, lenM H2 (E.tt.und ty) x = lenV (E.tt.und ty) x := fun H2 => by
              simp only [lenKind, hts] at hk
              unfold lenM
              split
              · rename_i kt et hd; rw [hd] at hk; cases hk
              · rfl
            rw [hlm] at h
            obtain ⟨h1, h2⟩ := oval_pure h
            refine ⟨h1, fun H2 => ?_⟩
            show (match evs t args.toList with | [x] => (match argTypes.toList with | ty :: _ => oval H2 (lenM H2 (E.tt.und ty) x) | _ => .bad) | _ => .bad) = Out.ok v H2
            rw [hx, hts]
            show oval H2 (lenM H2 (E.tt.und ty) x) = _
            rw [hlm]; exact h2 H2
          · cases h
        · cases h
      case max => exact oval_pure (show oval H (pureOp E.P t ⟨dst, .call ⟨.builtin .max, args, argTypes⟩, type, pos, after, guard⟩ (freeL (evs t args.toList))) = .ok v H' from h)
      case min => exact oval_pure (show oval H (pureOp E.P t ⟨dst, .call ⟨.builtin .min, args, argTypes⟩, type, pos, after, guard⟩ (freeL (evs t args.toList))) = .ok v H' from h)

/-- a reader sees cells alone -/
theorem readCells_bump (n b o k : Nat) : readCells (bump H n) b o k = readCells H b o k := by unfold readCells; rw [bump_get]
theorem loadV_bump (n : Nat) (T : Ts) (ty : TypeId) (v : Value) : loadV T (bump H n) ty v = loadV T H ty v := by
  unfold loadV loadAddr load1 load2 readCell
  simp only [readCells_bump, bump_get]
theorem sliceA_bump (n : Nat) (T : Ts) (ty : TypeId) (v : Value) (a b c : Option Value) : sliceA T (bump H n) ty v a b c = sliceA T H ty v a b c := by
  unfold sliceA slSl slArr
  simp only [bump_get]
theorem kind1 {t : Tr Value} {o : Oper} {v : Value} (hk : kindOf E.tt o.op = 1) (h : opA E ex H t o = .ok v H') : H' = H ∧ ∀ n, opA E ex (bump H n) t o = .ok v (bump H n) := by
  obtain ⟨dst, op, type, pos, after, guard⟩ := o
  cases op <;> simp only [kindOf] at hk <;> try (cases hk; done)
  case load ty a =>
    obtain ⟨h1, h2⟩ := oval_pure (show oval H (loadV E.tt H ty (evA t a)) = .ok v H' from h)
    refine ⟨h1, fun n => ?_⟩
    show oval (bump H n) (loadV E.tt (bump H n) ty (evA t a)) = _
    rw [loadV_bump]; exact h2 _
  case slice ty x lo hi mx =>
    obtain ⟨h1, h2⟩ := oval_pure (show oval H (sliceA E.tt H ty (evA t x) (evO t lo) (evO t hi) (evO t mx)) = .ok v H' from h)
    refine ⟨h1, fun n => ?_⟩
    show oval (bump H n) (sliceA E.tt (bump H n) ty (evA t x) (evO t lo) (evO t hi) (evO t mx)) = _
    rw [sliceA_bump]; exact h2 _
  case lookup ty x k ok =>
    obtain ⟨h1, h2⟩ := oval_pure (show oval H (lookupA E.P E.tt H (evA t x) (evA t k) ok (mapD (E.tt.und ty))) = .ok v H' from h)
    refine ⟨h1, fun n => ?_⟩
    show oval (bump H n) (lookupA E.P E.tt (bump H n) (evA t x) (evA t k) ok (mapD (E.tt.und ty))) = _
    have e : lookupA E.P E.tt (bump H n) (evA t x) (evA t k) ok (mapD (E.tt.und ty)) = lookupA E.P E.tt H (evA t x) (evA t k) ok (mapD (E.tt.und ty)) := by
      unfold lookupA mapOf
      simp only [bump_get]
    rw [e]; exact h2 _
  case convert s d x => split at hk <;> cases hk
  case call c =>
    obtain ⟨callee, args, argTypes⟩ := c
    cases callee with
    | value g => cases hk
    | invoke r m => cases hk
    | builtin b =>
      cases b <;> simp only at hk <;> try (cases hk; done)
      case len =>
        have h : (match evs t args.toList with | [x] => (match argTypes.toList with | ty :: _ => oval H (lenM H (E.tt.und ty) x) | _ => .bad) | _ => .bad) = Out.ok v H' := h
        split at h
        · rename_i x hx
          split at h
          · rename_i ty tl hts
            obtain ⟨h1, h2⟩ := oval_pure h
            refine ⟨h1, fun n => ?_⟩
            show (match evs t args.toList with | [x] => (match argTypes.toList with | ty :: _ => oval (bump H n) (lenM (bump H n) (E.tt.und ty) x) | _ => .bad) | _ => .bad) = Out.ok v (bump H n)
            rw [hx, hts]
            show oval (bump H n) (lenM (bump H n) (E.tt.und ty) x) = _
            have e : lenM (bump H n) (E.tt.und ty) x = lenM H (E.tt.und ty) x := by
              unfold lenM mapLen
              simp only [bump_get]
            rw [e]; exact h2 _
          · cases h
        · cases h
/-- a maker makes one row, known to its end -/
theorem kind2 {t : Tr Value} {o : Oper} {v : Value} (hk : kindOf E.tt o.op = 2) (h : opA E ex H t o = .ok v H') :
    ∃ cs, ∃ f : Nat → Value, v = f H.next ∧ H' = newRowA H cs 0 ∧ (∀ H2, opA E ex H2 t o = .ok (f H2.next) (newRowA H2 cs 0)) ∧ ((∀ b, f b = ptrAt b 0) ∨ ∃ l c, ∀ b, f b = .slice (some ⟨b, 0, none⟩) l c) := by
  obtain ⟨dst, op, type, pos, after, guard⟩ := o
  cases op <;> simp only [kindOf] at hk <;> try (cases hk; done)
  case alloc ty =>
    have h : (match zeroA E.tt ty with | some z => Ex.newVar H (cellsV z) | none => .bad) = Out.ok v H' := h
    cases hz : zeroA E.tt ty with
    | none => rw [hz] at h; cases h
    | some z =>
      rw [hz] at h; cases h
      refine ⟨cellsV z, fun b => ptrAt b 0, rfl, rfl, fun H2 => ?_, .inl fun _ => rfl⟩
      show (match zeroA E.tt ty with | some z => Ex.newVar H2 (cellsV z) | none => .bad) = _
      rw [hz]; rfl
  case box ty x =>
    have h : Ex.newVar H (cellsV (evA t x)) = Out.ok v H' := h
    cases h
    exact ⟨cellsV (evA t x), fun b => ptrAt b 0, rfl, rfl, fun H2 => rfl, .inl fun _ => rfl⟩
  case buildSlice ty len ps =>
    have hb : ∀ H2, opA E ex H2 t ⟨dst, .buildSlice ty len ps, type, pos, after, guard⟩ = bslA E.tt H2 len (evParts t ps.toList) (elemA E.tt ty) := fun _ => rfl
    rw [hb] at h
    cases he : elemA E.tt ty with
    | none => rw [he] at h; cases h
    | some e =>
      obtain ⟨e, size⟩ := e
      rw [he] at h hb
      simp only [bslA] at h hb
      cases hle : Nat.ble (len * size) 65536 with
      | false => rw [hle] at h; cases h
      | true =>
        rw [hle] at h hb
        simp only at h hb
        cases hz : zeros E.tt e len with
        | none => rw [hz] at h; cases h
        | some z =>
          rw [hz] at h hb
          simp only [bslA2, rowA] at h hb
          cases hf : fillA (elemPlace size) (evParts t ps.toList) z with
          | none => rw [hf] at h; cases h
          | some cs =>
            rw [hf] at h hb
            cases h
            exact ⟨cs, fun b => .slice (some ⟨b, 0, none⟩) len len, rfl, rfl, hb, .inr ⟨len, len, fun _ => rfl⟩⟩
  case makeSlice ty l c =>
    have hb : ∀ H2, opA E ex H2 t ⟨dst, .makeSlice ty l c, type, pos, after, guard⟩ = mkSlA E.tt H2 ty (natOf (evA t l)) (natOf (evA t c)) := fun _ => rfl
    rw [hb] at h
    cases hnl : natOf (evA t l) with
    | none => rw [hnl] at h; cases h
    | some nl =>
    cases hnc : natOf (evA t c) with
    | none => rw [hnl, hnc] at h; cases h
    | some nc =>
    rw [hnl, hnc] at h hb
    simp only [mkSlA] at h hb
    cases he : elemA E.tt ty with
    | none => rw [he] at h; cases h
    | some e =>
      obtain ⟨e, size⟩ := e
      rw [he] at h hb
      simp only [mkSl2] at h hb
      cases hle : (Nat.ble nl nc && Nat.ble nc 65536) with
      | false => rw [hle] at h; cases h
      | true =>
        rw [hle] at h hb
        simp only at h hb
        cases hi : E.tt.info e with
        | none => rw [hi] at h; cases h
        | some i =>
          rw [hi] at h hb
          simp only at h hb
          cases hby : Nat.ble i.bytes 1024 with
          | false => rw [hby] at h; cases h
          | true =>
            rw [hby] at h hb
            simp only at h hb
            cases hz : zeros E.tt e nc with
            | none => rw [hz] at h; cases h
            | some z =>
              rw [hz] at h hb
              cases h
              exact ⟨z, fun b => .slice (some ⟨b, 0, none⟩) nl nc, rfl, rfl, hb, .inr ⟨nl, nc, fun _ => rfl⟩⟩
  case convert s d x => split at hk <;> cases hk
  case call c =>
    obtain ⟨callee, args, argTypes⟩ := c
    cases callee with
    | value g => cases hk
    | invoke r m => cases hk
    | builtin b =>
      cases b <;> simp only at hk <;> try (cases hk; done)
      case len =>
        unfold lenKind at hk
        split at hk
        · split at hk <;> cases hk
        · cases hk
end Ex
