/- A verified executor for closed Go calls, part of it: its lemmas carry no condition. -/
import Derived.Test.YtacchpkmjgdebaaGreatExL
set_option linter.unusedVariables false
set_option linter.unusedSimpArgs false
namespace Ex
open Go
variable {E : Env} {ρ ρ' : Rho} {H H' : Heap} {w w' : World}

theorem pureRun_bind {α β : Type} {P : Program} {f : α → Sem β} {b : β} : ∀ {s : Sem α}, pureRun P (s >>= f) = some b ↔ ∃ a, pureRun P s = some a ∧ pureRun P (f a) = some b
  | .pure a => by
    show pureRun P (f a) = some b ↔ _
    simp [pureRun]
  | .program k => by
    show pureRun P ((k P) >>= f) = some b ↔ _
    rw [pureRun_bind (s := k P)]; rfl
  | .mark m k => by
    show pureRun P (k >>= f) = some b ↔ _
    rw [pureRun_bind (s := k)]; rfl
  | .load .. | .store .. | .new .. | .shape .. | .freeze .. | .frozen .. | .getObj .. | .setObj ..
  | .choose .. | .sys .. | .halt _ => by
    constructor
    · intro h; exact absurd h (by intro h; cases h)
    · rintro ⟨a, h, _⟩; cases h

/-! keys alone say where a key is found -/
theorem findNow_keys (kind : TypeDesc) (k : Value) : ∀ (a b : List MapEntry) (i : Nat), a.map (·.key) = b.map (·.key) →
    (Instr.findNow kind k b i = none → Instr.findNow kind k a i = none) ∧ (Instr.findNow kind k b i = some none → Instr.findNow kind k a i = some none) ∧
    (∀ j v, Instr.findNow kind k b i = some (some (j, v)) → ∃ e, i ≤ j ∧ a[j - i]? = some e ∧ Instr.findNow kind k a i = some (some (j, e.val)))
  | [], [], i, _ => ⟨fun h => h, fun h => h, fun j v h => by simp [Instr.findNow] at h⟩
  | [], _ :: _, _, h => by simp at h
  | _ :: _, [], _, h => by simp at h
  | x :: a, y :: b, i, h => by
    simp only [List.map_cons, List.cons.injEq] at h
    obtain ⟨h1, h2⟩ := h
    obtain ⟨g1, g2, g3⟩ := findNow_keys kind k a b (i + 1) h2
    simp only [Instr.findNow, h1]
    cases hs : Instr.sameNow kind k y.key with
    | none => exact ⟨fun _ => rfl, fun h => (by cases h), fun j v h => (by cases h)⟩
    | some c =>
      cases c with
      | true =>
        refine ⟨fun h => (by cases h), fun h => (by cases h), fun j v h => ?_⟩
        simp only [Option.some.injEq, Prod.mk.injEq] at h
        obtain ⟨rfl, _⟩ := h
        exact ⟨x, Nat.le_refl _, by simp, rfl⟩
      | false =>
        refine ⟨g1, g2, fun j v h => ?_⟩
        obtain ⟨e, e1, e2, e3⟩ := g3 j v h
        refine ⟨e, by omega, ?_, e3⟩
        rw [show j - i = (j - (i + 1)) + 1 by omega, List.getElem?_cons_succ]
        exact e2

theorem findAsking_keys {P : Program} (kt : TypeId) (k : Value) : ∀ (a b : List MapEntry) (i : Nat), a.map (·.key) = b.map (·.key) →
    (pureRun P (Instr.findAsking kt k b i) = some none → pureRun P (Instr.findAsking kt k a i) = some none) ∧
    (∀ j v, pureRun P (Instr.findAsking kt k b i) = some (some (j, v)) → ∃ e, i ≤ j ∧ a[j - i]? = some e ∧ pureRun P (Instr.findAsking kt k a i) = some (some (j, e.val)))
  | [], [], i, _ => ⟨fun h => h, fun j v h => by
    have h : some none = some (some (j, v)) := h
    cases h⟩
  | [], _ :: _, _, h => by simp at h
  | _ :: _, [], _, h => by simp at h
  | x :: a, y :: b, i, h => by
    simp only [List.map_cons, List.cons.injEq] at h
    obtain ⟨h1, h2⟩ := h
    obtain ⟨g2, g3⟩ := findAsking_keys (P := P) kt k a b (i + 1) h2
    simp only [Instr.findAsking, h1]
    refine ⟨fun h => ?_, fun j v h => ?_⟩
    · rw [pureRun_bind] at h ⊢
      obtain ⟨c, hc, h⟩ := h
      refine ⟨c, hc, ?_⟩
      cases c with
      | true =>
        have h : some (some (i, y.val)) = some none := h
        cases h
      | false => exact g2 h
    · rw [pureRun_bind] at h
      obtain ⟨c, hc, h⟩ := h
      cases c with
      | true =>
        have h : pureRun P (pure (some (i, y.val))) = some (some (j, v)) := h
        have h : some (some (i, y.val)) = some (some (j, v)) := h
        simp only [Option.some.injEq, Prod.mk.injEq] at h
        obtain ⟨rfl, _⟩ := h
        exact ⟨x, Nat.le_refl _, by simp, pureRun_bind.2 ⟨true, hc, rfl⟩⟩
      | false =>
        obtain ⟨e, e1, e2, e3⟩ := g3 j v h
        refine ⟨e, by omega, ?_, pureRun_bind.2 ⟨false, hc, e3⟩⟩
        rw [show j - i = (j - (i + 1)) + 1 by omega, List.getElem?_cons_succ]
        exact e2

theorem findKey_keys {P : Program} (kt : TypeId) (k : Value) {a b : List MapEntry} (h : a.map (·.key) = b.map (·.key)) :
    (pureRun P (Instr.findKey kt k b) = some none → pureRun P (Instr.findKey kt k a) = some none) ∧
    (∀ j v, pureRun P (Instr.findKey kt k b) = some (some (j, v)) → ∃ e, a[j]? = some e ∧ pureRun P (Instr.findKey kt k a) = some (some (j, e.val))) := by
  unfold Instr.findKey
  refine ⟨fun hb => ?_, fun j v hb => ?_⟩
  · rw [pureRun_bind] at hb ⊢
    obtain ⟨d, hd, hb⟩ := hb
    refine ⟨d, hd, ?_⟩
    obtain ⟨g1, g2, g3⟩ := findNow_keys d k a b 0 h
    cases hn : Instr.findNow d k b 0 with
    | none =>
      rw [hn] at hb
      rw [g1 hn]
      exact (findAsking_keys kt k a b 0 h).1 hb
    | some r =>
      rw [hn] at hb
      have hb : some r = some none := hb
      cases hb
      rw [g2 hn]; rfl
  · rw [pureRun_bind] at hb
    obtain ⟨d, hd, hb⟩ := hb
    obtain ⟨g1, g2, g3⟩ := findNow_keys d k a b 0 h
    cases hn : Instr.findNow d k b 0 with
    | none =>
      rw [hn] at hb
      obtain ⟨e, _, e2, e3⟩ := (findAsking_keys kt k a b 0 h).2 j v hb
      exact ⟨e, by simpa using e2, pureRun_bind.2 ⟨d, hd, by rw [g1 hn]; exact e3⟩⟩
    | some r =>
      rw [hn] at hb
      have hb : some r = some (some (j, v)) := hb
      cases hb
      obtain ⟨e, _, e2, e3⟩ := g3 j v hn
      exact ⟨e, by simpa using e2, pureRun_bind.2 ⟨d, hd, by rw [e3]; rfl⟩⟩

theorem ents_keys : ∀ {mes : List MapEntry} {i : Nat} {es : List (Value × Value)}, MR ρ mes i es → keysFree es = true → mes.map (·.key) = (ents es).map (·.key)
  | _, _, _, .nil i, _ => rfl
  | _, _, _, .cons hk hv hb t, h => by
    simp only [keysFree, Bool.and_eq_true] at h
    simp only [ents, List.map_cons]
    rw [free_eq hk h.1, ents_keys t h.2]
theorem MR.get {mes : List MapEntry} : ∀ {i : Nat} {es : List (Value × Value)}, MR ρ mes i es → ∀ (j : Nat) e kv, mes[j]? = some e → es[j]? = some kv → VR ρ e.key kv.1 ∧ VR ρ e.val kv.2
  | _, _, .nil i, j, e, kv, h, _ => by simp at h
  | _, _, .cons hk hv hb t, j, e, kv, h1, h2 => by
    cases j with
    | zero => simp at h1 h2; subst h1; subst h2; exact ⟨hk, hv⟩
    | succ j => exact t.get j e kv (by simpa using h1) (by simpa using h2)
theorem MR.length {mes : List MapEntry} : ∀ {i : Nat} {es : List (Value × Value)}, MR ρ mes i es → mes.length = es.length
  | _, _, .nil i => rfl
  | _, _, .cons _ _ _ t => by simp [t.length]

theorem findA_sound {P : Program} {kt : TypeId} {k : Value} {mes : List MapEntry} {i : Nat} {es : List (Value × Value)} {r : Option Nat} (hm : MR ρ mes i es) (hf : findA P kt k es = some r) :
    free k = true ∧ keysFree es = true ∧ (r = none → ∀ w, (Instr.findKey kt k mes).run P w = .ok none w) ∧ (∀ j, r = some j → ∃ e, mes[j]? = some e ∧ ∀ w, (Instr.findKey kt k mes).run P w = .ok (some (j, e.val)) w) := by
  unfold findA at hf
  cases hb : (free k && keysFree es) with
  | false => rw [hb] at hf; cases hf
  | true =>
    rw [hb] at hf
    simp only [Bool.and_eq_true] at hb
    obtain ⟨g1, g2⟩ := findKey_keys (P := P) kt k (ents_keys hm hb.2)
    refine ⟨hb.1, hb.2, fun hr w => ?_, fun j hr => ?_⟩
    · subst hr
      cases hp : pureRun P (Instr.findKey kt k (ents es)) with
      | none => rw [hp] at hf; cases hf
      | some x =>
        cases x with
        | none => exact pureRun_run (g1 hp) w
        | some y => rw [hp] at hf; cases hf
    · subst hr
      cases hp : pureRun P (Instr.findKey kt k (ents es)) with
      | none => rw [hp] at hf; cases hf
      | some x =>
        cases x with
        | none => rw [hp] at hf; cases hf
        | some y =>
          rw [hp] at hf
          obtain ⟨j', v⟩ := y
          have hf : some (some j') = some (some j) := hf
          cases hf
          obtain ⟨e, e1, e2⟩ := g2 _ _ hp
          exact ⟨e, e1, fun w => pureRun_run e2 w⟩
theorem keyOkA_sound {P : Program} {em : Bool} {kt : TypeId} {k : Value} (h : keyOkA P em kt k = true) (w : World) : (Instr.checkKey em 10000 kt k).run P w = .ok () w := by
  unfold keyOkA at h
  cases hp : pureRun P (Instr.checkKey em 10000 kt k) with
  | none => rw [hp] at h; cases h
  | some u => exact pureRun_run hp w

theorem mapD_eq (hE : EnvOk E) {t k e : TypeId} (h : mapD (E.tt.und t) = some (k, e)) (w : World) : (underlying t).run E.P w = .ok (.map k e) w := by
  unfold mapD at h
  split at h
  · rename_i k' e' hd
    cases h
    exact run_underlying (und_eq hE hd) w
  · cases h

theorem mapOf_sound (h : HR E.ng ρ H w) {x x' : Value} {es : List (Value × Value)} (hx : VR ρ x x') (hm : mapOf H x' = some es) :
    (x = .map none ∧ es = []) ∨ ∃ l mes b, x = .map (some l) ∧ x' = .map (some b) ∧ ρ b = some ⟨l, 0, 0, 0⟩ ∧ H.get b = .map es ∧ w.heap[l]? = some (.map mes es.length) ∧ MR ρ mes.toList 0 es := by
  unfold mapOf at hm
  split at hm
  · cases hx; cases hm; exact .inl ⟨rfl, rfl⟩
  · rename_i b
    split at hm
    · rename_i es' hb
      cases hm
      cases hx with
      | mp hp =>
        have := h.obj b
        rw [hb] at this
        obtain ⟨l, mes, h1, h2, h3⟩ := this
        rw [hp] at h1; cases h1
        exact .inr ⟨_, mes, b, rfl, rfl, hp, hb, h2, h3⟩
    · cases hm
  · cases hm

theorem run_getMap {P : Program} {l n : Nat} {mes : Array MapEntry} (h : w.heap[l]? = some (.map mes n)) : (getObj l).run P w = .ok (.map mes n) w := by simp [getObj, Sem.run, h]
theorem run_getIter {P : Program} {l s t : Nat} {m : Option Nat} {seen : Array Nat} (h : w.heap[l]? = some (.mapIter m s seen t)) : (getObj l).run P w = .ok (.mapIter m s seen t) w := by simp [getObj, Sem.run, h]

theorem look_found {P : Program} {ty kt et : TypeId} {x k v : Value} {ok : Bool} {mes : Array MapEntry} {j : Nat} (hx : (x = .map none ∧ mes = #[]) ∨ ∃ l n, x = .map (some l) ∧ w.heap[l]? = some (.map mes n)) (hu : (underlying ty).run P w = .ok (.map kt et) w)
    (hc : (Instr.checkKey mes.isEmpty 10000 kt k).run P w = .ok () w) (hf : (Instr.findKey kt k mes.toList).run P w = .ok (some (j, v)) w) : (Instr.lookup ty x k ok).run P w = .ok (packA ok v true) w := by
  rcases hx with ⟨rfl, rfl⟩ | ⟨l, n, rfl, hh⟩
  · simp only [Instr.lookup, Sem.run_bind, hu, Result.andThen, Sem.run_pure, hc, hf]
    cases ok <;> rfl
  · simp only [Instr.lookup, Sem.run_bind, hu, Result.andThen, Sem.run_pure, run_getMap hh, hc, hf]
    cases ok <;> rfl
theorem look_none {P : Program} {ty kt et : TypeId} {x k z : Value} {ok : Bool} {mes : Array MapEntry} (hx : (x = .map none ∧ mes = #[]) ∨ ∃ l n, x = .map (some l) ∧ w.heap[l]? = some (.map mes n)) (hu : (underlying ty).run P w = .ok (.map kt et) w)
    (hc : (Instr.checkKey mes.isEmpty 10000 kt k).run P w = .ok () w) (hf : (Instr.findKey kt k mes.toList).run P w = .ok none w) (hz : (zeroValue et).run P w = .ok z w) : (Instr.lookup ty x k ok).run P w = .ok (packA ok z false) w := by
  rcases hx with ⟨rfl, rfl⟩ | ⟨l, n, rfl, hh⟩
  · simp only [Instr.lookup, Sem.run_bind, hu, Result.andThen, Sem.run_pure, hc, hf, hz]
    cases ok <;> rfl
  · simp only [Instr.lookup, Sem.run_bind, hu, Result.andThen, Sem.run_pure, run_getMap hh, hc, hf, hz]
    cases ok <;> rfl

theorem lookup_sound (hE : EnvOk E) (h : HR E.ng ρ H w) {ty : TypeId} {ok : Bool} {x x' k k' v' : Value} (hx : VR ρ x x') (hk : VR ρ k k') (hl : lookupA E.P E.tt H x' k' ok (mapD (E.tt.und ty)) = some v') :
    ∃ v, (Instr.lookup ty x k ok).run E.P w = .ok v w ∧ VR ρ v v' := by
  unfold lookupA at hl
  cases hd : mapD (E.tt.und ty) with
  | none => rw [hd] at hl; cases hl
  | some d =>
  obtain ⟨kt, et⟩ := d
  rw [hd] at hl
  simp only at hl
  cases hm : mapOf H x' with
  | none => rw [hm] at hl; cases hl
  | some es =>
  rw [hm] at hl
  simp only [lookEs] at hl
  cases hck : (free k' && keyOkA E.P es.isEmpty kt k') with
  | false => rw [hck] at hl; cases hl
  | true =>
  rw [hck] at hl
  simp only at hl
  simp only [Bool.and_eq_true] at hck
  have hkk := free_eq hk hck.1
  subst hkk
  have hund := mapD_eq hE hd w
  obtain ⟨mes, hmr, hes⟩ : ∃ mes : Array MapEntry, MR ρ mes.toList 0 es ∧ ((x = .map none ∧ mes = #[]) ∨ ∃ l n, x = .map (some l) ∧ w.heap[l]? = some (.map mes n)) := by
    rcases mapOf_sound h hx hm with ⟨rfl, rfl⟩ | ⟨l, mes, b, rfl, rfl, hp, hb, hh, hmr⟩
    · exact ⟨#[], .nil 0, .inl ⟨rfl, rfl⟩⟩
    · exact ⟨mes, hmr, .inr ⟨_, _, rfl, hh⟩⟩
  have hemp : mes.isEmpty = es.isEmpty := by
    have := hmr.length
    cases mes with
    | mk l => cases l <;> cases es <;> simp_all
  have hcheck := keyOkA_sound hck.2 w
  rw [← hemp] at hcheck
  unfold lookIn at hl
  cases hf : findA E.P kt k es with
  | none => rw [hf] at hl; cases hl
  | some r =>
    rw [hf] at hl
    obtain ⟨_, _, g1, g2⟩ := findA_sound hmr hf
    cases r with
    | none =>
      simp only at hl
      cases hz : zeroA E.tt et with
      | none => rw [hz] at hl; cases hl
      | some z =>
        rw [hz] at hl
        simp only [Option.some.injEq] at hl
        obtain ⟨i, hi, hzi, hzf⟩ := zeroA_inv hE hz
        refine ⟨v', by rw [← hl]; exact look_none hes hund hcheck (g1 rfl w) (runZero hi hzi w), ?_⟩
        · rw [← hl]
          have := VR.of_free ρ z hzf
          cases ok
          · exact this
          · exact .tuple _ _ rfl (LR.cons this (LR.cons (.bool false) (LR.nil ρ))).2
    | some j =>
      simp only at hl
      cases hn : nth es j with
      | none => rw [hn] at hl; cases hl
      | some kv =>
        rw [hn] at hl
        simp only [Option.some.injEq] at hl
        rw [nth_eq] at hn
        obtain ⟨e, e1, e2⟩ := g2 j rfl
        obtain ⟨_, hv⟩ := hmr.get j e kv e1 hn
        refine ⟨packA ok e.val true, look_found hes hund hcheck (e2 w), ?_⟩
        · rw [← hl]
          cases ok
          · exact hv
          · exact .tuple _ _ rfl (LR.cons hv (LR.cons (.bool true) (LR.nil ρ))).2

theorem mapLen_sound (hE : EnvOk E) (h : HR E.ng ρ H w) {A : Array TypeId} {t ty kt et : TypeId} {x x' v' : Value} (hA : A[0]? = some t) (hd : E.tt.und t = some (.map kt et)) (hx : VR ρ x x') (hl : mapLen H x' = some v') :
    (Builtin.len_ A ty #[x]).run E.P w = .ok v' w ∧ free v' = true := by
  have hu := run_underlying (und_eq hE hd) w
  unfold mapLen at hl
  split at hl
  · cases hx; cases hl
    exact ⟨by simp [Builtin.len_, hA, hu, Result.andThen, goInt], rfl⟩
  · rename_i b
    split at hl
    · rename_i es hb
      cases hl
      cases hx with
      | mp hp =>
        have := h.obj b
        rw [hb] at this
        obtain ⟨l, mes, h1, h2, h3⟩ := this
        rw [hp] at h1; cases h1
        have hlen : mes.size = es.length := by have := h3.length; simpa using this
        exact ⟨by simp [Builtin.len_, hA, hu, Result.andThen, goInt, run_getMap h2, hlen], rfl⟩
    · cases hl
  · cases hl
end Ex
