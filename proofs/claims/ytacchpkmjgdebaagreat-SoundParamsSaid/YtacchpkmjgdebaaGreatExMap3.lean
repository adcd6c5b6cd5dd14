/- A verified executor for closed Go calls, part of it: its lemmas carry no condition. -/
import Derived.Test.YtacchpkmjgdebaaGreatExMap2
set_option linter.unusedVariables false
set_option linter.unusedSimpArgs false
namespace Ex
open Go
variable {E : Env} {ρ ρ' : Rho} {H H' : Heap} {w w' : World}

theorem MR.push {k v k' v' : Value} (hk : VR ρ k k') (hv : VR ρ v v') : ∀ {mes : List MapEntry} {i : Nat} {es : List (Value × Value)} (n : Nat), MR ρ mes i es → n = i + es.length → MR ρ (mes ++ [{ key := k, val := v, born := n }]) i (es ++ [(k', v')])
  | _, _, _, n, .nil i, hn => .cons hk hv (by simpa using hn) (.nil _)
  | _, _, _, n, .cons a b c t, hn => .cons a b c (t.push hk hv n (by simp at hn; omega))
theorem MR.put {k v k' v' : Value} (hk : VR ρ k k') (hv : VR ρ v v') : ∀ {mes : List MapEntry} {i : Nat} {es : List (Value × Value)} (j : Nat), MR ρ mes i es → MR ρ (mes.modify j fun e => { e with key := k, val := v }) i (es.set j (k', v'))
  | _, _, _, j, .nil i => by cases j <;> exact .nil i
  | _, _, _, j, .cons a b c t => by
    cases j with
    | zero => exact .cons hk hv c t
    | succ j => exact .cons a b c (t.put hk hv j)

theorem update_sound (hE : EnvOk E) (h : HR E.ng ρ H w) {ty : TypeId} {x x' k k' v v' u : Value} (hx : VR ρ x x') (hk : VR ρ k k') (hv : VR ρ v v') (hr : updateA E.P H x' k' v' (mapD (E.tt.und ty)) = .ok u H') :
    ∃ w', (Instr.mapUpdate ty x k v).run E.P w = .ok () w' ∧ u = Undef ∧ HR E.ng ρ H' w' ∧ Ext ρ H w ρ H' w' := by
  unfold updateA at hr
  cases hd : mapD (E.tt.und ty) with
  | none => rw [hd] at hr; cases hr
  | some d =>
    obtain ⟨kt, et⟩ := d
    rw [hd] at hr
    have hund := mapD_eq hE hd w
    simp only at hr
    split at hr
    · rename_i b
      unfold putEs at hr
      split at hr
      · rename_i es hb
        cases hck : (free k' && keyOkA E.P false kt k') with
        | false => rw [hck] at hr; cases hr
        | true =>
          rw [hck] at hr
          simp only [Bool.and_eq_true] at hck hr
          have hkk := free_eq hk hck.1
          subst hkk
          have hcheck := keyOkA_sound hck.2 w
          cases hx with
          | mp hp =>
            rename_i l
            obtain ⟨mes, hmes, hMR⟩ := map_inv h hp hb
            have hlt := (Array.getElem?_eq_some_iff.1 hmes).1
            cases hf : findA E.P kt k es with
            | none => rw [hf] at hr; cases hr
            | some r =>
              rw [hf] at hr
              obtain ⟨_, hkf, g1, g2⟩ := findA_sound hMR hf
              cases r with
              | none =>
                cases hr
                obtain ⟨p1, p2⟩ := put_obj h (x := .map (mes.push { key := k, val := v, born := es.length }) (es.length + 1)) (o := .map (es ++ [(k, v')])) hb (by simp) hp hlt (fun w' hw => ⟨l, mes.push { key := k, val := v, born := es.length }, hp, by rw [hw]; simp, by
                  simp only [Array.toList_push]
                  exact hMR.push hk hv _ (by simp)⟩)
                refine ⟨_, ?_, rfl, p1, p2⟩
                simp only [Instr.mapUpdate, Sem.run_bind, hund, Result.andThen, run_getMap hmes, hcheck, g1 rfl w]
                simp [setObj, Sem.run, hmes, withObj]
              | some j =>
                simp only [putIn] at hr
                cases hn : nth es j with
                | none => rw [hn] at hr; cases hr
                | some kv =>
                  rw [hn] at hr
                  simp only at hr
                  cases hsb : Instr.sameBits 10000 kv.1 k with
                  | false => rw [hsb] at hr; cases hr
                  | true =>
                    rw [hsb] at hr
                    cases hr
                    rw [nth_eq] at hn
                    obtain ⟨e, e1, e2⟩ := g2 j rfl
                    have hek : e.key = kv.1 := by
                      have h1 := (hMR.get j e kv e1 hn).1
                      have h2 : ∀ (l : List (Value × Value)) (j : Nat) (kv : Value × Value), keysFree l = true → l[j]? = some kv → free kv.1 = true := by
                        intro l
                        induction l with
                        | nil => intro j kv _ h; simp at h
                        | cons y l ih =>
                          intro j kv hf h
                          simp only [keysFree, Bool.and_eq_true] at hf
                          cases j with
                          | zero => simp at h; subst h; exact hf.1
                          | succ j => exact ih j kv hf.2 (by simpa using h)
                      exact free_eq h1 (h2 es j kv hkf hn)
                    obtain ⟨p1, p2⟩ := put_obj h (x := .map (mes.modify j fun e => { e with key := k, val := v }) es.length) (o := .map (es.set j (k, v'))) hb (by simp) hp hlt (fun w' hw => ⟨l, mes.modify j fun e => { e with key := k, val := v }, hp, by rw [hw]; simp, by
                      simp only [Array.toList_modify]
                      exact hMR.put hk hv j⟩)
                    refine ⟨_, ?_, rfl, p1, p2⟩
                    have e1' : mes[j]? = some e := by simpa using e1
                    simp only [Instr.mapUpdate, Sem.run_bind, hund, Result.andThen, run_getMap hmes, hcheck, e2 w, e1', Option.map_some, Option.getD_some, hek, Instr.keyThatStays, hsb, if_true, Sem.run_pure]
                    simp [setObj, Sem.run, hmes, withObj]
      · cases hr
    · cases hr
end Ex
