/- A verified executor for closed Go calls, part of it: its lemmas carry no condition. -/
import Derived.Test.YtacchpkmjgdebaaGreatExX
set_option linter.unusedVariables false
set_option linter.unusedSimpArgs false
namespace Ex
open Go
variable {E : Env} {ρ ρ' : Rho} {H H' : Heap} {w w' : World} {ex : Ex}

theorem read_go (hG : EnvGood E) (h : HR E.ng ρ H w) {ev : Operand → Value} {t : Tr Value} {o : Oper} {v' : Value} (hev : ∀ x ∈ o.op.operands, VR ρ (ev x) (evA t x)) (hk : kindOf E.tt o.op = 1)
    (hc : opA E ex H t o = .ok v' H') : ∃ v, (execOp ev o).run E.P w = .ok (.value v) w ∧ VR ρ v v' := by
  have hE := hG.toEnvOk
  obtain ⟨dst, op, type, pos, after, guard⟩ := o
  cases op <;> simp only [kindOf] at hk <;> try (cases hk; done)
  case load ty a =>
    simp only [Op.operands] at hev
    obtain ⟨h1, rfl⟩ := oval_inv (show oval H (loadV E.tt H ty (evA t a)) = .ok v' H' from hc)
    have ha := hev a (by simp)
    unfold loadV at h1
    split at h1
    · rename_i x hx
      obtain ⟨b, o, s⟩ := x
      rw [hx] at ha
      obtain ⟨p, hp2, hpe⟩ := ptr_inv ha
      obtain ⟨v, g1, g2⟩ := load_sound hE h hp2 (show load1 _ b o (shapeA E.tt ty) = some v' from h1)
      refine ⟨v, run_v (s := Instr.loadAt ty (ev a)) ?_, g2⟩
      rw [hpe]
      simp only [Instr.loadAt, Instr.sureAddr, Sem.run_bind, Sem.run_pure, Result.andThen]
      exact g1
    · cases h1
  case slice ty x lo hi mx =>
    simp only [Op.operands] at hev
    obtain ⟨h1, rfl⟩ := oval_inv (show oval H (sliceA E.tt H ty (evA t x) (evO t lo) (evO t hi) (evO t mx)) = .ok v' H' from hc)
    obtain ⟨v, g1, g2⟩ := slice_sound hE h (hev x (by simp)) (evO_rel (fun y hy => hev y (by subst hy; simp))) (evO_rel (fun y hy => hev y (by subst hy; simp))) (evO_rel (fun y hy => hev y (by subst hy; simp))) h1
    exact ⟨v, run_v g1, g2⟩
  case lookup ty x k ok =>
    simp only [Op.operands] at hev
    obtain ⟨h1, rfl⟩ := oval_inv (show oval H (lookupA E.P E.tt H (evA t x) (evA t k) ok (mapD (E.tt.und ty))) = .ok v' H' from hc)
    obtain ⟨v, g1, g2⟩ := lookup_sound hE h (hev x (by simp)) (hev k (by simp)) h1
    exact ⟨v, run_v g1, g2⟩
  case convert s d x => split at hk <;> cases hk
  case call c =>
    obtain ⟨callee, args, argTypes⟩ := c
    cases callee with
    | value g => cases hk
    | invoke r m => cases hk
    | builtin b =>
      cases b <;> simp only at hk <;> try (cases hk; done)
      case len =>
        have hc : (match evs t args.toList with | [x] => (match argTypes.toList with | ty :: _ => oval H (lenM H (E.tt.und ty) x) | _ => .bad) | _ => .bad) = Out.ok v' H' := hc
        have hargs := evs_rel (l := args.toList) (ρ := ρ) (ev := ev) (t := t) (fun x hx => hev x (by simp [Op.operands, Call.operands] at hx ⊢; exact hx))
        have e1 : args.map ev = ⟨args.toList.map ev⟩ := by apply Array.ext'; simp
        split at hc
        · rename_i x' he
          split at hc
          · rename_i ty tl hts
            rw [he] at hargs
            obtain ⟨x, l, e, hx, hl⟩ := hargs.cons_inv
            have := hl.nil_inv
            subst this
            have ea : args.map ev = #[x] := by rw [e1, e]
            obtain ⟨h1, rfl⟩ := oval_inv hc
            simp only [lenKind, hts] at hk
            unfold lenM at h1
            split at h1
            · rename_i kt et hd
              obtain ⟨g1, g2⟩ := mapLen_sound hE h (ty := type) (head_of hts) hd hx h1
              refine ⟨v', ?_, VR.of_free ρ _ g2⟩
              show (do pure (Next.value (← Builtin.len_ argTypes type (args.map ev))) : Sem Next).run E.P w = _
              rw [ea]; exact run_v g1
            · rename_i hne
              split at hk
              · rename_i kt et hd; exact absurd hd (hne kt et)
              · cases hk
          · cases hc
        · cases hc

theorem kindOf_le (T : Ts) (op : Op) : kindOf T op ≤ 3 := by
  cases op <;> simp only [kindOf] <;> try omega
  · split <;> omega
  · split <;> first | omega | skip
    unfold lenKind
    split
    · split <;> omega
    · omega

variable {ops : Array Oper} {s : Nat → St} {nt : Nat} {ρ0 : Rho} {w0 : World} {L : Nat → Prop} {m : Nat}

def Stg (E : Env) (ops : Array Oper) (L : Nat → Prop) (m : Nat) : Prop :=
  (m = 0 ∨ ∃ (p : Nat) (o : Oper), m = p + 1 ∧ L p ∧ ops.toList[p]? = some o ∧ kindOf E.tt o.op = 3) ∧ ∀ (q : Nat) (o : Oper), L q → ops.toList[q]? = some o → kindOf E.tt o.op = 3 → q < m

theorem Stg.keep (h : Stg E ops L m) {i : Nat} {o : Oper} (hi : ops.toList[i]? = some o) (hk : kindOf E.tt o.op ≠ 3) : Stg E ops (more L i) m := by
  refine ⟨h.1.imp id (fun ⟨p, o', a, b, c⟩ => ⟨p, o', a, .inl b, c⟩), fun q o' hq ho' hk' => ?_⟩
  rcases hq with hq | rfl
  · exact h.2 q o' hq ho' hk'
  · rw [hi] at ho'; cases ho'; exact absurd hk' hk

/-- all that is active and listed is ahead of one that isn't listed and makes or acts -/
theorem Stg.le (hD : Drw E ex ops s nt) (hcl : Closed ops.toList L) (h : Stg E ops L m) {i : Nat} {o : Oper} (hi : ops.toList[i]? = some o) (hn : ¬ L i) (hk : 2 ≤ kindOf E.tt o.op) : m ≤ i := by
  rcases h.1 with rfl | ⟨p, o', rfl, h1, h2, h3⟩
  · exact Nat.zero_le _
  · rcases Nat.lt_trichotomy p i with hp | hp | hp
    · exact hp
    · subst hp; exact absurd h1 hn
    · exact absurd (hcl.reach (hD.good.act i p o o' hi h2 h3 hk hp) h1) hn

theorem Core.upTo (hD : Drw E ex ops s nt) {a : Array Value} (hC : Core E ops s nt ρ0 w0 L m ρ a w) (hS : Stg E ops L m) {i : Nat} {o : Oper} (hi : ops.toList[i]? = some o) (hn : ¬ L i) (hdep : ∀ e ∈ o.after.toList, Region.binds .any e = true → L e.on) (hk : kindOf E.tt o.op = 3) :
    Core E ops s nt ρ0 w0 L i ρ a w := by
  have hlt : i < ops.size := by simpa using (List.getElem?_eq_some_iff.1 hi).1
  have hmi := hS.le hD hC.closed hi hn (by omega)
  have hdep' : ∀ o', ops.toList[i]? = some o' → ∀ e ∈ o'.after.toList, Region.binds .any e = true → L e.on := fun o' ho' => by rw [hi] at ho'; cases ho'; exact hdep
  refine Core.absorb hD (Nat.le_of_lt hlt) (i - m) m (by omega) hC (fun j oj h1 h2 hj hw => ?_)
  have hL : 2 ≤ kindOf E.tt oj.op → L j := fun h => (hD.good.act j i oj o hj hi hk h h2).mem hC.closed hdep'
  have h3 := kindOf_le E.tt oj.op
  refine ⟨?_, fun h => hL (by omega)⟩
  rcases Nat.lt_or_ge (kindOf E.tt oj.op) 3 with h | h
  · omega
  · have := hS.2 j oj (hL (by omega)) hj (by omega); omega

theorem draw_step (hG : EnvGood E) (hex : SoundEx E ex) (hD : Drw E ex ops s nt) {fr : Frame} {cs : List Frame} (hC : Core E ops s nt ρ0 w0 L m ρ fr.tmps w) (hS : Stg E ops L m) {i : Nat} {rest : List Nat} {k' : List Item}
    (ht : fr.todo = .inRegion ops (i :: rest) :: k') (hm : fr.mode = .run) {o : Oper} (hi : ops.toList[i]? = some o) (hn : ¬ L i) (hdep : ∀ e ∈ o.after.toList, Region.binds .any e = true → L e.on) :
    ∃ m' ρ' v w', Steps E.P (lone fr cs w) (lone { fr with tmps := putA fr.tmps o.dst v, todo := .inRegion ops rest :: k' } cs w') ∧ Core E ops s nt ρ0 w0 (more L i) m' ρ' (putA fr.tmps o.dst v) w' ∧ Stg E ops (more L i) m' := by
  have hlt : i < ops.size := by simpa using (List.getElem?_eq_some_iff.1 hi).1
  have hi' : ops[i]? = some o := by simpa using hi
  have hwe := wanted_eq' (ops := ops) (a := fr.tmps) (t := (s i).t) (o := o) (fun d hd => hC.slot hD hi hn hdep hd)
  have hev : ∀ x ∈ o.op.operands, VR ρ (fr.eval x) (evA (s i).t x) := fun x hx => hC.eval hD hi hn hdep hx
  have hplain : Plain fr := fun d r s kk e => by rw [ht] at e; cases e
  cases hw : wantedA ops (s i).t o.guard with
  | false =>
    rw [hw] at hwe
    have hs := step_skipped (P := E.P) (w := w) (cs := cs) hm ht hi' hwe
    rw [finish_region ht hi'] at hs
    obtain ⟨c1, c2, c3⟩ := hD.chain.skip i o hi hw
    have hv : VR ρ undef (s i).v := by rw [c1]; exact .undef
    by_cases hk : kindOf E.tt o.op = 3
    · have hCi := hC.upTo hD hS hi hn hdep hk
      have hq := hCi.quiet hD hi hdep (v := undef) (w' := w) (fun h => by rw [hw] at h; cases h) hv (Nat.le_refl _) (fun _ _ => rfl) rfl rfl rfl
      have hq2 := hq.pass hlt c3 (fun ⟨_, _, o', h3, _, h5⟩ => by rw [hi] at h3; cases h3; rw [hw] at h5; cases h5)
      refine ⟨i + 1, ρ, undef, w, .one hs, hq2, .inr ⟨i, o, rfl, .inr rfl, hi, hk⟩, fun q oq hq hoq hkq => ?_⟩
      have hmi := hS.le hD hC.closed hi hn (by omega)
      rcases hq with hq | rfl
      · have := hS.2 q oq hq hoq hkq; omega
      · omega
    · exact ⟨m, ρ, undef, w, .one hs, hC.quiet hD hi hdep (fun h => by rw [hw] at h; cases h) hv (Nat.le_refl _) (fun _ _ => rfl) rfl rfl rfl, hS.keep hi hk⟩
  | true =>
    rw [hw] at hwe
    obtain ⟨c1, c2⟩ := hD.chain.op i o hi hw
    have hstep := step_oper (P := E.P) (w := w) (cs := cs) hm ht hi' hwe (opA_no_defer c1)
    have hk3 := kindOf_le E.tt o.op
    rcases (show kindOf E.tt o.op = 0 ∨ kindOf E.tt o.op = 1 ∨ kindOf E.tt o.op = 2 ∨ kindOf E.tt o.op = 3 by omega) with hk | hk | hk | hk
    · -- pure
      obtain ⟨_, hall⟩ := kind0 hk c1
      have hfresh : ∀ b, (s ops.size).H.next + 1 ≤ b → ρ b = none := fun b hb => by
        cases hq : ρ b with
        | none => rfl
        | some q =>
          have hle := hD.mono hC.le (Nat.le_refl ops.size)
          rcases hC.dom b q hq with h | ⟨j, h, e⟩
          · omega
          · have := hD.mono (i := j) (j := ops.size) (Nat.le_of_lt (hC.lt j h.2.1)) (Nat.le_refl _); omega
      have hr0 : HR E.ng ρ (bare ((s ops.size).H.next + 1)) w := bare_HR w hfresh hC.glob
      obtain ⟨ρ2, v, w2, g1, g2, g3, g4⟩ := op_go hG hex hr0 (ev := fr.eval) (fr := fr) (cs := cs) hev hplain (hall _)
      have hs := g1.steps hstep
      rw [finish_region ht hi'] at hs
      have hρ : ρ2 = ρ := by
        funext b
        cases hq : ρ b with
        | some q => exact g4.le b q hq
        | none =>
          cases hq2 : ρ2 b with
          | none => rfl
          | some q2 =>
            rcases g4.dom b q2 hq2 with h | h
            · rw [hq] at h; cases h
            · rw [g3.fresh b h] at hq2; cases hq2
      rw [hρ] at g2
      exact ⟨m, ρ, v, w2, hs, hC.quiet hD hi hdep (fun _ => by omega) g2 g4.size (fun c hc => g4.keep c hc bare_held) g4.tape g4.os g4.output, hS.keep hi (by omega)⟩
    · -- a reader
      have hst : stageOk E.tt ops.toList (masks ops.toList []) ops.size i m = true := by
        have hdep' : ∀ o', ops.toList[i]? = some o' → ∀ e ∈ o'.after.toList, Region.binds .any e = true → L e.on := fun o' ho' => by rw [hi] at ho'; cases ho'; exact hdep
        have kat : ∀ q, Nat.beq (kindAt E.tt ops.toList q) 3 = true → ∃ oq, ops.toList[q]? = some oq ∧ kindOf E.tt oq.op = 3 := fun q hq => by
          unfold kindAt at hq
          rw [nth_eq] at hq
          cases ho : ops.toList[q]? with
          | none => rw [ho] at hq; simp at hq
          | some oq => rw [ho] at hq; exact ⟨oq, rfl, Nat.eq_of_beq_eq_true hq⟩
        rcases hS.1 with h0 | ⟨p, op', rfl, h1, h2, h3⟩
        · subst h0
          simp only [stageOk, List.all_eq_true, List.mem_range, Bool.not_eq_true', Bool.and_eq_false_iff]
          intro q hq
          cases ha : ahead (masks ops.toList []) q i with
          | false => exact .inr rfl
          | true =>
            refine .inl ?_
            cases hb : Nat.beq (kindAt E.tt ops.toList q) 3 with
            | false => rfl
            | true =>
              obtain ⟨oq, e1, e2⟩ := kat q hb
              have := hS.2 q oq ((ahead_reach ha).mem hC.closed hdep') e1 e2
              omega
        · simp only [stageOk, Bool.and_eq_true, List.all_eq_true, List.mem_range, Bool.not_eq_true', Bool.and_eq_false_iff]
          refine ⟨⟨?_, ?_⟩, fun q hq => ?_⟩
          · unfold kindAt; rw [nth_eq, h2]; simp only; rw [h3]; rfl
          · cases ha : ahead (masks ops.toList []) i p with
            | false => rfl
            | true => exact absurd (hC.closed.reach (ahead_reach ha) h1) hn
          · cases ha : ahead (masks ops.toList []) q i with
            | false => exact .inl (.inr rfl)
            | true =>
              cases hb : Nat.beq (kindAt E.tt ops.toList q) 3 with
              | false => exact .inl (.inl rfl)
              | true =>
                obtain ⟨oq, e1, e2⟩ := kat q hb
                have := hS.2 q oq ((ahead_reach ha).mem hC.closed hdep') e1 e2
                refine .inr ?_
                cases hc : Nat.blt p q with
                | false => rfl
                | true => rw [Nat.blt_eq] at hc; omega
      obtain ⟨H2, hread⟩ := hD.read i m o hi hw hk hC.le hst
      have hfresh : ∀ b, (s ops.size).H.next + 1 ≤ b → ρ b = none := fun b hb => by
        cases hq : ρ b with
        | none => rfl
        | some q =>
          have hle := hD.mono hC.le (Nat.le_refl ops.size)
          rcases hC.dom b q hq with h | ⟨j, h, e⟩
          · omega
          · have := hD.mono (i := j) (j := ops.size) (Nat.le_of_lt (hC.lt j h.2.1)) (Nat.le_refl _); omega
      have hr0 := hC.hr.wider (cut_le ρ _) hfresh
      obtain ⟨v, g1, g2⟩ := read_go hG hr0 hev hk ((kind1 hk hread).2 _)
      have hs := (App.value (fr := fr) (cs := cs) g1).steps hstep
      rw [finish_region ht hi'] at hs
      exact ⟨m, ρ, v, w, hs, hC.quiet hD hi hdep (fun _ => by omega) g2 (Nat.le_refl _) (fun _ _ => rfl) rfl rfl rfl, hS.keep hi (by omega)⟩
    · -- a maker
      obtain ⟨cells, f, e1, e2, e3, _⟩ := kind2 hk c1
      have hmi := hS.le hD hC.closed hi hn (by omega)
      have hbl := hD.act i o hi hw (by omega)
      have hev2 : ∀ x ∈ o.op.operands, VR (cut ρ (s i).H.next) (fr.eval x) (evA (s i).t x) := fun x hx => (hev x hx).cut (evs_mem hbl x (by simpa using hx))
      have hglob : ∀ g, g < E.ng → ∃ z, cut ρ (s i).H.next g = some ⟨g, 0, z, 0⟩ := fun g hg => by
        obtain ⟨z, hz⟩ := hC.hr.glob g hg
        exact ⟨z, cut_mono (hD.mono hmi (Nat.le_of_lt hlt)) _ _ hz⟩
      have hr0 : HR E.ng (cut ρ (s i).H.next) (bare (s i).H.next) w := bare_HR w (fun b hb => by unfold cut; rw [if_neg (by omega)]) hglob
      obtain ⟨ρ2, v, w2, g1, g2, g3, g4⟩ := op_go hG hex hr0 (ev := fr.eval) (fr := fr) (cs := cs) hev2 hplain (e3 _)
      have hs := g1.steps hstep
      rw [finish_region ht hi'] at hs
      rw [bare_next, ← e1] at g2
      obtain ⟨ρ', _, hC'⟩ := hC.make hD hi hn hmi hdep hk hw e2 g2 g3 g4
      exact ⟨m, ρ', v, w2, hs, hC', hS.keep hi (by omega)⟩
    · -- an active one
      have hCi := hC.upTo hD hS hi hn hdep hk
      have hbl := hD.act i o hi hw (by omega)
      have hev2 : ∀ x ∈ o.op.operands, VR (cut ρ (s i).H.next) (fr.eval x) (evA (s i).t x) := fun x hx => (hev x hx).cut (evs_mem hbl x (by simpa using hx))
      obtain ⟨ρ2, v, w2, g1, g2, g3, g4⟩ := op_go hG hex hCi.hr (ev := fr.eval) (fr := fr) (cs := cs) hev2 hplain c1
      have hs := g1.steps hstep
      rw [finish_region ht hi'] at hs
      obtain ⟨ρ', _, hC'⟩ := hCi.act hD hi hdep (by omega) g2 g3 g4
      refine ⟨i + 1, ρ', v, w2, hs, hC', .inr ⟨i, o, rfl, .inr rfl, hi, hk⟩, fun q oq hq hoq hkq => ?_⟩
      have hmi := hS.le hD hC.closed hi hn (by omega)
      rcases hq with hq | rfl
      · have := hS.2 q oq hq hoq hkq; omega
      · omega
end Ex
