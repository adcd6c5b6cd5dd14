/- A verified executor for closed Go calls, part of it: its lemmas carry no condition. -/
import Derived.RangeFuncOwn
import Derived.Test.YtacchpkmjgdebaaGreatExO
set_option linter.unusedVariables false
set_option linter.unusedSimpArgs false
namespace Ex
open Go
variable {E : Env} {ρ ρ' : Rho} {H H' : Heap} {w w' : World} {ex : Ex}

theorem freeL_eq' {l l' : List Value} (h : LR ρ l l') (hf : freeL l' = true) : l = l' := freeL_eq h.2 h.1 hf

theorem runCall {fr : Frame} {cs : List Frame} {s : Sem Next} {v v' : Value} (h : HR E.ng ρ H w) (hs : s.run E.P w = .ok (.value v) w) (hv : VR ρ v v') : OpGo E ρ H w fr cs s v' H :=
  (OpRes.val h hs hv).go fr cs

theorem cells_bytes (h : HR E.ng ρ H w) {x x' : Value} {n : Nat} {l' : List Value} {bs : List UInt8} (hx : VR ρ x x') (hl : lenA x' = some n) (hs : srcCells H 1 n x' = some l') (hb : bytesA l' = some bs) :
    ∃ r : ByteArray, (Extern.Bytes.bytesOf x).run E.P w = .ok r w ∧ r = ⟨⟨bs⟩⟩ := by
  obtain ⟨l, h1, h2⟩ := src_sound h hx hl hs
  obtain ⟨ns, rfl, rfl⟩ := bytesA_sound h1 hb
  have hf := h2 w rfl
  cases x' with
  | slice a len c =>
    cases hl
    cases a with
    | none =>
      cases hx
      have : (ns.map (Value.int .u8)) = [] := by
        have hf : Result.ok #[] w = Result.ok ⟨ns.map (Value.int .u8)⟩ w := hf
        injection hf with a; injection a with a; exact a.symm
      have hns : ns = [] := by simpa using this
      subst hns
      exact ⟨_, rfl, rfl⟩
    | some a =>
      obtain ⟨b, o, s⟩ := a
      obtain ⟨p, hp, ⟨c0, rfl, -⟩ | ⟨a, c0, rfl, rfl, -, -⟩⟩ := slice_inv hx
      · have hs : readCells H b o (n * 1) = some l' := hs
        obtain ⟨l2, g1, g2, g3⟩ := read_cells h hp hs
        have hrun := run_loadCells_list (P := E.P) w ⟨p.c, p.s + o, none⟩ l2 (fun j v hv => by rw [addr_add]; exact g3 j v hv)
        rw [g2] at hrun
        have hf : (loadCells ⟨p.c, p.s + o, none⟩ (n * 1)).run E.P w = .ok ⟨ns.map (Value.int .u8)⟩ w := hf
        rw [hrun] at hf
        have e : l2 = ns.map (Value.int .u8) := by injection hf with a; injection a
        subst e
        obtain ⟨r, r1, r2⟩ := loadBytes_run (P := E.P) w p.c ns (p.s + o) .empty g3
        have hn : ns.length = n := by have := g2; simp at this; omega
        rw [hn] at r1
        refine ⟨r, r1, ?_⟩
        apply ByteArray.ext
        apply Array.ext'
        rw [r2]; simp
      · have : l' = [] := src_zero (H := H) (size := 1) (x := .slice (some ⟨b, o, s⟩) 0 c) hs
        subst this
        have := h1.nil_inv
        have hns : ns = [] := by simpa using this
        subst hns
        exact ⟨_, rfl, rfl⟩
  | string bs2 =>
    obtain ⟨⟨s⟩⟩ := bs2
    rw [hx.string_inv]
    refine ⟨_, rfl, ?_⟩
    cases hl
    have hs : takeL s.length (ofBytes s) = some l' := hs
    obtain ⟨hn, rfl⟩ := takeL_some hs
    have hlen : (ofBytes s).length = s.length := by rw [ofBytes_eq]; simp
    have htake : (ofBytes s).take s.length = ofBytes s := by rw [← hlen, List.take_length]
    rw [htake] at h1 hb
    have e1 : ns.map (Value.int .u8) = ofBytes s := freeL_eq' h1 (freeL_ofBytes s)
    rw [ofBytes_eq] at e1
    have e2 : ns = s.map fun b => (b.toNat : Int) := by
      have : ∀ (a b : List Int), a.map (Value.int .u8) = b.map (Value.int .u8) → a = b := by
        intro a
        induction a with
        | nil => intro b hb; cases b with | nil => rfl | cons _ _ => cases hb
        | cons x a ih => intro b hb; cases b with
          | nil => cases hb
          | cons y b => simp only [List.map_cons, List.cons.injEq] at hb; rw [ih b hb.2]; injection hb.1 with _ e; rw [e]
      apply this
      rw [e1]; simp
    subst e2
    have hid : (s.map fun b => (b.toNat : Int)).map (fun n => UInt8.ofNat n.toNat) = s := by
      rw [List.map_map]
      conv => rhs; rw [← List.map_id s]
      apply List.map_congr_left
      intro b _
      simp
    rw [hid]
  | _ => cases hl

theorem cmp_go (hG : EnvGood E) (h : HR E.ng ρ H w) {f : FuncId} {x y x' y' v' : Value} (hf : E.ext f = .cmp) (hx : VR ρ x x') (hy : VR ρ y y') (hc : cmpV H x' y' = some v') : (callFunc f #[x, y]).run E.P w = .ok (.value v') w ∧ free v' = true := by
  unfold cmpV at hc
  cases h1 : lenA x' with
  | none => rw [h1] at hc; cases hc
  | some n =>
  rw [h1] at hc; simp only at hc
  cases h2 : lenA y' with
  | none => rw [h2] at hc; cases hc
  | some m =>
  rw [h2] at hc; simp only at hc
  cases h3 : srcCells H 1 n x' with
  | none => rw [h3] at hc; cases hc
  | some a =>
  rw [h3] at hc; simp only at hc
  cases h4 : srcCells H 1 m y' with
  | none => rw [h4] at hc; cases hc
  | some b =>
  rw [h4] at hc; simp only at hc
  cases h5 : bytesA a with
  | none => rw [h5] at hc; cases hc
  | some p =>
  rw [h5] at hc; simp only at hc
  cases h6 : bytesA b with
  | none => rw [h6] at hc; cases hc
  | some q =>
  rw [h6] at hc
  cases hc
  obtain ⟨r1, g1, rfl⟩ := cells_bytes h hx h1 h3 h5
  obtain ⟨r2, g2, rfl⟩ := cells_bytes h hy h2 h4 h6
  refine ⟨hG.cmp f hf x y w w _ ?_, rfl⟩
  show (do pure (goInt (Extern.BytealgCompare.cmp (← Extern.Bytes.bytesOf x) (← Extern.Bytes.bytesOf y))) : Sem Value).run E.P w = _
  simp [g1, g2, Result.andThen, goInt]

theorem add_go (hG : EnvGood E) (h : HR E.ng ρ H w) {f : FuncId} {x y x' y' v' : Value} (hf : E.ext f = .add) (hx : VR ρ x x') (hy : VR ρ y y') (hc : addI64 H x' y' = .ok v' H') :
    ∃ w', (callFunc f #[x, y]).run E.P w = .ok (.value v') w' ∧ free v' = true ∧ HR E.ng ρ H' w' ∧ Ext ρ H w ρ H' w' := by
  unfold addI64 at hc
  split at hc
  · rename_i b o s
    split at hc
    · rename_i d
      split at hc
      · rename_i n hr
        obtain ⟨p, hp, rfl⟩ := ptr_inv hx
        have hyv := hy.int_inv
        subst hyv
        obtain ⟨v, g1, g2⟩ := read_cell h hp hr
        have := g2.int_inv
        subst this
        unfold addCell at hc
        cases hw : writeCells H b o [.int .i64 (IntKind.i64.wrap (n + d))] with
        | none => rw [hw] at hc; cases hc
        | some H1 =>
          rw [hw] at hc
          cases hc
          have hlr : LR ρ [.int .i64 (IntKind.i64.wrap (n + d))] [.int .i64 (IntKind.i64.wrap (n + d))] := LR.cons (.int _ _) (LR.nil ρ)
          obtain ⟨w', k1, k2, k3⟩ := write_cells h hp hw hlr (by simp [oneCell])
          refine ⟨w', hG.add f hf _ _ w w' _ ?_, rfl, k2, k3⟩
          have hst : (store ⟨p.c, p.s + o, none⟩ (.int .i64 (IntKind.i64.wrap (n + d))) .atomic).run E.P w = .ok () w' := by
            simp only [storeCells, Sem.run_bind, addr_add, Nat.add_zero] at k1
            have hpl : (store ⟨p.c, p.s + o, none⟩ (.int .i64 (IntKind.i64.wrap (n + d)))).run E.P w = .ok () w' := by
              cases hs : (store ⟨p.c, p.s + o, none⟩ (.int .i64 (IntKind.i64.wrap (n + d)))).run E.P w with
              | ok u w2 => rw [hs] at k1; simpa [Result.andThen] using k1
              | halt x w2 => rw [hs] at k1; simp [Result.andThen] at k1
            rw [run_store E.P w _ _ _ rfl] at hpl ⊢
            simpa [g1] using hpl
          show (do
            let a ← asAddr (.pointer (some ⟨p.c, p.s + o, none⟩))
            let old ← Extern.Atomic.read (.int .i64) a
            let new ← Op.intArith .add .i64 (← asInt old) (← asInt (.int .i64 d))
            store a new .atomic
            pure (if true then new else old) : Sem Value).run E.P w = _
          have hld : (load ⟨p.c, p.s + o, none⟩ .atomic).run E.P w = .ok (.int .i64 n) w := by rw [run_load]; simp [g1]
          simp [asAddr, Extern.Atomic.read, asInt, asIntOf, Op.intArith, Result.andThen, hld, hst]
      · cases hc
    · cases hc
  · cases hc

theorem call_go (hG : EnvGood E) (hex : SoundEx E ex) (h : HR E.ng ρ H w) {f : FuncId} {args args' : List Value} {v' : Value} (ha : LR ρ args args') {fr : Frame} {cs : List Frame} (hp : Plain fr) (hc : callA E ex H f args' = .ok v' H') :
    OpGo E ρ H w fr cs (callFunc f ⟨args⟩) v' H' := by
  unfold callA at hc
  cases ho : E.ovr f with
  | some g =>
    rw [ho] at hc
    obtain ⟨h1, h2⟩ := hG.ovr f g ho args args' ρ H w v' H' h ha hc
    obtain ⟨ρ', v, w', fr', g1, g2, g3, g4⟩ := h2 (fr :: cs)
    exact ⟨ρ', v, w', .enter hp h1 (Steps.trans g1 (.one (step_leave_returned g3))), g4⟩
  | none =>
    rw [ho] at hc
    simp only [callFn] at hc
    cases hfn : E.ft.get none f with
    | none => rw [hfn] at hc; cases hc
    | some fn =>
      rw [hfn] at hc
      have hpf := hG.ft f fn hfn
      simp only at hc
      cases hb : fn.body with
      | some c =>
        rw [hb] at hc
        simp only [enterA] at hc
        cases hle : Nat.ble args'.length fn.ntmps with
        | false => rw [hle] at hc; cases hc
        | true =>
          rw [hle] at hc
          have hle := Nat.le_of_ble_eq_true hle
          simp only at hc
          rw [← ha.1] at hle
          have hent : Frame.enter E.P f ⟨args⟩ .normal = { fn := f, tmps := (⟨args⟩ : Array Value) ++ Array.replicate (fn.ntmps - args.length) undef, todo := [.code c], defers := [], mode := .run, kind := .normal } := by
            simp [Frame.enter, hpf, hb]
          have hfr : FrR ρ ⟨f, fn.ntmps, none⟩ [] [.code c] (setArgs (Tr.full Undef (depthOf fn.ntmps)) 0 args') (Frame.enter E.P f ⟨args⟩ .normal) := by
            rw [hent]
            exact ⟨rfl, rfl, rfl, enter_TR hle ha, .code c .nil, .nil, rfl⟩
          obtain ⟨ρ', v, w', g1, g2⟩ := hex _ _ _ _ _ _ _ hc ρ _ w (fr :: cs) hfr h
          have hcall : (callFunc f ⟨args⟩).run E.P w = .ok (.enter f ⟨args⟩) w := by
            have hn := hG.nog f fn hfn
            have h1 : fn.name ≠ "runtime.NumGoroutine" := by simpa using hn
            simp [callFunc, hpf, h1, hb]
          exact ⟨ρ', v, w', .enter hp hcall g1.finish, g2⟩
      | none =>
        rw [hb] at hc
        simp only [externA] at hc
        cases he : E.ext f with
        | pure =>
          rw [he] at hc
          simp only at hc
          cases hfl : freeL args' with
          | false => rw [hfl] at hc; cases hc
          | true =>
            rw [hfl] at hc
            simp only at hc
            obtain ⟨h1, rfl⟩ := oval_inv hc
            obtain ⟨h2, h3⟩ := opValue_inv h1
            have hargs : args = args' := freeL_eq' ha hfl
            rw [hargs]
            exact runCall h (pureRun_run h2 w) (VR.of_free ρ _ h3)
        | cmp =>
          rw [he] at hc
          simp only at hc
          split at hc
          · rename_i x' y'
            obtain ⟨x, l, rfl, hx, hl⟩ := ha.cons_inv
            obtain ⟨y, l2, rfl, hy, hl2⟩ := hl.cons_inv
            have := hl2.nil_inv
            subst this
            obtain ⟨h1, rfl⟩ := oval_inv hc
            obtain ⟨h2, h3⟩ := cmp_go hG h he hx hy h1
            exact runCall h h2 (VR.of_free ρ _ h3)
          · cases hc
        | add =>
          rw [he] at hc
          simp only at hc
          split at hc
          · rename_i x' y'
            obtain ⟨x, l, rfl, hx, hl⟩ := ha.cons_inv
            obtain ⟨y, l2, rfl, hy, hl2⟩ := hl.cons_inv
            have := hl2.nil_inv
            subst this
            obtain ⟨w', h1, h2, h3, h4⟩ := add_go hG h he hx hy hc
            exact ⟨ρ, v', w', .value h1, VR.of_free ρ _ h2, h3, h4⟩
          · cases hc

theorem HR.loop (h : HR E.ng ρ H w) {b l : Nat} {st : LoopState} {pe : Option Code} {fn : FuncId} {tmps : Tr Value} {nt : Nat} {ps : Array Tmp} {as bd : Code} {df : Nat} (hb : ρ b = some ⟨l, 0, 0, 0⟩) (ho : H.get b = .loop st pe fn tmps nt ps as bd df) :
    ∃ a dl, ρ df = some ⟨dl, 0, 0, 0⟩ ∧ TR ρ a tmps nt ∧ w.heap[l]? = some (.loop { state := st, pending := pe, fn, tmps := a, params := ps, assign := as, body := bd, defers := dl }) := by
  have := h.obj b
  rw [ho] at this
  obtain ⟨l', a, dl, h1, h2, h3, h4⟩ := this
  rw [hb] at h1; cases h1
  exact ⟨a, dl, h2, h3, h4⟩

theorem round_go (hex : SoundEx E ex) (h : HR E.ng ρ H w) {b l : Nat} {args args' : List Value} {v' : Value} (hb : ρ b = some ⟨l, 0, 0, 0⟩) (ha : LR ρ args args') {fr : Frame} {cs : List Frame} (hc : roundA ex H b args' = .ok v' H') :
    OpGo E ρ H w fr cs (Instr.yield l ⟨args⟩) v' H' := by
  unfold roundA at hc
  cases ho : H.get b <;> rw [ho] at hc <;> simp only at hc <;> try (cases hc; done)
  rename_i st pe fn tmps nt ps as bd df
  obtain ⟨a, dl, h1, h2, h3⟩ := h.loop hb ho
  cases hsp : setParams nt ps.toList args' tmps with
  | none => rw [hsp] at hc; cases hc
  | some t' =>
    rw [hsp] at hc
    simp only [roundRun] at hc
    obtain ⟨g1, g2⟩ := setParams_rel h2 ha hsp
    have hy := run_yield (P := E.P) (args := (⟨args⟩ : Array Value)) h3 (by simpa using g1)
    simp only at hy
    have hz : (ps.zip ⟨args⟩).foldl (fun tmps (x : Tmp × Value) => tmps.setIfInBounds x.1 x.2) a = (ps.toList.zip args).foldl (fun tmps (x : Tmp × Value) => tmps.setIfInBounds x.1 x.2) a := by
      rw [← Array.foldl_toList, Array.toList_zip]
    have hfr : FrR ρ ⟨fn, nt, some b⟩ [] [.code as, .beginRound, .code bd] t' (Frame.round l fn ((ps.zip ⟨args⟩).foldl (fun tmps (x : Tmp × Value) => tmps.setIfInBounds x.1 x.2) a) as bd .normal) := by
      rw [hz]
      exact ⟨rfl, rfl, rfl, g2, .code as (.beginRound (.code bd .nil)), .nil, ⟨l, hb, rfl⟩⟩
    obtain ⟨ρ', v, w', k1, k2⟩ := hex _ _ _ _ _ _ _ hc ρ _ w (fr :: cs) hfr h
    exact ⟨ρ', v, w', .round hy k1.finish, k2⟩

theorem callV_go (hG : EnvGood E) (hex : SoundEx E ex) (h : HR E.ng ρ H w) {g g' : Value} {args args' : List Value} {v' : Value} (hg : VR ρ g g') (ha : LR ρ args args') {fr : Frame} {cs : List Frame} (hp : Plain fr) (hc : callV E ex H g' args' = .ok v' H') :
    ∃ d, (∀ w, (Deferred.ofValue g ⟨args⟩).run E.P w = .ok d w) ∧ OpGo E ρ H w fr cs (invoke d.target d.args) v' H' := by
  unfold callV at hc
  split at hc
  · rename_i f first captured
    cases hg with
    | func x x' y y' hf hx hh hy hh' =>
      cases hf
      refine ⟨{ target := .fn (.func f) ⟨y⟩, args := ⟨x⟩ ++ ⟨args⟩ }, fun _ => rfl, ?_⟩
      have : invoke (.fn (.func f) ⟨y⟩) ((⟨x⟩ : Array Value) ++ ⟨args⟩) = callFunc f ⟨x ++ args ++ y⟩ := by
        show callFunc f (((⟨x⟩ : Array Value) ++ ⟨args⟩) ++ ⟨y⟩) = _
        congr 1
        apply Array.ext'
        simp
      simp only [this]
      exact call_go hG hex h ((LR.append ⟨hx, hh⟩ ha).append ⟨hy, hh'⟩) hp hc
  · rename_i b
    cases hg with
    | func x x' y y' hf hx hh hy hh' =>
      cases hf with
      | yield hb =>
        rename_i l
        have e1 : x = [] := by simpa using hx
        subst e1
        refine ⟨{ target := .fn (.yield l) ⟨y⟩, args := (⟨[]⟩ : Array Value) ++ ⟨args⟩ }, fun _ => rfl, ?_⟩
        have : invoke (.fn (.yield l) ⟨y⟩) ((⟨[]⟩ : Array Value) ++ ⟨args⟩) = Instr.yield l ⟨args⟩ := by
          show Instr.yield l ((⟨[]⟩ : Array Value) ++ ⟨args⟩) = _
          congr 1
          apply Array.ext'
          simp
        simp only [this]
        exact round_go hex h hb ha hc
  · cases hc
end Ex
