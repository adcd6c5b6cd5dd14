/- A verified executor for closed Go calls, part of it: its lemmas carry no condition. -/
import Derived.Test.YtacchpkmjgdebaaGreatExP
import Derived.Test.YtacchpkmjgdebaaGreatExMap3
set_option linter.unusedVariables false
set_option linter.unusedSimpArgs false
namespace Ex
open Go
variable {E : Env} {ρ ρ' : Rho} {H H' : Heap} {w w' : World} {ex : Ex}

theorem evs_rel {ev : Operand → Value} {t : Tr Value} : ∀ {l : List Operand}, (∀ x ∈ l, VR ρ (ev x) (evA t x)) → LR ρ (l.map ev) (evs t l)
  | [], _ => LR.nil ρ
  | x :: l, h => LR.cons (h x (by simp)) (evs_rel (fun y hy => h y (by simp [hy])))
theorem evParts_rel {ev : Operand → Value} {t : Tr Value} : ∀ {l : List (Nat × Operand)}, (∀ x ∈ l.map (·.2), VR ρ (ev x) (evA t x)) → PR ρ (l.map fun (i, x) => (i, ev x)) (evParts t l)
  | [], _ => .nil
  | (i, x) :: l, h => .cons (h x (by simp)) (evParts_rel (fun y hy => h y (by simp at hy ⊢; exact .inr hy)))
theorem evO_rel {ev : Operand → Value} {t : Tr Value} {x : Option Operand} (h : ∀ y, x = some y → VR ρ (ev y) (evA t y)) : OR ρ (x.map ev) (evO t x) := by
  cases x with
  | none => exact .none
  | some y => exact .some (h y rfl)

theorem len_sound (hE : EnvOk E) {A : Array TypeId} {t ty : TypeId} {x x' v' : Value} (hA : A[0]? = some t) (hx : VR ρ x x') (hl : lenV (E.tt.und t) x' = some v') (w : World) : (Builtin.len_ A ty #[x]).run E.P w = .ok v' w ∧ free v' = true := by
  cases x' with
  | slice a n c =>
    have hl : (match E.tt.und t with | some (.slice _) => some (Value.int .i64 (.ofNat n)) | _ => none) = some v' := hl
    split at hl
    · rename_i e hd
      cases hl
      have hu := und_eq hE hd
      obtain ⟨a0, c0, rfl⟩ : ∃ a0 c0, x = .slice a0 n c0 := by cases hx <;> exact ⟨_, _, rfl⟩
      exact ⟨by simp [Builtin.len_, hA, run_underlying hu, Result.andThen, goInt], rfl⟩
    · cases hl
  | string bs =>
    obtain ⟨⟨l⟩⟩ := bs
    have hl : (match E.tt.und t with | some .string => some (Value.int .i64 (.ofNat l.length)) | _ => none) = some v' := hl
    split at hl
    · rename_i hd
      cases hl
      have hu := und_eq hE hd
      rw [hx.string_inv]
      exact ⟨by simp [Builtin.len_, hA, run_underlying hu, Result.andThen, goInt]; rfl, rfl⟩
    · cases hl
  | _ => cases hl

theorem cap_sound (hE : EnvOk E) (h : HR E.ng ρ H w) {A : Array TypeId} {t ty : TypeId} {e : TypeId × Nat} {x x' v' : Value} (hA : A[0]? = some t) (he : elemA E.tt t = some e) (hx : VR ρ x x') (hl : capV H x' = some v') :
    (Builtin.cap_ A ty #[x]).run E.P w = .ok v' w ∧ free v' = true := by
  obtain ⟨hu, _⟩ := elemA_inv hE he
  have hrun : ∀ a n c, (Builtin.cap_ A ty #[.slice a n c]).run E.P w = .ok (.int .i64 (c : Int)) w := fun a n c => by
    simp [Builtin.cap_, hA, run_underlying hu, Result.andThen, goInt]
  cases x' with
  | slice a n c =>
    cases a with
    | none =>
      have hl : some (Value.int .i64 (.ofNat c)) = some v' := hl
      cases hl; cases hx
      exact ⟨hrun _ _ _, rfl⟩
    | some a =>
      obtain ⟨b, o, s⟩ := a
      have hl : (match H.get b with | .cells _ 0 => some (Value.int .i64 (.ofNat c)) | _ => none) = some v' := hl
      split at hl
      · rename_i cs hb
        cases hl
        obtain ⟨p, hp, ⟨c0, rfl, hc, h0, hk⟩ | ⟨a, c0, rfl, rfl, rfl, hk⟩⟩ := slice_inv hx
        · have := (h.cells hp hb).1
          rw [h0 this]
          exact ⟨hrun _ _ _, rfl⟩
        · exact absurd (h.cells hp hb).1 hk
      · cases hl
  | _ => cases hl

theorem head_of {A : Array TypeId} {t : TypeId} {l : List TypeId} (h : A.toList = t :: l) : A[0]? = some t := by
  obtain ⟨a⟩ := A
  simp only at h
  subst h; rfl

theorem freeL_evs {t : Tr Value} : ∀ {l : List Operand}, freeL (evs t l) = true → ∀ {x}, x ∈ l → free (evA t x) = true
  | [], _, _, hx => by cases hx
  | y :: l, h, x, hx => by
    simp only [evs, freeL, Bool.and_eq_true] at h
    rcases List.mem_cons.1 hx with rfl | hx
    · exact h.1
    · exact freeL_evs h.2 hx
theorem box_sound (h : HR E.ng ρ H w) {v v' u : Value} (t : TypeId) (hv : VR ρ v v') (hn : Ex.newVar H (cellsV v') = .ok u H') : OpRes E ρ H w (do pure (Next.value (← Instr.box t v))) u H' := by
  cases hn
  obtain ⟨h1, h2⟩ := new_exact h t (cells_rel hv)
  have hr : (Instr.box t v).run E.P w = .ok (.pointer (some ⟨w.heap.size, 0, none⟩)) (w.alloc (.cells ⟨v.cells.toList⟩ t)) := rfl
  exact ⟨_, _, _, .inl (run_v hr), .newPtr _ _ _ _ _, h1, h2⟩
theorem pureOp_go (h : HR E.ng ρ H w) {ev : Operand → Value} {t : Tr Value} {o : Oper} {v' : Value} (hev : ∀ x ∈ o.op.operands, VR ρ (ev x) (evA t x)) (l : List Operand) (fl : Bool) (hs : ∀ cs b, o.op ≠ .select cs b) (hl : ∀ x ∈ o.op.operands, x ∈ l)
    (hfl : fl = true → ∀ x ∈ l, free (evA t x) = true) (hv : oval H (pureOp E.P t o fl) = .ok v' H') : OpRes E ρ H w (execOp ev o) v' H' := by
  obtain ⟨hv2, rfl⟩ := oval_inv hv
  unfold pureOp at hv2
  cases fl with
  | false => cases hv2
  | true => exact pureOp_sound h hs (fun x hx => free_operands (hev x hx) (hfl rfl x (hl x hx))) hv2
theorem nilCk_form {x x' v' : Value} (hx : VR ρ x x') (h : nilCk x' = some v') : (∃ a, x = .pointer (some a)) ∨ (∃ f a b, x = .func (.func f) a b) ∨ (∃ l a b, x = .func (.yield l) a b) := by
  unfold nilCk at h
  split at h
  · cases hx; exact .inl ⟨_, rfl⟩
  · cases hx with
    | func x x' y y' hf => cases hf; exact .inr (.inl ⟨_, _, _, rfl⟩)
  · cases hx with
    | func x x' y y' hf => cases hf; exact .inr (.inr ⟨_, _, _, rfl⟩)
  · cases h

theorem App.congr {P : Program} {fr : Frame} {cs : List Frame} {s s' : Sem Next} {v : Value} (h : s.run P w = s'.run P w) (ha : App P fr cs s' w v w') : App P fr cs s w v w' := by
  obtain ⟨fr1, cs1, w1, h1, h2⟩ := ha
  refine ⟨fr1, cs1, w1, ?_, h2⟩
  rw [← h1]
  simp only [stepG.apply, Sem.runT_eq, GStep.bare_after, if_true, h]

set_option maxHeartbeats 1000000 in
theorem go_move (hG : EnvGood E) (hex : SoundEx E ex) (h : HR E.ng ρ H w) {ev : Operand → Value} {t : Tr Value} {dst : Option Tmp} {type : TypeId} {pos : String} {after : Array Edge} {guard : Option (Nat × Bool)} {x : Operand} {v' : Value} (hev : ∀ z ∈ (Op.operands (.move x)), VR ρ (ev z) (evA t z)) {fr : Frame} {cs : List Frame} (hp : Plain fr)
    (hc : opA E ex H t ⟨dst, .move x, type, pos, after, guard⟩ = .ok v' H') : OpGo E ρ H w fr cs (execOp ev ⟨dst, .move x, type, pos, after, guard⟩) v' H' := by
  have hE := hG.toEnvOk
  simp only [Op.operands] at hev
  have hc : Out.ok (evA t x) H = .ok v' H' := hc
  cases hc; exact (OpRes.val h rfl (hev x (by simp))).go fr cs

set_option maxHeartbeats 1000000 in
theorem go_assign (hG : EnvGood E) (hex : SoundEx E ex) (h : HR E.ng ρ H w) {ev : Operand → Value} {t : Tr Value} {dst : Option Tmp} {type : TypeId} {pos : String} {after : Array Edge} {guard : Option (Nat × Bool)} {x : Operand} {v' : Value} (hev : ∀ z ∈ (Op.operands (.assign x)), VR ρ (ev z) (evA t z)) {fr : Frame} {cs : List Frame} (hp : Plain fr)
    (hc : opA E ex H t ⟨dst, .assign x, type, pos, after, guard⟩ = .ok v' H') : OpGo E ρ H w fr cs (execOp ev ⟨dst, .assign x, type, pos, after, guard⟩) v' H' := by
  have hE := hG.toEnvOk
  simp only [Op.operands] at hev
  have hc : Out.ok (evA t x) H = .ok v' H' := hc
  cases hc; exact (OpRes.val h rfl (hev x (by simp))).go fr cs

set_option maxHeartbeats 1000000 in
theorem go_pick (hG : EnvGood E) (hex : SoundEx E ex) (h : HR E.ng ρ H w) {ev : Operand → Value} {t : Tr Value} {dst : Option Tmp} {type : TypeId} {pos : String} {after : Array Edge} {guard : Option (Nat × Bool)} {c a b : Operand} {v' : Value} (hev : ∀ z ∈ (Op.operands (.pick c a b)), VR ρ (ev z) (evA t z)) {fr : Frame} {cs : List Frame} (hp : Plain fr)
    (hc : opA E ex H t ⟨dst, .pick c a b, type, pos, after, guard⟩ = .ok v' H') : OpGo E ρ H w fr cs (execOp ev ⟨dst, .pick c a b, type, pos, after, guard⟩) v' H' := by
  have hE := hG.toEnvOk
  simp only [Op.operands] at hev
  obtain ⟨h1, rfl⟩ := oval_inv (show oval H (asBoolA (evA t c) (evA t a) (evA t b)) = .ok v' H' from hc)
  exact (pick_sound h (hev c (by simp)) (hev a (by simp)) (hev b (by simp)) h1).go fr cs

set_option maxHeartbeats 1000000 in
theorem go_alloc (hG : EnvGood E) (hex : SoundEx E ex) (h : HR E.ng ρ H w) {ev : Operand → Value} {t : Tr Value} {dst : Option Tmp} {type : TypeId} {pos : String} {after : Array Edge} {guard : Option (Nat × Bool)} {ty : TypeId} {v' : Value} (hev : ∀ z ∈ (Op.operands (.alloc ty)), VR ρ (ev z) (evA t z)) {fr : Frame} {cs : List Frame} (hp : Plain fr)
    (hc : opA E ex H t ⟨dst, .alloc ty, type, pos, after, guard⟩ = .ok v' H') : OpGo E ρ H w fr cs (execOp ev ⟨dst, .alloc ty, type, pos, after, guard⟩) v' H' := by
  have hE := hG.toEnvOk
  simp only [Op.operands] at hev
  have hc : (match zeroA E.tt ty with | some z => Ex.newVar H (cellsV z) | none => .bad) = .ok v' H' := hc
  cases hz : zeroA E.tt ty with
  | none => rw [hz] at hc; cases hc
  | some z => rw [hz] at hc; exact (alloc_sound hE h hz hc).go fr cs

set_option maxHeartbeats 1000000 in
theorem go_box (hG : EnvGood E) (hex : SoundEx E ex) (h : HR E.ng ρ H w) {ev : Operand → Value} {t : Tr Value} {dst : Option Tmp} {type : TypeId} {pos : String} {after : Array Edge} {guard : Option (Nat × Bool)} {ty : TypeId} {x : Operand} {v' : Value} (hev : ∀ z ∈ (Op.operands (.box ty x)), VR ρ (ev z) (evA t z)) {fr : Frame} {cs : List Frame} (hp : Plain fr)
    (hc : opA E ex H t ⟨dst, .box ty x, type, pos, after, guard⟩ = .ok v' H') : OpGo E ρ H w fr cs (execOp ev ⟨dst, .box ty x, type, pos, after, guard⟩) v' H' := by
  have hE := hG.toEnvOk
  simp only [Op.operands] at hev
  exact (box_sound h ty (hev x (by simp)) (show Ex.newVar H (cellsV (evA t x)) = .ok v' H' from hc)).go fr cs

set_option maxHeartbeats 1000000 in
theorem go_build (hG : EnvGood E) (hex : SoundEx E ex) (h : HR E.ng ρ H w) {ev : Operand → Value} {t : Tr Value} {dst : Option Tmp} {type : TypeId} {pos : String} {after : Array Edge} {guard : Option (Nat × Bool)} {ty : TypeId} {ps : Array (Nat × Operand)} {v' : Value} (hev : ∀ z ∈ (Op.operands (.build ty ps)), VR ρ (ev z) (evA t z)) {fr : Frame} {cs : List Frame} (hp : Plain fr)
    (hc : opA E ex H t ⟨dst, .build ty ps, type, pos, after, guard⟩ = .ok v' H') : OpGo E ρ H w fr cs (execOp ev ⟨dst, .build ty ps, type, pos, after, guard⟩) v' H' := by
  have hE := hG.toEnvOk
  simp only [Op.operands] at hev
  obtain ⟨h1, rfl⟩ := oval_inv (show oval H (buildA E.tt ty (evParts t ps.toList)) = .ok v' H' from hc)
  obtain ⟨v, g1, g2⟩ := build_sound hE (parts := ps.map fun (i, x) => (i, ev x)) (by rw [Array.toList_map]; exact evParts_rel (fun x hx => hev x (by simpa using hx))) h1 w
  exact (OpRes.ofSem h rfl g1 g2).go fr cs

set_option maxHeartbeats 1000000 in
theorem go_buildSlice (hG : EnvGood E) (hex : SoundEx E ex) (h : HR E.ng ρ H w) {ev : Operand → Value} {t : Tr Value} {dst : Option Tmp} {type : TypeId} {pos : String} {after : Array Edge} {guard : Option (Nat × Bool)} {ty : TypeId} {len : Nat} {ps : Array (Nat × Operand)} {v' : Value} (hev : ∀ z ∈ (Op.operands (.buildSlice ty len ps)), VR ρ (ev z) (evA t z)) {fr : Frame} {cs : List Frame} (hp : Plain fr)
    (hc : opA E ex H t ⟨dst, .buildSlice ty len ps, type, pos, after, guard⟩ = .ok v' H') : OpGo E ρ H w fr cs (execOp ev ⟨dst, .buildSlice ty len ps, type, pos, after, guard⟩) v' H' := by
  have hE := hG.toEnvOk
  simp only [Op.operands] at hev
  have hc : bslA E.tt H len (evParts t ps.toList) (elemA E.tt ty) = .ok v' H' := hc
  have hpr : PR ρ (ps.map fun (i, x) => (i, ev x)).toList (evParts t ps.toList) := by rw [Array.toList_map]; exact evParts_rel (fun x hx => hev x (by simpa using hx))
  have hx : execOp ev ⟨dst, .buildSlice ty len ps, type, pos, after, guard⟩ = (do pure (Next.value (← Instr.buildSlice ty len (ps.map fun (i, x) => (i, ev x))))) := by simp only [execOp]
  rw [hx]
  have hb := buildSlice_sound hE h hpr hc
  exact hb.go fr cs

set_option maxHeartbeats 1000000 in
theorem go_load (hG : EnvGood E) (hex : SoundEx E ex) (h : HR E.ng ρ H w) {ev : Operand → Value} {t : Tr Value} {dst : Option Tmp} {type : TypeId} {pos : String} {after : Array Edge} {guard : Option (Nat × Bool)} {ty : TypeId} {a : Operand} {v' : Value} (hev : ∀ z ∈ (Op.operands (.load ty a)), VR ρ (ev z) (evA t z)) {fr : Frame} {cs : List Frame} (hp : Plain fr)
    (hc : opA E ex H t ⟨dst, .load ty a, type, pos, after, guard⟩ = .ok v' H') : OpGo E ρ H w fr cs (execOp ev ⟨dst, .load ty a, type, pos, after, guard⟩) v' H' := by
  have hE := hG.toEnvOk
  simp only [Op.operands] at hev
  obtain ⟨h1, rfl⟩ := oval_inv (show oval H (loadV E.tt H ty (evA t a)) = .ok v' H' from hc)
  have ha := hev a (by simp)
  unfold loadV at h1
  split at h1
  · rename_i x hx
    obtain ⟨b, o, s⟩ := x
    rw [hx] at ha
    obtain ⟨p, hp2, hpe⟩ := ptr_inv ha
    obtain ⟨v, g1, g2⟩ := load_sound hE h hp2 (show load1 _ b o (shapeA E.tt ty) = some v' from h1)
    refine (OpRes.ofSem h (sv := Instr.loadAt ty (ev a)) rfl ?_ g2).go fr cs
    rw [hpe]
    simp only [Instr.loadAt, Instr.sureAddr, Sem.run_bind, Sem.run_pure, Result.andThen]
    exact g1
  · cases h1

set_option maxHeartbeats 1000000 in
theorem go_store (hG : EnvGood E) (hex : SoundEx E ex) (h : HR E.ng ρ H w) {ev : Operand → Value} {t : Tr Value} {dst : Option Tmp} {type : TypeId} {pos : String} {after : Array Edge} {guard : Option (Nat × Bool)} {ty : TypeId} {a x : Operand} {v' : Value} (hev : ∀ z ∈ (Op.operands (.store ty a x)), VR ρ (ev z) (evA t z)) {fr : Frame} {cs : List Frame} (hp : Plain fr)
    (hc : opA E ex H t ⟨dst, .store ty a x, type, pos, after, guard⟩ = .ok v' H') : OpGo E ρ H w fr cs (execOp ev ⟨dst, .store ty a x, type, pos, after, guard⟩) v' H' := by
  have hE := hG.toEnvOk
  simp only [Op.operands] at hev
  have hc : ounit (storeV E.tt H ty (evA t a) (evA t x)) = .ok v' H' := hc
  cases hs : storeV E.tt H ty (evA t a) (evA t x) with
  | none => rw [hs] at hc; cases hc
  | some H1 =>
    rw [hs] at hc
    cases hc
    obtain ⟨w', g1, g2, g3⟩ := store_sound hE h (hev a (by simp)) (hev x (by simp)) hs
    exact ⟨ρ, undef, w', .skip (run_u g1), .undef, g2, g3⟩

set_option maxHeartbeats 1000000 in
theorem go_nilCheck (hG : EnvGood E) (hex : SoundEx E ex) (h : HR E.ng ρ H w) {ev : Operand → Value} {t : Tr Value} {dst : Option Tmp} {type : TypeId} {pos : String} {after : Array Edge} {guard : Option (Nat × Bool)} {x : Operand} {v' : Value} (hev : ∀ z ∈ (Op.operands (.nilCheck x)), VR ρ (ev z) (evA t z)) {fr : Frame} {cs : List Frame} (hp : Plain fr)
    (hc : opA E ex H t ⟨dst, .nilCheck x, type, pos, after, guard⟩ = .ok v' H') : OpGo E ρ H w fr cs (execOp ev ⟨dst, .nilCheck x, type, pos, after, guard⟩) v' H' := by
  have hE := hG.toEnvOk
  simp only [Op.operands] at hev
  obtain ⟨h1, rfl⟩ := oval_inv (show oval H (nilCk (evA t x)) = .ok v' H' from hc)
  have hx := hev x (by simp)
  have he := nilCk_inv h1
  rw [he]
  refine (OpRes.val h ?_ hx).go fr cs
  rcases nilCk_form hx h1 with ⟨a, e⟩ | ⟨f, a, b, e⟩ | ⟨l, a, b, e⟩ <;> simp [execOp, e]

set_option maxHeartbeats 1000000 in
theorem go_binOp (hG : EnvGood E) (hex : SoundEx E ex) (h : HR E.ng ρ H w) {ev : Operand → Value} {t : Tr Value} {dst : Option Tmp} {type : TypeId} {pos : String} {after : Array Edge} {guard : Option (Nat × Bool)} {op : BinOp} {ty ty' : TypeId} {x y : Operand} {v' : Value} (hev : ∀ z ∈ (Op.operands (.binOp op ty x y ty')), VR ρ (ev z) (evA t z)) {fr : Frame} {cs : List Frame} (hp : Plain fr)
    (hc : opA E ex H t ⟨dst, .binOp op ty x y ty', type, pos, after, guard⟩ = .ok v' H') : OpGo E ρ H w fr cs (execOp ev ⟨dst, .binOp op ty x y ty', type, pos, after, guard⟩) v' H' := by
  have hE := hG.toEnvOk
  simp only [Op.operands] at hev
  obtain ⟨h1, rfl⟩ := oval_inv (show oval H (binA E.P t ⟨dst, .binOp op ty x y ty', type, pos, after, guard⟩ op (E.tt.und ty) (evA t x) (evA t y)) = .ok v' H' from hc)
  exact (bin_sound hE h rfl (hev x (by simp)) (hev y (by simp)) h1).go fr cs

set_option maxHeartbeats 1000000 in
theorem go_unOp (hG : EnvGood E) (hex : SoundEx E ex) (h : HR E.ng ρ H w) {ev : Operand → Value} {t : Tr Value} {dst : Option Tmp} {type : TypeId} {pos : String} {after : Array Edge} {guard : Option (Nat × Bool)} {op : UnOp} {ty : TypeId} {x : Operand} {v' : Value} (hev : ∀ z ∈ (Op.operands (.unOp op ty x)), VR ρ (ev z) (evA t z)) {fr : Frame} {cs : List Frame} (hp : Plain fr)
    (hc : opA E ex H t ⟨dst, .unOp op ty x, type, pos, after, guard⟩ = .ok v' H') : OpGo E ρ H w fr cs (execOp ev ⟨dst, .unOp op ty x, type, pos, after, guard⟩) v' H' := by
  have hE := hG.toEnvOk
  have hev0 := hev
  simp only [Op.operands] at hev
  refine (pureOp_go h hev0 [x] (free (evA t x)) (by simp) (by simp [Op.operands]) (fun hf y hy => ?_) hc).go fr cs
  simp at hy; subst hy; exact hf

set_option maxHeartbeats 1000000 in
theorem go_convert (hG : EnvGood E) (hex : SoundEx E ex) (h : HR E.ng ρ H w) {ev : Operand → Value} {t : Tr Value} {dst : Option Tmp} {type : TypeId} {pos : String} {after : Array Edge} {guard : Option (Nat × Bool)} {s d : TypeId} {x : Operand} {v' : Value} (hev : ∀ z ∈ (Op.operands (.convert s d x)), VR ρ (ev z) (evA t z)) {fr : Frame} {cs : List Frame} (hp : Plain fr)
    (hc : opA E ex H t ⟨dst, .convert s d x, type, pos, after, guard⟩ = .ok v' H') : OpGo E ρ H w fr cs (execOp ev ⟨dst, .convert s d x, type, pos, after, guard⟩) v' H' := by
  have hE := hG.toEnvOk
  simp only [Op.operands] at hev
  exact (conv_sound hE h rfl (hev x (by simp)) (show convA E H t _ s d (evA t x) = .ok v' H' from hc)).go fr cs

set_option maxHeartbeats 1000000 in
theorem go_makeInterface (hG : EnvGood E) (hex : SoundEx E ex) (h : HR E.ng ρ H w) {ev : Operand → Value} {t : Tr Value} {dst : Option Tmp} {type : TypeId} {pos : String} {after : Array Edge} {guard : Option (Nat × Bool)} {ty : TypeId} {x : Operand} {v' : Value} (hev : ∀ z ∈ (Op.operands (.makeInterface ty x)), VR ρ (ev z) (evA t z)) {fr : Frame} {cs : List Frame} (hp : Plain fr)
    (hc : opA E ex H t ⟨dst, .makeInterface ty x, type, pos, after, guard⟩ = .ok v' H') : OpGo E ρ H w fr cs (execOp ev ⟨dst, .makeInterface ty x, type, pos, after, guard⟩) v' H' := by
  have hE := hG.toEnvOk
  simp only [Op.operands] at hev
  obtain ⟨h1, rfl⟩ := oval_inv (show oval H (ifaceA E.tt ty (evA t x)) = .ok v' H' from hc)
  unfold ifaceA at h1
  cases hd : E.tt.und ty with
  | none => rw [hd] at h1; cases h1
  | some d =>
    rw [hd] at h1
    have hu := und_eq hE hd
    have hv : v' = .iface ty (evA t x) ∧ ∀ m, d ≠ .interface m := by
      split at h1
      · cases h1
      · rename_i d' _ hne heq; cases heq; cases h1; exact ⟨rfl, fun m e => hne m (by rw [e])⟩
      · cases h1
    obtain ⟨rfl, hne⟩ := hv
    refine (OpRes.ofSem h (sv := Instr.makeInterface ty (ev x)) rfl ?_ (.iface ty (hev x (by simp)))).go fr cs
    cases d <;> first
      | exact absurd rfl (hne _)
      | simp [Instr.makeInterface, run_underlying hu, Result.andThen]

set_option maxHeartbeats 1000000 in
theorem go_makeFunc (hG : EnvGood E) (hex : SoundEx E ex) (h : HR E.ng ρ H w) {ev : Operand → Value} {t : Tr Value} {dst : Option Tmp} {type : TypeId} {pos : String} {after : Array Edge} {guard : Option (Nat × Bool)} {fn : Fn} {a b : Array Operand} {v' : Value} (hev : ∀ z ∈ (Op.operands (.makeFunc fn a b)), VR ρ (ev z) (evA t z)) {fr : Frame} {cs : List Frame} (hp : Plain fr)
    (hc : opA E ex H t ⟨dst, .makeFunc fn a b, type, pos, after, guard⟩ = .ok v' H') : OpGo E ρ H w fr cs (execOp ev ⟨dst, .makeFunc fn a b, type, pos, after, guard⟩) v' H' := by
  have hE := hG.toEnvOk
  simp only [Op.operands] at hev
  obtain ⟨h1, rfl⟩ := oval_inv (show oval H (fnA fn (evs t a.toList) (evs t b.toList)) = .ok v' H' from hc)
  unfold fnA at h1
  split at h1
  · rename_i f
    cases h1
    have ha := evs_rel (l := a.toList) (fun x hx => hev x (by simp at hx ⊢; exact .inl hx))
    have hb := evs_rel (l := b.toList) (fun x hx => hev x (by simp at hx ⊢; exact .inr hx))
    refine (OpRes.ofSem h (v := .func (.func f) ⟨a.toList.map ev⟩ ⟨b.toList.map ev⟩) (sv := Instr.makeFunc (.func f) (a.map ev) (b.map ev)) rfl ?_ (.func _ _ _ _ (.func f) ha.1 ha.2 hb.1 hb.2)).go fr cs
    have e1 : a.map ev = ⟨a.toList.map ev⟩ := by apply Array.ext'; simp
    have e2 : b.map ev = ⟨b.toList.map ev⟩ := by apply Array.ext'; simp
    rw [e1, e2]; rfl
  · cases h1

set_option maxHeartbeats 1000000 in
theorem go_makeSlice (hG : EnvGood E) (hex : SoundEx E ex) (h : HR E.ng ρ H w) {ev : Operand → Value} {t : Tr Value} {dst : Option Tmp} {type : TypeId} {pos : String} {after : Array Edge} {guard : Option (Nat × Bool)} {ty : TypeId} {l c : Operand} {v' : Value} (hev : ∀ z ∈ (Op.operands (.makeSlice ty l c)), VR ρ (ev z) (evA t z)) {fr : Frame} {cs : List Frame} (hp : Plain fr)
    (hc : opA E ex H t ⟨dst, .makeSlice ty l c, type, pos, after, guard⟩ = .ok v' H') : OpGo E ρ H w fr cs (execOp ev ⟨dst, .makeSlice ty l c, type, pos, after, guard⟩) v' H' := by
  have hE := hG.toEnvOk
  simp only [Op.operands] at hev
  exact (makeSlice_sound hE h (hev l (by simp)) (hev c (by simp)) (show mkSlA E.tt H ty (natOf (evA t l)) (natOf (evA t c)) = .ok v' H' from hc)).go fr cs

set_option maxHeartbeats 1000000 in
theorem go_slice (hG : EnvGood E) (hex : SoundEx E ex) (h : HR E.ng ρ H w) {ev : Operand → Value} {t : Tr Value} {dst : Option Tmp} {type : TypeId} {pos : String} {after : Array Edge} {guard : Option (Nat × Bool)} {ty : TypeId} {x : Operand} {lo hi mx : Option Operand} {v' : Value} (hev : ∀ z ∈ (Op.operands (.slice ty x lo hi mx)), VR ρ (ev z) (evA t z)) {fr : Frame} {cs : List Frame} (hp : Plain fr)
    (hc : opA E ex H t ⟨dst, .slice ty x lo hi mx, type, pos, after, guard⟩ = .ok v' H') : OpGo E ρ H w fr cs (execOp ev ⟨dst, .slice ty x lo hi mx, type, pos, after, guard⟩) v' H' := by
  have hE := hG.toEnvOk
  simp only [Op.operands] at hev
  obtain ⟨h1, rfl⟩ := oval_inv (show oval H (sliceA E.tt H ty (evA t x) (evO t lo) (evO t hi) (evO t mx)) = .ok v' H' from hc)
  obtain ⟨v, g1, g2⟩ := slice_sound hE h (hev x (by simp)) (evO_rel (fun y hy => hev y (by subst hy; simp))) (evO_rel (fun y hy => hev y (by subst hy; simp))) (evO_rel (fun y hy => hev y (by subst hy; simp))) h1
  exact (OpRes.ofSem h rfl g1 g2).go fr cs

set_option maxHeartbeats 1000000 in
theorem go_fieldAddr (hG : EnvGood E) (hex : SoundEx E ex) (h : HR E.ng ρ H w) {ev : Operand → Value} {t : Tr Value} {dst : Option Tmp} {type : TypeId} {pos : String} {after : Array Edge} {guard : Option (Nat × Bool)} {ty : TypeId} {x : Operand} {i : Nat} {v' : Value} (hev : ∀ z ∈ (Op.operands (.fieldAddr ty x i)), VR ρ (ev z) (evA t z)) {fr : Frame} {cs : List Frame} (hp : Plain fr)
    (hc : opA E ex H t ⟨dst, .fieldAddr ty x i, type, pos, after, guard⟩ = .ok v' H') : OpGo E ρ H w fr cs (execOp ev ⟨dst, .fieldAddr ty x i, type, pos, after, guard⟩) v' H' := by
  have hE := hG.toEnvOk
  simp only [Op.operands] at hev
  obtain ⟨h1, rfl⟩ := oval_inv (show oval H (fieldAddrV (evA t x) (fieldOf E.tt ty i)) = .ok v' H' from hc)
  obtain ⟨v, g1, g2⟩ := fieldAddr_sound hE (hev x (by simp)) h1 w
  exact (OpRes.ofSem h rfl g1 g2).go fr cs

set_option maxHeartbeats 1000000 in
theorem go_field (hG : EnvGood E) (hex : SoundEx E ex) (h : HR E.ng ρ H w) {ev : Operand → Value} {t : Tr Value} {dst : Option Tmp} {type : TypeId} {pos : String} {after : Array Edge} {guard : Option (Nat × Bool)} {ty : TypeId} {x : Operand} {i : Nat} {v' : Value} (hev : ∀ z ∈ (Op.operands (.field ty x i)), VR ρ (ev z) (evA t z)) {fr : Frame} {cs : List Frame} (hp : Plain fr)
    (hc : opA E ex H t ⟨dst, .field ty x i, type, pos, after, guard⟩ = .ok v' H') : OpGo E ρ H w fr cs (execOp ev ⟨dst, .field ty x i, type, pos, after, guard⟩) v' H' := by
  have hE := hG.toEnvOk
  simp only [Op.operands] at hev
  obtain ⟨h1, rfl⟩ := oval_inv (show oval H (fieldV E.tt (evA t x) (fieldOf E.tt ty i)) = .ok v' H' from hc)
  obtain ⟨v, g1, g2⟩ := field_sound hE (hev x (by simp)) h1 w
  exact (OpRes.ofSem h rfl g1 g2).go fr cs

set_option maxHeartbeats 1000000 in
theorem go_indexAddr (hG : EnvGood E) (hex : SoundEx E ex) (h : HR E.ng ρ H w) {ev : Operand → Value} {t : Tr Value} {dst : Option Tmp} {type : TypeId} {pos : String} {after : Array Edge} {guard : Option (Nat × Bool)} {ty : TypeId} {x i : Operand} {v' : Value} (hev : ∀ z ∈ (Op.operands (.indexAddr ty x i)), VR ρ (ev z) (evA t z)) {fr : Frame} {cs : List Frame} (hp : Plain fr)
    (hc : opA E ex H t ⟨dst, .indexAddr ty x i, type, pos, after, guard⟩ = .ok v' H') : OpGo E ρ H w fr cs (execOp ev ⟨dst, .indexAddr ty x i, type, pos, after, guard⟩) v' H' := by
  have hE := hG.toEnvOk
  simp only [Op.operands] at hev
  obtain ⟨h1, rfl⟩ := oval_inv (show oval H (idxAddr1 E.tt ty (evA t x) (natOf (evA t i))) = .ok v' H' from hc)
  obtain ⟨v, g1, g2⟩ := indexAddr_sound hE (hev x (by simp)) (hev i (by simp)) h1 w
  exact (OpRes.ofSem h rfl g1 g2).go fr cs

set_option maxHeartbeats 1000000 in
theorem go_index (hG : EnvGood E) (hex : SoundEx E ex) (h : HR E.ng ρ H w) {ev : Operand → Value} {t : Tr Value} {dst : Option Tmp} {type : TypeId} {pos : String} {after : Array Edge} {guard : Option (Nat × Bool)} {ty : TypeId} {x i : Operand} {v' : Value} (hev : ∀ z ∈ (Op.operands (.index ty x i)), VR ρ (ev z) (evA t z)) {fr : Frame} {cs : List Frame} (hp : Plain fr)
    (hc : opA E ex H t ⟨dst, .index ty x i, type, pos, after, guard⟩ = .ok v' H') : OpGo E ρ H w fr cs (execOp ev ⟨dst, .index ty x i, type, pos, after, guard⟩) v' H' := by
  have hE := hG.toEnvOk
  simp only [Op.operands] at hev
  obtain ⟨h1, rfl⟩ := oval_inv (show oval H (indexV E.tt ty (evA t x) (evA t i)) = .ok v' H' from hc)
  obtain ⟨v, g1, g2⟩ := index_sound hE (hev x (by simp)) (hev i (by simp)) h1 w
  exact (OpRes.ofSem h rfl g1 g2).go fr cs

set_option maxHeartbeats 1000000 in
theorem go_extract (hG : EnvGood E) (hex : SoundEx E ex) (h : HR E.ng ρ H w) {ev : Operand → Value} {t : Tr Value} {dst : Option Tmp} {type : TypeId} {pos : String} {after : Array Edge} {guard : Option (Nat × Bool)} {x : Operand} {i : Nat} {v' : Value} (hev : ∀ z ∈ (Op.operands (.extract x i)), VR ρ (ev z) (evA t z)) {fr : Frame} {cs : List Frame} (hp : Plain fr)
    (hc : opA E ex H t ⟨dst, .extract x i, type, pos, after, guard⟩ = .ok v' H') : OpGo E ρ H w fr cs (execOp ev ⟨dst, .extract x i, type, pos, after, guard⟩) v' H' := by
  have hE := hG.toEnvOk
  simp only [Op.operands] at hev
  obtain ⟨h1, rfl⟩ := oval_inv (show oval H (extractV (evA t x) i) = .ok v' H' from hc)
  obtain ⟨v, g1, g2⟩ := extract_sound (hev x (by simp)) h1 E.P w
  exact (OpRes.ofSem h rfl g1 g2).go fr cs

set_option maxHeartbeats 1000000 in
theorem go_makeMap (hG : EnvGood E) (hex : SoundEx E ex) (h : HR E.ng ρ H w) {ev : Operand → Value} {t : Tr Value} {dst : Option Tmp} {type : TypeId} {pos : String} {after : Array Edge} {guard : Option (Nat × Bool)} {ty : TypeId} {r : Option Operand} {v' : Value} (hev : ∀ z ∈ (Op.operands (.makeMap ty r)), VR ρ (ev z) (evA t z)) {fr : Frame} {cs : List Frame} (hp : Plain fr)
    (hc : opA E ex H t ⟨dst, .makeMap ty r, type, pos, after, guard⟩ = .ok v' H') : OpGo E ρ H w fr cs (execOp ev ⟨dst, .makeMap ty r, type, pos, after, guard⟩) v' H' := by
  have hE := hG.toEnvOk
  simp only [Op.operands] at hev
  cases r with
  | some _ => cases hc
  | none =>
    have hc : Out.ok (.map (some H.next)) (H.add (.map [])) = .ok v' H' := hc
    cases hc
    exact (makeMap_sound h (ty := ty)).go fr cs

set_option maxHeartbeats 1000000 in
theorem go_range (hG : EnvGood E) (hex : SoundEx E ex) (h : HR E.ng ρ H w) {ev : Operand → Value} {t : Tr Value} {dst : Option Tmp} {type : TypeId} {pos : String} {after : Array Edge} {guard : Option (Nat × Bool)} {ty : TypeId} {x : Operand} {v' : Value} (hev : ∀ z ∈ (Op.operands (.range ty x)), VR ρ (ev z) (evA t z)) {fr : Frame} {cs : List Frame} (hp : Plain fr)
    (hc : opA E ex H t ⟨dst, .range ty x, type, pos, after, guard⟩ = .ok v' H') : OpGo E ρ H w fr cs (execOp ev ⟨dst, .range ty x, type, pos, after, guard⟩) v' H' := by
  have hE := hG.toEnvOk
  simp only [Op.operands] at hev
  exact (range_sound hE h (hev x (by simp)) (show rangeA2 H (evA t x) (mapD (E.tt.und ty)) = .ok v' H' from hc)).go fr cs

set_option maxHeartbeats 1000000 in
theorem go_next (hG : EnvGood E) (hex : SoundEx E ex) (h : HR E.ng ρ H w) {ev : Operand → Value} {t : Tr Value} {dst : Option Tmp} {type : TypeId} {pos : String} {after : Array Edge} {guard : Option (Nat × Bool)} {x : Operand} {str : Bool} {v' : Value} (hev : ∀ z ∈ (Op.operands (.next x str)), VR ρ (ev z) (evA t z)) {fr : Frame} {cs : List Frame} (hp : Plain fr)
    (hc : opA E ex H t ⟨dst, .next x str, type, pos, after, guard⟩ = .ok v' H') : OpGo E ρ H w fr cs (execOp ev ⟨dst, .next x str, type, pos, after, guard⟩) v' H' := by
  have hE := hG.toEnvOk
  simp only [Op.operands] at hev
  exact (next_sound h (ty := type) (hev x (by simp)) (show nextA H (evA t x) str = .ok v' H' from hc)).go fr cs

set_option maxHeartbeats 1000000 in
theorem go_entry (hG : EnvGood E) (hex : SoundEx E ex) (h : HR E.ng ρ H w) {ev : Operand → Value} {t : Tr Value} {dst : Option Tmp} {type : TypeId} {pos : String} {after : Array Edge} {guard : Option (Nat × Bool)} {x : Operand} {v' : Value} (hev : ∀ z ∈ (Op.operands (.entry x)), VR ρ (ev z) (evA t z)) {fr : Frame} {cs : List Frame} (hp : Plain fr)
    (hc : opA E ex H t ⟨dst, .entry x, type, pos, after, guard⟩ = .ok v' H') : OpGo E ρ H w fr cs (execOp ev ⟨dst, .entry x, type, pos, after, guard⟩) v' H' := by
  have hE := hG.toEnvOk
  simp only [Op.operands] at hev
  obtain ⟨h1, rfl⟩ := oval_inv (show oval H (entryA H (evA t x)) = .ok v' H' from hc)
  obtain ⟨v, g1, g2⟩ := entry_sound h (hev x (by simp)) h1
  exact (OpRes.ofSem h (sv := Instr.entry (ev x)) rfl g1 g2).go fr cs

set_option maxHeartbeats 1000000 in
theorem go_lookup (hG : EnvGood E) (hex : SoundEx E ex) (h : HR E.ng ρ H w) {ev : Operand → Value} {t : Tr Value} {dst : Option Tmp} {type : TypeId} {pos : String} {after : Array Edge} {guard : Option (Nat × Bool)} {ty : TypeId} {x k : Operand} {ok : Bool} {v' : Value} (hev : ∀ z ∈ (Op.operands (.lookup ty x k ok)), VR ρ (ev z) (evA t z)) {fr : Frame} {cs : List Frame} (hp : Plain fr)
    (hc : opA E ex H t ⟨dst, .lookup ty x k ok, type, pos, after, guard⟩ = .ok v' H') : OpGo E ρ H w fr cs (execOp ev ⟨dst, .lookup ty x k ok, type, pos, after, guard⟩) v' H' := by
  have hE := hG.toEnvOk
  simp only [Op.operands] at hev
  obtain ⟨h1, rfl⟩ := oval_inv (show oval H (lookupA E.P E.tt H (evA t x) (evA t k) ok (mapD (E.tt.und ty))) = .ok v' H' from hc)
  obtain ⟨v, g1, g2⟩ := lookup_sound hE h (hev x (by simp)) (hev k (by simp)) h1
  exact (OpRes.ofSem h (sv := Instr.lookup ty (ev x) (ev k) ok) rfl g1 g2).go fr cs

set_option maxHeartbeats 1000000 in
theorem go_mapUpdate (hG : EnvGood E) (hex : SoundEx E ex) (h : HR E.ng ρ H w) {ev : Operand → Value} {t : Tr Value} {dst : Option Tmp} {type : TypeId} {pos : String} {after : Array Edge} {guard : Option (Nat × Bool)} {ty : TypeId} {m k x : Operand} {v' : Value} (hev : ∀ z ∈ (Op.operands (.mapUpdate ty m k x)), VR ρ (ev z) (evA t z)) {fr : Frame} {cs : List Frame} (hp : Plain fr)
    (hc : opA E ex H t ⟨dst, .mapUpdate ty m k x, type, pos, after, guard⟩ = .ok v' H') : OpGo E ρ H w fr cs (execOp ev ⟨dst, .mapUpdate ty m k x, type, pos, after, guard⟩) v' H' := by
  have hE := hG.toEnvOk
  simp only [Op.operands] at hev
  obtain ⟨w', g1, rfl, g2, g3⟩ := update_sound hE h (hev m (by simp)) (hev k (by simp)) (hev x (by simp)) (show updateA E.P H (evA t m) (evA t k) (evA t x) (mapD (E.tt.und ty)) = .ok v' H' from hc)
  exact ⟨ρ, undef, w', .skip (run_u g1), .undef, g2, g3⟩

set_option maxHeartbeats 1000000 in
theorem go_insert (hG : EnvGood E) (hex : SoundEx E ex) (h : HR E.ng ρ H w) {ev : Operand → Value} {t : Tr Value} {dst : Option Tmp} {type : TypeId} {pos : String} {after : Array Edge} {guard : Option (Nat × Bool)} {ty : TypeId} {m k x : Operand} {v' : Value} (hev : ∀ z ∈ (Op.operands (.insert ty m k x)), VR ρ (ev z) (evA t z)) {fr : Frame} {cs : List Frame} (hp : Plain fr)
    (hc : opA E ex H t ⟨dst, .insert ty m k x, type, pos, after, guard⟩ = .ok v' H') : OpGo E ρ H w fr cs (execOp ev ⟨dst, .insert ty m k x, type, pos, after, guard⟩) v' H' := by
  have hE := hG.toEnvOk
  simp only [Op.operands] at hev
  obtain ⟨w', g1, rfl, g2, g3⟩ := update_sound hE h (hev m (by simp)) (hev k (by simp)) (hev x (by simp)) (show updateA E.P H (evA t m) (evA t k) (evA t x) (mapD (E.tt.und ty)) = .ok v' H' from hc)
  exact ⟨ρ, undef, w', .skip (run_u g1), .undef, g2, g3⟩

set_option maxHeartbeats 1000000 in
theorem go_call (hG : EnvGood E) (hex : SoundEx E ex) (h : HR E.ng ρ H w) {ev : Operand → Value} {t : Tr Value} {dst : Option Tmp} {type : TypeId} {pos : String} {after : Array Edge} {guard : Option (Nat × Bool)} {c : Call} {v' : Value} (hev : ∀ z ∈ (Op.operands (.call c)), VR ρ (ev z) (evA t z)) {fr : Frame} {cs : List Frame} (hp : Plain fr)
    (hc : opA E ex H t ⟨dst, .call c, type, pos, after, guard⟩ = .ok v' H') : OpGo E ρ H w fr cs (execOp ev ⟨dst, .call c, type, pos, after, guard⟩) v' H' := by
  have hE := hG.toEnvOk
  have hev0 := hev
  simp only [Op.operands] at hev
  obtain ⟨callee, args, argTypes⟩ := c
  cases callee with
  | invoke r m => cases hc
  | value g =>
    have hc : callV E ex H (evA t g) (evs t args.toList) = .ok v' H' := hc
    have hargs := evs_rel (l := args.toList) (fun x hx => hev x (by simp [Call.operands] at hx ⊢; exact .inr hx))
    obtain ⟨d, h1, h2⟩ := callV_go hG hex h (hev g (by simp [Call.operands])) hargs hp hc
    obtain ⟨ρ', v, w', g1, g2⟩ := h2
    refine ⟨ρ', v, w', App.congr ?_ g1, g2⟩
    have e1 : (⟨args.toList.map ev⟩ : Array Value) = args.map ev := by apply Array.ext'; simp
    rw [e1] at h1
    show (Deferred.ofValue (ev g) (args.map ev) >>= fun d => invoke d.target d.args).run E.P w = _
    simp [h1 w, Result.andThen]
  | builtin b =>
    have hc : builtinA E H t ⟨dst, .call ⟨.builtin b, args, argTypes⟩, type, pos, after, guard⟩ argTypes.toList (evs t args.toList) b = .ok v' H' := hc
    have hargs := evs_rel (l := args.toList) (fun x hx => hev x (by simp [Call.operands] at hx ⊢; exact hx))
    have e1 : args.map ev = ⟨args.toList.map ev⟩ := by apply Array.ext'; simp
    have hex2 : ∀ (sv : Sem Value), builtin b argTypes type (args.map fun | .const _ => true | _ => false) (args.map ev) = (do pure (Next.value (← sv))) → execOp ev ⟨dst, .call ⟨.builtin b, args, argTypes⟩, type, pos, after, guard⟩ = (do pure (Next.value (← sv))) := fun sv hsv => hsv
    have two : ∀ {x' y' : Value} , evs t args.toList = [x', y'] → ∃ x y, args.map ev = #[x, y] ∧ VR ρ x x' ∧ VR ρ y y' := fun he => by
      rw [he] at hargs
      obtain ⟨x, l, e, hx, hl⟩ := hargs.cons_inv
      obtain ⟨y, l2, e2, hy, hl2⟩ := hl.cons_inv
      have := hl2.nil_inv
      subst this; subst e2
      exact ⟨x, y, by rw [e1, e], hx, hy⟩
    have one : ∀ {x' : Value} , evs t args.toList = [x'] → ∃ x, args.map ev = #[x] ∧ VR ρ x x' := fun he => by
      rw [he] at hargs
      obtain ⟨x, l, e, hx, hl⟩ := hargs.cons_inv
      have := hl.nil_inv
      subst this
      exact ⟨x, by rw [e1, e], hx⟩
    cases b <;> simp only [builtinA] at hc <;> try (cases hc; done)
    case append =>
      split at hc
      · rename_i s' x' he
        split at hc
        · rename_i ty u hts
          split at hc
          · rename_i hint
            obtain ⟨s, x, ea, hs, hx⟩ := two he
            obtain ⟨ρ', v, w', g1, g2, g3, g4⟩ := append_sound hE h (ty := type) hint hs hx hc
            have hat : argTypes = #[ty, u] := by apply Array.ext'; rw [hts]
            refine ⟨ρ', v, w', .value ?_, g2, g3, g4⟩
            rw [hex2 (Builtin.append_ argTypes type (args.map ev)) rfl, ea, hat]
            exact run_v g1
          · cases hc
        · cases hc
      · cases hc
    case cap =>
      split at hc
      · rename_i x' he
        split at hc
        · rename_i ty tl hts
          split at hc
          · rename_i el hel
            obtain ⟨x, ea, hx⟩ := one he
            obtain ⟨h1, rfl⟩ := oval_inv hc
            obtain ⟨g1, g2⟩ := cap_sound hE h (ty := type) (head_of hts) hel hx h1
            exact (OpRes.ofSem h (hex2 (Builtin.cap_ argTypes type (args.map ev)) rfl) (by rw [ea]; exact g1) (VR.of_free ρ _ g2)).go fr cs
          · cases hc
        · cases hc
      · cases hc
    case clear =>
      split at hc
      · rename_i x' he
        split at hc
        · rename_i ty tl hts
          obtain ⟨x, ea, hx⟩ := one he
          obtain ⟨v, w', g1, g2, g3, g4⟩ := clear_sound hE h (ty := type) (head_of hts) hx hc
          refine ⟨ρ, v, w', .value ?_, g2, g3, g4⟩
          rw [hex2 (Builtin.clear_ argTypes type (args.map ev)) rfl, ea]
          exact run_v g1
        · cases hc
      · cases hc
    case copy =>
      split at hc
      · rename_i s' x' he
        split at hc
        · rename_i ty tl hts
          obtain ⟨s, x, ea, hs, hx⟩ := two he
          obtain ⟨v, w', g1, g2, g3, g4⟩ := copy_sound hE h (ty := type) (head_of hts) hs hx hc
          refine ⟨ρ, v, w', .value ?_, g2, g3, g4⟩
          rw [hex2 (Builtin.copy_ argTypes type (args.map ev)) rfl, ea]
          exact run_v g1
        · cases hc
      · cases hc
    case len =>
      split at hc
      · rename_i x' he
        split at hc
        · rename_i ty tl hts
          obtain ⟨x, ea, hx⟩ := one he
          obtain ⟨h1, rfl⟩ := oval_inv hc
          obtain ⟨g1, g2⟩ : (Builtin.len_ argTypes type #[x]).run E.P w = .ok v' w ∧ free v' = true := by
            unfold lenM at h1
            split at h1
            · rename_i kt et hd
              exact mapLen_sound hE h (head_of hts) hd hx h1
            · exact len_sound hE (ty := type) (head_of hts) hx h1 w
          exact (OpRes.ofSem h (hex2 (Builtin.len_ argTypes type (args.map ev)) rfl) (by rw [ea]; exact g1) (VR.of_free ρ _ g2)).go fr cs
        · cases hc
      · cases hc
    case max =>
      refine (pureOp_go h hev0 args.toList _ (by simp) (fun x hx => by simpa [Op.operands, Call.operands] using hx) (fun hf x hx => freeL_evs hf hx) hc).go fr cs
    case min =>
      refine (pureOp_go h hev0 args.toList _ (by simp) (fun x hx => by simpa [Op.operands, Call.operands] using hx) (fun hf x hx => freeL_evs hf hx) hc).go fr cs

/-- one operation -/
theorem op_go (hG : EnvGood E) (hex : SoundEx E ex) (h : HR E.ng ρ H w) {ev : Operand → Value} {t : Tr Value} {o : Oper} {v' : Value} (hev : ∀ x ∈ o.op.operands, VR ρ (ev x) (evA t x)) {fr : Frame} {cs : List Frame} (hp : Plain fr)
    (hc : opA E ex H t o = .ok v' H') : OpGo E ρ H w fr cs (execOp ev o) v' H' := by
  obtain ⟨dst, op, type, pos, after, guard⟩ := o
  have bad : opA E ex H t ⟨dst, op, type, pos, after, guard⟩ = .bad → False := fun e => by rw [e] at hc; cases hc
  cases op
  case move => exact go_move hG hex h hev hp hc
  case assign => exact go_assign hG hex h hev hp hc
  case pick => exact go_pick hG hex h hev hp hc
  case alloc => exact go_alloc hG hex h hev hp hc
  case box => exact go_box hG hex h hev hp hc
  case build => exact go_build hG hex h hev hp hc
  case buildSlice => exact go_buildSlice hG hex h hev hp hc
  case load => exact go_load hG hex h hev hp hc
  case store => exact go_store hG hex h hev hp hc
  case nilCheck => exact go_nilCheck hG hex h hev hp hc
  case binOp => exact go_binOp hG hex h hev hp hc
  case unOp => exact go_unOp hG hex h hev hp hc
  case convert => exact go_convert hG hex h hev hp hc
  case makeInterface => exact go_makeInterface hG hex h hev hp hc
  case makeFunc => exact go_makeFunc hG hex h hev hp hc
  case makeSlice => exact go_makeSlice hG hex h hev hp hc
  case slice => exact go_slice hG hex h hev hp hc
  case fieldAddr => exact go_fieldAddr hG hex h hev hp hc
  case field => exact go_field hG hex h hev hp hc
  case indexAddr => exact go_indexAddr hG hex h hev hp hc
  case index => exact go_index hG hex h hev hp hc
  case extract => exact go_extract hG hex h hev hp hc
  case call => exact go_call hG hex h hev hp hc
  case insert => exact go_insert hG hex h hev hp hc
  case ready => exact (bad rfl).elim
  case waits => exact (bad rfl).elim
  case sliceToArrayPointer => exact (bad rfl).elim
  case makeMap => exact go_makeMap hG hex h hev hp hc
  case makeChan => exact (bad rfl).elim
  case lookup => exact go_lookup hG hex h hev hp hc
  case mapUpdate => exact go_mapUpdate hG hex h hev hp hc
  case mapEntry => exact (bad rfl).elim
  case entryStore => exact (bad rfl).elim
  case range => exact go_range hG hex h hev hp hc
  case next => exact go_next hG hex h hev hp hc
  case entry => exact go_entry hG hex h hev hp hc
  case typeAssert => exact (bad rfl).elim
  case go => exact (bad rfl).elim
  case defer => exact (bad rfl).elim
  case panic => exact (bad rfl).elim
  case send => exact (bad rfl).elim
  case recv => exact (bad rfl).elim
  case select => exact (bad rfl).elim
end Ex
