/- A part of the proof of the statement of this seat: no condition. -/
import Derived.Test.YtacchpkmjgdebaaGreatProg
import Derived.Test.YtacchpkmjgdebaaGreatExCall
import Derived.Laws.Externs
import Derived.KernelRfl
set_option linter.unusedVariables false
set_option linter.unusedSimpArgs false
open Go Go.Proofs
namespace Go.Proofs.YtacchpkmjgdebaaGreat
noncomputable def ovr1 : FuncId → Option (Ex.Heap → List Value → Ex.Out) := fun f => match f with | 53 => some (fun H => Ex.insertA H 2) | 55 => some (fun H => Ex.insertA H 1) | _ => none
def ext1 : FuncId → Ex.ExtK := fun f => match f with | 45 => .add | 183 => .cmp | _ => .pure
noncomputable def E1 : Ex.Env := Ex.envOf Tryz.prog 12 12 3 ext1 ovr1
theorem nogs : (Tryz.prog.funcs.toList.all fun fn => (fn.name == "runtime.NumGoroutine") == false) = true := by decide +kernel
theorem cmp_run (f : FuncId) (h : ext1 f = .cmp) (a b : Value) (w w' : World) (v : Value) (hr : (Extern.BytealgCompare.compare #[a, b]).run Tryz.prog w = .ok v w') : (callFunc f #[a, b]).run Tryz.prog w = .ok (.value v) w' := by
  have hf : f = 183 := by
    unfold ext1 at h
    split at h <;> first | rfl | cases h
  subst hf
  rw [run_callFunc_extern (e := Extern.BytealgCompare.compare) Tryz.func183 (by kernel_rfl) (by kernel_rfl) (by kernel_rfl) (by kernel_rfl), hr]; rfl
theorem add_run (f : FuncId) (h : ext1 f = .add) (a b : Value) (w w' : World) (v : Value) (hr : (Extern.Atomic.update (Op.intArith .add) .i64 true #[a, b]).run Tryz.prog w = .ok v w') : (callFunc f #[a, b]).run Tryz.prog w = .ok (.value v) w' := by
  have hf : f = 45 := by
    unfold ext1 at h
    split at h <;> first | rfl | cases h
  subst hf
  rw [run_callFunc_extern (e := Extern.Atomic.update (Op.intArith .add) .i64 true) Tryz.func45 (by kernel_rfl) (by kernel_rfl) (by kernel_rfl) (by kernel_rfl), hr]; rfl
end Go.Proofs.YtacchpkmjgdebaaGreat
