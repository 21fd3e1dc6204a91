/- What the evaluator is told of this program, and that it is so. -/
import Derived.Test.YtjjhaackoflfdaaGreatDoorTie
import Derived.Test.YtjjhaackoflfdaaGreatDoorCards
import Derived.Test.YtjjhaackoflfdaaGreatDoorEngI
import Derived.WalkKit
import Derived.ProofKit
import Derived.OpenShut
import Derived.SevenTiedAt
namespace Go.Proofs.YtjjhaackoflfdaaGreatDoor
open Go.Eng Go.ChangeShapes Go.WideShapes Go.ChangeAt Go.RowKit

/-- the functions whose memory outlives them -/
def leaks : List Nat := [35, 41, 42, 51, 52, 61, 62, 63, 67, 71, 82, 86, 88, 89, 150, 177, 231, 250]
def theC : Cfg where
  glob := fun _ => none
  live := fun f _ => Nat.beq f 21
  pol := fun f => if leaks.contains f then .leak else .pure
  borrow := fun _ => true

def theRP : RPred := noRP

theorem progOK : ProgOK Tryz.prog := progOK_of (by kernel_rfl)
theorem mixed : Tryz.prog.follows .mixedOrders = true := by kernel_rfl
theorem names : (Tryz.prog.funcs.toList.all fun fn => !(fn.name == "runtime.NumGoroutine")) = true := by kernel_rfl

section
variable {RP : RPred}
theorem c151 (args : List AV) (h : Heap) (v : AV) (h' : Heap) (ws : List Nat) (hr : indexG args h = some (v, h', ws)) : Answers RP Tryz.prog theC 151 args h v h' ws :=
  index_ok Tryz.func151 (by kernel_rfl) (by kernel_rfl) (by kernel_rfl) (by kernel_rfl) hr
theorem b4 : Tryz.prog.bytesOf 4 = 1 := by kernel_rfl
theorem c35 (args : List AV) (h : Heap) (v : AV) (h' : Heap) (ws : List Nat) (hr : cloneG 1 1 args h = some (v, h', ws)) : Answers RP Tryz.prog theC 35 args h v h' ws :=
  clone_ok (T := 54) (e := 4) (sz := 1) (z := (zeroOf Tryz.prog 4).getD .nilp) progOK Tryz.func35 (by kernel_rfl) rfl rfl rfl ⟨rfl, rfl, rfl⟩ ⟨rfl, rfl, rfl⟩ ⟨rfl, rfl, rfl⟩ ⟨rfl, rfl, rfl⟩ ⟨rfl, rfl, rfl⟩ ⟨rfl, rfl, rfl⟩ ⟨rfl, rfl, rfl⟩ ⟨rfl, rfl, rfl⟩
    (by kernel_rfl) (by kernel_rfl) (by decide) (by rw [b4]; decide) (by kernel_rfl) (by rw [b4]; exact hr)
theorem b27 : Tryz.prog.bytesOf 27 = 88 := by kernel_rfl
theorem c71 (args : List AV) (h : Heap) (v : AV) (h' : Heap) (ws : List Nat) (hr : cloneG 9 88 args h = some (v, h', ws)) : Answers RP Tryz.prog theC 71 args h v h' ws :=
  clone_ok (T := 25) (e := 27) (sz := 9) (z := (zeroOf Tryz.prog 27).getD .nilp) progOK Tryz.func71 (by kernel_rfl) rfl rfl rfl ⟨rfl, rfl, rfl⟩ ⟨rfl, rfl, rfl⟩ ⟨rfl, rfl, rfl⟩ ⟨rfl, rfl, rfl⟩ ⟨rfl, rfl, rfl⟩ ⟨rfl, rfl, rfl⟩ ⟨rfl, rfl, rfl⟩ ⟨rfl, rfl, rfl⟩
    (by kernel_rfl) (by kernel_rfl) (by decide) (by rw [b27]; decide) (by kernel_rfl) (by rw [b27]; exact hr)
theorem b37 : Tryz.prog.bytesOf 37 = 392 := by kernel_rfl
theorem c86 (args : List AV) (h : Heap) (v : AV) (h' : Heap) (ws : List Nat) (hr : cloneG 40 392 args h = some (v, h', ws)) : Answers RP Tryz.prog theC 86 args h v h' ws :=
  clone_ok (T := 48) (e := 37) (sz := 40) (z := (zeroOf Tryz.prog 37).getD .nilp) progOK Tryz.func86 (by kernel_rfl) rfl rfl rfl ⟨rfl, rfl, rfl⟩ ⟨rfl, rfl, rfl⟩ ⟨rfl, rfl, rfl⟩ ⟨rfl, rfl, rfl⟩ ⟨rfl, rfl, rfl⟩ ⟨rfl, rfl, rfl⟩ ⟨rfl, rfl, rfl⟩ ⟨rfl, rfl, rfl⟩
    (by kernel_rfl) (by kernel_rfl) (by decide) (by rw [b37]; decide) (by kernel_rfl) (by rw [b37]; exact hr)
theorem b34 : Tryz.prog.bytesOf 34 = 24 := by kernel_rfl
theorem c88 (args : List AV) (h : Heap) (v : AV) (h' : Heap) (ws : List Nat) (hr : cloneG 2 24 args h = some (v, h', ws)) : Answers RP Tryz.prog theC 88 args h v h' ws :=
  clone_ok (T := 35) (e := 34) (sz := 2) (z := (zeroOf Tryz.prog 34).getD .nilp) progOK Tryz.func88 (by kernel_rfl) rfl rfl rfl ⟨rfl, rfl, rfl⟩ ⟨rfl, rfl, rfl⟩ ⟨rfl, rfl, rfl⟩ ⟨rfl, rfl, rfl⟩ ⟨rfl, rfl, rfl⟩ ⟨rfl, rfl, rfl⟩ ⟨rfl, rfl, rfl⟩ ⟨rfl, rfl, rfl⟩
    (by kernel_rfl) (by kernel_rfl) (by decide) (by rw [b34]; decide) (by kernel_rfl) (by rw [b34]; exact hr)

/-- the contracts of the library's functions, over a table of functions -/
def envOf (fn : Nat → Option AFunc) : Env := (((((Env.bare fn).put 151 indexG).put 35 (cloneG 1 1)).put 71 (cloneG 9 88)).put 86 (cloneG 40 392)).put 88 (cloneG 2 24)
theorem envOf_ok {fn : Nat → Option AFunc} (hfn : ∀ g af, fn g = some af → cfunc Tryz.prog theC g = some af) : EnvOK RP Tryz.prog theC (envOf fn) :=
  (((((EnvOK.bare hfn names).put c151).put c35).put c71).put c86).put c88
end

theorem own : ownKnob Tryz.prog.godebug = none := by kernel_rfl

/-- A WORLD FOR THE WITNESS: the settled one, the listed variables holding what their initialisers lay. -/
noncomputable def laidWorld (os : Os) : World :=
  { World.holding Tryz.prog os ⟨#[], #[], []⟩ with heap := layIn (layIn (layIn (layIn (layIn (World.holding Tryz.prog os ⟨#[], #[], []⟩).heap 0 Rows.laid_internal_strconv_uint64pow10) 2 Rows.laid_unicode_utf8_first) 3 Rows.laid_unicode_utf8_acceptRanges) 4 Rows.laid_math_bits_deBruijn32tab) 5 Rows.laid_math_bits_deBruijn64tab }
theorem laid_met (os : Os) : laidMet Tryz.prog Rows.stateRunsRow.laid ((laidWorld os).forCall (fun _ _ => 0) ⟨#[], #[], []⟩).memory :=
  laidMet_of_run' 8 (by kernel_rfl) (by kernel_rfl)
end Go.Proofs.YtjjhaackoflfdaaGreatDoor
