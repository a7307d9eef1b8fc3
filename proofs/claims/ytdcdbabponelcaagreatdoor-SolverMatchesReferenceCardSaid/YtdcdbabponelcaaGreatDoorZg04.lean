import Derived.Test.YtdcdbabponelcaaGreatDoorZg03
import Derived.Test.YtdcdbabponelcaaGreatDoorZe07
import Derived.Test.YtdcdbabponelcaaGreatDoorZf02
/-
  the sanity run at any heap.
-/
set_option linter.unusedSectionVars false
set_option linter.unusedVariables false
set_option linter.unusedSimpArgs false
namespace Go.Proofs.YtdcdbabponelcaaGreatDoor
open Go Go.AL Tryz
open Go.Proofs.YtdcdbabponelcaaGreatDoor.San (Bp Dx)
variable [BY]
theorem P5 [SB] {H:AH}(hg:H.gl=BY.G):CP prog 5 [] H fun x=>x=.bool true:=by
 have h:=San.ET (San.iN eb (fun H hg=>call328 hg 18446744073709551615 18446744047939747839 18446744073709551615 18446744073709551615 0 (.inl (by decide)) (by decide) (by decide) Zh)
  (fun H hg=>call328 hg 0 25769803776 0 0 97 (.inr (by decide)) (by decide) (by decide) Zg))
 exact CP.row (An.UI h .nil (.pln (by constructor)) (fun r=>by rw[C2];rfl) (by rw[hg];rfl)) rfl
def jB:List AV:=[I 2,.sim [I 0,N .u8 0] 1 true,.sim [.int .i64 (-1),N .u8 97] 1 false,.nils,.nils,.nils,.nils,I 0,.nils,.nils,.nils,.nils,I 0,I 0,I 0,I 0,.bool false,I 0]
theorem ru:BV [.str [97]] (.agg jB) (Bg San.EX San.NB 90 21 [.str [97]] KH.emp)=true:=by kernel_rfl
theorem vh {H:AH}(hg:H.gl=BY.G):CP prog 21 [.str [97]] H fun x=>x=.agg jB:=CP.row (Aq (BC Bp Dx 90) ru H hg) rfl
structure wE (k m:Nat) (T:Nat→Int) (M:Nat→Int) (c:List AV):Prop where
 ex:∃mo to li at_ fo,c=[M5,mo,to,li,at_,fo]∧FL 1 (fun i c=>c=[iv (M i)]) m mo∧FL 1 (fun i c=>c=[iv (T i)]) k to
end Go.Proofs.YtdcdbabponelcaaGreatDoor
