import Derived.Test.YtlopgbdfdfijoaaGreatDoorZu04
/-
  closed facts that need the closure of the law.
-/
set_option linter.unusedSectionVars false
set_option linter.unusedVariables false
set_option linter.unusedSimpArgs false
set_option linter.unusedSectionVars false
set_option linter.unusedVariables false
namespace Go.Proofs.YtlopgbdfdfijoaaGreatDoor
open Go
set_option maxRecDepth 1000000
theorem filterMap_congr' {A B : Type} {f g : A → Option B} : ∀ {l : List A}, (∀ x ∈ l, f x = g x) → l.filterMap f = l.filterMap g
 | [], _ => rfl
 | a :: l, h => by rw [List.filterMap_cons, List.filterMap_cons, h a List.mem_cons_self, filterMap_congr' fun x hx => h x (List.mem_cons_of_mem _ hx)]
theorem flatMap_congr' {A B : Type} {f g : A → List B} : ∀ {l : List A}, (∀ x ∈ l, f x = g x) → l.flatMap f = l.flatMap g
 | [], _ => rfl
 | a :: l, h => by rw [List.flatMap_cons, List.flatMap_cons, h a List.mem_cons_self, flatMap_congr' fun x hx => h x (List.mem_cons_of_mem _ hx)]
noncomputable def clos : List Nat := closM adjF (1 + 2426) [3] 0 []
theorem clos_eq : Tryz.prog.closure 3 = clos := by
 unfold Program.closure clos
 rw [adj_sum]
 exact closV_eq Tryz.prog adjF adj_at _ _ _ _ fun x => by simp
theorem clos_lt : clos.all (fun g => Nat.blt g 719) = true := by kernel_rfl
theorem clos_719 (g : Nat) (h : g ∈ clos) : g < 719 := by
 have := List.all_eq_true.1 clos_lt g h
 rwa [Nat.blt_eq] at this
theorem take_le : 719 ≤ Tryz.prog.funcs.toList.length := by rw [Array.length_toList, funcs_size]; omega
def inF (g : Nat) : Option String := bif Nat.beq g 462 then some "internal/bytealg.Index" else bif Nat.beq g 557 then some "internal/bytealg.IndexByte" else bif Nat.beq g 710 then some "internal/bytealg.IndexByteString" else bif Nat.beq g 0 then some "main.main" else bif Nat.beq g 1 then some "gosem.cut" else Option.none
theorem in_map : (Tryz.prog.funcs.toList.take 719).map (fun fn => if fn.ours || fn.body.isNone || fn.name == "runtime.NumGoroutine" then some fn.name else Option.none) = (List.range 719).map inF := by kernel_rfl
theorem inS : clos.filterMap inF = ["internal/bytealg.IndexByteString", "internal/bytealg.IndexByte", "internal/bytealg.Index"] := by kernel_rfl
theorem inPlace3 : Tryz.prog.inPlace 3 = ["internal/bytealg.IndexByteString", "internal/bytealg.IndexByte", "internal/bytealg.Index"] := by
 have e : Tryz.prog.inPlace 3 = clos.filterMap inF := by
  unfold Program.inPlace
  rw [clos_eq]
  refine filterMap_congr' fun g hg => ?_
  rw [bind_elim, ← Array.getElem?_toList]
  exact elim_at _ _ _ _ 719 take_le in_map g (clos_719 g hg)
 rw [e]
 exact inS
theorem unf3 : Tryz.prog.unfollowed 3 = true := by
 unfold Program.unfollowed
 rw [clos_eq]
 exact List.any_eq_true.2 ⟨7, List.contains_iff_mem.1 (by kernel_rfl), by kernel_rfl⟩
theorem rec3 : Tryz.prog.recurses 3 = true := by
 unfold Program.recurses
 rw [unf3, Bool.true_or]
def glF (g : Nat) : List Nat := bif Nat.beq g 186 then [0] else bif Nat.beq g 311 then [1] else bif Nat.beq g 441 then [2] else bif Nat.beq g 513 then [3] else bif Nat.beq g 633 then [4] else bif Nat.beq g 702 then [5] else bif Nat.beq g 703 then [6] else []
theorem gl_map : (Tryz.prog.funcs.toList.take 719).map (fun fn => fn.body.elim [] Code.globalsNamed) = (List.range 719).map glF := by kernel_rfl
def rdF (g : Nat) : Option String := bif Nat.beq g 462 then some "internal/bytealg.MaxLen" else Option.none
theorem rd_map : (Tryz.prog.funcs.toList.take 719).map (fun fn => if fn.body.isNone then entryReads.lookup fn.name else Option.none) = (List.range 719).map rdF := by kernel_rfl
theorem nameS : ((clos.flatMap glF).eraseDups.filterMap (fun g => (Tryz.prog.globals[g]?).map (·.name)) ++ clos.filterMap rdF).eraseDups = ["math/bits.deBruijn64tab", "internal/strconv.uint64pow10", "math/bits.deBruijn32tab", "strconv.ErrSyntax", "strconv.ErrRange", "internal/bytealg.MaxLen", "univocal/digest.rounds"] := by kernel_rfl
theorem named3 : Tryz.prog.varsNamed 3 = ["math/bits.deBruijn64tab", "internal/strconv.uint64pow10", "math/bits.deBruijn32tab", "strconv.ErrSyntax", "strconv.ErrRange", "internal/bytealg.MaxLen", "univocal/digest.rounds"] := by
 have e1 : (clos.flatMap fun g => ((Tryz.prog.funcs[g]?).bind (·.body)).elim [] Code.globalsNamed) = clos.flatMap glF := flatMap_congr' fun g hg => by
  rw [elim_bind, ← Array.getElem?_toList]
  exact elim_at _ _ _ _ 719 take_le gl_map g (clos_719 g hg)
 have e2 : (clos.filterMap fun g => (Tryz.prog.funcs[g]?).bind fun fn => if fn.body.isNone then entryReads.lookup fn.name else Option.none) = clos.filterMap rdF := filterMap_congr' fun g hg => by
  rw [bind_elim, ← Array.getElem?_toList]
  exact elim_at _ _ _ _ 719 take_le rd_map g (clos_719 g hg)
 unfold Program.varsNamed
 rw [clos_eq, e1, e2]
 exact nameS
theorem grown_two {P : Program} {l l' : List TypeId} (h : P.grow l = l') (h' : P.grow l' = l') (n : Nat) : P.grown (n + 1) l = l' := by
 unfold Program.grown
 rw [h]; exact grown_fix h' n
theorem book_two {t : TypeId} {l : List TypeId} (h : Tryz.prog.grow [t] = l) (h' : Tryz.prog.grow l = l) : Tryz.prog.book t = l := by
 unfold Program.book
 rw [types_size]; exact grown_two h h' 911
theorem veil_of {t : TypeId} {l : List TypeId} (hb : Tryz.prog.book t = l) (h : (l.any fun u => match Tryz.prog.underlying u with | some (.func ..) | some (.chan ..) | some .unsafePointer => true | _ => false) = false) : Tryz.prog.veiledRec t = false := by
 unfold Program.veiledRec
 rw [hb]; exact h
theorem veil521 : Tryz.prog.veiledRec 521 = false := veil_of (book_two (l := [521, 5]) (by kernel_rfl) (by kernel_rfl)) (by kernel_rfl)
theorem veil750 : Tryz.prog.veiledRec 750 = false := veil_of (book_two (l := [750, 66]) (by kernel_rfl) (by kernel_rfl)) (by kernel_rfl)
theorem veil48 : Tryz.prog.veiledRec 48 = false := veil_of (book_two (l := [48, 5]) (by kernel_rfl) (by kernel_rfl)) (by kernel_rfl)
theorem veil869 : Tryz.prog.veiledRec 869 = false := veil_of (book_two (l := [869]) (by kernel_rfl) (by kernel_rfl)) (by kernel_rfl)
theorem veil795 : Tryz.prog.veiledRec 795 = false := veil_of (book_two (l := [795, 470]) (by kernel_rfl) (by kernel_rfl)) (by kernel_rfl)
theorem own_of {t : TypeId} (h : Tryz.prog.veiledRec t = false) : Tryz.prog.veiledOwn t = true := by
 unfold Program.veiledOwn
 rw [h]; rfl
end Go.Proofs.YtlopgbdfdfijoaaGreatDoor
