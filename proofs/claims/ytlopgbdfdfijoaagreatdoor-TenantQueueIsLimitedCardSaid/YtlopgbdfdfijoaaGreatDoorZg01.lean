import Derived.Test.YtlopgbdfdfijoaaGreatDoorZd02
import Derived.Test.YtlopgbdfdfijoaaGreatDoorZf03
import Derived.Lib.LaidTab
import GoSem.Claim
import Derived.Test.YtlopgbdfdfijoaaGreatDoorZu03
import Derived.Test.YtlopgbdfdfijoaaGreatDoorCards
import Derived.WalkKit
import Derived.ProofKit
import Derived.OpenShut
import Derived.Deep.DeepHandedRow
import Derived.ReadAgain
/-
  the law at the root.
-/
set_option linter.unusedSectionVars false
set_option linter.unusedVariables false
set_option linter.unusedSimpArgs false
namespace Go.Proofs.YtlopgbdfdfijoaaGreatDoor
open Go Go.AL
open Go.Proofs.YtlopgbdfdfijoaaGreatDoor.San (SmS SmB E8 E9 E9z)
variable [GLC]
theorem SmS_sc (k : Nat) : Sc k SmS := scB_sound _ (by rfl)
theorem SmB_sc (k : Nat) : Sc k SmB := scB_sound _ (by rfl)
theorem P4 [TabC] {H : AH} (hg : H.gl = GLC.G) : CP Tryz.prog 4 [] H fun x => x = .bool true :=
  C4 SmS_sc SmB_sc (fun H hg => CP.row (E8 H hg) rfl) (fun H hg => CP.row (E9 H hg) rfl) hg
theorem P3 [TabC] {H : AH} (hg : H.gl = GLC.G) {n w : UInt8} {b : Int} : CP Tryz.prog 3 [bv n, bv w, iv b] H fun x => x = .bool true :=
  C3 (fun H hg => P4 hg) (fun H hg => CP.row (E9z H hg) rfl) hg
end Go.Proofs.YtlopgbdfdfijoaaGreatDoor
namespace Go.AL
variable [GLC]
section
variable {H : Type} {enc : TypeId × Value → H} {P : Program} {W : World} {Z : Zt} {σ : Sg}
def RP (enc : TypeId × Value → H) (P : Program) (W : World) (Z : Zt) (σ : Sg) (t : TypeId) (Q : List AV → Prop) : Prop := ∀ (fuel : Nat) (cs : List Value) (D : DataW H) (ps : List MemPlace), DataW.trod enc P W 0 (fun _ => true) true fuel t cs = some (D, ps) →
  ∃ l : List AV, Q l ∧ VRs Z σ l cs ∧ ∀ v ∈ cs, v.oneCell' = true
theorem RP.mono {t : TypeId} {Q Q' : List AV → Prop} (h : RP enc P W Z σ t Q) (hq : ∀ l, Q l → Q' l) : RP enc P W Z σ t Q' := fun fuel cs D ps hh => by
  obtain ⟨l, h1, h2⟩ := h fuel cs D ps hh
  exact ⟨l, hq l h1, h2⟩
theorem trod_zero {t : TypeId} {cs : List Value} {x : DataW H × List MemPlace} (h : DataW.trod enc P W 0 (fun _ => true) true 0 t cs = some x) : False := by
  simp [DataW.trod] at h
theorem RP.int {t : TypeId} (ht : P.underlying t = some (.int .i64)) : RP enc P W Z σ t fun l => ∃ n, l = [iv n] := fun fuel cs D ps h => by
  cases fuel with
  | zero => exact (trod_zero h).elim
  | succ fuel =>
    cases cs with
    | nil => simp [DataW.trod, ht] at h
    | cons v rest =>
      cases rest with
      | cons _ _ => simp [DataW.trod, ht] at h
      | nil =>
        cases v <;> simp [DataW.trod, ht] at h
        rename_i k n
        obtain ⟨⟨rfl, hw⟩, rfl, rfl⟩ := h
        exact ⟨[.int .i64 n], ⟨n, rfl⟩, .cons (.int _ _) .nil, fun v hv => by simp at hv; subst hv; rfl⟩
theorem RP.byte {t : TypeId} (ht : P.underlying t = some (.int .u8)) : RP enc P W Z σ t fun l => ∃ x, l = [bv x] := fun fuel cs D ps h => by
  cases fuel with
  | zero => exact (trod_zero h).elim
  | succ fuel =>
    cases cs with
    | nil => simp [DataW.trod, ht] at h
    | cons v rest =>
      cases rest with
      | cons _ _ => simp [DataW.trod, ht] at h
      | nil =>
        cases v <;> simp [DataW.trod, ht] at h
        rename_i k n
        obtain ⟨⟨rfl, hw⟩, rfl, rfl⟩ := h
        have hw' : 0 ≤ n ∧ n ≤ 255 := by
          have : (decide ((0 : Int) ≤ n) && decide (n ≤ 255)) = true := hw
          simp at this; exact this
        have e : bv (UInt8.ofNat n.toNat) = .int .u8 n := by
          have : (UInt8.ofNat n.toNat).toNat = n.toNat := by simp; omega
          unfold bv; rw [this, Int.toNat_of_nonneg hw'.1]
        exact ⟨[.int .u8 n], ⟨_, by rw [e]⟩, .cons (.int _ _) .nil, fun v hv => by simp at hv; subst hv; rfl⟩
end
end Go.AL
namespace Go.Proofs.YtlopgbdfdfijoaaGreatDoor
open Go Go.AL Go.ChangeShapes Go.WideShapes Go.ChangeAt Go.RowKit
theorem own : ownKnob Tryz.prog.godebug = none := by kernel_rfl
theorem gTab : Tryz.prog.globalNamed "math/bits.deBruijn64tab" = some 0 := by kernel_rfl
theorem gTabType : (Tryz.prog.globals[0]?).map (·.type) = some 521 := by kernel_rfl
theorem cells521 : Tryz.prog.cellsOf 521 = 64 := by kernel_rfl
theorem cells5 : Tryz.prog.cellsOf 5 = 1 := by kernel_rfl
def zsTab : List Int := dbt.map Int.ofNat
theorem table {W : World} (h : laidMetH Tryz.prog Rows.tenantQueueIsLimitedRow.laid W) : Lib.TabIs Tryz.prog W "math/bits.deBruijn64tab" .u8 zsTab :=
  Lib.tabIs_of_head (rest := _) gTab gTabType Tryz.underlying521 Tryz.underlying5 cells5 cells521 h
theorem tabW {W : World} (h : laidMetH Tryz.prog Rows.tenantQueueIsLimitedRow.laid W) : TabW W := fun t ht n hn => by
  have h1 := (table h).cell gTab t (by show t < 64; exact ht)
  have h2 : zsTab.getD t 0 = (n : Int) := by
    unfold zsTab
    rw [List.getD_eq_getElem?_getD, List.getElem?_map, hn]; rfl
  rw [h2] at h1
  exact h1
def zAll (W : World) : Zt := ⟨fun b => W.heap[b]?, W.os, W.output, fun _ => false, fun _ => False⟩
def cellsG (W : World) (b : Nat) : Option Obj := match W.heap[b]? with
  | some (.cells c e fr) => some (.cells c e fr)
  | _ => none
theorem cellsG_ok {W : World} {b : Nat} {o : Obj} (h : cellsG W b = some o) : W.heap[b]? = some o ∧ isC o := by
  unfold cellsG at h
  split at h
  · rename_i c e fr hb
    cases h
    exact ⟨hb, c, e, fr, rfl⟩
  · cases h
theorem root_WR (W : World) [hG : GLC] (hg : GLC.G = cellsG W) : WR (zAll W) (fun _ => none) (toAH KH.emp) W := by
  have hnx : KH.emp.nx = 0 := by kernel_rfl
  have hnone : ∀ r, (toAH KH.emp).get r = none := fun r => by
    rw [toAH_get, hnx, if_neg (by omega)]
  refine ⟨fun b o h => h, fun r o p hr => ?_, fun r r' o o' p p' hr => ?_, fun r _ => rfl, fun r _ => hnone r, rfl, rfl, fun b o hb => ?_⟩
  · rw [hnone] at hr; cases hr
  · rw [hnone] at hr; cases hr
  · have hb : GLC.G b = some o := hb
    rw [hg] at hb; exact cellsG_ok hb
theorem carryAll {H : Type} {enc : TypeId × Value → H} {P : Program} {w w' : World} {base : Nat} {spare : Nat → Bool} {held : Bool} : ∀ {ts : List TypeId} {vs : List Value} {ds : List (DataW H)} {ps : List MemPlace},
    DataW.TrodAll enc P w base spare held ts vs ds ps → (∀ p ∈ ps, w.sameAt w' p) → DataW.TrodAll enc P w' base spare held ts vs ds ps
  | [], [], [], _, h, _ => h
  | _ :: _, _ :: _, _ :: _, _, ⟨p, q, ⟨n, h1⟩, h2, e⟩, hs => ⟨p, q, ⟨n, DataW.trod_carry n _ _ _ h1 fun x hx => hs x (by rw [e]; exact List.mem_append_left _ hx)⟩, carryAll h2 fun x hx => hs x (by rw [e]; exact List.mem_append_right _ hx), e⟩
theorem kids : Kids Tryz.prog (· < Tryz.prog.types.size) := kids_rows laidOK (by kernel_rfl)
theorem full : ∀ t e, t < Tryz.prog.types.size → Tryz.prog.underlying t = some (.slice e) → 0 < Tryz.prog.cellsOf e := fullOK
theorem root_byte [GLC] {H : Type} {enc : TypeId × Value → H} {W : World} {σ : Sg} {t : TypeId} {v : Value} {D : DataW H} {p : List MemPlace} (hR : RP enc Tryz.prog W (zAll W) σ t fun l => ∃ x, l = [bv x]) (hv : ∃ n, v = .int .u8 n) (h : DataW.Trod enc Tryz.prog W 0 (fun _ => true) true t v D p) :
    ∃ x, VR (zAll W) σ (bv x) v := by
  obtain ⟨n, rfl⟩ := hv
  obtain ⟨fuel, h⟩ := h
  obtain ⟨l, ⟨x, rfl⟩, z2, z3⟩ := hR fuel _ D p h
  cases z2 with
  | cons q1 _ => exact ⟨x, q1⟩
set_option maxRecDepth 100000 in
set_option maxHeartbeats 2000000 in
theorem contract (H : Type) (enc : TypeId × Value → H) (W : World) (base : Nat) (args : Array Value) (ds gs : List (DataW H)) (before : List MemPlace)
    (hval : ∀ (j : Nat) t v, Tryz.f3.params[j]? = some t → args[j]? = some v → Value.okWide Tryz.prog W .any base t v)
    (hW : DataW.Whole enc Tryz.prog Tryz.f3.params.toList Rows.tenantQueueIsLimitedSpec.vars false W args.toList ds gs before) (hL : laidMetH Tryz.prog Rows.tenantQueueIsLimitedRow.laid W) :
    Calls Tryz.prog 3 args W fun e W' => ∃ v, e = .returned v ∧ Rows.tenantQueueIsLimitedSpec.post enc Tryz.prog Tryz.f3 false true false false W args v W' := by
  have hW' := hW
  have hlt := hW.lt
  obtain ⟨p, q, hA0, hV, rfl, hfz, hnd⟩ := hW
  have hA : DataW.TrodAll enc Tryz.prog W 0 (fun _ => true) true Tryz.f3.params.toList args.toList ds p := hA0
  rw [Tryz.params3] at hA hval
  obtain ⟨v0, vs0, d0, ds0, p0, q0, hargs, rfl, rfl, h0, r0⟩ := trodAll_cons hA
  obtain ⟨v1, vs1, d1, ds1, p1, q1, rfl, rfl, rfl, h1, r1⟩ := trodAll_cons r0
  obtain ⟨v2, vs2, d2, ds2, p2, q2, rfl, rfl, rfl, h2, r2⟩ := trodAll_cons r1
  obtain ⟨rfl, rfl, rfl⟩ := trodAll_nil r2
  obtain rfl : args = #[v0, v1, v2] := by cases args; simp_all
  obtain ⟨rfl, rfl⟩ := trodVars_none hV
  letI hG : GLC := ⟨cellsG W⟩
  have hT := tabW hL
  have hheap0 : ∃ o, cellsG W 0 = some o ∧ W.heap[0]? = some o := by
    have h3 := hT 0 (by omega) 0 rfl
    unfold World.cell? at h3
    split at h3
    · rename_i c e fr heq
      exact ⟨_, by unfold cellsG; rw [heq], heq⟩
    · cases h3
  obtain ⟨o0, hc0, ho0⟩ := hheap0
  letI hC : TabC := ⟨⟨o0, hc0, fun w hw t ht n hn => by
    have := hT t ht n hn
    unfold World.cell? at this ⊢
    rw [hw]; rw [ho0] at this; exact this⟩⟩
  obtain ⟨n, b0⟩ := root_byte (RP.byte (enc := enc) (σ := fun _ => none) Tryz.underlying5) (okWide_int Tryz.underlying5 (hval 0 5 v0 rfl rfl)) h0
  obtain ⟨who, b1⟩ := root_byte (RP.byte (enc := enc) (σ := fun _ => none) Tryz.underlying5) (okWide_int Tryz.underlying5 (hval 1 5 v1 rfl rfl)) h1
  obtain ⟨bad, rfl⟩ := okWide_int Tryz.underlying3 (hval 2 3 v2 rfl rfl)
  have walk := (P3 (H := toAH KH.emp) (n := n) (w := who) (b := bad) rfl).2 (zAll W) (fun _ => none) W [v0, v1, .int .i64 bad] (root_WR W rfl) (.cons b0 (.cons b1 (.cons (.int _ _) .nil)))
  refine Calls.mono walk fun e W' hx => ?_
  obtain ⟨Z', σ', H', out, y1, _, _, y4, y5, rfl, x, rfl, rfl⟩ := hx
  obtain ⟨cv, rfl, y6⟩ := y5
  cases y6
  have hheap : ∀ i, i < W.heap.size → W'.heap[i]? = W.heap[i]? := fun i hi => by
    have h1 : W.heap[i]? = some (W.heap[i]'hi) := Array.getElem?_eq_getElem hi
    rw [h1]
    exact y4.z _ _ (y1.le _ _ h1)
  have hos : W'.os = W.os := y4.rest.1.trans y1.os
  have hout : W'.output = W.output := y4.rest.2.1.trans y1.out
  refine ⟨_, rfl, [d0, d1, d2], [], _, [], p0 ++ (p1 ++ (p2 ++ [])), [], hW', ?_, ?_, rfl, ⟨hos, hout, fun i hi => ?_⟩, fun h => by cases h⟩
  · exact trodAll_cons_mk (shut_bool Tryz.underlying4 true) trodAll_mk0
  · have hres := DataW.TrodAll.respare kids full (spare' := fun b => decide (b < W.heap.size)) (fun t ht => ?_) hA0 (fun x hx => decide_eq_true (hlt x (by simpa using hx)))
    · refine carryAll hres fun x hx => ?_
      have hb := hlt x (by simpa using hx)
      cases x with
      | cell bb off =>
        show _ = _
        have hb : bb < W.heap.size := hb
        simp only [World.cell?, hheap bb hb]
      | map bb =>
        show _ = _
        have hb : bb < W.heap.size := hb
        simp only [hheap bb hb]
    · rw [Tryz.params3] at ht
      have hz : 5 < Tryz.prog.types.size := Nat.lt_of_lt_of_le (by omega : 5 < 6) (Nat.le_of_ble_eq_true (by kernel_rfl))
      simp only [List.mem_cons, List.not_mem_nil, or_false] at ht
      rcases ht with rfl | rfl | rfl
      · exact hz
      · exact hz
      · exact Nat.lt_trans (by omega : 3 < 5) hz
  · rw [hheap i hi]
    cases W.heap[i]? with
    | none => rfl
    | some o =>
      cases o <;> first | rfl | exact ⟨rfl, rfl, rfl, fun _ _ => rfl⟩ | exact .inr ⟨rfl, rfl⟩
end Go.Proofs.YtlopgbdfdfijoaaGreatDoor
