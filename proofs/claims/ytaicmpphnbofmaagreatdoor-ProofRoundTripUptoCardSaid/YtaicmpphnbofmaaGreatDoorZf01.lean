import Derived.Test.YtaicmpphnbofmaaGreatDoorZe07
import Derived.Test.YtaicmpphnbofmaaGreatDoorZd05
/-
  the law gives back true on abstract arguments.
-/
namespace Go.AL
open Co
theorem G3_t {h : AH} {J : PG} {A : PG → Prop} (hA : A J) : y_G3 true (.bool true) h J A := ⟨fun _ => hA, fun h => absurd rfl h⟩
theorem G3_f {h : AH} {J : PG} {A : PG → Prop} (hA : A J) : y_G3 false (.bool false) h J A := ⟨fun _ => hA, fun h => absurd rfl h⟩
theorem G3_s {h : AH} {J : PG} {A : PG → Prop} (hA : J aud y_tt h) : y_G3 false (.bool true) h J A := ⟨fun h => by simp at h, fun _ => hA⟩
theorem Frz.inp {v : AV} {b : List UInt8} (h : Frz 1 v (b.map bv) b.length) (H : AH) (p : Nat) : Inp H p b v := by
  cases b with
  | nil => cases h with
    | nil => exact .nils
    | sim _ => exact .sim [] _
  | cons x b => cases h with
    | sim _ => exact .sim _ _
theorem Frz.str {v : AV} {b : List UInt8} (h : Frz 1 v (b.map bv) b.length) (H : AH) : aread (.strOfBytes (.cst v)) emp H = some (.str b) := by
  cases b with
  | nil => cases h with
    | nil => rfl
    | sim _ => rfl
  | cons x b => cases h with
    | sim _ =>
      show (match aslcells 1 (.sim ((x :: b).map bv) (x :: b).length _) H with | some (_, xs) => (avbytes xs).map AV.str | none => none) = _
      have : aslcells 1 (.sim ((x :: b).map bv) (x :: b).length ‹Bool›) H = some ((x :: b).length, (x :: b).map bv) := by simp [aslcells]
      rw [this]
      show (avbytes ((x :: b).map bv)).map AV.str = _
      rw [avb_map]; rfl
theorem dec_cutE {d : tProof.D} (hw : tProof.wf d) {n : Nat} (hn : n < (tProof.enc d).length) : tProof.dec ((tProof.enc d).take n) = .err .short := by
  have h := whole_cut tProof tProof_good d hw hn
  unfold whole at h
  split at h <;> first | (cases h; done) | skip
  cases h; assumption
theorem dec_more {d : tProof.D} (hw : tProof.wf d) (x : UInt8) : tProof.dec (tProof.enc d ++ [x]) = .ok d [x] := dec_enc tProof tProof_good d hw [x]
theorem dec_all {d : tProof.D} (hw : tProof.wf d) : tProof.dec (tProof.enc d) = .ok d [] := by
  have := dec_enc tProof tProof_good d hw []
  rwa [List.append_nil] at this
end Go.AL
namespace Go.Proofs.YtaicmpphnbofmaaGreatDoor
open Go Go.AL Go.AL.Co
open Go.Proofs.YtaicmpphnbofmaaGreatDoor.San (HP0 orc308)
variable [GLC]
def G3c (v36 v37 v38 v39 : AV) (h40 : AH) (Post : AOut → AH → Prop) : Prop := (
 y_pu (.sliceS 1 (.cst v38) none (some (.cst v39)) none) fun v41 =>
 y_call Tryz.prog 7 [v41] h40 (yp Post) fun v42 h42 =>
 y_pu (.extract 0 (.cst v42)) fun _ =>
 y_pu (.extract 1 (.cst v42)) fun v44 =>
 y_ef (.buildSlice 1 0 [] []) h42 fun v45 h45 =>
 y_ef (.append 1 1 (.cst v45) (.cst v38)) h45 fun v46 h46 =>
 y_ef (.buildSlice 1 1 [(N .u8 0)] [(0, 1, (.cst (N .u8 0)))]) h46 fun v47 h47 =>
 y_ef (.append 1 1 (.cst v46) (.cst v47)) h47 fun v48 h48 =>
 y_call Tryz.prog 7 [v48] h48 (yp Post) fun v49 h49 =>
 y_pu (.extract 0 (.cst v49)) fun _ =>
 y_pu (.extract 1 (.cst v49)) fun v51 =>
 y_call Tryz.prog 7 [v36] h49 (yp Post) fun v52 h52 =>
 y_pu (.extract 0 (.cst v52)) fun v53 =>
 y_pu (.extract 1 (.cst v52)) fun v54 =>
 y_pu (.bin .eql (.cst v44) (.cst (I 5))) fun v55 =>
 y_G3 true v55 h52 (fun v56 _ h56 =>
 y_G3 true v55 h56 (fun v57 _ h57 =>
 y_pu (.pick (.cst v55) (.cst v57) (.cst (.bool false))) fun v58 =>
 y_G3 true v58 h57 (fun v59 _ h59 =>
 y_G3 true v58 h59 (fun v60 _ h60 =>
 y_G3 true v58 h60 (fun v61 _ h61 =>
 y_G3 false v61 h61 (fun v62 _ h62 =>
 y_G3 false v61 h62 (fun v63 _ h63 =>
 y_G3 false v61 h63 (fun v64 c64 h64 =>
 y_G3 false v61 h64 (fun v65 _ h65 =>
 y_G3 false v61 h65 (fun v66 _ h66 =>
 y_G3 false v61 h66 (fun v67 _ h67 =>
 y_G3 true v58 h67 (fun v68 _ h68 =>
 y_pu (.pick (.cst v58) (.cst v68) (.cst (.bool false))) fun v69 =>
 y_G3 true v69 h68 (fun v70 _ h70 =>
 y_pu (.pick (.cst v69) (.cst v70) (.cst (.bool false))) fun v71 =>
 Post (.ret v71) h70) (fun J70 =>
 J70 v37 (fun h => y_tt h) h68)) (fun J68 =>
 y_pu (.pick (.cst v61) (.cst (.bool true)) (.cst v67)) fun v69 =>
 J68 v69 (fun h => y_tt h) h67)) (fun J67 =>
 y_pu (.bin .eql (.cst v66) (.cst v64)) fun v68 =>
 J67 v68 (fun h => y_tt h) h66)) (fun J66 =>
 y_rd (.strOfBytes (.cst v65)) h65 fun v67 =>
 J66 v67 (fun h => y_rde (.strOfBytes (.cst v65)) v67 h) h65)) (fun J65 =>
 y_call Tryz.prog 6 [v62] h64 (yp Post) fun v66 h66 =>
 (c64 h66 ∧ True) ∧ J65 v66 (fun h => y_tt h) h66)) (fun J64 =>
 y_rd (.strOfBytes (.cst v63)) h63 fun v65 =>
 J64 v65 (fun h => y_rde (.strOfBytes (.cst v63)) v65 h) h63)) (fun J63 =>
 J63 v36 (fun h => y_tt h) h62)) (fun J62 =>
 J62 v53 (fun h => y_tt h) h61)) (fun J61 =>
 J61 v60 (fun h => y_tt h) h60)) (fun J60 =>
 y_pu (.bin .neq (.cst v59) (.cst (I 0))) fun v61 =>
 J60 v61 (fun h => y_tt h) h59)) (fun J59 =>
 J59 v54 (fun h => y_tt h) h57)) (fun J57 =>
 y_pu (.bin .eql (.cst v56) (.cst (I 4))) fun v58 =>
 J57 v58 (fun h => y_tt h) h56)) (fun J56 =>
 J56 v51 (fun h => y_tt h) h52))
 omit [GLC] in
set_option maxHeartbeats 2000000 in
theorem G3c_ok {H : AH} {v1 : AV} {d : tProof.D} {b : List UInt8} {r n at_ : Nat} (hw : tProof.wf d) (hd : (tProof.enc d).length < 1073741824) (hv : Frz 1 v1 (b.map bv) b.length) (hb : b.length < 1073741824) (hn : (tProof.enc d).length = n) (hat : at_ < n)
    (hr : r < H.next) (hc : H.get r = some (.cells ((tProof.enc d).map bv))) : G3c v1 (.bool true) (.sl r 0 n (.op 1)) (.int .i64 (at_ : Int)) H (fun o _ => o = .ret (.bool true)) := by
  unfold G3c
  refine y_pu_of (v := .sl r 0 at_ (.op 1)) (by
    have h1 : (at_ : Int) ≤ (n : Int) := by omega
    simp [apure, AOpd.ints, AOpd.ev, aslice, h1]) ?_
  have e1 : ((tProof.enc d).take at_).length = at_ := by simp; omega
  have i1 : Inp H H.next ((tProof.enc d).take at_) (.sl r 0 at_ (.op 1)) := by
    have := Inp.own (H := H) (p := H.next) (b := (tProof.enc d).take at_) (r := r) (o := 0) (l := .op 1) hr hc (by rw [e1, List.drop_zero, List.map_take]) (fun m h => by cases h) (fun es h => by cases h; rfl)
    rwa [e1] at this
  have P := P7 i1 (by rw [e1]; omega)
  rw [dec_cutE hw (by omega)] at P
  refine y_call_of P (fun w H1 h1 => ?_) (fun w H1 h1 => by have := h1.2; cases this)
  obtain ⟨k1, h1⟩ := h1
  have h1 : w = .tup [.nils, .int .i64 5] := by cases h1; rfl
  subst h1
  refine y_pu_of (v := .nils) rfl (y_pu_of (v := .int .i64 5) rfl ?_)
  have n1 := k1.nx
  have c1 : H1.get r = some (.cells ((tProof.enc d).map bv)) := by rw [k1.get r hr]; exact hc
  refine y_ef_of (v := .sl H1.next 0 0 (.ex 0)) (H' := H1.push (.cells [])) rfl ?_
  have r1 : r ≠ H1.next := by omega
  have htk : ((tProof.enc d).map bv).take n = (tProof.enc d).map bv := List.take_of_length_le (by simp; omega)
  have hpos : n ≠ 0 := by omega
  refine y_ef_of (v := .sl (H1.next + 1) 0 n (.op 1)) (H' := (H1.push (.cells [])).push (.cells ((tProof.enc d).map bv))) (by
    have h3 : n ≤ 140737488355328 := by omega
    have h4 : n ≤ 9223372036854775807 := by omega
    simp [aeff, AOpd.ev, aappend, aslcells, AH.cells?, AH.get_push, r1, c1, hn, hpos, h3, h4, htk]) ?_
  obtain ⟨H2, hH2⟩ : ∃ H2, H2 = (H1.push (.cells [])).push (.cells ((tProof.enc d).map bv)) := ⟨_, rfl⟩
  rw [← hH2]
  have n2 : H2.next = H1.next + 2 := by rw [hH2]; rfl
  have c2 : H2.get (H1.next + 1) = some (.cells ((tProof.enc d).map bv)) := by rw [hH2]; simp [AH.get_push]
  refine y_ef_of (v := .sl H2.next 0 1 (.ex 1)) (H' := H2.push (.cells [.int .u8 0])) rfl ?_
  have hb0 : [AV.int .u8 0] = [bv 0] := rfl
  refine y_ef_of (v := .sl (H2.next + 1) 0 (n + 1) (.op 1)) (H' := ((H2.push (.cells [.int .u8 0])).erase (H1.next + 1)).push (.cells ((tProof.enc d ++ [0]).map bv))) (by
    have h3 : n + 1 ≤ 140737488355328 := by omega
    have h4 : n + 1 ≤ 9223372036854775807 := by omega
    have h5 : H1.next + 1 ≠ H2.next := by omega
    simp [aeff, AOpd.ev, aappend, aslcells, AH.cells?, AH.get_push, AH.get_erase, c2, hn, h3, h4, h5, htk]
    rfl) ?_
  obtain ⟨H3, hH3⟩ : ∃ H3, H3 = ((H2.push (.cells [.int .u8 0])).erase (H1.next + 1)).push (.cells ((tProof.enc d ++ [0]).map bv)) := ⟨_, rfl⟩
  rw [← hH3]
  have n3 : H3.next = H2.next + 2 := by rw [hH3]; rfl
  have c3 : H3.get (H2.next + 1) = some (.cells ((tProof.enc d ++ [0]).map bv)) := by rw [hH3]; simp [AH.get_push]
  have e2 : (tProof.enc d ++ [0]).length = n + 1 := by simp [hn]
  have i3 : Inp H3 H3.next (tProof.enc d ++ [0]) (.sl (H2.next + 1) 0 (n + 1) (.op 1)) := by
    have := Inp.own (H := H3) (p := H3.next) (b := tProof.enc d ++ [0]) (r := H2.next + 1) (o := 0) (l := .op 1) (by omega) c3 (by rw [List.drop_zero]; exact List.take_of_length_le (by simp)) (fun m h => by cases h) (fun es h => by cases h; rfl)
    rwa [e2] at this
  have P := P7 i3 (by rw [e2]; omega)
  rw [dec_more hw 0] at P
  refine y_call_of P (fun w H4 h4 => ?_) (fun w H4 h4 => by have := h4.2; cases this)
  obtain ⟨k4, h4⟩ := h4
  have h4 : w = .tup [.nils, .int .i64 4] := by cases h4; rfl
  subst h4
  refine y_pu_of (v := .nils) rfl (y_pu_of (v := .int .i64 4) rfl ?_)
  refine y_call_of (P7 (hv.inp H4 H4.next) (by omega)) (fun w H5 h5 => ?_) (fun w H5 h5 => by
    have h5 := h5.2
    cases hres : tProof.dec b with
    | err e => rw [hres] at h5; cases h5
    | ok y r => rw [hres] at h5; cases r with
      | nil => obtain ⟨_, h5, _⟩ := h5; cases h5
      | cons _ _ => cases h5)
  obtain ⟨k5, h5⟩ := h5
  obtain ⟨y, hh, rfl, hy⟩ : ∃ y hh, w = .tup [y, .int .i64 hh] ∧ (hh = 0 → ∃ e, RX tProof e [y] ∧ tProof.wf e ∧ tProof.enc e = b) := by
    cases hres : tProof.dec b with
    | err e => rw [hres] at h5; cases h5; exact ⟨_, _, rfl, fun h => by cases e <;> cases h⟩
    | ok e r => rw [hres] at h5; cases r with
      | nil =>
        obtain ⟨x, h5, h6⟩ := h5
        cases h5
        obtain ⟨g1, g2⟩ := dec_canon tProof b e [] hres
        exact ⟨_, _, rfl, fun _ => ⟨e, h6, g2, by rw [g1, List.append_nil]⟩⟩
      | cons _ _ => cases h5; exact ⟨_, _, rfl, fun h => by cases h⟩
  refine y_pu_of (v := y) rfl (y_pu_of (v := .int .i64 hh) rfl ?_)
  refine y_pu_of (v := .bool true) rfl (G3_t (G3_t ?_))
  refine y_pu_of (v := .bool true) rfl (y_pu_of (v := .bool true) rfl (G3_t (G3_t ?_)))
  refine y_pu_of (v := .bool (decide (hh ≠ 0))) (by
    show some (AV.bool (hh != 0)) = _
    by_cases h : hh = 0 <;> simp [h]) (G3_t ?_)
  by_cases hz : hh = 0
  · have hdz : decide (hh ≠ 0) = false := by simp [hz]
    rw [hdz]
    obtain ⟨e, g1, g2, g3⟩ := hy hz
    refine G3_f (G3_f (G3_f (y_rd_of (hv.str _) (G3_f ?_))))
    have P := P6 (H := H5) (RX_rc _ _ _ g1) g2 (by rw [g3]; show b.length < 1099511627776; omega)
    rw [g3] at P
    refine y_call_of P (fun w H6 h6 => ?_) (fun w H6 h6 => by obtain ⟨_, _, _, h, _⟩ := h6; cases h)
    obtain ⟨r6, p1, p2, p3, p4, p5⟩ := h6
    cases p3
    refine ⟨⟨hv.str _, trivial⟩, G3_f ?_⟩
    have hs : aread (.strOfBytes (.cst (.sl r6 0 b.length (.op 1)))) emp H6 = some (.str b) := by
      have h8 : aslcells 1 (.sl r6 0 b.length (.op 1)) H6 = some (b.length, b.map bv) := by
        have h9 : (b.map bv).take b.length = b.map bv := List.take_of_length_le (by simp)
        simp [aslcells, AH.cells?, p4, h9]
      show (match aslcells 1 (.sl r6 0 b.length (.op 1)) H6 with | some (_, xs) => (avbytes xs).map AV.str | none => none) = _
      rw [h8]
      show (avbytes (b.map bv)).map AV.str = _
      rw [avb_map]; rfl
    refine y_rd_of hs (G3_f ?_)
    refine y_pu_of (v := .bool true) (by show some (AV.bool (b == b)) = _; simp) (G3_t ?_)
    refine y_pu_of (v := .bool true) rfl (y_pu_of (v := .bool true) rfl (G3_t (y_pu_of (v := .bool true) rfl rfl)))
  · have hdz : decide (hh ≠ 0) = true := by simp [hz]
    rw [hdz]
    refine G3_s (G3_s (G3_s (G3_s (G3_s (G3_s (G3_t ?_))))))
    refine y_pu_of (v := .bool true) rfl (y_pu_of (v := .bool true) rfl (G3_t (y_pu_of (v := .bool true) rfl rfl)))
 omit [GLC] in
theorem enc_proof_pos (d : tProof.D) : 0 < (tProof.enc d).length := by
  have : (tProof.enc d) = encN ((asL (t := tNode) d).length : Int) ++ (asL (t := tNode) d).flatMap tNode.enc := rfl
  rw [this, List.length_append]
  have := List.length_pos_iff.2 (encN_pos ((asL (t := tNode) d).length : Int))
  omega
set_option maxHeartbeats 2000000 in
theorem P3 (hS : CallsOk Tryz.prog orc308) {v0 v1 : AV} {cut : Int} {d : tProof.D} {b : List UInt8} (h0 : QV tProof d v0) (hw : tProof.wf d) (hd : (tProof.enc d).length < 1073741824) (hv : Frz 1 v1 (b.map bv) b.length) (hb : b.length < 1073741824) :
    ACall Tryz.prog 3 [v0, v1, .int .i64 cut] (toAH HP0) (fun o _ => o = .ret (.bool true)) := by
  refine T3 ?_
  unfold G3
  refine y_call_of (P4 hS) (fun w H1 h1 => ?_) (fun w H1 h1 => by cases h1.1)
  obtain ⟨h1, rfl⟩ := h1
  cases h1
  generalize toAH HP0 = H
  refine y_call_of (P5 h0 hw) (fun w H1 h1 => ?_) (fun w H1 h1 => by obtain ⟨⟨_, h⟩, _⟩ := h1; cases h)
  obtain ⟨⟨t, ht⟩, k1⟩ := h1
  cases ht
  cases t with
  | false =>
    refine y_pu_of (v := .bool true) rfl (grp_s ?_)
    exact y_pu_of (v := .bool true) rfl (if_t rfl)
  | true =>
  refine y_pu_of (v := .bool false) rfl (grp_f ?_)
  have hlen : apure (.len (.cst v1)) emp = some (.int .i64 (b.length : Int)) := (hv.inp H H.next).len
  refine y_pu_of hlen (gtr_ex fun g => y_pu_of (v := .bool g) rfl ?_)
  cases g with
  | true => exact if_t rfl
  | false =>
  refine if_f ?_
  obtain ⟨n, hn⟩ : ∃ n, (tProof.enc d).length = n := ⟨_, rfl⟩
  have hpos := enc_proof_pos d
  refine y_call_of (P6 (H := H1) h0 hw (by show _ < 1099511627776; omega)) (fun w H2 h2 => ?_) (fun w H2 h2 => by obtain ⟨_, _, _, h, _⟩ := h2; cases h)
  obtain ⟨r, p1, p2, p3, p4, p5⟩ := h2
  cases p3
  rw [hn]
  have i2 : Inp H2 H2.next (tProof.enc d) (.sl r 0 n (.op 1)) := by
    have := Inp.own (H := H2) (p := H2.next) (b := tProof.enc d) (r := r) (o := 0) (l := .op 1) p2 p4 (by rw [List.drop_zero]; exact List.take_of_length_le (by simp)) (fun m h => by cases h) (fun es h => by cases h; rfl)
    rwa [hn] at this
  have P := P7 i2 (by omega)
  rw [dec_all hw] at P
  refine y_call_of P (fun w H3 h3 => ?_) (fun w H3 h3 => by obtain ⟨_, _, h, _⟩ := h3; cases h)
  obtain ⟨k3, x, h3, hx⟩ := h3
  cases h3
  refine y_pu_of (v := x) rfl (y_pu_of (v := .int .i64 0) rfl (y_pu_of (v := .bool false) rfl (grp_f ?_)))
  refine y_call_of (S8 (d := d) (RX_rc _ _ _ hx) h0 hw) (fun w H4 h4 => ?_) (fun w H4 h4 => by cases h4.1)
  obtain ⟨h4, k4⟩ := h4
  cases h4
  refine un_not (y_pu_of (v := .bool false) rfl (grp_f ?_))
  refine y_pu_of (v := .int .i64 (n : Int)) rfl (y_pu_of (v := .bool false) (by
    show some (AV.bool ((n : Int) == 0)) = _
    have : ¬ (n : Int) = 0 := by omega
    simp; omega) (y_pu_of (v := .bool false) rfl (if_f ?_)))
  have hsub : apure (.bin .sub (.cst (.int .i64 (n : Int))) (.cst (I 1))) emp = some (.int .i64 ((n - 1 : Nat) : Int)) := by
    show some (AV.int .i64 (IntKind.i64.wrap ((n : Int) - 1))) = _
    have : (n : Int) - 1 = ((n - 1 : Nat) : Int) := by omega
    rw [this, wrap_lt (by omega)]
  have c4 : H4.get r = some (.cells ((tProof.enc d).map bv)) := by
    have := k3.nx
    rw [k4.get r (by omega), k3.get r p2]; exact p4
  have r4 : r < H4.next := by have := k3.nx; have := k4.nx; omega
  have hC : ∀ at_ : Nat, at_ < n → G3c v1 (.bool true) (.sl r 0 n (.op 1)) (.int .i64 (at_ : Int)) H4 (fun o _ => o = .ret (.bool true)) := fun at_ ha => G3c_ok hw hd hv hb hn ha r4 c4
  refine y_pu_of (v := .int .i64 (n : Int)) rfl (y_pu_of hsub (y_pu_of (v := .bool (decide (cut ≥ 0))) rfl ?_))
  by_cases hc0 : cut ≥ 0
  · rw [decide_eq_true hc0]
    refine grp_t (y_pu_of (v := .int .i64 (n : Int)) rfl (y_pu_of (v := .bool (decide (cut < (n : Int)))) rfl (y_pu_of (v := .bool (decide (cut < (n : Int)))) rfl ?_)))
    refine y_if_of (fun ht => ?_) (fun _ => hC (n - 1) (by omega))
    have ht := of_decide_eq_true ht
    obtain ⟨m, rfl⟩ : ∃ m : Nat, cut = (m : Int) := ⟨cut.toNat, by omega⟩
    exact hC m (by omega)
  · rw [decide_eq_false hc0]
    refine grp_st (y_pu_of (v := .bool false) rfl ?_)
    exact y_if_of (fun ht => by cases ht) (fun _ => hC (n - 1) (by omega))
end Go.Proofs.YtaicmpphnbofmaaGreatDoor
