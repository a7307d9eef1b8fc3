import Derived.Test.YtlopgbdfdfijoaaGreatDoorZb03
/-
  walks over printed propositions: steps, objects of ones own, freezing, lists.
-/
set_option linter.unusedSectionVars false
set_option linter.unusedVariables false
set_option linter.unusedSimpArgs false
namespace Go.AL
variable [GLC] {P : Program}
def bv (x : UInt8) : AV := .int .u8 (x.toNat : Int)
theorem y_pu_of {k : AK} {K : AV → Prop} {v : AV} (h : apure k emp = some v) (hK : K v) : y_pu k K := by unfold y_pu; rw [h]; exact hK
theorem y_rd_of {k : AK} {H : AH} {K : AV → Prop} {v : AV} (h : aread k emp H = some v) (hK : K v) : y_rd k H K := by unfold y_rd; rw [h]; exact hK
theorem y_ef_of {k : AK} {H H' : AH} {K : AV → AH → Prop} {v : AV} (h : aeff k emp H = some (v, H')) (hK : K v H') : y_ef k H K := by unfold y_ef; rw [h]; exact hK
theorem y_nw_of {k : AK} {H : AH} {K : AV → AH → Prop} {c : List AV} {f : Nat → AV} (h : anew k emp = some (c, f)) (hK : K (f H.next) (H.push (.cells c))) : y_nw k H K := by unfold y_nw; rw [h]; exact hK
theorem y_if0_of {t : Bool} {A B : Prop} (ha : t = true → A) (hb : t = false → B) : y_if0 (.bool t) A B := ⟨ha, hb⟩
theorem y_if_of {T : Type} {t : Bool} {J : T} {A B : T → Prop} (ha : t = true → A J) (hb : t = false → B J) : y_if (.bool t) J A B := ⟨ha, hb⟩
theorem y_call_of {g : FuncId} {ar : List AV} {H : AH} {post : AOut → AH → Prop} {Kp K : AV → AH → Prop} (hC : ACall P g ar H post) (hK : ∀ v H', post (.ret v) H' → K v H') (hP : ∀ v H', post (.pan v) H' → Kp v H') : y_call P g ar H Kp K :=
  hC.mono fun o H' h => by cases o with
    | ret v => exact hK v H' h
    | pan v => exact hP v H' h
theorem y_cl_of {fv : AV} {ar : List AV} {H : AH} {post : AOut → AH → Prop} {Kp K : AV → AH → Prop} (hC : ACallV P fv ar H post) (hK : ∀ v H', post (.ret v) H' → K v H') (hP : ∀ v H', post (.pan v) H' → Kp v H') : y_cl P fv ar H Kp K := by
  unfold ACallV at hC
  split at hC
  · rename_i g first cap
    show y_call P g (kapp first (kapp ar cap)) H Kp K
    rw [kapp_eq, kapp_eq, ← List.append_assoc]
    exact y_call_of hC hK hP
  · exact YC.mono hC fun o H' h => by cases o with
      | ret v => exact hK v H' h
      | pan v => exact hP v H' h
  · exact hC.elim
theorem y_grp_of {T : Type} {t w : Bool} {J : T} {A B : T → Prop} (ha : t = w → A J) (hb : t ≠ w → B J) : y_grp w (.bool t) J A B := by
  unfold y_grp y_gd
  simp only [agd]
  exact ⟨fun h => ha (by simpa using h), fun h => hb (by simpa using h)⟩
structure KeepN (H H' : AH) : Prop where
  nx : H.next ≤ H'.next
  get : ∀ q, q < H.next → H'.get q = H.get q
  gl : H'.gl = H.gl
theorem KeepN.push (H : AH) (o : AObj) : KeepN H (H.push o) := ⟨by simp, fun q hq => AH.get_push_ne _ _ (by omega), rfl⟩
theorem KeepN.trans {H H1 H2 : AH} (h1 : KeepN H H1) (h2 : KeepN H1 H2) : KeepN H H2 := ⟨Nat.le_trans h1.nx h2.nx, fun q hq => by have := h1.nx; rw [h2.get q (by omega), h1.get q hq], h2.gl.trans h1.gl⟩
theorem KeepN.refl (H : AH) : KeepN H H := ⟨Nat.le_refl _, fun _ _ => rfl, rfl⟩
inductive Frz (z : Nat) : AV → List AV → Nat → Prop
  | nil : Frz z .nils [] 0
  | sim {c : List AV} {n : Nat} {ex : Bool} (h : c.length = n * z) : Frz z (.sim c n ex) c n
theorem flat_idx {z : Nat} : ∀ (css : List (List AV)) (i : Nat) (y : List AV), (∀ x ∈ css, x.length = z) → css[i]? = some y → (css.flatten.drop (i * z)).take z = y
  | [], i, y, _, h => by simp at h
  | x :: css, 0, y, hz, h => by
    have hx : x.length = z := hz x (.head _)
    have e : x = y := by simpa using h
    subst e
    simp only [List.flatten_cons, Nat.zero_mul, List.drop_zero]
    rw [List.take_append_of_le_length (by omega), List.take_of_length_le (by omega)]
  | x :: css, i + 1, y, hz, h => by
    have hx : x.length = z := hz x (.head _)
    have h' : css[i]? = some y := by simpa using h
    have := flat_idx css i y (fun w hw => hz w (.tail _ hw)) h'
    rw [← this]
    have e : (i + 1) * z = x.length + i * z := by rw [Nat.add_mul, Nat.one_mul, hx]; omega
    simp only [List.flatten_cons]
    rw [e, ← List.drop_drop, List.drop_left]
theorem flat_len {z : Nat} : ∀ (css : List (List AV)), (∀ x ∈ css, x.length = z) → css.flatten.length = css.length * z
  | [], _ => by simp
  | x :: css, hz => by
    rw [List.flatten_cons, List.length_append, flat_len css fun w hw => hz w (.tail _ hw), hz x (.head _), List.length_cons, Nat.add_mul]; omega
inductive Lv (k : Nat) : List (Nat × List AV) → Nat → List AV → AV → Prop
  | nil : Lv k [] 0 [] .nils
  | ex (q : Nat) : Lv k [(q, [])] 0 [] (.sl q 0 0 (.ex 0))
  | op {r n : Nat} {cs : List AV} (hn : 0 < n) : Lv k [(r, cs)] n cs (.sl r 0 n (.op k))
  | exn {r n : Nat} {cs : List AV} (hn : 0 < n) : Lv k [(r, cs)] n cs (.sl r 0 n (.ex n))
theorem Lv.cell {k n : Nat} {o : List (Nat × List AV)} {cs : List AV} {v : AV} (h : Lv k o n cs v) : v.cellsOf = some [v] := by cases h <;> rfl
def FZ (R : List (Nat × List AV)) (v y : AV) : Prop := ∀ (H : AH) (k : Nat), (∀ x ∈ R, k ≤ x.1 ∧ H.get x.1 = some (.cells x.2)) → FrzR H k v y
def FZs (R : List (Nat × List AV)) (c d : List AV) : Prop := ∀ (H : AH) (k : Nat), (∀ x ∈ R, k ≤ x.1 ∧ H.get x.1 = some (.cells x.2)) → FrzRs H k c d
theorem FZs.mono {R R' : List (Nat × List AV)} {c d : List AV} (h : FZs R c d) (hs : R ⊆ R') : FZs R' c d := fun H k hR => h H k fun x hx => hR x (hs hx)
theorem FZs.nil {R : List (Nat × List AV)} : FZs R [] [] := fun _ _ _ => .nil
theorem FZs.cons {R : List (Nat × List AV)} {x y : AV} {c d : List AV} (h : FZ R x y) (t : FZs R c d) : FZs R (x :: c) (y :: d) := fun H k hR => .cons (h H k hR) (t H k hR)
theorem FrzRs.app {H : AH} {k : Nat} : ∀ {a a' b b' : List AV}, FrzRs H k a a' → FrzRs H k b b' → FrzRs H k (a ++ b) (a' ++ b')
  | _, _, _, _, .nil, h => h
  | _, _, _, _, .cons h t, h2 => .cons h (t.app h2)
theorem FZs.app {R : List (Nat × List AV)} {a a' b b' : List AV} (h : FZs R a a') (h2 : FZs R b b') : FZs R (a ++ b) (a' ++ b') := fun H k hR => (h H k hR).app (h2 H k hR)
theorem FZs.low {R : List (Nat × List AV)} {c : List AV} (h : ∀ k, Scs k c) : FZs R c c := fun _ k _ => .low (h k)
theorem FZ.agg {R : List (Nat × List AV)} {c d : List AV} (h : FZs R c d) : FZ R (.agg c) (.agg d) := fun H k hR => .agg (h H k hR)
structure NSt (H0 : AH) (L : List (Nat × List AV)) (H : AH) : Prop where
  k : KeepN H0 H
  l : ∀ x ∈ L, H0.next ≤ x.1 ∧ x.1 < H.next ∧ H.get x.1 = some (.cells x.2)
  nd : (L.map (·.1)).Nodup
section
variable {H0 H : AH} {L : List (Nat × List AV)}
theorem NSt.start (H : AH) : NSt H [] H := ⟨KeepN.refl _, fun x hx => (by cases hx), List.nodup_nil⟩
theorem NSt.push {o : List AV} (h : NSt H0 L H) : NSt H0 ((H.next, o) :: L) (H.push (.cells o)) := by
  have hn := h.k.nx
  have hold : ∀ q, q < H.next → (H.push (.cells o)).get q = H.get q := fun q hq => AH.get_push_ne _ _ (by omega)
  refine ⟨h.k.trans (KeepN.push _ _), fun x hx => ?_, ?_⟩
  · cases hx with
    | head => exact ⟨hn, by simp, by simp⟩
    | tail _ hx =>
      obtain ⟨h1, h2, h3⟩ := h.l x hx
      exact ⟨h1, by simp; omega, by rw [hold _ h2]; exact h3⟩
  · rw [List.map_cons, List.nodup_cons]
    refine ⟨fun hm => ?_, h.nd⟩
    obtain ⟨x, hx, he⟩ := List.mem_map.1 hm
    have := (h.l x hx).2.1
    omega
theorem NSt.alloc {z : List AV} {K : AV → AH → Prop} (h : NSt H0 L H) (hK : ∀ q H', NSt H0 ((q, z) :: L) H' → K (.ptr q 0) H') : y_ef (.alloc z) H K :=
  y_ef_of (v := .ptr H.next 0) (H' := H.push (.cells z)) rfl (hK _ _ h.push)
theorem NSt.box {x : AV} {c : List AV} {K : AV → AH → Prop} (h : NSt H0 L H) (hx : x.cellsOf = some c) (hK : ∀ q H', NSt H0 ((q, c) :: L) H' → K (.ptr q 0) H') : y_ef (.box (.cst x)) H K :=
  y_ef_of (v := .ptr H.next 0) (H' := H.push (.cells c)) (by simp [aeff, AOpd.ev, hx]) (hK _ _ h.push)
theorem NSt.sub {L' : List (Nat × List AV)} (h : NSt H0 L H) (hs : L'.Sublist L) : NSt H0 L' H := ⟨h.k, fun x hx => h.l x (hs.subset hx), h.nd.sublist (hs.map _)⟩
theorem NSt.perm {L' : List (Nat × List AV)} (h : NSt H0 L H) (hs : L'.Perm L) : NSt H0 L' H := ⟨h.k, fun x hx => h.l x (hs.subset hx), (hs.map _).nodup_iff.2 h.nd⟩
theorem NSt.swap {x y : Nat × List AV} (h : NSt H0 (x :: y :: L) H) : NSt H0 (y :: x :: L) H := h.perm (.swap _ _ _)
theorem NSt.set {q : Nat} {c c' : List AV} (h : NSt H0 ((q, c) :: L) H) : NSt H0 ((q, c') :: L) (H.set q (.cells c')) := by
  obtain ⟨h1, h2, h3⟩ := h.l _ (.head _)
  have hold : ∀ r, r ≠ q → (H.set q (.cells c')).get r = H.get r := fun r hr => by simp [AH.get_set, hr]
  have hnd := h.nd
  rw [List.map_cons, List.nodup_cons] at hnd
  refine ⟨⟨by simpa using h.k.nx, fun r hr => by rw [hold r (by simp only at h1; omega)]; exact h.k.get r hr, h.k.gl⟩, fun w hw => ?_, by rw [List.map_cons, List.nodup_cons]; exact hnd⟩
  cases hw with
  | head => exact ⟨h1, by simpa using h2, by simp [AH.get_set]⟩
  | tail _ hw =>
    obtain ⟨g1, g2, g3⟩ := h.l w (.tail _ hw)
    exact ⟨g1, by simpa using g2, by rw [hold _ fun e => hnd.1 (List.mem_map.2 ⟨w, hw, e⟩)]; exact g3⟩
theorem NSt.erase {q : Nat} {c : List AV} (h : NSt H0 ((q, c) :: L) H) : NSt H0 L (H.erase q) := by
  obtain ⟨h1, h2, h3⟩ := h.l _ (.head _)
  have hnd := h.nd
  rw [List.map_cons, List.nodup_cons] at hnd
  have hold : ∀ r, r ≠ q → (H.erase q).get r = H.get r := fun r hr => by simp [AH.get_erase, hr]
  refine ⟨⟨h.k.nx, fun r hr => by rw [hold r (by simp only at h1; omega)]; exact h.k.get r hr, h.k.gl⟩, fun w hw => ?_, hnd.2⟩
  obtain ⟨g1, g2, g3⟩ := h.l w (.tail _ hw)
  exact ⟨g1, g2, by rw [hold _ fun e => hnd.1 (List.mem_map.2 ⟨w, hw, e⟩)]; exact g3⟩
theorem NSt.put {q o n : Nat} {c vs : List AV} {x : AV} {K : AV → AH → Prop} (h : NSt H0 ((q, c) :: L) H) (hx : x.cellsOf = some vs) (hv : vs.length = n) (hz : o + n ≤ c.length)
    (hK : ∀ H', NSt H0 ((q, splice c o vs) :: L) H' → K .unk H') : y_ef (.store n (.cst (.ptr q o)) (.cst x)) H K := by
  obtain ⟨h1, h2, h3⟩ := h.l _ (.head _)
  exact y_ef_of (v := .unk) (H' := H.set q (.cells (splice c o vs))) (by
    simp only [aeff, AOpd.ev, AH.cells?, h3, hx]
    rw [if_pos ⟨hv, hz⟩]) (hK _ h.set)
theorem NSt.putA {q n : Nat} {c vs : List AV} {K : AV → AH → Prop} (h : NSt H0 ((q, c) :: L) H) (hv : vs.length = n) (hz : c.length = n)
    (hK : ∀ H', NSt H0 ((q, vs) :: L) H' → K .unk H') : y_ef (.store n (.cst (.ptr q 0)) (.cst (.agg vs))) H K :=
  h.put (vs := vs) rfl hv (by omega) fun H' h' => hK H' (by
    rw [show splice c 0 vs = vs by rw [splice_eq (by omega)]; simp [List.drop_of_length_le (by omega : c.length ≤ vs.length)]] at h'; exact h')
theorem NSt.ldA {q k : Nat} {c : List AV} {K : AV → Prop} (h : NSt H0 L H) (hm : (q, c) ∈ L) (hc : c.length = k) (hK : K (.agg c)) : y_rd (.load (some k) (.cst (.ptr q 0))) H K := by
  obtain ⟨_, _, h3⟩ := h.l _ hm
  exact y_rd_of (v := .agg c) (by simp [aread, aload, AOpd.ev, AH.cells?, h3, apart, hc]; exact List.take_of_length_le (by omega)) hK
theorem NSt.ld {q o : Nat} {c : List AV} {x : AV} {K : AV → Prop} (h : NSt H0 L H) (hm : (q, c) ∈ L) (hx : c[o]? = some x) (hK : K x) : y_rd (.load none (.cst (.ptr q o))) H K := by
  obtain ⟨_, _, h3⟩ := h.l _ hm
  exact y_rd_of (v := x) (by simpa [aread, aload, AOpd.ev, AH.cells?, h3, apart] using hx) hK
theorem NSt.call {g : FuncId} {ar : List AV} {ok : AV → AH → Prop} {K : AV → AH → Prop} {Post : AOut → AH → Prop} (h : NSt H0 L H) (hC : ACall P g ar H fun o H' => KeepN H H' ∧ ∃ x, o = .ret x ∧ ok x H')
    (hK : ∀ x H', NSt H0 L H' → ok x H' → K x H') : y_call P g ar H (yp Post) K := by
  have hn := h.k.nx
  refine y_call_of hC (fun x H' g => ?_) (fun x H' g => by obtain ⟨_, _, g, _⟩ := g; cases g)
  obtain ⟨k1, x', hx, h1⟩ := g
  cases hx
  exact hK _ H' ⟨h.k.trans k1, fun w hw => by
    obtain ⟨g1, g2, g3⟩ := h.l w hw
    exact ⟨g1, Nat.lt_of_lt_of_le g2 k1.nx, by rw [k1.get _ g2]; exact g3⟩, h.nd⟩ h1
theorem NSt.app {k n bytes : Nat} {o : List (Nat × List AV)} {cs c z : List AV} {v x : AV} {K : AV → AH → Prop} (h : NSt H0 (o ++ L) H) (hv : Lv k o n cs v) (hcs : cs.length = n * k) (hx : x.cellsOf = some c) (hc : c.length = k) (hz : z.length = k) (hn : n < 274877906944) (hby : bytes ≤ 500)
    (hK : ∀ o' v' H', NSt H0 (o' ++ L) H' → Lv k o' (n + 1) (cs ++ c) v' → K v' H') : y_ef (.buildSlice k 1 z [(0, k, (.cst x))]) H fun v17 h17 => y_ef (.append k bytes (.cst v) (.cst v17)) h17 K := by
  have hd : z.drop k = [] := List.drop_of_length_le (by omega)
  refine y_ef_of (v := .sl H.next 0 1 (.ex 1)) (H' := H.push (.cells c)) (by
    simp [aeff, afill, AOpd.ev, hx, hc, hz, hd]) ?_
  have hb : (n + 1) * bytes ≤ 140737488355328 := by
    have : (n + 1) * bytes ≤ 274877906944 * 500 := Nat.mul_le_mul (by omega) hby
    omega
  have htk : c.take k = c := List.take_of_length_le (by omega)
  have h1 := h.push (o := c)
  cases hv with
  | nil =>
    have hb' : bytes ≤ 140737488355328 := by omega
    refine y_ef_of (v := .sl (H.next + 1) 0 1 (.op k)) (H' := (H.push (.cells c)).push (.cells c)) (by
      simp [aeff, AOpd.ev, aappend, aslcells, AH.cells?, AH.get_push, hc, htk, hb']) ?_
    refine hK [(H.next + 1, c)] _ _ ?_ (.op (Nat.succ_pos _))
    exact (h1.push (o := c)).sub (by
      show List.Sublist ((H.next + 1, c) :: L) ((H.next + 1, c) :: (H.next, c) :: L)
      exact (List.Sublist.cons _ (List.Sublist.refl _)).cons_cons _)
  | ex q =>
    obtain ⟨g1, g2, g3⟩ := h.l (q, []) (.head _)
    have e1 : q ≠ H.next := by simp only at g2; omega
    have hb' : bytes ≤ 140737488355328 := by omega
    refine y_ef_of (v := .sl (H.next + 1) 0 1 (.op k)) (H' := (H.push (.cells c)).push (.cells c)) (by
      have g3 : H.get q = some (.cells []) := g3
      simp [aeff, AOpd.ev, aappend, aslcells, AH.cells?, AH.get_push, hc, htk, hb', e1, g3]) ?_
    refine hK [(H.next + 1, c)] _ _ ?_ (.op (Nat.succ_pos _))
    exact (h1.push (o := c)).sub (by
      show List.Sublist ((H.next + 1, c) :: L) ((H.next + 1, c) :: (H.next, c) :: (q, []) :: L)
      exact (List.Sublist.cons _ (List.Sublist.cons _ (List.Sublist.refl _))).cons_cons _)
  | op hn0 =>
    rename_i r
    obtain ⟨g1, g2, g3⟩ := h.l (r, cs) (.head _)
    have e3 : r ≠ H.next := by simp only at g2; omega
    have htk2 : cs.take (n * k) = cs := List.take_of_length_le (by omega)
    refine y_ef_of (v := .sl (H.next + 1) 0 (n + 1) (.op k)) (H' := ((H.push (.cells c)).erase r).push (.cells (cs ++ c))) (by
      have hn1 : n + 1 ≤ 9223372036854775807 := by omega
      have g3 : H.get r = some (.cells cs) := g3
      simp [aeff, AOpd.ev, aappend, aslcells, AH.cells?, AH.get_push, hc, htk, g3, e3, hcs, hb, htk2, hn1]) ?_
    refine hK [(H.next + 1, cs ++ c)] _ _ ?_ (.op (Nat.succ_pos _))
    have h2 : NSt H0 ((r, cs) :: (H.next, c) :: L) (H.push (.cells c)) := h1.swap
    have h3 := (h2.erase).push (o := cs ++ c)
    exact h3.sub (by
      show List.Sublist ((H.next + 1, cs ++ c) :: L) ((H.next + 1, cs ++ c) :: (H.next, c) :: L)
      exact (List.Sublist.cons _ (List.Sublist.refl _)).cons_cons _)
  | exn hn0 =>
    rename_i r
    obtain ⟨g1, g2, g3⟩ := h.l (r, cs) (.head _)
    have e3 : r ≠ H.next := by simp only at g2; omega
    have htk2 : cs.take (n * k) = cs := List.take_of_length_le (by omega)
    refine y_ef_of (v := .sl (H.next + 1) 0 (n + 1) (.op k)) (H' := (H.push (.cells c)).push (.cells (cs ++ c))) (by
      have hn1 : n + 1 ≤ 9223372036854775807 := by omega
      have hn2 : ¬ n + 1 ≤ n := by omega
      have g3 : H.get r = some (.cells cs) := g3
      simp [aeff, AOpd.ev, aappend, aslcells, AH.cells?, AH.get_push, hc, htk, g3, e3, hcs, hb, htk2, hn1, hn2]) ?_
    refine hK [(H.next + 1, cs ++ c)] _ _ ?_ (.op (Nat.succ_pos _))
    exact (h1.push (o := cs ++ c)).sub (by
      show List.Sublist ((H.next + 1, cs ++ c) :: L) ((H.next + 1, cs ++ c) :: (H.next, c) :: (r, cs) :: L)
      exact (List.Sublist.cons _ (List.Sublist.cons _ (List.Sublist.refl _))).cons_cons _)
theorem NSt.live (h : NSt H0 L H) : ∀ w ∈ L, H0.next ≤ w.1 ∧ H.get w.1 = some (.cells w.2) := fun w hw => ⟨(h.l w hw).1, (h.l w hw).2.2⟩
end
end Go.AL
namespace Go.AL
variable [GLC] {P : Program}
def CP (P : Program) (g : FuncId) (ar : List AV) (H : AH) (Q : AV → Prop) : Prop := ACall P g ar H fun o H' => H' = H ∧ ∃ x, o = .ret x ∧ Q x
theorem CP.mono {g : FuncId} {ar : List AV} {H : AH} {Q Q' : AV → Prop} (h : CP P g ar H Q) (hq : ∀ x, Q x → Q' x) : CP P g ar H Q' :=
  ACall.mono h fun o H' ⟨h1, x, h2, h3⟩ => ⟨h1, x, h2, hq x h3⟩
theorem y_cp {g : FuncId} {ar : List AV} {H : AH} {Q : AV → Prop} {Kp K : AV → AH → Prop} (hC : CP P g ar H Q) (hK : ∀ x, Q x → K x H) : y_call P g ar H Kp K :=
  y_call_of hC (fun v H' h => by obtain ⟨rfl, x, h2, h3⟩ := h; cases h2; exact hK _ h3) (fun v H' h => by obtain ⟨_, x, h2, _⟩ := h; cases h2)
theorem y_cpv {fv : AV} {ar : List AV} {H : AH} {Q : AV → Prop} {Kp K : AV → AH → Prop} (hC : ACallV P fv ar H fun o H' => H' = H ∧ ∃ x, o = .ret x ∧ Q x) (hK : ∀ x, Q x → K x H) : y_cl P fv ar H Kp K :=
  y_cl_of hC (fun v H' h => by obtain ⟨rfl, x, h2, h3⟩ := h; cases h2; exact hK _ h3) (fun v H' h => by obtain ⟨_, x, h2, _⟩ := h; cases h2)
def MP (H : AH) (Q : AV → Prop) : AOut → AH → Prop := fun o H' => KeepN H H' ∧ ∃ x R y, o = .ret x ∧ FZ R x y ∧ (∀ w ∈ R, H.next ≤ w.1 ∧ H'.get w.1 = some (.cells w.2)) ∧ Q y
theorem CP.of {g : FuncId} {ar : List AV} {H : AH} {Q : AV → Prop} (h : ACall P g ar H (MP H Q)) : CP P g ar H Q := by
  refine ACall.scope (fun _ _ => h) h.1 fun _ htop o H' hp => ?_
  obtain ⟨hk, x, R, y, rfl, h1, h3, hq⟩ := hp
  have hcut : H'.cut H.next H.gl = H := by
    refine AH.ext (fun q => ?_) rfl rfl
    show (if q < H.next then H'.get q else none) = H.get q
    by_cases hq : q < H.next
    · rw [if_pos hq, hk.get q hq]
    · rw [if_neg hq, htop q (by omega)]
  have hold : ∀ q o, q < H.next → H'.get q = some o → H.get q = some o ∨ ScO H.next o := fun q o hq ho => .inl (by rw [← hk.get q hq]; exact ho)
  rw [hcut]
  exact ⟨.ret y, h1 H' H.next h3, hold, rfl, _, rfl, hq⟩
theorem MP.same {H : AH} {Q : AV → Prop} {x : AV} (hs : ∀ k, Sc k x) (h : Q x) : MP H Q (.ret x) H := ⟨KeepN.refl _, x, [], x, rfl, fun _ k _ => .low (hs k), fun _ h => (by cases h), h⟩
theorem NSt.fin {H0 H : AH} {L : List (Nat × List AV)} {Q : AV → Prop} {x y : AV} (s : NSt H0 L H) (hf : FZ L x y) (h : Q y) : MP H0 Q (.ret x) H := ⟨s.k, x, L, y, rfl, hf, s.live, h⟩
theorem NSt.finS {H0 H : AH} {L : List (Nat × List AV)} {Q : AV → Prop} {x : AV} (s : NSt H0 L H) (hf : ∀ k, Sc k x) (h : Q x) : MP H0 Q (.ret x) H := ⟨s.k, x, [], x, rfl, fun _ k _ => .low (hf k), fun _ h => (by cases h), h⟩
theorem NSt.cp {H0 H : AH} {L : List (Nat × List AV)} {g : FuncId} {ar : List AV} {Q : AV → Prop} {Kp K : AV → AH → Prop} (_ : NSt H0 L H) (hC : CP P g ar H Q) (hK : ∀ x, Q x → K x H) : y_call P g ar H Kp K := y_cp hC hK
theorem grp_tt {T : Type} {J : T} {A B : T → Prop} (h : A J) : y_grp true (.bool true) J A B := y_grp_of (fun _ => h) (fun e => absurd rfl e)
theorem grp_tf {T : Type} {J : T} {A B : T → Prop} (h : B J) : y_grp true (.bool false) J A B := y_grp_of (fun e => by cases e) (fun _ => h)
theorem grp_ff {T : Type} {J : T} {A B : T → Prop} (h : A J) : y_grp false (.bool false) J A B := y_grp_of (fun _ => h) (fun e => absurd rfl e)
theorem grp_ft {T : Type} {J : T} {A B : T → Prop} (h : B J) : y_grp false (.bool true) J A B := y_grp_of (fun e => by cases e) (fun _ => h)
theorem grp_u {w : Bool} {T : Type} {J : T} {A B : T → Prop} (h : B J) : y_grp w aud J A B := by
  show y_gd w aud _ _
  unfold y_gd
  have g1 : agd aud = some none := rfl
  simp only [g1]
  exact ⟨fun h => (by cases h), fun _ => h⟩
theorem if0_t {A B : Prop} (h : A) : y_if0 (.bool true) A B := y_if0_of (fun _ => h) (fun e => by cases e)
theorem if0_f {A B : Prop} (h : B) : y_if0 (.bool false) A B := y_if0_of (fun e => by cases e) (fun _ => h)
theorem if_t {T : Type} {J : T} {A B : T → Prop} (h : A J) : y_if (.bool true) J A B := y_if_of (fun _ => h) (fun e => by cases e)
theorem if_f {T : Type} {J : T} {A B : T → Prop} (h : B J) : y_if (.bool false) J A B := y_if_of (fun e => by cases e) (fun _ => h)
theorem wrap_i64 (n : Int) : IntKind.i64.wrap n = if n % 18446744073709551616 ≥ 9223372036854775808 then n % 18446744073709551616 - 18446744073709551616 else n % 18446744073709551616 := by simp [IntKind.wrap, IntKind.bits, IntKind.signed]
theorem wrap_lt {n : Int} (h : -9223372036854775808 ≤ n ∧ n ≤ 9223372036854775807) : IntKind.i64.wrap n = n := by
  rw [wrap_i64]; split <;> omega
abbrev iv (n : Int) : AV := .int .i64 n
abbrev Sm64 (n : Int) : Prop := -9223372036854775808 ≤ n ∧ n ≤ 9223372036854775807
section
variable {K : AV → Prop} {a b : Int}
theorem s_add (h : Sm64 (a + b)) (hK : K (iv (a + b))) : y_pu (.bin .add (.cst (iv a)) (.cst (iv b))) K := y_pu_of (by show some (AV.int .i64 (IntKind.i64.wrap (a + b))) = _; rw [wrap_lt h]) hK
theorem s_sub (h : Sm64 (a - b)) (hK : K (iv (a - b))) : y_pu (.bin .sub (.cst (iv a)) (.cst (iv b))) K := y_pu_of (by show some (AV.int .i64 (IntKind.i64.wrap (a - b))) = _; rw [wrap_lt h]) hK
theorem s_mul (h : Sm64 (a * b)) (hK : K (iv (a * b))) : y_pu (.bin .mul (.cst (iv a)) (.cst (iv b))) K := y_pu_of (by show some (AV.int .i64 (IntKind.i64.wrap (a * b))) = _; rw [wrap_lt h]) hK
theorem s_rem (ha : 0 ≤ a) (hb : 0 < b) (hK : K (iv (a % b))) : y_pu (.bin .rem (.cst (iv a)) (.cst (iv b))) K := y_pu_of (by
  have h0 : b ≠ 0 := by omega
  show (if IntKind.i64 = IntKind.i64 ∧ b ≠ 0 then some (AV.int .i64 (a.tmod b)) else none) = _
  rw [if_pos ⟨rfl, h0⟩, Int.tmod_eq_emod_of_nonneg ha]) hK
theorem s_quo (ha : 0 ≤ a) (hb : 0 < b) (hs : a ≤ 9223372036854775807) (hK : K (iv (a / b))) : y_pu (.bin .quo (.cst (iv a)) (.cst (iv b))) K := y_pu_of (by
  have h0 : b ≠ 0 := by omega
  have h1 : 0 ≤ a / b := Int.ediv_nonneg ha (by omega)
  have h2 : a / b ≤ a := Int.ediv_le_self _ ha
  show (if IntKind.i64 = IntKind.i64 ∧ b ≠ 0 then some (AV.int .i64 (IntKind.i64.wrap (a.tdiv b))) else none) = _
  rw [if_pos ⟨rfl, h0⟩, Int.tdiv_eq_ediv_of_nonneg ha, wrap_lt ⟨by omega, by omega⟩]) hK
theorem s_lss (hK : K (.bool (decide (a < b)))) : y_pu (.bin .lss (.cst (iv a)) (.cst (iv b))) K := y_pu_of rfl hK
theorem s_leq (hK : K (.bool (decide (a ≤ b)))) : y_pu (.bin .leq (.cst (iv a)) (.cst (iv b))) K := y_pu_of rfl hK
theorem s_gtr (hK : K (.bool (decide (b < a)))) : y_pu (.bin .gtr (.cst (iv a)) (.cst (iv b))) K := y_pu_of rfl hK
theorem s_geq (hK : K (.bool (decide (b ≤ a)))) : y_pu (.bin .geq (.cst (iv a)) (.cst (iv b))) K := y_pu_of rfl hK
theorem s_eql (hK : K (.bool (decide (a = b)))) : y_pu (.bin .eql (.cst (iv a)) (.cst (iv b))) K := y_pu_of (by show some (AV.bool (a == b)) = _; congr 2) hK
theorem s_neq (hK : K (.bool (decide (a ≠ b)))) : y_pu (.bin .neq (.cst (iv a)) (.cst (iv b))) K := y_pu_of (by
  show some (AV.bool (a != b)) = _
  congr 2
  by_cases h : a = b
  · subst h; simp
  · simp [h]) hK
theorem s_byte {x : UInt8} (hK : K (iv (x.toNat : Int))) : y_pu (.convI .i64 (.cst (bv x))) K := y_pu_of (by
  have := x.toNat_lt
  show some (AV.int .i64 (IntKind.i64.wrap (x.toNat : Int))) = _
  rw [wrap_lt ⟨by omega, by omega⟩]) hK
theorem s_not {t : Bool} (hK : K (.bool (!t))) : y_pu (.un .not (.cst (.bool t))) K := y_pu_of rfl hK
end
structure FL (z : Nat) (Pr : Nat → List AV → Prop) (n : Nat) (v : AV) : Prop where
  ex : (n = 0 ∧ v = .nils) ∨ ∃ (css : List (List AV)) (b : Bool), v = .sim css.flatten n b ∧ (n = 0 → b = true) ∧ css.length = n ∧ ∀ i c, css[i]? = some c → c.length = z ∧ (∀ k, Scs k c) ∧ Pr i c
section
variable {z n : Nat} {Pr Pr' : Nat → List AV → Prop} {v : AV}
theorem FL.nil : FL z Pr 0 .nils := ⟨.inl ⟨rfl, rfl⟩⟩
theorem FL.mono (h : FL z Pr n v) (hp : ∀ i c, i < n → Pr i c → Pr' i c) : FL z Pr' n v := by
  rcases h.ex with h | ⟨css, b, h1, h2, h3, h4⟩
  · exact ⟨.inl h⟩
  · exact ⟨.inr ⟨css, b, h1, h2, h3, fun i c hc => by
      obtain ⟨g1, g2, g3⟩ := h4 i c hc
      exact ⟨g1, g2, hp i c (by rw [← h3]; exact (List.getElem?_eq_some_iff.1 hc).1) g3⟩⟩⟩
theorem FL.sc (h : FL z Pr n v) (k : Nat) : Sc k v := by
  rcases h.ex with ⟨_, rfl⟩ | ⟨css, b, rfl, h2, h3, h4⟩
  · exact .nils
  · refine .sim (Scs.of_mem fun x hx => ?_)
    obtain ⟨c, hc, hxc⟩ := List.mem_flatten.1 hx
    obtain ⟨i, hi⟩ := List.getElem?_of_mem hc
    exact ((h4 i c hi).2.1 k).mem hxc
theorem FL.one (h : FL z Pr n v) : v.cellsOf = some [v] := by
  rcases h.ex with ⟨_, rfl⟩ | ⟨css, b, rfl, _⟩ <;> rfl
theorem FL.len (h : FL z Pr n v) {K : AV → Prop} (hK : K (iv (n : Int))) : y_pu (.len (.cst v)) K := by
  rcases h.ex with ⟨rfl, rfl⟩ | ⟨css, b, rfl, _⟩ <;> exact y_pu_of rfl hK
theorem FL.cells (h : FL z Pr n v) : ∃ css : List (List AV), css.length = n ∧ (∀ H, aslcells z v H = some (n, css.flatten)) ∧ ∀ i c, css[i]? = some c → c.length = z ∧ (∀ k, Scs k c) ∧ Pr i c := by
  rcases h.ex with ⟨rfl, rfl⟩ | ⟨css, b, rfl, _, h3, h4⟩
  · exact ⟨[], rfl, fun H => rfl, fun i c h => by simp at h⟩
  · refine ⟨css, h3, fun H => ?_, h4⟩
    have : css.flatten.length = n * z := by
      rw [flat_len css fun c hc => ?_, h3]
      obtain ⟨i, hi⟩ := List.getElem?_of_mem hc
      exact (h4 i c hi).1
    simp [aslcells, this]
theorem FL.at (h : FL z Pr n v) {i : Nat} (hi : i < n) : ∃ cs c, apure (.indexAddrS z (.cst v) (.cst (iv (i : Int)))) emp = some (.pim cs (i * z)) ∧ c.length = z ∧ (∀ k, Scs k c) ∧ Pr i c ∧ (∀ j x, c[j]? = some x → cs[i * z + j]? = some x) ∧ (cs.drop (i * z)).take z = c ∧ i * z + z ≤ cs.length := by
  rcases h.ex with ⟨rfl, _⟩ | ⟨css, b, rfl, _, h3, h4⟩
  · omega
  · have hc : css[i]? = some (css[i]'(by omega)) := List.getElem?_eq_getElem (by omega)
    have hz : ∀ c ∈ css, c.length = z := fun c hc => by
      obtain ⟨i, hi⟩ := List.getElem?_of_mem hc
      exact (h4 i c hi).1
    obtain ⟨g1, g2, g3⟩ := h4 i _ hc
    have hx := flat_idx css i _ hz hc
    have hl : css.flatten.length = n * z := by rw [flat_len css hz, h3]
    have hm : i * z + z ≤ n * z := by
      have : (i + 1) * z ≤ n * z := Nat.mul_le_mul_right _ (by omega)
      rw [Nat.add_mul, Nat.one_mul] at this; exact this
    refine ⟨css.flatten, css[i]'(by omega), ?_, g1, g2, g3, fun j x hj => ?_, hx, by omega⟩
    · have h9 : (0 : Int) ≤ (i : Int) ∧ (i : Int) < (n : Int) := by omega
      simp [apure, AOpd.ev, aidxS, h9]
    · have hjz : j < z := by rw [← g1]; exact (List.getElem?_eq_some_iff.1 hj).1
      have h5 : ((css.flatten.drop (i * z)).take z)[j]? = (css[i]'(by omega))[j]? := by rw [hx]
      rw [List.getElem?_take, if_pos hjz, List.getElem?_drop, hj] at h5
      exact h5
theorem FL.atA (h : FL z Pr n v) {i : Nat} (hi : i < n) {H : AH} {K : AV → Prop} (hK : ∀ c, c.length = z → (∀ k, Scs k c) → Pr i c → K (.agg c)) :
    y_pu (.indexAddrS z (.cst v) (.cst (iv (i : Int)))) fun v2 => y_rd (.load (some z) (.cst v2)) H K := by
  obtain ⟨cs, c, h1, h2, h3, h4, _, h6, h7⟩ := h.at hi
  refine y_pu_of h1 (y_rd_of (v := .agg c) ?_ (hK c h2 h3 h4))
  simp [aread, aload, AOpd.ev, apart, h6, h7]
theorem FL.at1 {Pr : Nat → List AV → Prop} (h : FL 1 Pr n v) {i : Nat} (hi : i < n) {H : AH} {K : AV → Prop} (hK : ∀ x, (∀ k, Sc k x) → Pr i [x] → K x) :
    y_pu (.indexAddrS 1 (.cst v) (.cst (iv (i : Int)))) fun v2 => y_rd (.load none (.cst v2)) H K := by
  obtain ⟨cs, c, h1, h2, h3, h4, h5, _⟩ := h.at hi
  match c, h2 with
  | [x], _ =>
    refine y_pu_of h1 (y_rd_of (v := x) ?_ (hK x (fun k => by cases h3 k with | cons a _ => exact a) h4))
    have := h5 0 x rfl
    simpa [aread, aload, AOpd.ev, apart] using this
end
structure GL (R : List (Nat × List AV)) (z : Nat) (Pr : Nat → List AV → Prop) (n : Nat) (cs : List AV) : Prop where
  ex : ∃ css : List (List AV), FZs R cs css.flatten ∧ css.length = n ∧ ∀ i c, css[i]? = some c → c.length = z ∧ (∀ k, Scs k c) ∧ Pr i c
  n : cs.length = n * z
section
variable {R R' : List (Nat × List AV)} {z n : Nat} {Pr Pr' : Nat → List AV → Prop} {cs c c' : List AV}
theorem GL.nil : GL R z Pr 0 [] := ⟨⟨[], .nil, rfl, fun i c h => by simp at h⟩, by simp⟩
theorem GL.mono (h : GL R z Pr n cs) (hs : R ⊆ R') : GL R' z Pr n cs := by
  obtain ⟨⟨css, h1, h2, h3⟩, h4⟩ := h
  exact ⟨⟨css, h1.mono hs, h2, h3⟩, h4⟩
theorem GL.add (h : GL R z Pr n cs) (hf : FZs R c c') (hc : c.length = z) (hc' : c'.length = z) (hs : ∀ k, Scs k c') (hp : Pr n c') : GL R z Pr (n + 1) (cs ++ c) := by
  obtain ⟨⟨css, h1, h2, h3⟩, h4⟩ := h
  refine ⟨⟨css ++ [c'], ?_, by simp [h2], fun i d hd => ?_⟩, by rw [List.length_append, h4, hc, Nat.add_mul, Nat.one_mul]⟩
  · rw [List.flatten_append]
    simpa using h1.app hf
  · rcases Nat.lt_or_ge i n with hi | hi
    · rw [List.getElem?_append_left (by omega)] at hd
      exact h3 i d hd
    · rw [List.getElem?_append_right (by omega)] at hd
      have h0 : i = n := by
        rcases Nat.eq_zero_or_pos (i - css.length) with h | h
        · omega
        · rw [List.getElem?_eq_none (by simp; omega)] at hd; cases hd
      subst h0
      rw [h2, Nat.sub_self] at hd
      cases hd
      exact ⟨hc', hs, hp⟩
theorem GL.addS (h : GL R z Pr n cs) (hc : c.length = z) (hs : ∀ k, Scs k c) (hp : Pr n c) : GL R z Pr (n + 1) (cs ++ c) := h.add (.low hs) hc hc hs hp
theorem GL.frz {o : List (Nat × List AV)} {v : AV} (h : GL R z Pr n cs) (hv : Lv z o n cs v) : ∃ y, FZ (o ++ R) v y ∧ FL z Pr n y := by
  obtain ⟨⟨css, h1, h2, h3⟩, h4⟩ := h
  have hcl : ∀ x ∈ css, x.length = z := fun x hx => by
    obtain ⟨j, hj⟩ := List.getElem?_of_mem hx
    exact (h3 j x hj).1
  have hfl : css.flatten.length = n * z := by rw [flat_len css hcl, h2]
  cases hv with
  | nil => exact ⟨.nils, fun _ _ _ => .low .nils, .nil⟩
  | ex q =>
    refine ⟨.sim [] 0 true, fun H k hR => ?_, ⟨.inr ⟨[], true, rfl, fun _ => rfl, rfl, fun i c h => by simp at h⟩⟩⟩
    obtain ⟨g1, g2⟩ := hR (q, []) (.head _)
    exact .sl (l := []) (m := 0) g1 (by simp [AH.cells?, g2]) (by simp) .nil (fun _ => rfl) (fun _ => rfl)
  | op hn =>
    rename_i r
    refine ⟨.sim css.flatten n false, fun H k hR => ?_, ⟨.inr ⟨css, false, rfl, fun h => by omega, h2, h3⟩⟩⟩
    obtain ⟨g1, g2⟩ := hR (r, cs) (.head _)
    refine .sl (l := cs) (m := cs.length) g1 (by simp [AH.cells?, g2]) (by simp) ?_ (fun h => by rw [h4, h, Nat.zero_mul]) (fun h => by cases h)
    rw [List.drop_zero, List.take_length]
    exact h1 H k fun x hx => hR x (List.mem_append_right _ hx)
  | exn hn =>
    rename_i r
    refine ⟨.sim css.flatten n false, fun H k hR => ?_, ⟨.inr ⟨css, false, rfl, fun h => by omega, h2, h3⟩⟩⟩
    obtain ⟨g1, g2⟩ := hR (r, cs) (.head _)
    refine .sl (l := cs) (m := cs.length) g1 (by simp [AH.cells?, g2]) (by simp) ?_ (fun h => by rw [h4, h, Nat.zero_mul]) (fun h => by cases h)
    rw [List.drop_zero, List.take_length]
    exact h1 H k fun x hx => hR x (List.mem_append_right _ hx)
end
end Go.AL
namespace Go.AL
variable [GLC] {P : Program}
section
variable {K : AV → Prop} {a b : Int}
theorem c_lss (ht : a < b → K (.bool true)) (hf : ¬ a < b → K (.bool false)) : y_pu (.bin .lss (.cst (iv a)) (.cst (iv b))) K := s_lss (by
  by_cases h : a < b
  · rw [decide_eq_true h]; exact ht h
  · rw [decide_eq_false h]; exact hf h)
theorem c_leq (ht : a ≤ b → K (.bool true)) (hf : ¬ a ≤ b → K (.bool false)) : y_pu (.bin .leq (.cst (iv a)) (.cst (iv b))) K := s_leq (by
  by_cases h : a ≤ b
  · rw [decide_eq_true h]; exact ht h
  · rw [decide_eq_false h]; exact hf h)
theorem c_gtr (ht : b < a → K (.bool true)) (hf : ¬ b < a → K (.bool false)) : y_pu (.bin .gtr (.cst (iv a)) (.cst (iv b))) K := s_gtr (by
  by_cases h : b < a
  · rw [decide_eq_true h]; exact ht h
  · rw [decide_eq_false h]; exact hf h)
theorem c_geq (ht : b ≤ a → K (.bool true)) (hf : ¬ b ≤ a → K (.bool false)) : y_pu (.bin .geq (.cst (iv a)) (.cst (iv b))) K := s_geq (by
  by_cases h : b ≤ a
  · rw [decide_eq_true h]; exact ht h
  · rw [decide_eq_false h]; exact hf h)
theorem c_eql (ht : a = b → K (.bool true)) (hf : ¬ a = b → K (.bool false)) : y_pu (.bin .eql (.cst (iv a)) (.cst (iv b))) K := s_eql (by
  by_cases h : a = b
  · rw [decide_eq_true h]; exact ht h
  · rw [decide_eq_false h]; exact hf h)
theorem c_neq (ht : ¬ a = b → K (.bool true)) (hf : a = b → K (.bool false)) : y_pu (.bin .neq (.cst (iv a)) (.cst (iv b))) K := s_neq (by
  by_cases h : a = b
  · rw [decide_eq_false (fun h' => h' h)]; exact hf h
  · rw [decide_eq_true h]; exact ht h)
theorem t_lss (h : a < b) (hK : K (.bool true)) : y_pu (.bin .lss (.cst (iv a)) (.cst (iv b))) K := c_lss (fun _ => hK) (fun h' => absurd h h')
theorem f_lss (h : ¬ a < b) (hK : K (.bool false)) : y_pu (.bin .lss (.cst (iv a)) (.cst (iv b))) K := c_lss (fun h' => absurd h' h) (fun _ => hK)
theorem t_leq (h : a ≤ b) (hK : K (.bool true)) : y_pu (.bin .leq (.cst (iv a)) (.cst (iv b))) K := c_leq (fun _ => hK) (fun h' => absurd h h')
theorem f_leq (h : ¬ a ≤ b) (hK : K (.bool false)) : y_pu (.bin .leq (.cst (iv a)) (.cst (iv b))) K := c_leq (fun h' => absurd h' h) (fun _ => hK)
theorem t_gtr (h : b < a) (hK : K (.bool true)) : y_pu (.bin .gtr (.cst (iv a)) (.cst (iv b))) K := c_gtr (fun _ => hK) (fun h' => absurd h h')
theorem f_gtr (h : ¬ b < a) (hK : K (.bool false)) : y_pu (.bin .gtr (.cst (iv a)) (.cst (iv b))) K := c_gtr (fun h' => absurd h' h) (fun _ => hK)
theorem t_geq (h : b ≤ a) (hK : K (.bool true)) : y_pu (.bin .geq (.cst (iv a)) (.cst (iv b))) K := c_geq (fun _ => hK) (fun h' => absurd h h')
theorem f_geq (h : ¬ b ≤ a) (hK : K (.bool false)) : y_pu (.bin .geq (.cst (iv a)) (.cst (iv b))) K := c_geq (fun h' => absurd h' h) (fun _ => hK)
theorem t_eql (h : a = b) (hK : K (.bool true)) : y_pu (.bin .eql (.cst (iv a)) (.cst (iv b))) K := c_eql (fun _ => hK) (fun h' => absurd h h')
theorem f_eql (h : ¬ a = b) (hK : K (.bool false)) : y_pu (.bin .eql (.cst (iv a)) (.cst (iv b))) K := c_eql (fun h' => absurd h' h) (fun _ => hK)
theorem t_neq (h : ¬ a = b) (hK : K (.bool true)) : y_pu (.bin .neq (.cst (iv a)) (.cst (iv b))) K := c_neq (fun _ => hK) (fun h' => absurd h' h)
theorem f_neq (h : a = b) (hK : K (.bool false)) : y_pu (.bin .neq (.cst (iv a)) (.cst (iv b))) K := c_neq (fun h' => absurd h h') (fun _ => hK)
theorem s_min {a b : Nat} (hK : K (iv ((min a b : Nat) : Int))) : y_pu (.minmax false (.cst (iv (a : Int))) (.cst (iv (b : Int)))) K := y_pu_of (by
  show some (AV.int .i64 (if (b : Int) < (a : Int) then (b : Int) else (a : Int))) = _
  congr 2
  split <;> omega) hK
theorem s_tob {n : Nat} (hn : n < 256) (hK : K (bv (UInt8.ofNat n))) : y_pu (.convI .u8 (.cst (iv (n : Int)))) K := y_pu_of (by
  show some (AV.int .u8 (IntKind.u8.wrap (n : Int))) = _
  have h1 : IntKind.u8.wrap (n : Int) = (n : Int) := by simp [IntKind.wrap, IntKind.bits, IntKind.signed]; omega
  have h2 : (UInt8.ofNat n).toNat = n := by simp; omega
  rw [h1]
  show _ = some (AV.int .u8 ((UInt8.ofNat n).toNat : Int))
  rw [h2]) hK
end
def FB (n : Nat) (v : AV) : Prop := (n = 0 ∧ v = .nils) ∨ ∃ (bs : List UInt8) (b : Bool), v = .sim (bs.map bv) n b ∧ bs.length = n
section
variable {n : Nat} {v : AV}
theorem FB.len (h : FB n v) {K : AV → Prop} (hK : K (iv (n : Int))) : y_pu (.len (.cst v)) K := by
  rcases h with ⟨rfl, rfl⟩ | ⟨bs, b, rfl, _⟩ <;> exact y_pu_of rfl hK
theorem FB.at (h : FB n v) {i : Nat} (hi : i < n) {H : AH} {K : AV → Prop} (hK : ∀ x, K (bv x)) :
    y_pu (.indexAddrS 1 (.cst v) (.cst (iv (i : Int)))) fun v2 => y_rd (.load none (.cst v2)) H K := by
  rcases h with ⟨rfl, _⟩ | ⟨bs, b, rfl, hl⟩
  · omega
  · have h9 : (0 : Int) ≤ (i : Int) ∧ (i : Int) < (n : Int) := by omega
    refine y_pu_of (v := .pim (bs.map bv) i) (by simp [apure, AOpd.ev, aidxS, h9]) (y_rd_of (v := bv (bs[i]'(by omega))) ?_ (hK _))
    have : bs[i]? = some (bs[i]'(by omega)) := List.getElem?_eq_getElem (by omega)
    simp [aread, aload, AOpd.ev, apart, this]
theorem FB.slice (h : FB n v) {lo hi : Nat} (h1 : lo ≤ hi) (h2 : hi ≤ n) {K : AV → Prop} (hK : ∀ y, FB (hi - lo) y → K y) :
    y_pu (.sliceS 1 (.cst v) (some (.cst (iv (lo : Int)))) (some (.cst (iv (hi : Int)))) none) K := by
  rcases h with ⟨rfl, rfl⟩ | ⟨bs, b, rfl, hl⟩
  · have e1 : lo = 0 := by omega
    have e2 : hi = 0 := by omega
    subst e1 e2
    exact y_pu_of (v := .nils) rfl (hK _ (.inl ⟨rfl, rfl⟩))
  · have c1 : (0 : Int) ≤ (lo : Int) ∧ (lo : Int) ≤ (hi : Int) ∧ (hi : Int) ≤ (n : Int) := by omega
    have e1 : ((hi : Int) - (lo : Int)).toNat = hi - lo := by omega
    refine y_pu_of (v := .sim (((bs.drop lo).take (hi - lo)).map bv) (hi - lo) (b && decide ((hi : Int) = (n : Int)))) ?_ (hK _ (.inr ⟨_, _, rfl, by simp; omega⟩))
    simp [apure, AOpd.ints, AOpd.ev, aslice, c1, e1, List.map_take, List.map_drop]
end
theorem FB.sc {n : Nat} {v : AV} (h : FB n v) (k : Nat) : Sc k v := by
  rcases h with ⟨_, rfl⟩ | ⟨bs, b, rfl, hl⟩
  · exact .nils
  · exact .sim (Scs.of_mem fun x hx => by obtain ⟨y, _, rfl⟩ := List.mem_map.1 hx; exact .int _ _)
theorem I_lit (n : Nat) : I (no_index (OfNat.ofNat n)) = iv (no_index (OfNat.ofNat n)) := rfl
section
variable {H0 H : AH} {L : List (Nat × List AV)}
theorem NSt.new {k : Nat} {K : AV → AH → Prop} (h : NSt H0 L H) (hK : ∀ o v H', NSt H0 (o ++ L) H' → Lv k o 0 [] v → K v H') : y_ef (.buildSlice k 0 [] []) H K :=
  y_ef_of (v := .sl H.next 0 0 (.ex 0)) (H' := H.push (.cells [])) (by simp [aeff, afill]) (hK [(H.next, [])] _ _ h.push (.ex _))
end
end Go.AL
namespace Go.AL
variable [GLC] {P : Program}
theorem if_J {T : Type} {t : Bool} {J : T} {A B : T → Prop} (Φ : T → Prop) (hJ : Φ J) (ha : t = true → ∀ J, Φ J → A J) (hb : t = false → ∀ J, Φ J → B J) : y_if (.bool t) J A B :=
  y_if_of (fun h => ha h J hJ) (fun h => hb h J hJ)
theorem grp_J {T : Type} {w t : Bool} {J : T} {A B : T → Prop} (Φ : T → Prop) (hJ : Φ J) (ha : t = w → ∀ J, Φ J → A J) (hb : t ≠ w → ∀ J, Φ J → B J) : y_grp w (.bool t) J A B :=
  y_grp_of (fun h => ha h J hJ) (fun h => hb h J hJ)
section
variable {H0 H : AH} {L A B o : List (Nat × List AV)}
theorem NSt.bring (h : NSt H0 (A ++ (o ++ B)) H) : NSt H0 (o ++ (A ++ B)) H := h.perm (by
  rw [← List.append_assoc, ← List.append_assoc]
  exact List.Perm.append_right B List.perm_append_comm)
theorem NSt.upd {q : Nat} {c c' : List AV} (h : NSt H0 (A ++ (q, c) :: B) H) : NSt H0 (A ++ (q, c') :: B) (H.set q (.cells c')) := by
  have h1 : NSt H0 ((q, c) :: (A ++ B)) H := h.perm List.perm_middle.symm
  exact (h1.set (c' := c')).perm List.perm_middle
theorem NSt.putM {q o n : Nat} {c vs : List AV} {x : AV} {K : AV → AH → Prop} (h : NSt H0 (A ++ (q, c) :: B) H) (hx : x.cellsOf = some vs) (hv : vs.length = n) (hz : o + n ≤ c.length)
    (hK : ∀ H', NSt H0 (A ++ (q, splice c o vs) :: B) H' → K .unk H') : y_ef (.store n (.cst (.ptr q o)) (.cst x)) H K := by
  obtain ⟨h1, h2, h3⟩ := h.l (q, c) (List.mem_append_right _ (.head _))
  have h3 : H.get q = some (.cells c) := h3
  exact y_ef_of (v := .unk) (H' := H.set q (.cells (splice c o vs))) (by
    simp only [aeff, AOpd.ev, AH.cells?, h3, hx]
    rw [if_pos ⟨hv, hz⟩]) (hK _ h.upd)
theorem NSt.ldP {q o k : Nat} {c d : List AV} {K : AV → Prop} (h : NSt H0 L H) (hm : (q, c) ∈ L) (hx : (c.drop o).take k = d) (hz : o + k ≤ c.length) (hK : K (.agg d)) : y_rd (.load (some k) (.cst (.ptr q o))) H K := by
  obtain ⟨_, _, h3⟩ := h.l _ hm
  have h3 : H.get q = some (.cells c) := h3
  exact y_rd_of (v := .agg d) (by simp [aread, aload, AOpd.ev, AH.cells?, h3, apart, hz, hx]) hK
theorem NSt.bs {k n : Nat} {z out : List AV} {ps : List (Nat × Nat × AOpd)} {K : AV → AH → Prop} (h : NSt H0 L H) (hf : afill emp z ps = some out) (hK : ∀ q H', NSt H0 ((q, out) :: L) H' → K (.sl q 0 n (.ex n)) H') : y_ef (.buildSlice k n z ps) H K :=
  y_ef_of (v := .sl H.next 0 n (.ex n)) (H' := H.push (.cells out)) (by simp only [aeff, hf]) (hK _ _ h.push)
end
end Go.AL
namespace Go.AL
variable [GLC] {P : Program}
theorem FZ.mono {R R' : List (Nat × List AV)} {v y : AV} (h : FZ R v y) (hs : R ⊆ R') : FZ R' v y := fun H k hR => h H k fun x hx => hR x (hs hx)
theorem FZ.low {R : List (Nat × List AV)} {v : AV} (h : ∀ k, Sc k v) : FZ R v v := fun _ k _ => .low (h k)
theorem FZ.row {R : List (Nat × List AV)} {r n : Nat} {c : List AV} (hm : (r, c) ∈ R) (hs : ∀ k, Scs k c) (hn : n = 0 → c = []) : FZ R (.sl r 0 n (.ex n)) (.sim c n true) := fun H k hR => by
  obtain ⟨g1, g2⟩ := hR _ hm
  refine .sl (l := c) (m := c.length) g1 (by simp [AH.cells?, g2]) (by simp) ?_ (fun h => by rw [hn h]; rfl) (fun _ => rfl)
  rw [List.drop_zero, List.take_length]
  exact .low (hs k)
end Go.AL
namespace Go.AL
variable [GLC] {P : Program}
section
variable {H0 H : AH} {L A B o : List (Nat × List AV)}
theorem NSt.ldE {q o : Nat} {c : List AV} {x : AV} (h : NSt H0 L H) (hm : (q, c) ∈ L) (hx : c[o]? = some x) : y_rde (.load none (.cst (.ptr q o))) x H := by
  obtain ⟨_, _, h3⟩ := h.l _ hm
  show aread _ emp H = some x
  simpa [aread, aload, AOpd.ev, AH.cells?, h3, apart] using hx
theorem NSt.ldPE {q o k : Nat} {c d : List AV} (h : NSt H0 L H) (hm : (q, c) ∈ L) (hx : (c.drop o).take k = d) (hz : o + k ≤ c.length) : y_rde (.load (some k) (.cst (.ptr q o))) (.agg d) H := by
  obtain ⟨_, _, h3⟩ := h.l _ hm
  have h3 : H.get q = some (.cells c) := h3
  show aread _ emp H = some (.agg d)
  simp [aread, aload, AOpd.ev, AH.cells?, h3, apart, hz, hx]
theorem nw_bs {k n : Nat} {z : List AV} {ps : List (Nat × Nat × AOpd)} {K : AV → AH → Prop} (h : y_ef (.buildSlice k n z ps) H K) : y_nw (.buildSlice k n z ps) H K := by
  have h : Option.rec (motive := fun _ => Prop) False (fun p => Prod.rec (motive := fun _ => Prop) K p) (aeff (.buildSlice k n z ps) emp H) := h
  cases hf : afill emp z ps with
  | none =>
    have e : aeff (.buildSlice k n z ps) emp H = none := by simp only [aeff, hf]
    rw [e] at h
    exact h.elim
  | some out =>
    have e : aeff (.buildSlice k n z ps) emp H = some (.sl H.next 0 n (.ex n), H.push (.cells out)) := by simp only [aeff, hf]
    rw [e] at h
    exact y_nw_of (c := out) (f := fun r => .sl r 0 n (.ex n)) (by simp only [anew, hf]) h
end
end Go.AL
namespace Go.AL
variable [GLC] {P : Program}
structure LL (z : Nat) (Pr : Nat → List AV → Prop) (n : Nat) (v : AV) : Prop where
  ex : (n = 0 ∧ v = .nils) ∨ ∃ (css : List (List AV)) (b : Bool), v = .sim css.flatten n b ∧ css.length = n ∧ ∀ i c, css[i]? = some c → c.length = z ∧ (∀ k, Scs k c) ∧ Pr i c
section
variable {z n : Nat} {Pr Pr' : Nat → List AV → Prop} {v : AV}
theorem LL.len (h : LL z Pr n v) {K : AV → Prop} (hK : K (iv (n : Int))) : y_pu (.len (.cst v)) K := by
  rcases h.ex with ⟨rfl, rfl⟩ | ⟨css, b, rfl, _⟩ <;> exact y_pu_of rfl hK
theorem LL.at1 {Pr : Nat → List AV → Prop} (h : LL 1 Pr n v) {i : Nat} (hi : i < n) {H : AH} {K : AV → Prop} (hK : ∀ x, (∀ k, Sc k x) → Pr i [x] → K x) :
    y_pu (.indexAddrS 1 (.cst v) (.cst (iv (i : Int)))) fun v2 => y_rd (.load none (.cst v2)) H K := by
  rcases h.ex with ⟨rfl, _⟩ | ⟨css, b, rfl, h3, h4⟩
  · omega
  · have hf : FL 1 Pr n (.sim css.flatten n true) := ⟨.inr ⟨css, true, rfl, fun _ => rfl, h3, h4⟩⟩
    have h9 : (0 : Int) ≤ (i : Int) ∧ (i : Int) < (n : Int) := by omega
    have e : apure (.indexAddrS 1 (.cst (.sim css.flatten n b)) (.cst (iv (i : Int)))) emp = apure (.indexAddrS 1 (.cst (.sim css.flatten n true)) (.cst (iv (i : Int)))) emp := by simp [apure, AOpd.ev, aidxS, h9]
    have := hf.at1 hi (H := H) (K := K) hK
    unfold y_pu at this ⊢
    rw [e]; exact this
end
theorem Lv.len {k n : Nat} {o : List (Nat × List AV)} {cs : List AV} {v : AV} (h : Lv k o n cs v) {K : AV → Prop} (hK : K (iv (n : Int))) : y_pu (.len (.cst v)) K := by
  cases h <;> exact y_pu_of rfl hK
section
variable {H0 H : AH} {L A B o : List (Nat × List AV)}
theorem NSt.mark {q n : Nat} {c : List AV} {K : AV → AH → Prop} (h : NSt H0 L H) (hm : (q, c) ∈ L) (hn : 0 < n) (hK : K (.sl q 0 n (.ex n)) H) : y_ef (.mark (.cst (.sl q 0 n (.ex n)))) H K := by
  obtain ⟨_, _, h3⟩ := h.l _ hm
  have h3 : H.get q = some (.cells c) := h3
  exact y_ef_of (v := .sl q 0 n (.ex n)) (H' := H) (by simp [aeff, AOpd.ev, AH.cells?, h3, hn]) hK
end
end Go.AL
namespace Go.AL
variable [GLC] {P : Program}
section
variable {H0 H : AH} {L A B o : List (Nat × List AV)}
theorem NSt.ldO {q o : Nat} {c : List AV} {x : AV} {K : AV → Prop} (h : NSt H0 L H) (hq : q < H0.next) (hg : H0.get q = some (.cells c)) (hx : c[o]? = some x) (hK : K x) : y_rd (.load none (.cst (.ptr q o))) H K :=
  y_rd_of (v := x) (by
    have := h.k.get q hq
    rw [hg] at this
    simpa [aread, aload, AOpd.ev, AH.cells?, this, apart] using hx) hK
end
end Go.AL
namespace Go.AL
variable [GLC] {P : Program}
theorem blk_J {T : Type} {J : T} {A : T → Prop} (Φ : T → Prop) (hJ : Φ J) (ha : ∀ J, Φ J → A J) : y_blk J A := ha J hJ
theorem s_lss8 {a b : UInt8} {K : AV → Prop} (hK : K (.bool (decide (a.toNat < b.toNat)))) : y_pu (.bin .lss (.cst (bv a)) (.cst (bv b))) K := y_pu_of (by
  show some (AV.bool (decide ((a.toNat : Int) < (b.toNat : Int)))) = _
  congr 2; simp) hK
theorem s_pk {t b : Bool} {K : AV → Prop} (hK : K (.bool (t && b))) : y_pu (.pick (.cst (.bool t)) (.cst (.bool b)) (.cst (.bool false))) K := y_pu_of (by cases t <;> rfl) hK
theorem grp_and {T : Type} {t : Bool} {J : T} {A B : T → Prop} (ha : t = true → A J) (hb : t = false → B J) : y_grp true (.bool t) J A B := y_grp_of ha (fun h => hb (by cases t <;> simp at h ⊢))
end Go.AL
namespace Go.AL
variable [GLC] {P : Program}
theorem ACall.frzG {g : FuncId} {ar ar' : List AV} {H H' : AH} {Post : AOut → AH → Prop} (R : Nat → Prop) (h : ACall P g ar' H' Post) (ha : FrzVs H R ar ar') (hn : H'.next = H.next) (hg : H'.gl = H.gl)
    (hH : ∀ r o, H'.get r = some o → ¬ R r ∧ (H.get r = some o ∨ ∃ l l', o = .cells l' ∧ H.get r = some (.cells l) ∧ FrzVs H R l l')) : ACall P g ar H Post := by
  refine ⟨h.1, fun Z σ w vs hW hv => ?_⟩
  refine (h.2 (frZ Z σ H R w) σ w vs (hW.freezeR hn hH hg) (FrzVs.sound hW ha hv)).mono fun x w' hx => ?_
  obtain ⟨Z', σ', H1, out, g1, g2, g3, g4, g5, g6⟩ := hx
  exact ⟨Z', σ', H1, out, (frZ_le hW).trans g1, by rw [← hn]; exact g2, by rw [← hn]; exact g3, g4, g5, g6⟩
theorem FrzVs.appV {H : AH} {R : Nat → Prop} : ∀ {a a' b b' : List AV}, FrzVs H R a a' → FrzVs H R b b' → FrzVs H R (a ++ b) (a' ++ b')
  | _, _, _, _, .nil, h => h
  | _, _, _, _, .cons h t, h2 => .cons h (t.appV h2)
theorem FrzV.row {H : AH} {R : Nat → Prop} {r n : Nat} {lim : Lim} {l l' : List AV} {ex : Bool} (hr : R r) (hc : H.get r = some (.cells l)) (hl : FrzVs H R l l') (hn : n = 0 → l = []) (hx : ex = true → lim = .ex n) : FrzV H R (.sl r 0 n lim) (.sim l' n ex) := by
  refine .sl (l := l) (m := l.length) hr (by simp [AH.cells?, hc]) (by omega) ?_ (fun h => by rw [hn h]; rfl) hx
  rw [List.drop_zero, List.take_length]; exact hl
section
variable {H0 H : AH} {L A B o : List (Nat × List AV)}
theorem NSt.ne {q r : Nat} {c d : List AV} (h : NSt H0 (A ++ (q, c) :: B) H) (hr : (r, d) ∈ A ++ B) : r ≠ q := by
  have hnd := h.nd
  have h1 : ((A ++ (q, c) :: B).map (·.1)).Perm (((q, c) :: (A ++ B)).map (·.1)) := (List.perm_middle).map _
  have h2 := h1.nodup_iff.1 hnd
  rw [List.map_cons, List.nodup_cons] at h2
  intro e
  subst e
  exact h2.1 (List.mem_map.2 ⟨_, hr, rfl⟩)
theorem NSt.eraseM {q : Nat} {c : List AV} (h : NSt H0 (A ++ (q, c) :: B) H) : NSt H0 (A ++ B) (H.erase q) := (h.perm (List.perm_middle.symm)).erase
theorem NSt.callF {q : Nat} {c : List AV} {g : FuncId} {ar ar' : List AV} {Q : AV → Prop} {Kp K : AV → AH → Prop} (h : NSt H0 (A ++ (q, c) :: B) H) (ha : FrzVs H (fun r => r = q) ar ar')
    (hC : ∀ H', NSt H0 (A ++ B) H' → CP P g ar' H' Q) (hK : ∀ v H', NSt H0 (A ++ B) H' → Q v → K v H') : y_call P g ar H Kp K := by
  have s := h.eraseM
  refine y_call_of (ACall.frzG (fun r => r = q) (hC _ s) ha rfl rfl fun r o hr => ?_) (fun v H' hq => by obtain ⟨rfl, x, h2, h3⟩ := hq; cases h2; exact hK _ _ s h3) (fun v H' hq => by obtain ⟨_, x, h2, _⟩ := hq; cases h2)
  rw [AH.get_erase] at hr
  split at hr
  · cases hr
  · rename_i hne
    exact ⟨hne, .inl hr⟩
theorem NSt.appE {z n b q : Nat} {Pr : Nat → List AV → Prop} {v : AV} {K : AV → AH → Prop} (h : NSt H0 ((q, []) :: L) H) (hv : FL z Pr n v) (hn : 0 < n) (hn2 : n ≤ 100000) (hb : b ≤ 500)
    (hK : ∀ (css : List (List AV)) r H', css.length = n → (∀ i c, css[i]? = some c → c.length = z ∧ (∀ k, Scs k c) ∧ Pr i c) → NSt H0 ((r, css.flatten) :: (q, []) :: L) H' → K (.sl r 0 n (.op z)) H') :
    y_ef (.append z b (.cst (.sl q 0 0 (.ex 0))) (.cst v)) H K := by
  obtain ⟨css, h1, h2, h3⟩ := hv.cells
  have hfl : css.flatten.length = n * z := by
    rw [flat_len css fun c hc => ?_, h1]
    obtain ⟨i, hi⟩ := List.getElem?_of_mem hc
    exact (h3 i c hi).1
  have hb2 : n * b ≤ 140737488355328 := by
    have : n * b ≤ 100000 * 500 := Nat.mul_le_mul hn2 hb
    omega
  obtain ⟨_, _, g3⟩ := h.l _ (.head _)
  have g3 : H.get q = some (.cells []) := g3
  have h0 : ¬ n = 0 := by omega
  have h63 : n ≤ 9223372036854775807 := by omega
  exact y_ef_of (v := .sl H.next 0 n (.op z)) (H' := H.push (.cells css.flatten)) (by simp [aeff, AOpd.ev, aappend, h2, AH.cells?, g3, h0, hb2, h63]) (hK css _ _ h1 h3 h.push)
end
end Go.AL
namespace Go.AL
variable [GLC] {P : Program}
section
variable {H0 H : AH} {L A B o : List (Nat × List AV)}
theorem NSt.callF2 {q p : Nat} {c d d' : List AV} {g : FuncId} {ar ar' : List AV} {Q : AV → Prop} {Kp K : AV → AH → Prop} (h : NSt H0 (A ++ (q, c) :: (p, d) :: B) H) (ha : FrzVs H (fun r => r = q) ar ar') (hd : FrzVs H (fun r => r = q) d d')
    (hC : ∀ H', NSt H0 (A ++ (p, d') :: B) H' → CP P g ar' H' Q) (hK : ∀ v H', NSt H0 (A ++ (p, d') :: B) H' → Q v → K v H') : y_call P g ar H Kp K := by
  have s1 := h.eraseM
  have s := s1.upd (c' := d')
  obtain ⟨_, _, hp⟩ := h.l (p, d) (by simp)
  have hp : H.get p = some (.cells d) := hp
  have hne : p ≠ q := h.ne (d := d) (by simp)
  refine y_call_of (ACall.frzG (fun r => r = q) (hC _ s) ha rfl rfl fun r o hr => ?_) (fun v H' hq => by obtain ⟨rfl, x, h2, h3⟩ := hq; cases h2; exact hK _ _ s h3) (fun v H' hq => by obtain ⟨_, x, h2, _⟩ := hq; cases h2)
  rw [AH.get_set] at hr
  split at hr
  · rename_i e
    subst e
    cases hr
    exact ⟨hne, .inr ⟨d, d', rfl, hp, hd⟩⟩
  · rw [AH.get_erase] at hr
    split at hr
    · cases hr
    · rename_i hq
      exact ⟨hq, .inl hr⟩
theorem NSt.callFF {q p : Nat} {c d : List AV} {g : FuncId} {ar ar' : List AV} {Q : AV → Prop} {Kp K : AV → AH → Prop} (h : NSt H0 ((q, c) :: (A ++ (p, d) :: B)) H) (ha : FrzVs H (fun r => r = q ∨ r = p) ar ar')
    (hC : ∀ H', NSt H0 (A ++ B) H' → CP P g ar' H' Q) (hK : ∀ v H', NSt H0 (A ++ B) H' → Q v → K v H') : y_call P g ar H Kp K := by
  have s1 : NSt H0 (A ++ (p, d) :: B) (H.erase q) := h.erase
  have s := s1.eraseM
  refine y_call_of (ACall.frzG (fun r => r = q ∨ r = p) (hC _ s) ha rfl rfl fun r o hr => ?_) (fun v H' hq => by obtain ⟨rfl, x, h2, h3⟩ := hq; cases h2; exact hK _ _ s h3) (fun v H' hq => by obtain ⟨_, x, h2, _⟩ := hq; cases h2)
  rw [AH.get_erase] at hr
  split at hr
  · cases hr
  · rename_i hp
    rw [AH.get_erase] at hr
    split at hr
    · cases hr
    · rename_i hq
      exact ⟨fun h => by rcases h with h | h; exact hq h; exact hp h, .inl hr⟩
end
end Go.AL
namespace Go.AL
variable [GLC] {P : Program}
inductive Tw where
  | int
  | byte
  | bool
  | word
  | list (t : Tw)
  | pair (a b : Tw)
def Tw.D : Tw → Type
  | .int => Int
  | .byte => UInt8
  | .bool => Bool
  | .word => Nat
  | .list t => List t.D
  | .pair a b => a.D × b.D
def asT {t : Tw} (l : (Tw.list t).D) : List t.D := l
def tz : Tw → Nat
  | .pair a b => tz a + tz b
  | _ => 1
def RS : (t : Tw) → t.D → List AV → Prop
  | .int, n, c => c = [iv n]
  | .byte, x, c => c = [bv x]
  | .bool, b, c => c = [.bool b]
  | .word, n, c => c = [.int .u64 (.ofNat n)]
  | .list t, l, c => ∃ v, c = [v] ∧ (asT l).length ≤ 100000 ∧ FL (tz t) (fun i c => ∃ x, (asT l)[i]? = some x ∧ RS t x c) (asT l).length v
  | .pair a b, p, c => ∃ c1 c2, c = c1 ++ c2 ∧ RS a p.1 c1 ∧ RS b p.2 c2
theorem RS_len : ∀ (t : Tw) (d : t.D) (c : List AV), RS t d c → c.length = tz t
  | .int, _, c, h => by have h : c = _ := h; subst h; rfl
  | .byte, _, c, h => by have h : c = _ := h; subst h; rfl
  | .bool, _, c, h => by have h : c = _ := h; subst h; rfl
  | .word, _, c, h => by have h : c = _ := h; subst h; rfl
  | .list _, _, c, h => by obtain ⟨v, rfl, _⟩ := h; rfl
  | .pair a b, d, c, h => by
    obtain ⟨c1, c2, rfl, h1, h2⟩ := h
    rw [List.length_append, RS_len a _ _ h1, RS_len b _ _ h2]; rfl
theorem Scs.app {k : Nat} {a b : List AV} (ha : Scs k a) (hb : Scs k b) : Scs k (a ++ b) := Scs.of_mem fun x hx => by
  rcases List.mem_append.1 hx with h | h
  · exact ha.mem h
  · exact hb.mem h
theorem RS_sc (k : Nat) : ∀ (t : Tw) (d : t.D) (c : List AV), RS t d c → Scs k c
  | .int, _, c, h => by have h : c = _ := h; subst h; exact .cons (.int _ _) .nil
  | .byte, _, c, h => by have h : c = _ := h; subst h; exact .cons (.int _ _) .nil
  | .bool, _, c, h => by have h : c = _ := h; subst h; exact .cons (.bool _) .nil
  | .word, _, c, h => by have h : c = _ := h; subst h; exact .cons (.int _ _) .nil
  | .list _, _, c, h => by obtain ⟨v, rfl, _, h⟩ := h; exact .cons (h.sc k) .nil
  | .pair a b, d, c, h => by
    obtain ⟨c1, c2, rfl, h1, h2⟩ := h
    exact (RS_sc k a _ _ h1).app (RS_sc k b _ _ h2)
def RE (t : Tw) (l : List t.D) : Nat → List AV → Prop := fun i c => ∃ x, l[i]? = some x ∧ RS t x c
theorem RS.fl {t : Tw} {l : (Tw.list t).D} {v : AV} (h : RS (.list t) l [v]) : FL (tz t) (RE t (asT l)) (asT l).length v := by
  obtain ⟨v', e, _, h⟩ := h
  cases e; exact h
theorem RS.le {t : Tw} {l : (Tw.list t).D} {v : AV} (h : RS (.list t) l [v]) : (asT l).length ≤ 100000 := by
  obtain ⟨v', e, h, _⟩ := h; exact h
theorem RS.of {t : Tw} {l : List t.D} {v : AV} (hn : l.length ≤ 100000) (h : FL (tz t) (RE t l) l.length v) : RS (.list t) (show (Tw.list t).D from l) [v] := ⟨v, rfl, hn, h⟩
theorem FL.rs {t : Tw} {z n : Nat} {Pr : Nat → List AV → Prop} {v : AV} (hz : z = tz t) (h : FL z Pr n v) (hn : n ≤ 100000) (hp : ∀ i c, Pr i c → ∃ x, RS t x c) : ∃ l : List t.D, l.length = n ∧ RS (.list t) (show (Tw.list t).D from l) [v] := by
  subst hz
  rcases h.ex with ⟨rfl, rfl⟩ | ⟨css, b, rfl, h2, h3, h4⟩
  · exact ⟨[], rfl, .of (by simp) .nil⟩
  · have key : ∀ (css : List (List AV)) (k : Nat), (∀ i c, css[i]? = some c → Pr (k + i) c) → ∃ l : List t.D, l.length = css.length ∧ ∀ (i : Nat) (c : List AV), css[i]? = some c → ∃ x : t.D, l[i]? = some x ∧ RS t x c := by
      intro css
      induction css with
      | nil => exact fun k _ => ⟨[], rfl, fun i c h => by simp at h⟩
      | cons c css ih =>
        intro k hk
        obtain ⟨x, hx⟩ := hp k c (hk 0 c rfl)
        obtain ⟨l, hl1, hl2⟩ := ih (k + 1) (fun i d hd => by
          have := hk (i + 1) d (by simpa using hd)
          rwa [show k + (i + 1) = k + 1 + i by omega] at this)
        refine ⟨x :: l, by simp [hl1], fun i d hd => ?_⟩
        cases i with
        | zero => cases hd; exact ⟨x, rfl, hx⟩
        | succ i => simpa using hl2 i d (by simpa using hd)
    obtain ⟨l, hl1, hl2⟩ := key css 0 fun i c hc => by rw [Nat.zero_add]; exact (h4 i c hc).2.2
    refine ⟨l, by omega, .of (by omega) ⟨.inr ⟨css, b, ?_, fun h => h2 (by omega), by omega, fun i c hc => ⟨(h4 i c hc).1, (h4 i c hc).2.1, hl2 i c hc⟩⟩⟩⟩
    rw [hl1, h3]
def cloneG (z b : Nat) (v0 : AV) (h : AH) (Post : AOut → AH → Prop) : Prop :=
  y_pu (.eq false .slice (.cst v0) (.cst .nils)) fun v1 => y_if0 v1 (Post (.ret .nils) h) (y_ef (.buildSlice z 0 [] []) h fun v2 h2 => y_ef (.append z b (.cst v2) (.cst v0)) h2 fun v3 h3 => Post (.ret v3) h3)
theorem clone_ok {z b n : Nat} {Pr : Nat → List AV → Prop} {v : AV} {H : AH} (hv : FL z Pr n v) (hn : n ≤ 100000) (hb : b ≤ 500) : cloneG z b v H (MP H (FL z Pr n)) := by
  unfold cloneG
  rcases hv.ex with ⟨rfl, rfl⟩ | ⟨css, ex, rfl, h2, h3, h4⟩
  · exact y_pu_of (v := .bool true) rfl (if0_t (.same (fun k => .nils) .nil))
  · have he : 0 < n ∨ ex = true := by
      rcases Nat.eq_zero_or_pos n with h | h
      · exact .inr (h2 h)
      · exact .inl h
    have e1 : apure (.eq false .slice (.cst (.sim css.flatten n ex)) (.cst .nils)) emp = some (.bool false) := by
      show ((if 0 < n ∨ ex = true then some false else none).map fun b => AV.bool (bif false then !b else b)) = _
      rw [if_pos he]; rfl
    refine y_pu_of e1 (if0_f ?_)
    have hfl : css.flatten.length = n * z := by
      rw [flat_len css fun c hc => ?_, h3]
      obtain ⟨i, hi⟩ := List.getElem?_of_mem hc
      exact (h4 i c hi).1
    refine y_ef_of (v := .sl H.next 0 0 (.ex 0)) (H' := H.push (.cells [])) (by simp [aeff, afill]) ?_
    have s := (NSt.start H).push (o := [])
    have hb2 : n * b ≤ 140737488355328 := by
      have : n * b ≤ 100000 * 500 := Nat.mul_le_mul hn hb
      omega
    by_cases h0 : n = 0
    · subst h0
      have hx := h2 rfl
      subst hx
      refine y_ef_of (v := .sl H.next 0 0 (.ex 0)) (H' := (H.push (.cells [])).set H.next (.cells [])) (by
        have hc : css = [] := List.eq_nil_of_length_eq_zero h3
        subst hc
        simp [aeff, AOpd.ev, aappend, aslcells, AH.cells?, splice]) ?_
      have s := s.set (c' := [])
      refine s.fin (y := .sim [] 0 true) (FZ.row (c := []) (.head _) (fun _ => .nil) (fun _ => rfl)) ⟨.inr ⟨css, true, ?_, fun _ => rfl, h3, h4⟩⟩
      have hc : css = [] := List.eq_nil_of_length_eq_zero h3
      rw [hc]; rfl
    · have hpos : ¬ n ≤ 0 := by omega
      refine y_ef_of (v := .sl (H.next + 1) 0 n (.op z)) (H' := (H.push (.cells [])).push (.cells css.flatten)) (by
        have h63 : n ≤ 9223372036854775807 := by omega
        simp [aeff, AOpd.ev, aappend, aslcells, AH.cells?, hfl, h0, hb2, h63]) ?_
      have s : NSt H [(H.next + 1, css.flatten), (H.next, [])] ((H.push (.cells [])).push (.cells css.flatten)) := s.push
      refine s.fin (y := .sim css.flatten n false) (fun H' k hR => ?_) ⟨.inr ⟨css, false, rfl, fun h => by omega, h3, h4⟩⟩
      obtain ⟨g1, g2⟩ := hR (H.next + 1, css.flatten) (.head _)
      refine .sl (l := css.flatten) (m := css.flatten.length) g1 (by simp [AH.cells?, g2]) (by simp) ?_ (fun h => by omega) (fun h => by cases h)
      rw [List.drop_zero, List.take_length]
      exact .low (Scs.of_mem fun x hx => by
        obtain ⟨c, hc, hxc⟩ := List.mem_flatten.1 hx
        obtain ⟨i, hi⟩ := List.getElem?_of_mem hc
        exact ((h4 i c hi).2.1 k).mem hxc)
theorem clone_rs {t : Tw} {z b : Nat} {l : (Tw.list t).D} {v : AV} {H : AH} (hz : z = tz t) (hv : RS (.list t) l [v]) (hb : b ≤ 500) : cloneG z b v H (MP H fun x => RS (.list t) l [x]) := by
  subst hz
  have := clone_ok (b := b) (H := H) hv.fl hv.le hb
  have e : MP H (FL (tz t) (RE t (asT l)) (asT l).length) = MP H fun x => RS (.list t) l [x] := by
    congr 1
    funext x
    exact propext ⟨fun h => .of hv.le h, fun h => h.fl⟩
  rw [← e]; exact this
end Go.AL
namespace Go.AL
variable [GLC] {P : Program}
def CV (P : Program) (fv : AV) (ar : List AV) (H : AH) (Q : AV → Prop) : Prop := ACallV P fv ar H fun o H' => H' = H ∧ ∃ x, o = .ret x ∧ Q x
def eachB (P : Program) (b : Nat) (v0 v1 : AV) (h : AH) (Post : AOut → AH → Prop) : Prop := (
 y_pu (.len (.cst v0)) fun v2 =>
 y_loop [1, 5, 8, 9, 10] (fun J3 => (fun (v4 v5 v6 v7 v8 : AV) (h9 : AH) =>
 y_pu (.bin .lss (.cst v8) (.cst v7)) fun v10 =>
 y_if0 v10
 (y_pu (.indexAddrS 1 (.cst v6) (.cst v8)) fun v11 =>
 y_rd (.load none (.cst v11)) h9 fun v12 =>
 y_cl P v4 [v12] h9 (yp Post) fun v13 h13 =>
 y_ef (.buildSlice 1 1 [.nils] [(0, 1, (.cst v13))]) h13 fun v14 h14 =>
 y_ef (.append 1 b (.cst v5) (.cst v14)) h14 fun v15 h15 =>
 y_pu (.bin .add (.cst v8) (.cst (I 1))) fun v16 =>
 J3 v4 v15 v6 v7 v16 h15)
 (Post (.ret v5) h9))) (((((jenv.set 1 v1).set 5 .nils).set 8 v0).set 9 v2).set 10 (I 0)) h)
def eachA (P : Program) (z b : Nat) (zz : List AV) (v0 v1 : AV) (h : AH) (Post : AOut → AH → Prop) : Prop := (
 y_pu (.len (.cst v0)) fun v2 =>
 y_loop [1, 5, 8, 9, 10] (fun J3 => (fun (v4 v5 v6 v7 v8 : AV) (h9 : AH) =>
 y_pu (.bin .lss (.cst v8) (.cst v7)) fun v10 =>
 y_if0 v10
 (y_pu (.indexAddrS z (.cst v6) (.cst v8)) fun v11 =>
 y_rd (.load (some z) (.cst v11)) h9 fun v12 =>
 y_ef (.alloc zz) h9 fun v13 h13 =>
 y_ef (.store z (.cst v13) (.cst v12)) h13 fun _ h14 =>
 y_rd (.load (some z) (.cst v13)) h14 fun v15 =>
 y_cl P v4 [v15] h14 (yp Post) fun v16 h16 =>
 y_ef (.buildSlice z 1 zz [(0, z, (.cst v16))]) h16 fun v17 h17 =>
 y_ef (.append z b (.cst v5) (.cst v17)) h17 fun v18 h18 =>
 y_pu (.bin .add (.cst v8) (.cst (I 1))) fun v19 =>
 J3 v4 v18 v6 v7 v19 h18)
 (Post (.ret v5) h9))) (((((jenv.set 1 v1).set 5 .nils).set 8 v0).set 9 v2).set 10 (I 0)) h)
theorem eachB_ok {t : Tw} {b : Nat} {l : (Tw.list t).D} {v fv : AV} {H : AH} (hz : 1 = tz t) (hv : RS (.list t) l [v]) (hb : b ≤ 500) (hf : ∀ (x : t.D) (y : AV) (H' : AH), KeepN H H' → RS t x [y] → CV P fv [y] H' fun r => RS t x [r]) :
    eachB P b v fv H (MP H fun x => RS (.list t) l [x]) := by
  unfold eachB
  try simp only [I_lit]
  have hfl := hv.fl
  have hle := hv.le
  rw [← hz] at hfl
  generalize hn : (asT l).length = n at hfl hle
  refine hfl.len ?_
  let Iv : AV → AV → AV → AV → AV → AH → Prop := fun a c d e f H' => a = fv ∧ d = v ∧ e = iv (n : Int) ∧ ∃ (i : Nat) (o : List (Nat × List AV)) (cs : List AV), f = iv (i : Int) ∧ i ≤ n ∧ NSt H (o ++ []) H' ∧ Lv 1 o i cs c ∧ GL [] 1 (RE t (asT l)) i cs
  let μ : AV → AV → AV → AV → AV → AH → Nat := fun _ _ _ _ f _ => match f with
    | .int _ j => (n - j).toNat
    | _ => 0
  refine ⟨Iv, μ, ⟨rfl, rfl, rfl, 0, [], [], rfl, by omega, NSt.start H, .nil, .nil⟩, ?_⟩
  intro e H1 hI
  obtain ⟨e1, e2, e3, i, o, cs, e4, hi, s, hl, hG⟩ := (hI : Iv (e 1) (e 5) (e 8) (e 9) (e 10) H1)
  have hmu : μ (e 1) (e 5) (e 8) (e 9) (e 10) H1 = ((n : Int) - (i : Int)).toNat := by rw [e4]
  show y_pu (.bin .lss (.cst (e 10)) (.cst (e 9))) _
  rw [e1, e2, e3, e4]
  generalize e 5 = w at hl
  refine c_lss (fun hlt => if0_t ?_) (fun hlt => if0_f ?_)
  · refine hfl.at1 (by omega) fun y _ hy => ?_
    obtain ⟨x, hx, hr⟩ := hy
    refine y_cpv (hf x y H1 s.k hr) fun r hr' => ?_
    have hc := RS_sc 0 t x [r] hr'
    have hcell : r.cellsOf = some [r] := by
      cases t with
      | int => cases (show [r] = _ from hr'); rfl
      | byte => cases (show [r] = _ from hr'); rfl
      | bool => cases (show [r] = _ from hr'); rfl
      | word => cases (show [r] = _ from hr'); rfl
      | list t => exact (RS.fl hr').one
      | pair a b =>
        have h1 : ∀ t, 1 ≤ tz t := fun t => by induction t <;> simp only [tz] <;> omega
        have := h1 a
        have := h1 b
        simp only [tz] at hz
        omega
    refine s.app (k := 1) hl hG.n hcell rfl rfl (by omega) hb fun o' v' H2 s2 hl2 => s_add ⟨by omega, by omega⟩ ⟨⟨rfl, rfl, rfl, i + 1, o', _, rfl, by omega, s2, hl2, hG.addS rfl (fun k => RS_sc k t x [r] hr') ⟨x, hx, hr'⟩⟩, ?_⟩
    show _ < μ (e 1) (e 5) (e 8) (e 9) (e 10) H1
    rw [hmu]
    show ((n : Int) - ((i : Int) + 1)).toNat < ((n : Int) - (i : Int)).toNat
    omega
  · have hin : n = i := by omega
    subst hin
    obtain ⟨y, hy1, hy2⟩ := hG.frz hl
    exact s.fin hy1 (RS.of (l := asT l) hv.le (by rw [hn, ← hz]; exact hy2))
theorem eachA_ok {t : Tw} {z b : Nat} {zz : List AV} {l : (Tw.list t).D} {v fv : AV} {H : AH} (hz : z = tz t) (hzz : zz.length = z) (hv : RS (.list t) l [v]) (hb : b ≤ 500)
    (hf : ∀ (x : t.D) (c : List AV) (H' : AH), KeepN H H' → RS t x c → CV P fv [.agg c] H' fun r => ∃ c', r = .agg c' ∧ RS t x c') :
    eachA P z b zz v fv H (MP H fun x => RS (.list t) l [x]) := by
  unfold eachA
  try simp only [I_lit]
  have hfl := hv.fl
  have hle := hv.le
  rw [← hz] at hfl
  generalize hn : (asT l).length = n at hfl hle
  refine hfl.len ?_
  let Iv : AV → AV → AV → AV → AV → AH → Prop := fun a c d e f H' => a = fv ∧ d = v ∧ e = iv (n : Int) ∧ ∃ (i : Nat) (o : List (Nat × List AV)) (cs : List AV), f = iv (i : Int) ∧ i ≤ n ∧ NSt H (o ++ []) H' ∧ Lv z o i cs c ∧ GL [] z (RE t (asT l)) i cs
  let μ : AV → AV → AV → AV → AV → AH → Nat := fun _ _ _ _ f _ => match f with
    | .int _ j => (n - j).toNat
    | _ => 0
  refine ⟨Iv, μ, ⟨rfl, rfl, rfl, 0, [], [], rfl, by omega, NSt.start H, .nil, .nil⟩, ?_⟩
  intro e H1 hI
  obtain ⟨e1, e2, e3, i, o, cs, e4, hi, s, hl, hG⟩ := (hI : Iv (e 1) (e 5) (e 8) (e 9) (e 10) H1)
  have hmu : μ (e 1) (e 5) (e 8) (e 9) (e 10) H1 = ((n : Int) - (i : Int)).toNat := by rw [e4]
  show y_pu (.bin .lss (.cst (e 10)) (.cst (e 9))) _
  rw [e1, e2, e3, e4]
  generalize e 5 = w at hl
  refine c_lss (fun hlt => if0_t ?_) (fun hlt => if0_f ?_)
  · refine hfl.atA (by omega) fun c hcl _ hy => ?_
    obtain ⟨x, hx, hr⟩ := hy
    refine s.alloc fun q H2 s => s.putA hcl hzz fun H3 s => s.ldA (.head _) hcl ?_
    refine y_cpv (hf x c H3 s.k hr) fun r hr' => ?_
    obtain ⟨c', rfl, hr'⟩ := hr'
    have hc' : c'.length = z := by rw [RS_len t x c' hr', hz]
    have s : NSt H (o ++ []) H3 := s.sub (List.sublist_cons_self _ _)
    refine s.app (k := z) hl hG.n rfl hc' hzz (by omega) hb fun o' v' H2 s2 hl2 => s_add ⟨by omega, by omega⟩ ⟨⟨rfl, rfl, rfl, i + 1, o', _, rfl, by omega, s2, hl2, hG.addS hc' (fun k => RS_sc k t x c' hr') ⟨x, hx, hr'⟩⟩, ?_⟩
    show _ < μ (e 1) (e 5) (e 8) (e 9) (e 10) H1
    rw [hmu]
    show ((n : Int) - ((i : Int) + 1)).toNat < ((n : Int) - (i : Int)).toNat
    omega
  · have hin : n = i := by omega
    subst hin
    obtain ⟨y, hy1, hy2⟩ := hG.frz hl
    exact s.fin hy1 (RS.of (l := asT l) hv.le (by rw [hn, ← hz]; exact hy2))
end Go.AL
namespace Go.AL
variable [GLC] {P : Program}
theorem NSt.join {H0 H H' : AH} {L o : List (Nat × List AV)} (h : NSt H0 L H) (h2 : NSt H o H') : NSt H0 (o ++ L) H' := by
  have hn := h.k.nx
  refine ⟨h.k.trans h2.k, fun x hx => ?_, ?_⟩
  · rcases List.mem_append.1 hx with hx | hx
    · obtain ⟨g1, g2, g3⟩ := h2.l x hx
      exact ⟨Nat.le_trans hn g1, g2, g3⟩
    · obtain ⟨g1, g2, g3⟩ := h.l x hx
      exact ⟨g1, Nat.lt_of_lt_of_le g2 h2.k.nx, by rw [h2.k.get _ g2]; exact g3⟩
  · rw [List.map_append, List.nodup_append]
    refine ⟨h2.nd, h.nd, fun a ha b hb e => ?_⟩
    obtain ⟨x, hx, rfl⟩ := List.mem_map.1 ha
    obtain ⟨y, hy, rfl⟩ := List.mem_map.1 hb
    have := (h2.l x hx).1
    have := (h.l y hy).2.1
    omega
structure GX (z : Nat) (Pr : Nat → List AV → Prop) (n : Nat) (cs : List AV) : Prop where
  ex : ∃ css : List (List AV), cs = css.flatten ∧ css.length = n ∧ ∀ i c, css[i]? = some c → c.length = z ∧ (∀ k, Scs k c) ∧ Pr i c
section
variable {z n : Nat} {Pr Pr' : Nat → List AV → Prop} {cs c : List AV}
theorem GX.nil : GX z Pr 0 [] := ⟨⟨[], rfl, rfl, fun i c h => by simp at h⟩⟩
theorem GX.ln (h : GX z Pr n cs) : cs.length = n * z := by
  obtain ⟨css, rfl, rfl, h3⟩ := h.ex
  exact flat_len css fun c hc => by
    obtain ⟨i, hi⟩ := List.getElem?_of_mem hc
    exact (h3 i c hi).1
theorem GX.gl {R : List (Nat × List AV)} (h : GX z Pr n cs) : GL R z Pr n cs := by
  have hn := h.ln
  obtain ⟨css, rfl, h2, h3⟩ := h.ex
  exact ⟨⟨css, .low fun k => Scs.of_mem fun x hx => by
    obtain ⟨c, hc, hxc⟩ := List.mem_flatten.1 hx
    obtain ⟨i, hi⟩ := List.getElem?_of_mem hc
    exact ((h3 i c hi).2.1 k).mem hxc, h2, h3⟩, hn⟩
theorem GX.mono (h : GX z Pr n cs) (hp : ∀ i c, i < n → Pr i c → Pr' i c) : GX z Pr' n cs := by
  obtain ⟨css, h1, h2, h3⟩ := h.ex
  exact ⟨⟨css, h1, h2, fun i c hc => by
    obtain ⟨g1, g2, g3⟩ := h3 i c hc
    exact ⟨g1, g2, hp i c (by rw [← h2]; exact (List.getElem?_eq_some_iff.1 hc).1) g3⟩⟩⟩
theorem GX.addS (h : GX z Pr n cs) (hc : c.length = z) (hs : ∀ k, Scs k c) (hp : Pr n c) : GX z Pr (n + 1) (cs ++ c) := by
  obtain ⟨css, rfl, h2, h3⟩ := h.ex
  refine ⟨⟨css ++ [c], by simp, by simp [h2], fun i d hd => ?_⟩⟩
  rcases Nat.lt_or_ge i n with hi | hi
  · rw [List.getElem?_append_left (by omega)] at hd
    exact h3 i d hd
  · rw [List.getElem?_append_right (by omega)] at hd
    have h0 : i = n := by
      rcases Nat.eq_zero_or_pos (i - css.length) with h | h
      · omega
      · rw [List.getElem?_eq_none (by simp; omega)] at hd; cases hd
    subst h0
    rw [h2, Nat.sub_self] at hd
    cases hd
    exact ⟨hc, hs, hp⟩
theorem GX.at (h : GX z Pr n cs) {i : Nat} (hi : i < n) : ∃ c, c.length = z ∧ (∀ k, Scs k c) ∧ Pr i c ∧ (cs.drop (i * z)).take z = c ∧ i * z + z ≤ cs.length ∧ ∀ j x, c[j]? = some x → cs[i * z + j]? = some x := by
  have hn := h.ln
  obtain ⟨css, rfl, h2, h3⟩ := h.ex
  have hc : css[i]? = some (css[i]'(by omega)) := List.getElem?_eq_getElem (by omega)
  obtain ⟨g1, g2, g3⟩ := h3 i _ hc
  have hz : ∀ c ∈ css, c.length = z := fun c hc => by
    obtain ⟨i, hi⟩ := List.getElem?_of_mem hc
    exact (h3 i c hi).1
  have hx := flat_idx css i _ hz hc
  have hm : i * z + z ≤ n * z := by
    have : (i + 1) * z ≤ n * z := Nat.mul_le_mul_right _ (by omega)
    rw [Nat.add_mul, Nat.one_mul] at this; exact this
  refine ⟨css[i]'(by omega), g1, g2, g3, hx, by omega, fun j x hj => ?_⟩
  have hjz : j < z := by rw [← g1]; exact (List.getElem?_eq_some_iff.1 hj).1
  have h5 : ((css.flatten.drop (i * z)).take z)[j]? = (css[i]'(by omega))[j]? := by rw [hx]
  rw [List.getElem?_take, if_pos hjz, List.getElem?_drop, hj] at h5
  exact h5
end
def OwnP (H : AH) (z : Nat) (Pr : Nat → List AV → Prop) (n : Nat) : AOut → AH → Prop := fun o H' => ∃ x o' cs, o = .ret x ∧ Lv z o' n cs x ∧ NSt H o' H' ∧ GX z Pr n cs
theorem OwnP.mp {H : AH} {z n : Nat} {Pr : Nat → List AV → Prop} (o : AOut) (H' : AH) (h : OwnP H z Pr n o H') : MP H (FL z Pr n) o H' := by
  obtain ⟨x, o', cs, rfl, h1, h2, h3⟩ := h
  obtain ⟨y, hy1, hy2⟩ := (h3.gl (R := [])).frz h1
  exact h2.fin (by simpa using hy1) hy2
theorem NSt.callO {H0 H : AH} {L : List (Nat × List AV)} {g : FuncId} {ar : List AV} {z n : Nat} {Pr : Nat → List AV → Prop} {Kp K : AV → AH → Prop} (h : NSt H0 L H) (hC : ACall P g ar H (OwnP H z Pr n))
    (hK : ∀ x o cs H', NSt H0 (o ++ L) H' → Lv z o n cs x → GX z Pr n cs → K x H') : y_call P g ar H Kp K :=
  y_call_of hC (fun v H' hp => by
    obtain ⟨x, o', cs, e, h1, h2, h3⟩ := hp
    cases e
    exact hK _ o' cs H' (h.join h2) h1 h3) (fun v H' hp => by obtain ⟨_, _, _, e, _⟩ := hp; cases e)
theorem clone_own {z b n : Nat} {Pr : Nat → List AV → Prop} {v : AV} {H : AH} (hv : FL z Pr n v) (hn : n ≤ 100000) (hb : b ≤ 500) : cloneG z b v H (OwnP H z Pr n) := by
  unfold cloneG
  rcases hv.ex with ⟨rfl, rfl⟩ | ⟨css, ex, rfl, h2, h3, h4⟩
  · exact y_pu_of rfl (if0_t ⟨_, [], [], rfl, .nil, NSt.start H, .nil⟩)
  · have he : 0 < n ∨ ex = true := by
      rcases Nat.eq_zero_or_pos n with h | h
      · exact .inr (h2 h)
      · exact .inl h
    have e1 : apure (.eq false .slice (.cst (.sim css.flatten n ex)) (.cst .nils)) emp = some (.bool false) := by
      show ((if 0 < n ∨ ex = true then some false else none).map fun b => AV.bool (bif false then !b else b)) = _
      rw [if_pos he]; rfl
    refine y_pu_of e1 (if0_f ?_)
    have hG : GX z Pr n css.flatten := ⟨⟨css, rfl, h3, h4⟩⟩
    have hfl := hG.ln
    refine y_ef_of (v := .sl H.next 0 0 (.ex 0)) (H' := H.push (.cells [])) (by simp [aeff, afill]) ?_
    have s := (NSt.start H).push (o := [])
    have hb2 : n * b ≤ 140737488355328 := by
      have : n * b ≤ 100000 * 500 := Nat.mul_le_mul hn hb
      omega
    by_cases h0 : n = 0
    · subst h0
      have hc : css = [] := List.eq_nil_of_length_eq_zero h3
      subst hc
      refine y_ef_of (v := .sl H.next 0 0 (.ex 0)) (H' := (H.push (.cells [])).set H.next (.cells [])) (by
        have hx := h2 rfl
        subst hx
        simp [aeff, AOpd.ev, aappend, aslcells, AH.cells?, splice]) ?_
      exact ⟨_, _, [], rfl, .ex _, s.set (c' := []), .nil⟩
    · have hpos : ¬ n ≤ 0 := by omega
      refine y_ef_of (v := .sl (H.next + 1) 0 n (.op z)) (H' := (H.push (.cells [])).push (.cells css.flatten)) (by
        have h63 : n ≤ 9223372036854775807 := by omega
        simp [aeff, AOpd.ev, aappend, aslcells, AH.cells?, hfl, h0, hb2, h63]) ?_
      have s : NSt H [(H.next + 1, css.flatten), (H.next, [])] ((H.push (.cells [])).push (.cells css.flatten)) := s.push
      exact ⟨_, [(H.next + 1, css.flatten)], _, rfl, .op (by omega), s.sub (.cons_cons _ (List.nil_sublist _)), hG⟩
theorem CP.own {g : FuncId} {ar : List AV} {H : AH} {z n : Nat} {Pr : Nat → List AV → Prop} (h : ACall P g ar H (OwnP H z Pr n)) : CP P g ar H (FL z Pr n) := CP.of (h.mono fun o H' => OwnP.mp o H')
theorem eachB_own {t : Tw} {b : Nat} {l : (Tw.list t).D} {v fv : AV} {H : AH} (hz : 1 = tz t) (hv : RS (.list t) l [v]) (hb : b ≤ 500) (hf : ∀ (x : t.D) (y : AV) (H' : AH), KeepN H H' → RS t x [y] → CV P fv [y] H' fun r => RS t x [r]) :
    eachB P b v fv H (OwnP H 1 (RE t (asT l)) (asT l).length) := by
  unfold eachB
  try simp only [I_lit]
  have hfl := hv.fl
  have hle := hv.le
  rw [← hz] at hfl
  generalize hn : (asT l).length = n at hfl hle
  refine hfl.len ?_
  let Iv : AV → AV → AV → AV → AV → AH → Prop := fun a c d e f H' => a = fv ∧ d = v ∧ e = iv (n : Int) ∧ ∃ (i : Nat) (o : List (Nat × List AV)) (cs : List AV), f = iv (i : Int) ∧ i ≤ n ∧ NSt H (o ++ []) H' ∧ Lv 1 o i cs c ∧ GX 1 (RE t (asT l)) i cs
  let μ : AV → AV → AV → AV → AV → AH → Nat := fun _ _ _ _ f _ => match f with
    | .int _ j => (n - j).toNat
    | _ => 0
  refine ⟨Iv, μ, ⟨rfl, rfl, rfl, 0, [], [], rfl, by omega, NSt.start H, .nil, .nil⟩, ?_⟩
  intro e H1 hI
  obtain ⟨e1, e2, e3, i, o, cs, e4, hi, s, hl, hG⟩ := (hI : Iv (e 1) (e 5) (e 8) (e 9) (e 10) H1)
  have hmu : μ (e 1) (e 5) (e 8) (e 9) (e 10) H1 = ((n : Int) - (i : Int)).toNat := by rw [e4]
  show y_pu (.bin .lss (.cst (e 10)) (.cst (e 9))) _
  rw [e1, e2, e3, e4]
  generalize e 5 = w at hl
  refine c_lss (fun hlt => if0_t ?_) (fun hlt => if0_f ?_)
  · refine hfl.at1 (by omega) fun y _ hy => ?_
    obtain ⟨x, hx, hr⟩ := hy
    refine y_cpv (hf x y H1 s.k hr) fun r hr' => ?_
    have hc := RS_sc 0 t x [r] hr'
    have hcell : r.cellsOf = some [r] := by
      cases t with
      | int => cases (show [r] = _ from hr'); rfl
      | byte => cases (show [r] = _ from hr'); rfl
      | bool => cases (show [r] = _ from hr'); rfl
      | word => cases (show [r] = _ from hr'); rfl
      | list t => exact (RS.fl hr').one
      | pair a b =>
        have h1 : ∀ t, 1 ≤ tz t := fun t => by induction t <;> simp only [tz] <;> omega
        have := h1 a
        have := h1 b
        simp only [tz] at hz
        omega
    refine s.app (k := 1) hl hG.ln hcell rfl rfl (by omega) hb fun o' v' H2 s2 hl2 => s_add ⟨by omega, by omega⟩ ⟨⟨rfl, rfl, rfl, i + 1, o', _, rfl, by omega, s2, hl2, hG.addS rfl (fun k => RS_sc k t x [r] hr') ⟨x, hx, hr'⟩⟩, ?_⟩
    show _ < μ (e 1) (e 5) (e 8) (e 9) (e 10) H1
    rw [hmu]
    show ((n : Int) - ((i : Int) + 1)).toNat < ((n : Int) - (i : Int)).toNat
    omega
  · have hin : n = i := by omega
    subst hin
    exact ⟨_, o, cs, rfl, hl, by simpa using s, hG⟩
theorem eachA_own {t : Tw} {z b : Nat} {zz : List AV} {l : (Tw.list t).D} {v fv : AV} {H : AH} (hz : z = tz t) (hzz : zz.length = z) (hv : RS (.list t) l [v]) (hb : b ≤ 500)
    (hf : ∀ (x : t.D) (c : List AV) (H' : AH), KeepN H H' → RS t x c → CV P fv [.agg c] H' fun r => ∃ c', r = .agg c' ∧ RS t x c') :
    eachA P z b zz v fv H (OwnP H z (RE t (asT l)) (asT l).length) := by
  unfold eachA
  try simp only [I_lit]
  have hfl := hv.fl
  have hle := hv.le
  rw [← hz] at hfl
  generalize hn : (asT l).length = n at hfl hle
  refine hfl.len ?_
  let Iv : AV → AV → AV → AV → AV → AH → Prop := fun a c d e f H' => a = fv ∧ d = v ∧ e = iv (n : Int) ∧ ∃ (i : Nat) (o : List (Nat × List AV)) (cs : List AV), f = iv (i : Int) ∧ i ≤ n ∧ NSt H (o ++ []) H' ∧ Lv z o i cs c ∧ GX z (RE t (asT l)) i cs
  let μ : AV → AV → AV → AV → AV → AH → Nat := fun _ _ _ _ f _ => match f with
    | .int _ j => (n - j).toNat
    | _ => 0
  refine ⟨Iv, μ, ⟨rfl, rfl, rfl, 0, [], [], rfl, by omega, NSt.start H, .nil, .nil⟩, ?_⟩
  intro e H1 hI
  obtain ⟨e1, e2, e3, i, o, cs, e4, hi, s, hl, hG⟩ := (hI : Iv (e 1) (e 5) (e 8) (e 9) (e 10) H1)
  have hmu : μ (e 1) (e 5) (e 8) (e 9) (e 10) H1 = ((n : Int) - (i : Int)).toNat := by rw [e4]
  show y_pu (.bin .lss (.cst (e 10)) (.cst (e 9))) _
  rw [e1, e2, e3, e4]
  generalize e 5 = w at hl
  refine c_lss (fun hlt => if0_t ?_) (fun hlt => if0_f ?_)
  · refine hfl.atA (by omega) fun c hcl _ hy => ?_
    obtain ⟨x, hx, hr⟩ := hy
    refine s.alloc fun q H2 s => s.putA hcl hzz fun H3 s => s.ldA (.head _) hcl ?_
    refine y_cpv (hf x c H3 s.k hr) fun r hr' => ?_
    obtain ⟨c', rfl, hr'⟩ := hr'
    have hc' : c'.length = z := by rw [RS_len t x c' hr', hz]
    have s : NSt H (o ++ []) H3 := s.sub (List.sublist_cons_self _ _)
    refine s.app (k := z) hl hG.ln rfl hc' hzz (by omega) hb fun o' v' H2 s2 hl2 => s_add ⟨by omega, by omega⟩ ⟨⟨rfl, rfl, rfl, i + 1, o', _, rfl, by omega, s2, hl2, hG.addS hc' (fun k => RS_sc k t x c' hr') ⟨x, hx, hr'⟩⟩, ?_⟩
    show _ < μ (e 1) (e 5) (e 8) (e 9) (e 10) H1
    rw [hmu]
    show ((n : Int) - ((i : Int) + 1)).toNat < ((n : Int) - (i : Int)).toNat
    omega
  · have hin : n = i := by omega
    subst hin
    exact ⟨_, o, cs, rfl, hl, by simpa using s, hG⟩
def cmpG (fetch : AV → AV → AH → (AV → Prop) → Prop) (ne : AV → AV → AH → (AV → AH → Prop) → Prop) (v0 v1 : AV) (h : AH) (Post : AOut → AH → Prop) : Prop := (
 y_pu (.len (.cst v0)) fun v2 =>
 y_pu (.len (.cst v1)) fun v3 =>
 y_pu (.bin .neq (.cst v2) (.cst v3)) fun v4 =>
 y_if0 v4
 (Post (.ret (.bool false)) h)
 (y_loop [0, 1, 5] (fun J5 => (fun (v6 v7 v8 : AV) (h9 : AH) =>
 y_pu (.len (.cst v6)) fun v10 =>
 y_pu (.bin .lss (.cst v8) (.cst v10)) fun v11 =>
 y_if0 v11
 (fetch v6 v8 h9 fun v13 =>
 fetch v7 v8 h9 fun v15 =>
 ne v13 v15 h9 fun v16 h16 =>
 y_if0 v16
 (Post (.ret (.bool false)) h16)
 (y_pu (.bin .add (.cst v8) (.cst (I 1))) fun v17 =>
 J5 v6 v7 v17 h16))
 (Post (.ret (.bool true)) h9))) (((jenv.set 0 v0).set 1 v1).set 5 (I 0)) h))
theorem cmp_same {t : Tw} {l : (Tw.list t).D} {a b : AV} {H : AH} {fetch : AV → AV → AH → (AV → Prop) → Prop} {ne : AV → AV → AH → (AV → AH → Prop) → Prop} (X : t.D → AV → Prop)
    (hf : ∀ (v : AV) (i : Nat) (K : AV → Prop), RS (.list t) l [v] → i < (asT l).length → (∀ d y, (asT l)[i]? = some d → X d y → K y) → fetch v (iv (i : Int)) H K)
    (hn : ∀ (d : t.D) y y' (K : AV → AH → Prop), X d y → X d y' → K (.bool false) H → ne y y' H K)
    (ha : RS (.list t) l [a]) (hb : RS (.list t) l [b]) : cmpG fetch ne a b H (MP H fun x => x = .bool true) := by
  unfold cmpG
  try simp only [I_lit]
  obtain ⟨n, hl⟩ : ∃ n, n = (asT l).length := ⟨_, rfl⟩
  have hle := ha.le
  have fa := ha.fl
  have fb := hb.fl
  rw [← hl] at hle fa fb
  refine fa.len (fb.len (f_neq rfl (if0_f ?_)))
  let Iv : AV → AV → AV → AH → Prop := fun x y w H' => x = a ∧ y = b ∧ ∃ i : Nat, w = iv (i : Int) ∧ i ≤ n ∧ H' = H
  let μ : AV → AV → AV → AH → Nat := fun _ _ f _ => match f with
    | .int _ j => (n - j).toNat
    | _ => 0
  refine ⟨Iv, μ, ⟨rfl, rfl, 0, rfl, by omega, rfl⟩, ?_⟩
  intro e H1 hI
  obtain ⟨e1, e2, i, e3, hi, rfl⟩ := (hI : Iv (e 0) (e 1) (e 5) H1)
  have hmu : μ (e 0) (e 1) (e 5) H1 = ((n : Int) - (i : Int)).toNat := by rw [e3]
  show y_pu (.len (.cst (e 0))) _
  rw [e1, e2, e3]
  refine fa.len (c_lss (fun hlt => if0_t ?_) (fun hlt => if0_f (.same (fun k => .bool _) rfl)))
  refine hf a i _ ha (by omega) fun d y hd hx => ?_
  refine hf b i _ hb (by omega) fun d' y' hd' hx' => ?_
  rw [hd] at hd'
  cases hd'
  refine hn d y y' _ hx hx' (if0_f (s_add ⟨by omega, by omega⟩ ⟨⟨rfl, rfl, i + 1, rfl, by omega, rfl⟩, ?_⟩))
  show _ < μ (e 0) (e 1) (e 5) H1
  rw [hmu]
  show ((n : Int) - ((i : Int) + 1)).toNat < ((n : Int) - (i : Int)).toNat
  omega
abbrev fet1 (v i : AV) (h : AH) (K : AV → Prop) : Prop := y_pu (.indexAddrS 1 (.cst v) (.cst i)) fun w => y_rd (.load none (.cst w)) h K
abbrev fetA (z : Nat) (v i : AV) (h : AH) (K : AV → Prop) : Prop := y_pu (.indexAddrS z (.cst v) (.cst i)) fun w => y_rd (.load (some z) (.cst w)) h K
theorem fet1_ok {t : Tw} {l : (Tw.list t).D} {H : AH} (hz : tz t = 1) (v : AV) (i : Nat) (K : AV → Prop) (hv : RS (.list t) l [v]) (hi : i < (asT l).length) (hK : ∀ d y, (asT l)[i]? = some d → RS t d [y] → K y) : fet1 v (iv (i : Int)) H K := by
  have h := hv.fl
  rw [hz] at h
  refine h.at1 hi fun x _ hx => ?_
  obtain ⟨d, h1, h2⟩ := hx
  exact hK d x h1 h2
theorem fetA_ok {t : Tw} {l : (Tw.list t).D} {H : AH} {z : Nat} (hz : tz t = z) (v : AV) (i : Nat) (K : AV → Prop) (hv : RS (.list t) l [v]) (hi : i < (asT l).length) (hK : ∀ d y, (asT l)[i]? = some d → (∃ c, y = .agg c ∧ RS t d c) → K y) : fetA z v (iv (i : Int)) H K := by
  have h := hv.fl
  rw [hz] at h
  refine h.atA hi fun c _ _ hx => ?_
  obtain ⟨d, h1, h2⟩ := hx
  exact hK d _ h1 ⟨c, rfl, h2⟩
end Go.AL
