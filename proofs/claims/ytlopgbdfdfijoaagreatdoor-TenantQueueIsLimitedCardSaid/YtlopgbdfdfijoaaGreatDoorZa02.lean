import Derived.Test.YtlopgbdfdfijoaaGreatDoorZa01
import Derived.MapFrom
import Derived.Carry
import Derived.Defers
import Derived.Lib.BytesEntry
import Derived.Laws.BytesString
import Derived.Tactics
import Derived.TacticsIn
import Derived.OrdersIn
import Derived.RangeFuncSeq
import Derived.RangeFuncIn
/-
  reading, new rows, appending, maps; what code asks; one step.
-/
set_option linter.unusedSectionVars false
set_option linter.unusedVariables false
set_option linter.unusedSimpArgs false
namespace Go.AL
section
variable {P : Program} {Z : Zt} {σ : Sg} {H : AH} {e : Env} {a : Act} {w : World}
theorem cells?_some {r : Nat} {l : List AV} (h : H.cells? r = some l) : H.get r = some (.cells l) := by
  unfold AH.cells? at h
  split at h
  · rename_i l' h'; simp only [Option.some.injEq] at h; subst h; exact h'
  · cases h
theorem WR.row (hW : WR Z σ H w) {r : Nat} {l : List AV} {p : Plc} (hr : H.cells? r = some l) (hp : σ r = some p) :
    Z p.b = none ∧ ∃ c e fr, w.heap[p.b]? = some (.cells c e fr) ∧ c.size = p.size ∧ Frn fr c.size ∧ p.base + l.length ≤ c.size ∧
      VRs Z σ l ((c.toList.drop p.base).take l.length) ∧ ∀ v ∈ (c.toList.drop p.base).take l.length, v.oneCell' = true := by
  obtain ⟨h1, h2⟩ := hW.h r _ p (cells?_some hr) hp
  cases h2 with
  | cells hb hs hf hl hv h1' => exact ⟨h1, _, _, _, hb, hs, hf, hl, hv, h1'⟩
theorem run_loadCells_row {b : Nat} {c : Array Value} {el : TypeId} {fr : Nat × Nat} (hb : w.heap[b]? = some (.cells c el fr)) {o n : Nat} (hn : o + n ≤ c.size) :
    (loadCells ⟨b, o, none⟩ n).run P w = .ok ((c.toList.drop o).take n).toArray w := by
  have hlen : ((c.toList.drop o).take n).length = n := by simp; omega
  have := run_loadCells_list (P := P) w ⟨b, o, none⟩ ((c.toList.drop o).take n) (fun j v hv => by
    rw [add_none]
    simp only [World.cell?, hb]
    have hj : j < n := by have := (List.getElem?_eq_some_iff.1 hv).1; omega
    rw [List.getElem?_take_of_lt hj, List.getElem?_drop] at hv
    simpa using hv)
  rwa [hlen] at this
theorem row_len {c : Array Value} {base : Nat} {l : List AV} (hv : VRs Z σ l ((c.toList.drop base).take l.length)) : l.length ≤ c.size - base := by
  have h := hv.length
  rw [List.length_take, List.length_drop] at h
  have e : c.toList.length = c.size := Array.length_toList
  omega
theorem load_sound {t : TypeId} {g : Option Nat} (hg : tload P t = some g) {b base : Nat} {c : Array Value} {el : TypeId} {fr : Nat × Nat} (hb : w.heap[b]? = some (.cells c el fr)) {l : List AV}
    (hv : VRs Z σ l ((c.toList.drop base).take l.length)) (h1 : ∀ v ∈ (c.toList.drop base).take l.length, v.oneCell' = true) {o : Nat} {v : AV} (hp : apart g l o = some v) :
    ∃ cv, (Instr.loadAt t (.pointer (some ⟨b, base + o, none⟩))).run P w = .ok cv w ∧ VR Z σ v cv := by
  have hl := row_len hv
  unfold tload at hg
  cases ha : tagg P t with
  | none => simp [ha] at hg
  | some bb =>
    cases hs : tsize P t with
    | none => simp [ha, hs] at hg
    | some n =>
      cases bb
      · simp [ha, hs] at hg; subst hg
        simp only [apart] at hp
        obtain ⟨cv, g1, g2⟩ := hv.get hp
        refine ⟨cv, ?_, g2⟩
        have ho : o < l.length := (List.getElem?_eq_some_iff.1 hp).1
        rw [List.getElem?_take_of_lt ho, List.getElem?_drop] at g1
        have g1' : c[base + o]? = some cv := by simpa using g1
        have hc : w.cell? ⟨b, base + o, none⟩ = some cv := by simp [World.cell?, hb, g1']
        simp [Instr.loadAt, Instr.sureAddr, loadVar, tagg_sound ha, hc]
      · simp [ha, hs] at hg; subst hg
        simp only [apart] at hp
        split at hp
        · rename_i hon
          simp only [Option.some.injEq] at hp; subst hp
          have hr : (loadCells ⟨b, base + o, none⟩ n).run P w = .ok ((c.toList.drop (base + o)).take n).toArray w := by
            by_cases h0 : n = 0
            · subst h0; simp [loadCells, loadCellsFrom]
            · exact run_loadCells_row (P := P) hb (o := base + o) (n := n) (by omega)
          refine ⟨_, by simp [Instr.loadAt, Instr.sureAddr, loadVar, tagg_sound ha, tsize_sound hs, hr]; rfl, ?_⟩
          have e1 : (c.toList.drop (base + o)).take n = (((c.toList.drop base).take l.length).drop o).take n := by
            rw [List.drop_take, List.drop_drop, List.take_take, Nat.min_eq_left (by omega)]
          refine .agg ?_ ?_
          · simp only [e1]; intro u hu; exact h1 u (List.mem_of_mem_drop (List.mem_of_mem_take hu))
          · simp only [e1]; exact (hv.drop _).take _
        · cases hp
theorem aload_sound (hW : WR Z σ H w) {t : TypeId} {g : Option Nat} (hg : tload P t = some g) {x : AV} {vx : Value} (hx : VR Z σ x vx) {v : AV} (hv : aload g x H = some v) :
    ∃ cv, (Instr.loadAt t vx).run P w = .ok cv w ∧ VR Z σ v cv := by
  unfold aload at hv
  split at hv
  · rename_i r o
    split at hv
    · rename_i l hl
      obtain ⟨p, hp, rfl⟩ := hx.ptr_inv
      obtain ⟨_, c, el, fr, hb, _, _, _, h5, h6⟩ := hW.row hl hp
      exact load_sound hg hb h5 h6 hv
    · cases hv
  · obtain ⟨b, base, c, el, fr, hz, h1, h2, rfl⟩ := hx.pim_inv
    exact load_sound hg (hW.z _ _ hz) h2 h1 hv
  · cases hv
theorem src_sound (hW : WR Z σ H w) {esz : Nat} {x : AV} {vx : Value} (hx : VR Z σ x vx) {m : Nat} {xs : List AV} (h : aslcells esz x H = some (m, xs)) :
    ∃ ad cap news, vx = .slice ad m cap ∧ VRs Z σ xs news ∧ news.length = m * esz ∧ (∀ v ∈ news, v.oneCell' = true) ∧ (ad = none → m = 0) ∧
      ∀ w' : World, w'.heap = w.heap → (Builtin.firstCells esz m vx).run P w' = .ok news.toArray w' := by
  unfold aslcells at h
  split at h
  · simp only [Option.some.injEq, Prod.mk.injEq] at h; obtain ⟨rfl, rfl⟩ := h
    exact ⟨none, 0, [], hx.nils_inv, .nil, by simp, by simp, by simp, fun w' _ => by rw [hx.nils_inv]; simp [Builtin.firstCells]⟩
  · rename_i l n ex
    split at h <;> simp only [Option.some.injEq, Prod.mk.injEq, reduceCtorEq] at h
    rename_i hl
    obtain ⟨rfl, rfl⟩ := h
    cases hx with
    | simz ad hx0 => exact ⟨some ad, _, [], rfl, .nil, by simp, by simp, by simp, fun w' _ => by simp [Builtin.firstCells, loadCells, loadCellsFrom]⟩
    | simn => exact ⟨none, 0, [], rfl, .nil, by simp, by simp, by simp, fun w' _ => by simp [Builtin.firstCells]⟩
    | sim hn hxx hs hz h1 hv =>
      rename_i cap ad c el fr
      obtain ⟨b0, o0, s0⟩ := ad
      simp only at hs; subst hs
      have hlen := hv.length
      refine ⟨some ⟨b0, o0, none⟩, cap, _, rfl, hv, by rw [← hlen, hl], h1, by simp, fun w' hw' => ?_⟩
      have hb : w'.heap[b0]? = some (.cells c el fr) := by rw [hw']; exact hW.z _ _ hz
      have hlen' := row_len hv
      simp only at hlen'
      simp only [Builtin.firstCells]
      rw [← hl]
      by_cases h0 : l.length = 0
      · rw [h0]; simp [loadCells, loadCellsFrom]
      · exact run_loadCells_row hb (by omega)
  · rename_i r o n lim
    split at h
    · rename_i l hl
      split at h <;> simp only [Option.some.injEq, Prod.mk.injEq, reduceCtorEq] at h
      rename_i hlen
      obtain ⟨rfl, rfl⟩ := h
      have main : ∀ (p : Plc) (cap : Nat), σ r = some p → ∃ news, VRs Z σ ((l.drop o).take (n * esz)) news ∧ news.length = n * esz ∧ (∀ v ∈ news, v.oneCell' = true) ∧
          ∀ w' : World, w'.heap = w.heap → (Builtin.firstCells esz n (.slice (some ⟨p.b, p.base + o, none⟩) n cap)).run P w' = .ok news.toArray w' := by
        intro p cap hp
        obtain ⟨_, c, el, fr, hb, _, _, h4, h5, h6⟩ := hW.row hl hp
        have e1 : (c.toList.drop (p.base + o)).take (n * esz) = (((c.toList.drop p.base).take l.length).drop o).take (n * esz) := by
          rw [List.drop_take, List.drop_drop, List.take_take, Nat.min_eq_left (by omega)]
        refine ⟨(c.toList.drop (p.base + o)).take (n * esz), by rw [e1]; exact (h5.drop _).take _, by simp; omega, ?_, fun w' hw' => ?_⟩
        · rw [e1]; intro u hu; exact h6 u (List.mem_of_mem_drop (List.mem_of_mem_take hu))
        · simp only [Builtin.firstCells]
          exact run_loadCells_row (by rw [hw']; exact hb) (by omega)
      have zero : ∀ (ad : Addr) (w' : World), (Builtin.firstCells esz 0 (.slice (some ad) 0 0)).run P w' = .ok #[] w' := fun ad w' => by simp [Builtin.firstCells, loadCells, loadCellsFrom]
      cases hx with
      | slx hp hn =>
        obtain ⟨news, g1, g2, g3, g4⟩ := main _ _ hp
        exact ⟨_, _, news, rfl, g1, g2, g3, by simp, g4⟩
      | slxz hp ad => exact ⟨_, _, [], rfl, by simp; exact .nil, by simp, by simp, by simp, fun w' _ => zero ad w'⟩
      | slo hp hn hs =>
        obtain ⟨news, g1, g2, g3, g4⟩ := main _ _ hp
        exact ⟨_, _, news, rfl, g1, g2, g3, by simp, g4⟩
      | sloz hp ad => exact ⟨_, _, [], rfl, by simp; exact .nil, by simp, by simp, by simp, fun w' _ => zero ad w'⟩
    · cases h
  · cases h
theorem src_cell (hW : WR Z σ H w) {x : AV} {vx : Value} (hx : VR Z σ x vx) {m : Nat} {xs : List AV} (h : aslcells 1 x H = some (m, xs)) :
    ∃ ad cap news, vx = .slice ad m cap ∧ VRs Z σ xs news ∧ news.length = m ∧ (ad = none → m = 0) ∧ ∀ b, ad = some b → ∀ (j : Nat) (v : Value), news[j]? = some v → w.cell? (b.add j) = some v := by
  unfold aslcells at h
  split at h
  · simp only [Option.some.injEq, Prod.mk.injEq] at h; obtain ⟨rfl, rfl⟩ := h
    exact ⟨none, 0, [], hx.nils_inv, .nil, rfl, fun _ => rfl, fun b hb => by cases hb⟩
  · rename_i l n ex
    split at h <;> simp only [Option.some.injEq, Prod.mk.injEq, reduceCtorEq] at h
    rename_i hl
    obtain ⟨rfl, rfl⟩ := h
    cases hx with
    | simz ad hx0 => exact ⟨some ad, _, [], rfl, .nil, rfl, (fun h => by cases h), fun b _ j v hv => by simp at hv⟩
    | simn => exact ⟨none, 0, [], rfl, .nil, rfl, fun _ => rfl, fun b hb => by cases hb⟩
    | sim hn hxx hs hz h1 hv =>
      rename_i cap ad c el fr
      obtain ⟨b0, o0, s0⟩ := ad
      simp only at hs; subst hs
      have hlen := hv.length
      refine ⟨some ⟨b0, o0, none⟩, cap, _, rfl, hv, by rw [← hlen, hl, Nat.mul_one], (fun h => by cases h), fun b hb j v hj => ?_⟩
      cases hb
      have hb : w.heap[b0]? = some (.cells c el fr) := hW.z _ _ hz
      rw [add_none]
      simp only [World.cell?, hb]
      simp only at hj
      rw [List.getElem?_take] at hj
      split at hj
      · rw [List.getElem?_drop] at hj
        simpa using hj
      · cases hj
  · rename_i r o n lim
    split at h
    · rename_i l hl
      split at h <;> simp only [Option.some.injEq, Prod.mk.injEq, reduceCtorEq] at h
      rename_i hlen
      obtain ⟨rfl, rfl⟩ := h
      have main : ∀ (p : Plc) (cap : Nat), σ r = some p → ∃ news, VRs Z σ ((l.drop o).take (n * 1)) news ∧ news.length = n ∧ ∀ b, some (⟨p.b, p.base + o, none⟩ : Addr) = some b → ∀ (j : Nat) (v : Value), news[j]? = some v → w.cell? (b.add j) = some v := by
        intro p cap hp
        obtain ⟨_, c, el, fr, hb, _, _, h4, h5, h6⟩ := hW.row hl hp
        have e1 : (c.toList.drop (p.base + o)).take (n * 1) = (((c.toList.drop p.base).take l.length).drop o).take (n * 1) := by
          rw [List.drop_take, List.drop_drop, List.take_take, Nat.min_eq_left (by omega)]
        refine ⟨(c.toList.drop (p.base + o)).take (n * 1), by rw [e1]; exact (h5.drop _).take _, by simp; omega, fun b hbb j v hj => ?_⟩
        cases hbb
        rw [add_none]
        simp only [World.cell?, hb]
        rw [List.getElem?_take] at hj
        split at hj
        · rw [List.getElem?_drop] at hj
          simpa using hj
        · cases hj
      cases hx with
      | slx hp hn =>
        obtain ⟨news, g1, g2, g3⟩ := main _ 0 hp
        exact ⟨_, _, news, rfl, g1, g2, (fun h => by cases h), g3⟩
      | slxz hp ad => exact ⟨some ad, _, [], rfl, by simp; exact .nil, rfl, (fun h => by cases h), fun b _ j v hv => by simp at hv⟩
      | slo hp hn hs =>
        obtain ⟨news, g1, g2, g3⟩ := main _ 0 hp
        exact ⟨_, _, news, rfl, g1, g2, (fun h => by cases h), g3⟩
      | sloz hp ad => exact ⟨some ad, _, [], rfl, by simp; exact .nil, rfl, (fun h => by cases h), fun b _ j v hv => by simp at hv⟩
    · cases h
  · cases h
end
end Go.AL
namespace Go.AL
def splice (l : List AV) (o : Nat) (vs : List AV) : List AV :=
  match vs with
  | [v] => l.set o v
  | vs => l.take o ++ vs ++ l.drop (o + vs.length)
theorem splice_eq {l : List AV} {o : Nat} {vs : List AV} (h : o + vs.length ≤ l.length) : splice l o vs = l.take o ++ vs ++ l.drop (o + vs.length) := by
  unfold splice
  split
  · rename_i v
    simp only [List.length_cons, List.length_nil] at h ⊢
    rw [List.set_eq_take_append_cons_drop, if_pos (by omega)]
    simp
  · rfl
theorem splice_len {l : List AV} {o : Nat} {vs : List AV} (h : o + vs.length ≤ l.length) : (splice l o vs).length = l.length := by
  rw [splice_eq h]; simp; omega
section
variable {P : Program} {Z : Zt} {σ : Sg} {H : AH} {e : Env} {a : Act} {w : World}
theorem heap_setCells (b : Nat) (el : TypeId) (fr : Nat × Nat) : ∀ (vs : List Value) (o : Nat) (w : World) (c : Array Value), w.heap[b]? = some (.cells c el fr) → o + vs.length ≤ c.size →
    ∃ c', (w.setCells b o vs).heap[b]? = some (.cells c' el fr) ∧ c'.size = c.size ∧ c'.toList = c.toList.take o ++ vs ++ c.toList.drop (o + vs.length) ∧ ∀ x, x ≠ b → (w.setCells b o vs).heap[x]? = w.heap[x]?
  | [], o, w, c, hb, _ => ⟨c, hb, rfl, by simp, fun _ _ => rfl⟩
  | v :: vs, o, w, c, hb, h => by
    simp only [List.length_cons] at h
    have h1 : (w.setCell ⟨b, o, none⟩ v).heap[b]? = some (.cells (c.setIfInBounds o v) el fr) := by
      simp only [World.setCell, Array.getElem?_modify, if_true, hb, Option.map_some]
      simp
    have h2 : ∀ x, x ≠ b → (w.setCell ⟨b, o, none⟩ v).heap[x]? = w.heap[x]? := by
      intro x hx
      simp only [World.setCell, Array.getElem?_modify]
      rw [if_neg (fun e => hx e.symm)]
    obtain ⟨c', g1, g2, g3, g4⟩ := heap_setCells b el fr vs (o + 1) (w.setCell ⟨b, o, none⟩ v) _ h1 (by simp; omega)
    refine ⟨c', g1, by rw [g2]; simp, ?_, fun x hx => (g4 x hx).trans (h2 x hx)⟩
    rw [g3, Array.toList_setIfInBounds]
    have hs : o < c.toList.length := by simp; omega
    have e1 : (c.toList.set o v).take (o + 1) = c.toList.take o ++ [v] := by
      rw [List.take_set, List.take_succ_eq_append_getElem hs, List.set_append_right _ _ (by rw [List.length_take]; omega)]
      have e : o - (c.toList.take o).length = 0 := by rw [List.length_take]; omega
      rw [e]; rfl
    have e2 : (c.toList.set o v).drop (o + 1 + vs.length) = c.toList.drop (o + (vs.length + 1)) := by
      rw [List.drop_set_of_lt (by omega), show o + 1 + vs.length = o + (vs.length + 1) by omega]
    rw [e1, e2]
    simp
theorem splice_cells {C us : List Value} {base o n : Nat} (h1 : o + us.length ≤ n) (h2 : base + n ≤ C.length) :
    ((C.take (base + o) ++ us ++ C.drop (base + o + us.length)).drop base).take n = ((C.drop base).take n).take o ++ us ++ ((C.drop base).take n).drop (o + us.length) := by
  have hC : C = C.take base ++ C.drop base := (List.take_append_drop base C).symm
  generalize hA : C.take base = A at *
  generalize hB : C.drop base = B at *
  have lA : A.length = base := by rw [← hA, List.length_take]; omega
  have lB : n ≤ B.length := by rw [← hB, List.length_drop]; omega
  subst hC
  have e1 : (A ++ B).take (base + o) = A ++ B.take o := by rw [List.take_append, lA]; simp [List.take_of_length_le (by omega : A.length ≤ base + o)]
  have e2 : (A ++ B).drop (base + o + us.length) = B.drop (o + us.length) := by
    rw [List.drop_append, lA, List.drop_of_length_le (by omega), show base + o + us.length - base = o + us.length by omega]; simp
  rw [e1, e2]
  have e3 : (A ++ B.take o ++ us ++ B.drop (o + us.length)).drop base = B.take o ++ us ++ B.drop (o + us.length) := by
    simp only [List.append_assoc]
    rw [List.drop_append, lA, List.drop_of_length_le (by omega)]
    simp
  rw [e3]
  have lo : (B.take o).length = o := by rw [List.length_take]; omega
  rw [List.take_append, List.take_of_length_le (by simp; omega), List.length_append, lo, List.take_take, Nat.min_eq_left (by omega)]
  congr 1
  rw [List.drop_take]
theorem os_setCells (b : Nat) : ∀ (vs : List Value) (o : Nat) (w : World), (w.setCells b o vs).os = w.os ∧ (w.setCells b o vs).output = w.output
  | [], _, _ => ⟨rfl, rfl⟩
  | v :: vs, o, w => os_setCells b vs (o + 1) (w.setCell ⟨b, o, none⟩ v)
theorem rest_setCells {b : Nat} {el : TypeId} {fr : Nat × Nat} {vs : List Value} {o : Nat} {w : World} {c : Array Value} (hb : w.heap[b]? = some (.cells c el fr)) (h : o + vs.length ≤ c.size) : Rest w (w.setCells b o vs) := by
  exact ⟨(os_setCells b vs o w).1, (os_setCells b vs o w).2⟩
theorem WR.splice (hW : WR Z σ H w) {r : Nat} {l : List AV} {p : Plc} (hr : H.cells? r = some l) (hp : σ r = some p) {o : Nat} {vs : List AV} {us : List Value} (hv : VRs Z σ vs us)
    (h1 : ∀ u ∈ us, u.oneCell' = true) (ho : o + vs.length ≤ l.length) :
    (storeCells ⟨p.b, p.base + o, none⟩ us).run P w = .ok () (w.setCells p.b (p.base + o) us) ∧ WR Z σ (H.set r (.cells (Go.AL.splice l o vs))) (w.setCells p.b (p.base + o) us) := by
  obtain ⟨hz, c, el, fr, hb, hs, hf, hl, hv', h1'⟩ := hW.row hr hp
  have hlen := hv.length
  obtain ⟨c', g1, g2, g3, g4⟩ := heap_setCells p.b el fr us (p.base + o) w c hb (by omega)
  constructor
  · have := run_storeCells_cells (P := P) p.b (p.base + o) us 0 w (fun j hj => by
        simp only [World.cell?, hb, Nat.add_zero]
        simp; omega) (fun j hj => by
        simp only [World.frozen?, hb, Nat.add_zero]
        have := hf.not (p.base + o + j) (by omega)
        simp at this ⊢
        omega) h1
    simpa using this
  · refine hW.update (cells?_some hr) hp g4 (rest_setCells hb (by omega)) ?_
    have e : (c'.toList.drop p.base).take (Go.AL.splice l o vs).length = ((c.toList.drop p.base).take l.length).take o ++ us ++ ((c.toList.drop p.base).take l.length).drop (o + us.length) := by
      rw [splice_len ho, g3]
      exact splice_cells (by omega) (by simp; omega)
    refine .cells g1 (by omega) (by rw [g2]; exact hf) (by rw [splice_len ho, g2]; exact hl) ?_ ?_
    · rw [e, splice_eq ho, hlen]
      exact ((hv'.take o).append hv).append (hv'.drop _)
    · rw [e]; intro u hu
      rcases List.mem_append.1 hu with hu | hu
      · rcases List.mem_append.1 hu with hu | hu
        · exact h1' u (List.mem_of_mem_take hu)
        · exact h1 u hu
      · exact h1' u (List.mem_of_mem_drop hu)
def Nw (σ : Sg) (n : Nat) (σ' : Sg) : Prop := ∀ r, r < n → σ' r = σ r
theorem Nw.refl (σ : Sg) (n : Nat) : Nw σ n σ := fun _ _ => rfl
theorem Nw.add (σ : Sg) (n : Nat) (p : Plc) : Nw σ n (σ.add n p) := by
  intro r hr
  have : r ≠ n := by omega
  simp [Sg.add, this]
theorem Nw.trans {σ σ' σ'' : Sg} {n m : Nat} (h : Nw σ n σ') (h' : Nw σ' m σ'') (hn : n ≤ m) : Nw σ n σ'' := fun r hr => (h' r (by omega)).trans (h r hr)
theorem WR.sle (hW : WR Z σ H w) {σ' : Sg} (h : Nw σ H.next σ') : Sle σ σ' := fun r p hr => by
  by_cases hlt : r < H.next
  · rw [h r hlt]; exact hr
  · rw [hW.fresh r (by omega)] at hr; cases hr
theorem WR.newRow (hW : WR Z σ H w) {l : List AV} {c : Array Value} (el : TypeId) (hl : l.length ≤ c.size) (hv : VRs Z σ l (c.toList.take l.length)) (h1 : ∀ u ∈ c.toList.take l.length, u.oneCell' = true) :
    WR Z (σ.add H.next ⟨w.heap.size, 0, c.size⟩) (H.push (.cells l)) (w.alloc (.cells c el)) ∧ Nw σ H.next (σ.add H.next ⟨w.heap.size, 0, c.size⟩) := by
  have hS : Sle σ (σ.add H.next ⟨w.heap.size, 0, c.size⟩) := Sg.add_le (hW.fresh _ (Nat.le_refl _))
  refine ⟨hW.push rfl ?_ (Rest.alloc _ _ _), Nw.add _ _ _⟩
  refine .cells (heap_alloc_eq w _) rfl (.inl rfl) (by simpa using hl) ?_ ?_
  · simp only [List.drop_zero]; exact hv.mono (Zle.refl _) hS
  · simpa using h1
theorem aalloc_sound (hW : WR Z σ H w) {t : TypeId} {z : List AV} (hz : tzero P t = some z) :
    ∃ cv w' σ', (Instr.alloc t true (.tuple #[])).run P w = .ok cv w' ∧ Nw σ H.next σ' ∧ WR Z σ' (H.push (.cells z)) w' ∧ VR Z σ' (.ptr H.next 0) cv := by
  obtain ⟨i, zv, h1, h2, h3, h4⟩ := tzero_sound (Z := Z) (σ := σ) hz
  have hlen := h3.length
  have hl : z.length = zv.cells.size := by simpa using hlen
  have ht : zv.cells.toList.take z.length = zv.cells.toList := List.take_of_length_le (by simp; omega)
  obtain ⟨g1, g2⟩ := hW.newRow (l := z) (c := zv.cells) t (by omega) (by rw [ht]; exact h3) (by rw [ht]; exact h4)
  refine ⟨.pointer (some ⟨w.heap.size, 0, none⟩), _, _, ?_, g2, g1, .ptr (p := ⟨w.heap.size, 0, zv.cells.size⟩) (Sg.add_same _ _ _)⟩
  simp [Instr.alloc, zeroValue, typeInfo, h1, h2, newVar, newRow]
theorem abox_sound (hW : WR Z σ H w) (t : TypeId) {x : AV} {vx : Value} (hx : VR Z σ x vx) {l : List AV} (hl : x.cellsOf = some l) :
    ∃ cv w' σ', (Instr.box t vx).run P w = .ok cv w' ∧ Nw σ H.next σ' ∧ WR Z σ' (H.push (.cells l)) w' ∧ VR Z σ' (.ptr H.next 0) cv := by
  obtain ⟨h3, h4⟩ := AV.cellsOf_sound hl hx
  have hlen := h3.length
  have hl : l.length = vx.cells.size := by simpa using hlen
  have ht : vx.cells.toList.take l.length = vx.cells.toList := List.take_of_length_le (by simp; omega)
  obtain ⟨g1, g2⟩ := hW.newRow (l := l) (c := vx.cells) t (by omega) (by rw [ht]; exact h3) (by rw [ht]; exact h4)
  refine ⟨.pointer (some ⟨w.heap.size, 0, none⟩), _, _, ?_, g2, g1, .ptr (p := ⟨w.heap.size, 0, vx.cells.size⟩) (Sg.add_same _ _ _)⟩
  simp [Instr.box, newVar, newRow]
theorem astore_sound (hW : WR Z σ H w) {t : TypeId} {n : Nat} (hn : tsize P t = some n) {r o : Nat} {vp : Value} (hp : VR Z σ (.ptr r o) vp) {x : AV} {vx : Value} (hx : VR Z σ x vx) {l vs : List AV}
    (hr : H.cells? r = some l) (hv : x.cellsOf = some vs) (hlen : vs.length = n) (ho : o + n ≤ l.length) :
    ∃ w', (Instr.storeAt t vp vx).run P w = .ok () w' ∧ WR Z σ (H.set r (.cells (Go.AL.splice l o vs))) w' := by
  obtain ⟨p, hp', rfl⟩ := hp.ptr_inv
  obtain ⟨h3, h4⟩ := AV.cellsOf_sound hv hx
  have hl : vs.length = vx.cells.size := by simpa using h3.length
  obtain ⟨g1, g2⟩ := hW.splice (P := P) hr hp' (o := o) h3 h4 (by omega)
  refine ⟨_, ?_, g2⟩
  have : vx.cells.size = n := by omega
  simp [Instr.storeAt, Instr.sureAddr, storeVar, tsize_sound hn, this, g1]
end
end Go.AL
namespace Go.AL
section
variable {P : Program} {Z : Zt} {σ : Sg} {H : AH} {e : Env} {a : Act} {w : World}
theorem repl_length (n : Nat) (z : List AV) : (repl n z).length = n * z.length := by simp [repl]
theorem repl_rel {z : List AV} {c : Array Value} (hv : VRs Z σ z c.toList) (h1 : ∀ u ∈ c.toList, u.oneCell' = true) (hz : 0 < z.length) (n : Nat) :
    VRs Z σ (repl n z) ((Array.range (n * c.size)).map (c[· % c.size]!)).toList ∧ ∀ u ∈ ((Array.range (n * c.size)).map (c[· % c.size]!)).toList, u.oneCell' = true := by
  have hl : z.length = c.size := by simpa using hv.length
  have hget : ∀ i, i < c.size → c[i]! = c.toList[i]?.getD default := by
    intro i hi
    rw [getElem!_pos c i hi]
    simp [hi]
  constructor
  · refine VRs.of_get (by simp [repl, hl]) ?_
    intro i x v hx hv'
    simp only [repl, List.getElem?_map, Option.map_eq_some_iff, hl] at hx
    obtain ⟨j, hj, rfl⟩ := hx
    have hji : j = i := by
      have := List.getElem?_eq_some_iff.1 hj
      obtain ⟨hlt, hge⟩ := this
      simpa using hge.symm
    subst hji
    have hmod : j % c.size < c.size := Nat.mod_lt _ (by omega)
    have hv2 : v = c[j % c.size]! := by
      simp only [Array.toList_map, List.getElem?_map, Option.map_eq_some_iff] at hv'
      obtain ⟨k, hk, rfl⟩ := hv'
      have := List.getElem?_eq_some_iff.1 hk
      obtain ⟨hlt, hge⟩ := this
      have : k = j := by simpa using hge.symm
      rw [this]
    subst hv2
    have hzz : z[j % c.size]? = some (z[j % c.size]'(by omega)) := List.getElem?_eq_getElem (by omega)
    obtain ⟨cv, g1, g2⟩ := hv.get hzz
    rw [hzz, Option.getD_some, hget _ hmod, g1, Option.getD_some]
    exact g2
  · intro u hu
    simp only [Array.toList_map, List.mem_map] at hu
    obtain ⟨j, _, rfl⟩ := hu
    have hmod : j % c.size < c.size := Nat.mod_lt _ (by omega)
    rw [getElem!_pos c _ hmod]
    exact h1 _ (by simp)
theorem abuildSlice_sound (hW : WR Z σ H w) (he : ER Z σ e a) {t el : TypeId} {n len : Nat} (hu : P.underlying t = some (.slice el)) (hn : tsize P el = some n) {z : List AV} (hz : tzero P el = some z) (hnz : n = z.length) (hn0 : 0 < n)
    (hlim : len * n ≤ 2 ^ 24) {ps : Array (Nat × Operand)} {qs : List (Nat × Nat × AOpd)} (hq : cParts (fun i => some (i * n, n)) ps.toList = some qs) {out : List AV} (hf : afill e (repl len z) qs = some out) :
    ∃ cv w' σ', (Instr.buildSlice t len (ps.map fun (i, x) => (i, a.eval x))).run P w = .ok cv w' ∧ Nw σ H.next σ' ∧ WR Z σ' (H.push (.cells out)) w' ∧ VR Z σ' (.sl H.next 0 len (.ex len)) cv := by
  obtain ⟨i, zv, h1, h2, h3, h4⟩ := tzero_sound (Z := Z) (σ := σ) hz
  have hl : z.length = zv.cells.size := by simpa using h3.length
  obtain ⟨g1, g2⟩ := repl_rel h3 h4 (by omega) len
  obtain ⟨vs', r1, r2, r3⟩ := fill_sound he hq (vs := (Array.range (len * zv.cells.size)).map (zv.cells[· % zv.cells.size]!)) g1 g2 hf
  have hlo : out.length = vs'.size := by simpa using r2.length
  have ht : vs'.toList.take out.length = vs'.toList := List.take_of_length_le (by simp; omega)
  obtain ⟨k1, k2⟩ := hW.newRow (l := out) (c := vs') el (by omega) (by rw [ht]; exact r2) (by rw [ht]; exact r3)
  refine ⟨.slice (some ⟨w.heap.size, 0, none⟩) len len, _, _, ?_, k2, k1, .slx (p := ⟨w.heap.size, 0, vs'.size⟩) (Sg.add_same _ _ _) (Nat.le_refl _)⟩
  have hns : n = zv.cells.size := by omega
  have hlim' : ¬ (16777216 < len * n) := by omega
  by_cases h0 : len * n = 0
  · have e0 : ((Array.range (len * n)).map (#[][· % (#[] : Array Value).size]!)) = (Array.range (len * zv.cells.size)).map (zv.cells[· % zv.cells.size]!) := by
      rw [← hns, h0]; simp
    simp only [Instr.buildSlice, Sem.run_bind, run_underlying hu, Result.andThen_ok, tsize_sound hn, if_neg (show ¬ (len * n > 2 ^ 24) by omega), if_pos h0, Sem.run_pure, e0, Array.toList_map, r1, newRow, run_newObj]
    rfl
  · have hzv : (zeroValue el).run P w = .ok zv w := by simp [zeroValue, typeInfo, h1, h2]
    subst hns
    simp only [Instr.buildSlice, Sem.run_bind, run_underlying hu, Result.andThen_ok, tsize_sound hn, if_neg (show ¬ (len * zv.cells.size > 2 ^ 24) by omega), if_neg h0, Sem.run_pure, hzv, Array.toList_map, r1, newRow, run_newObj]
    rfl
theorem wrap64_id {n : Int} (h0 : 0 ≤ n) (h1 : n ≤ 9223372036854775807) : IntKind.i64.wrap n = n := by
  have e : n % (2 ^ 64 : Int) = n := Int.emod_eq_of_lt h0 (by omega)
  have : IntKind.i64.wrap n = if n % (2 ^ 64 : Int) ≥ (2 ^ 63 : Int) then n % (2 ^ 64 : Int) - (2 ^ 64 : Int) else n % (2 ^ 64 : Int) := by
    simp [IntKind.wrap, IntKind.bits, IntKind.signed]
  rw [this, e, if_neg (by omega)]
theorem amkSlice_sound (hW : WR Z σ H w) {t el : TypeId} (hu : P.underlying t = some (.slice el)) {i : TypeInfo} (hi : P.info? el = some i) {z : List AV} (hz : tzero P el = some z) (hnz : i.size = z.length) (hn0 : 0 < i.size)
    {k k' : IntKind} {l c : Int} (h0 : 0 ≤ l) (hlc : l ≤ c) (hc : c ≤ 9223372036854775807) (hb : (i.bytes : Int) * c ≤ 281474976710656) :
    ∃ cv w' σ', (Instr.makeSlice t (.int k l) (.int k' c)).run P w = .ok cv w' ∧ Nw σ H.next σ' ∧ WR Z σ' (H.push (.cells (repl c.toNat z))) w' ∧ VR Z σ' (.sl H.next 0 l.toNat (.ex c.toNat)) cv := by
  obtain ⟨i', zv, h1, h2, h3, h4⟩ := tzero_sound (Z := Z) (σ := σ) hz
  rw [hi] at h1; cases h1
  have hl : z.length = zv.cells.size := by simpa using h3.length
  obtain ⟨g1, g2⟩ := repl_rel h3 h4 (by omega) c.toNat
  have hlo : (repl c.toNat z).length = ((Array.range (c.toNat * zv.cells.size)).map (zv.cells[· % zv.cells.size]!)).size := by simp [repl_length, hl]
  have ht : ((Array.range (c.toNat * zv.cells.size)).map (zv.cells[· % zv.cells.size]!)).toList.take (repl c.toNat z).length = ((Array.range (c.toNat * zv.cells.size)).map (zv.cells[· % zv.cells.size]!)).toList :=
    List.take_of_length_le (by rw [Array.length_toList]; omega)
  obtain ⟨k1, k2⟩ := hW.newRow (l := repl c.toNat z) (c := (Array.range (c.toNat * zv.cells.size)).map (zv.cells[· % zv.cells.size]!)) el (by omega) (by rw [ht]; exact g1) (by rw [ht]; exact g2)
  refine ⟨.slice (some ⟨w.heap.size, 0, none⟩) l.toNat c.toNat, _, _, ?_, k2, k1, .slx (p := ⟨w.heap.size, 0, _⟩) (Sg.add_same _ _ _) (by omega)⟩
  have e1 : ¬ (c < 0) := by omega
  have e2 : ¬ (281474976710656 < (i.bytes : Int) * c) := by omega
  have e3 : ¬ (l < 0) := by omega
  have e4 : ¬ (c < l) := by omega
  have hns : i.size = zv.cells.size := by omega
  by_cases hz0 : c.toNat * zv.cells.size = 0
  · have hzz : c.toNat = 0 := by
      rcases Nat.mul_eq_zero.1 hz0 with h | h
      · exact h
      · omega
    simp [Instr.makeSlice, asInt, asIntOf, run_underlying hu, typeInfo, hi, wrap64_id h0 (by omega), wrap64_id (by omega : 0 ≤ c) hc, e1, e2, e3, e4, sizeOf, newRow, hzz]
    have : Array.range 0 = #[] := by simp
    rw [this]
    simp
  · simp [Instr.makeSlice, asInt, asIntOf, run_underlying hu, typeInfo, hi, wrap64_id h0 (by omega), wrap64_id (by omega : 0 ≤ c) hc, e1, e2, e3, e4, sizeOf, hns, zeroValue, h2, newRow, hz0]
end
end Go.AL
namespace Go.AL
def aappend (esz bytes : Nat) (s x : AV) (H : AH) : Option (AV × AH) :=
  match aslcells esz x H with
  | none => none
  | some (m, xs) =>
    match s with
    | .nils => if m = 0 then some (.nils, H) else if m * bytes ≤ 140737488355328 ∧ m ≤ 9223372036854775807 then some (.sl H.next 0 m (.op esz), H.push (.cells xs)) else none
    | .sim l n ex => if m = 0 then some (.sim l n ex, H) else
        if ex = true ∧ l.length = n * esz ∧ (n + m) * bytes ≤ 140737488355328 ∧ n + m ≤ 9223372036854775807 then some (.sl H.next 0 (n + m) (.op esz), H.push (.cells (l ++ xs))) else none
    | .sl r o n (.ex q) => match H.cells? r with
      | none => none
      | some l =>
        if n + m ≤ q then (if o + (n + m) * esz ≤ l.length then some (.sl r o (n + m) (.ex q), H.set r (.cells (splice l (o + n * esz) xs))) else none)
        else if o + n * esz ≤ l.length ∧ (n + m) * bytes ≤ 140737488355328 ∧ n + m ≤ 9223372036854775807 then some (.sl H.next 0 (n + m) (.op esz), H.push (.cells ((l.drop o).take (n * esz) ++ xs))) else none
    | .sl r o n (.op es) => match H.cells? r with
      | none => none
      | some l =>
        if m = 0 then some (.sl r o n (.op es), H) else
        if es = esz ∧ o + n * esz ≤ l.length ∧ (n + m) * bytes ≤ 140737488355328 ∧ n + m ≤ 9223372036854775807 then
          some (.sl H.next 0 (n + m) (.op esz), (H.erase r).push (.cells ((l.drop o).take (n * esz) ++ xs))) else none
    | _ => none
section
variable {P : Program} {Z : Zt} {σ : Sg} {H : AH} {w : World}
theorem run_append_new {t u el : TypeId} {i : TypeInfo} {z : Value} (ht : P.underlying t = some (.slice el)) (hu : ∃ d, P.underlying u = some (.slice d)) (hi : P.info? el = some i) (hz : i.zero = some z) (ty : TypeId)
    {ad ad' : Option Addr} {n cap m cap' : Nat} {olds news : List Value}
    (ho : ∀ w' : World, w'.heap = w.heap → (Builtin.firstCells i.size n (.slice ad n cap)).run P w' = .ok olds.toArray w')
    (hn : ∀ w' : World, w'.heap = w.heap → (Builtin.firstCells i.size m (.slice ad' m cap')).run P w' = .ok news.toArray w')
    (hg : cap < n + m) (h63 : n + m ≤ 9223372036854775807) (hb : (n + m) * i.bytes ≤ 140737488355328) :
    (Builtin.append_ #[t, u] ty #[.slice ad n cap, .slice ad' m cap']).run P w =
      .ok (.slice (some ⟨w.heap.size, 0, none⟩) (n + m) (grownCap w (n + m) cap el))
        (w.drew.alloc (.cells (olds.toArray ++ news.toArray ++ Builtin.zeroCells z.cells (grownCap w (n + m) cap el - (n + m))) el)) := by
  obtain ⟨d, hu⟩ := hu
  have hn1 : ¬ (n + m ≤ cap) := by omega
  have h63' : ¬ (9223372036854775807 < ((n : Int) + (m : Int))) := by omega
  have hfit := growslice_fits hg hb
  have h48' : ¬ (281474976710656 < Builtin.nextslicecap (n + m) cap * i.bytes) := by omega
  have h1 := ho w.drew rfl
  have h2 := hn w.drew rfl
  simp [Builtin.append_, run_underlying ht, run_underlying hu, sizeOf, typeInfo, zeroValue, hi, hz, Builtin.lenOf, hn1, h63', h48', Question.forced, h1, h2, newRow, grownCap]
  congr 2
  apply Array.ext'
  simp [List.append_assoc]
theorem run_append_fits {t u el : TypeId} {i : TypeInfo} (ht : P.underlying t = some (.slice el)) (hu : ∃ d, P.underlying u = some (.slice d)) (hi : P.info? el = some i) (ty : TypeId)
    {b o : Nat} {n cap m cap' : Nat} {ad' : Option Addr} {news : List Value} {w' : World}
    (hn : (Builtin.firstCells i.size m (.slice ad' m cap')).run P w = .ok news.toArray w)
    (hs : (storeCells ⟨b, o + n * i.size, none⟩ news).run P w = .ok () w') (hg : n + m ≤ cap) :
    (Builtin.append_ #[t, u] ty #[.slice (some ⟨b, o, none⟩) n cap, .slice ad' m cap']).run P w = .ok (.slice (some ⟨b, o, none⟩) (n + m) cap) w' := by
  obtain ⟨d, hu⟩ := hu
  simp [Builtin.append_, run_underlying ht, run_underlying hu, sizeOf, typeInfo, hi, Builtin.lenOf, hg, hn, add_none, hs]
theorem run_append_none {t u el : TypeId} {i : TypeInfo} (ht : P.underlying t = some (.slice el)) (hu : ∃ d, P.underlying u = some (.slice d)) (hi : P.info? el = some i) (ty : TypeId)
    {ad ad' : Option Addr} {n cap cap' : Nat} (hn : (Builtin.firstCells i.size 0 (.slice ad' 0 cap')).run P w = .ok #[] w) (hg : n ≤ cap) :
    (Builtin.append_ #[t, u] ty #[.slice ad n cap, .slice ad' 0 cap']).run P w = .ok (.slice ad n cap) w := by
  obtain ⟨d, hu⟩ := hu
  cases ad <;> simp [Builtin.append_, run_underlying ht, run_underlying hu, sizeOf, typeInfo, hi, Builtin.lenOf, hg, hn, storeCells]
theorem WR.rehome {w' : World} (h : WR Z σ H w) {r : Nat} {o ao : AObj} {p p' : Plc} (hr : H.get r = some o) (hp : σ r = some p) (hb : p'.b = p.b)
    (hother : ∀ b, b ≠ p.b → w'.heap[b]? = w.heap[b]?) (hrest : Rest w w') (ho : ObjR Z (σ.add H.next p') w' p' ao) :
    WR Z (σ.add H.next p') ((H.erase r).push ao) w' := by
  have hf : σ H.next = none := h.fresh _ (Nat.le_refl _)
  have hz0 := (h.h r o p hr hp).1
  have hne : r ≠ H.next := fun e => by subst e; rw [hf] at hp; cases hp
  have old : ∀ q x p1, ((H.erase r).push ao).get q = some x → (σ.add H.next p') q = some p1 → q ≠ H.next → H.get q = some x ∧ σ q = some p1 ∧ q ≠ r := by
    intro q x p1 h1 h2 h3
    have h1' : (H.erase r).get q = some x := by
      have : q ≠ (H.erase r).next := h3
      rwa [AH.get_push_ne _ _ this] at h1
    have hq : q ≠ r := fun e => by subst e; simp [AH.get_erase] at h1'
    exact ⟨by simpa [AH.get_erase, hq] using h1', by simpa [Sg.add, h3] using h2, hq⟩
  have new : ∀ x p1, ((H.erase r).push ao).get H.next = some x → (σ.add H.next p') H.next = some p1 → x = ao ∧ p1 = p' := by
    intro x p1 h1 h2
    have h1' : ((H.erase r).push ao).get (H.erase r).next = some x := h1
    rw [AH.get_push_same] at h1'
    rw [Sg.add_same] at h2
    exact ⟨(Option.some.inj h1').symm, (Option.some.inj h2).symm⟩
  refine ⟨fun b x hz => ?_, fun q x p1 hq hp1 => ?_, fun r1 r2 o1 o2 p1 p2 h1 h2 h3 h4 he => ?_, fun q hq => ?_, fun q hq => ?_, h.rest.to hrest⟩
  · rw [hother b (fun e => by subst e; rw [hz0] at hz; cases hz)]; exact h.z b x hz
  · by_cases e : q = H.next
    · subst e
      obtain ⟨rfl, rfl⟩ := new x p1 hq hp1
      exact ⟨by rw [hb]; exact hz0, ho⟩
    · obtain ⟨g1, g2, g3⟩ := old q x p1 hq hp1 e
      obtain ⟨k1, k2⟩ := h.h q x p1 g1 g2
      exact ⟨k1, k2.mono (Zle.refl _) (Sg.add_le hf) (hother _ fun e' => g3 (h.inj q r x o p1 p g1 hr g2 hp e'))⟩
  · by_cases e1 : r1 = H.next <;> by_cases e2 : r2 = H.next
    · rw [e1, e2]
    · subst e1
      obtain ⟨rfl, rfl⟩ := new o1 p1 h1 h3
      obtain ⟨g1, g2, g3⟩ := old r2 o2 p2 h2 h4 e2
      exact absurd (h.inj r2 r o2 o p2 p g1 hr g2 hp (by rw [← he, hb])) g3
    · subst e2
      obtain ⟨rfl, rfl⟩ := new o2 p2 h2 h4
      obtain ⟨g1, g2, g3⟩ := old r1 o1 p1 h1 h3 e1
      exact absurd (h.inj r1 r o1 o p1 p g1 hr g2 hp (by rw [he, hb])) g3
    · obtain ⟨g1, g2, g3⟩ := old r1 o1 p1 h1 h3 e1
      obtain ⟨k1, k2, k3⟩ := old r2 o2 p2 h2 h4 e2
      exact h.inj r1 r2 o1 o2 p1 p2 g1 k1 g2 k2 he
  · have hq' : H.next + 1 ≤ q := hq
    have : q ≠ H.next := by omega
    simp only [Sg.add, this, if_false]
    exact h.fresh q (by omega)
  · have hq' : H.next + 1 ≤ q := hq
    have hn : q ≠ (H.erase r).next := by simp only [AH.next_erase]; omega
    rw [AH.get_push_ne _ _ hn]
    simp only [AH.get_erase]
    split
    · rfl
    · exact h.top q (by omega)
set_option maxHeartbeats 2000000 in
theorem aappend_sound (hW : WR Z σ H w) {t u el : TypeId} {i : TypeInfo} (ht : P.underlying t = some (.slice el)) (hu : ∃ d, P.underlying u = some (.slice d)) (hi : P.info? el = some i) {z : List AV} (hz : tzero P el = some z)
    (hnz : i.size = z.length) {s x : AV} {vs vx : Value} (hs : VR Z σ s vs) (hx : VR Z σ x vx) (ty : TypeId) {v : AV} {H' : AH} (h : aappend i.size i.bytes s x H = some (v, H')) :
    ∃ cv w' σ', (Builtin.append_ #[t, u] ty #[vs, vx]).run P w = .ok cv w' ∧ Nw σ H.next σ' ∧ WR Z σ' H' w' ∧ VR Z σ' v cv := by
  obtain ⟨i', zv, hi1, hz1, hz2, hz3⟩ := tzero_sound (Z := Z) (σ := σ) hz
  rw [hi] at hi1; cases hi1
  unfold aappend at h
  split at h
  · cases h
  · rename_i m xs hsrc
    obtain ⟨ad', cap', news, rfl, hn1, hn2, hn3, hn4, hn5⟩ := src_sound (P := P) hW hx hsrc
    have nothing : ∀ (ad : Option Addr) (n cap : Nat), m = 0 → n ≤ cap → (Builtin.append_ #[t, u] ty #[.slice ad n cap, .slice ad' m cap']).run P w = .ok (.slice ad n cap) w := by
      intro ad n cap hm hc
      subst hm
      have : news = [] := List.eq_nil_of_length_eq_zero (by omega)
      subst this
      exact run_append_none ht hu hi ty (hn5 w rfl) hc
    have grow : ∀ (ad : Option Addr) (n cap : Nat) (H0 : AH) (ol : List AV) (olds : List Value), WR Z σ H0 w → H0.next = H.next → VRs Z σ ol olds → (∀ v ∈ olds, v.oneCell' = true) → olds.length = n * i.size →
        (∀ w' : World, w'.heap = w.heap → (Builtin.firstCells i.size n (.slice ad n cap)).run P w' = .ok olds.toArray w') → cap < n + m → n + m ≤ 9223372036854775807 → (n + m) * i.bytes ≤ 140737488355328 →
        ∃ cv w' σ', (Builtin.append_ #[t, u] ty #[.slice ad n cap, .slice ad' m cap']).run P w = .ok cv w' ∧ Nw σ H.next σ' ∧ WR Z σ' (H0.push (.cells (ol ++ xs))) w' ∧ VR Z σ' (.sl H.next 0 (n + m) (.op i.size)) cv := by
      intro ad n cap H0 ol olds hW0 hnext ho1 ho2 ho3 ho4 hg h63 hb
      have hrun := run_append_new (w := w) ht hu hi hz1 ty ho4 hn5 hg h63 hb
      have hge := grownCap_ge w (n + m) cap el
      have hzs : zv.cells.size = i.size := by have := hz2.length; simp at this; omega
      have hl1 : ol.length = n * i.size := by rw [ho1.length, ho3]
      have hl2 : xs.length = m * i.size := by rw [hn1.length, hn2]
      have hsz : (olds.toArray ++ news.toArray ++ Builtin.zeroCells zv.cells (grownCap w (n + m) cap el - (n + m))).size = grownCap w (n + m) cap el * i.size := by
        simp only [Array.size_append, List.size_toArray, size_zeroCells, hzs, ho3, hn2, ← Nat.add_mul]
        congr 1; omega
      have htk : (olds.toArray ++ news.toArray ++ Builtin.zeroCells zv.cells (grownCap w (n + m) cap el - (n + m))).toList.take (ol ++ xs).length = olds ++ news := by
        simp only [Array.toList_append, List.append_assoc, List.length_append, hl1, hl2]
        rw [← List.append_assoc, List.take_append_of_le_length (by simp [ho3, hn2]), List.take_of_length_le (by simp [ho3, hn2])]
      have hW1 : WR Z σ H0 w.drew := hW0.congr rfl rfl rfl
      obtain ⟨k1, k2⟩ := hW1.newRow (l := ol ++ xs) (c := olds.toArray ++ news.toArray ++ Builtin.zeroCells zv.cells (grownCap w (n + m) cap el - (n + m))) el
        (by rw [hsz, List.length_append, hl1, hl2, ← Nat.add_mul]; exact Nat.mul_le_mul_right _ hge)
        (by rw [htk]; exact ho1.append hn1)
        (by rw [htk]; intro v hv; rcases List.mem_append.1 hv with h | h; exact ho2 v h; exact hn3 v h)
      refine ⟨_, _, _, hrun, by rw [← hnext]; exact k2, k1, ?_⟩
      rw [← hnext]
      refine .slo (p := ⟨w.drew.heap.size, 0, _⟩) (Sg.add_same _ _ _) hge ?_
      rw [hsz]; simp
    split at h
    ·
      rw [hs.nils_inv]
      split at h
      · rename_i hm
        simp only [Option.some.injEq, Prod.mk.injEq] at h; obtain ⟨rfl, rfl⟩ := h
        exact ⟨_, _, σ, nothing none 0 0 hm (Nat.le_refl _), Nw.refl _ _, hW, .nils⟩
      · rename_i hm
        split at h <;> simp only [Option.some.injEq, Prod.mk.injEq, reduceCtorEq] at h
        rename_i hc
        obtain ⟨rfl, rfl⟩ := h
        have := grow none 0 0 H [] [] hW rfl .nil (by simp) (by simp) (fun w' _ => by simp [Builtin.firstCells]) (by omega) (by omega) (by simpa using hc.1)
        simpa using this
    ·
      rename_i l n ex
      split at h
      · rename_i hm
        simp only [Option.some.injEq, Prod.mk.injEq] at h; obtain ⟨rfl, rfl⟩ := h
        have hs' := hs
        cases hs with
        | sim hn _ _ _ _ _ => exact ⟨_, _, σ, nothing _ _ _ hm hn, Nw.refl _ _, hW, hs'⟩
        | simz ad _ => exact ⟨_, _, σ, nothing _ _ _ hm (Nat.zero_le _), Nw.refl _ _, hW, hs'⟩
        | simn => exact ⟨_, _, σ, nothing _ _ _ hm (Nat.le_refl _), Nw.refl _ _, hW, hs'⟩
      · split at h <;> simp only [Option.some.injEq, Prod.mk.injEq, reduceCtorEq] at h
        rename_i hm hc
        obtain ⟨rfl, rfl⟩ := h
        obtain ⟨rfl, hl, hb, h63⟩ := hc
        obtain ⟨ad, cap, olds, rfl, ho1, ho2, ho3, ho4, ho5⟩ := src_sound (P := P) hW hs (esz := i.size) (m := n) (xs := l) (by simp [aslcells, hl])
        have hcap : cap = n := by
          cases hs with
          | sim _ hx _ _ _ _ => exact hx rfl
          | simz _ hx => exact hx rfl
        exact grow ad n cap H l olds hW rfl ho1 ho3 ho2 ho5 (by omega) h63 hb
    ·
      rename_i r o n q
      split at h
      · cases h
      · rename_i l hl
        split at h
        · rename_i hfit
          split at h <;> simp only [Option.some.injEq, Prod.mk.injEq, reduceCtorEq] at h
          rename_i hc
          obtain ⟨rfl, rfl⟩ := h
          have hlx : xs.length = m * i.size := by rw [hn1.length, hn2]
          cases hs with
          | slx hp hn =>
            rename_i p
            obtain ⟨g1, g2⟩ := hW.splice (P := P) hl hp (o := o + n * i.size) hn1 hn3 (by rw [hlx]; rw [Nat.add_mul] at hc; omega)
            refine ⟨_, _, σ, run_append_fits (b := p.b) (o := p.base + o) ht hu hi ty (hn5 w rfl) (by rw [Nat.add_assoc]; exact g1) hfit, Nw.refl _ _, g2, .slx hp hfit⟩
          | slxz hp0 ad =>
            have hm : m = 0 := by omega
            subst hm
            have hxe : xs = [] := List.eq_nil_of_length_eq_zero (by omega)
            subst hxe
            refine ⟨_, _, σ, nothing (some ad) 0 0 rfl (Nat.le_refl _), Nw.refl _ _, ?_, .slxz hp0 ad⟩
            have : H.set r (.cells (Go.AL.splice l (o + 0 * i.size) [])) = H := by
              refine AH.ext (fun y => ?_) rfl
              by_cases e : y = r
              · subst e
                rw [AH.get_set_same, cells?_some hl]
                simp [Go.AL.splice]
              · rw [AH.get_set_ne _ _ e]
            rw [this]; exact hW
        · rename_i hfit
          split at h <;> simp only [Option.some.injEq, Prod.mk.injEq, reduceCtorEq] at h
          rename_i hc
          obtain ⟨rfl, rfl⟩ := h
          obtain ⟨hlen, hb, h63⟩ := hc
          obtain ⟨ad, cap, olds, rfl, ho1, ho2, ho3, ho4, ho5⟩ := src_sound (P := P) hW hs (esz := i.size) (m := n) (xs := (l.drop o).take (n * i.size)) (by simp [aslcells, hl, hlen])
          have hcap : cap = q := by cases hs <;> rfl
          exact grow ad n cap H _ olds hW rfl ho1 ho3 ho2 ho5 (by omega) h63 hb
    ·
      rename_i r o n es
      split at h
      · cases h
      · rename_i l hl
        split at h
        · rename_i hm
          simp only [Option.some.injEq, Prod.mk.injEq] at h; obtain ⟨rfl, rfl⟩ := h
          have hs' := hs
          cases hs with
          | slo hp hn _ => exact ⟨_, _, σ, nothing _ _ _ hm hn, Nw.refl _ _, hW, hs'⟩
          | sloz hp0 ad => exact ⟨_, _, σ, nothing _ _ _ hm (Nat.le_refl _), Nw.refl _ _, hW, hs'⟩
        · rename_i hm
          split at h <;> simp only [Option.some.injEq, Prod.mk.injEq, reduceCtorEq] at h
          rename_i hc
          obtain ⟨rfl, rfl⟩ := h
          obtain ⟨rfl, hlen, hb, h63⟩ := hc
          obtain ⟨ad, cap, olds, rfl, ho1, ho2, ho3, ho4, ho5⟩ := src_sound (P := P) hW hs (esz := i.size) (m := n) (xs := (l.drop o).take (n * i.size)) (by simp [aslcells, hl, hlen])
          have hWe : WR Z σ (H.erase r) w := hW.sub rfl (fun y q hy => by
            by_cases e : y = r
            · subst e; simp [AH.get_erase] at hy
            · simpa [AH.get_erase, e] using hy)
          by_cases hfit : n + m ≤ cap
          · cases hs with
            | slo hp hn hsz =>
              rename_i p
              have hlx : xs.length = m * i.size := by rw [hn1.length, hn2]
              obtain ⟨hz0, c, el', fr, hb', hcs, hf, hlb, hv, hv1⟩ := hW.row hl hp
              have hmul : (n + m) * i.size ≤ cap * i.size := Nat.mul_le_mul_right _ hfit
              rw [Nat.add_mul] at hmul
              obtain ⟨c', g1, g2, g3, g4⟩ := heap_setCells p.b el' fr news (p.base + o + n * i.size) w c hb' (by rw [hn2]; omega)
              have hst := run_storeCells_cells (P := P) p.b (p.base + o + n * i.size) news 0 w (fun j hj => by
                  simp only [World.cell?, hb', Nat.add_zero]
                  simp; omega) (fun j hj => by
                  simp only [World.frozen?, hb', Nat.add_zero]
                  have := hf.not (p.base + o + n * i.size + j) (by omega)
                  simp at this ⊢
                  omega) hn3
              simp only [Nat.add_zero] at hst
              have hrun := run_append_fits (b := p.b) (o := p.base + o) ht hu hi ty (hn5 w rfl) hst hfit
              refine ⟨_, _, σ.add H.next ⟨p.b, p.base + o, p.size⟩, hrun, Nw.add _ _ _, hW.rehome (cells?_some hl) hp rfl g4 (rest_setCells hb' (by rw [hn2]; omega)) ?_, ?_⟩
              · have hS : Sle σ (σ.add H.next ⟨p.b, p.base + o, p.size⟩) := Sg.add_le (hW.fresh _ (Nat.le_refl _))
                have hol : ((l.drop o).take (n * i.size)).length = n * i.size := by simp; omega
                have e1 : (c'.toList.drop (p.base + o)).take ((l.drop o).take (n * i.size) ++ xs).length = ((c.toList.drop p.base).take l.length |>.drop o).take (n * i.size) ++ news := by
                  rw [List.length_append, hol, hlx, g3]
                  have hC : c.toList.length = c.size := Array.length_toList
                  have := splice_cells (C := c.toList) (us := news) (base := p.base + o) (o := n * i.size) (n := n * i.size + m * i.size) (by rw [hn2]; omega) (by omega)
                  have ez : ((c.toList.drop (p.base + o)).take (n * i.size + m * i.size)).drop (n * i.size + news.length) = [] := List.drop_of_length_le (by rw [List.length_take, hn2]; omega)
                  have e2 : ((c.toList.drop (p.base + o)).take (n * i.size + m * i.size)).take (n * i.size) = (c.toList.drop (p.base + o)).take (n * i.size) := by rw [List.take_take, Nat.min_eq_left (by omega)]
                  have e3 : (((c.toList.drop p.base).take l.length).drop o).take (n * i.size) = (c.toList.drop (p.base + o)).take (n * i.size) := by
                    rw [List.drop_take, List.drop_drop, List.take_take, Nat.min_eq_left (by omega)]
                  rw [this, ez, List.append_nil, e2, e3]
                refine .cells g1 (by rw [g2, hcs]) (by rw [g2]; exact hf) (by rw [List.length_append, hol, hlx, g2, hcs]; simp only; omega) ?_ ?_
                · simp only [e1]
                  exact (((hv.drop o).take _).append hn1).mono (Zle.refl _) hS
                · simp only [e1]
                  intro v hv'
                  rcases List.mem_append.1 hv' with h | h
                  · exact hv1 v (List.mem_of_mem_drop (List.mem_of_mem_take h))
                  · exact hn3 v h
              · have := VR.slo (Z := Z) (σ := σ.add H.next ⟨p.b, p.base + o, p.size⟩) (r := H.next) (o := 0) (n := n + m) (esz := i.size) (cap := cap) (p := ⟨p.b, p.base + o, p.size⟩) (Sg.add_same _ _ _) hfit (by simpa using hsz)
                simpa using this
            | sloz hp0 ad => omega
          · exact grow ad n cap (H.erase r) _ olds hWe rfl ho1 ho3 ho2 ho5 (by omega) h63 hb
    · cases h
end
end Go.AL
namespace Go.AL
inductive MRs (Z : Zt) (σ : Sg) : List (AV × AV × Nat) → List MapEntry → Prop
  | nil : MRs Z σ [] []
  | cons {k x : AV} {n : Nat} {m : MapEntry} {es : List (AV × AV × Nat)} {ms : List MapEntry} (hk : VR Z σ k m.key) (hx : VR Z σ x m.val) (hn : m.born = n) (t : MRs Z σ es ms) : MRs Z σ ((k, x, n) :: es) (m :: ms)
section
variable {P : Program} {Z : Zt} {σ : Sg} {H : AH} {w : World}
theorem MRs.length {es : List (AV × AV × Nat)} {ms : List MapEntry} (h : MRs Z σ es ms) : es.length = ms.length := by
  induction h with
  | nil => rfl
  | cons _ _ _ _ ih => simp [ih]
theorem MRs.of : ∀ {es : List (AV × AV × Nat)} {ms : List MapEntry}, ms.length = es.length → (∀ (i : Nat) (k x : AV) (n : Nat), es[i]? = some (k, x, n) → ∃ m, ms[i]? = some m ∧ VR Z σ k m.key ∧ VR Z σ x m.val ∧ m.born = n) → MRs Z σ es ms
  | [], [], _, _ => .nil
  | [], _ :: _, h, _ => by simp at h
  | _ :: _, [], h, _ => by simp at h
  | (k, x, n) :: es, m :: ms, h, hh => by
    obtain ⟨m', h1, h2, h3, h4⟩ := hh 0 k x n rfl
    simp only [List.getElem?_cons_zero, Option.some.injEq] at h1; subst h1
    exact .cons h2 h3 h4 (MRs.of (by simpa using h) fun i k x n hi => hh (i + 1) k x n (by simpa using hi))
theorem MRs.get {es : List (AV × AV × Nat)} {ms : List MapEntry} (h : MRs Z σ es ms) : ∀ (i : Nat) (k x : AV) (n : Nat), es[i]? = some (k, x, n) → ∃ m, ms[i]? = some m ∧ VR Z σ k m.key ∧ VR Z σ x m.val ∧ m.born = n := by
  induction h with
  | nil => intro i k x n hi; simp at hi
  | cons hk hx hn t ih =>
    intro i k x n hi
    cases i with
    | zero => simp only [List.getElem?_cons_zero, Option.some.injEq, Prod.mk.injEq] at hi; obtain ⟨rfl, rfl, rfl⟩ := hi; exact ⟨_, rfl, hk, hx, hn⟩
    | succ i => exact ih i k x n (by simpa using hi)
theorem MRs.snoc {es : List (AV × AV × Nat)} {ms : List MapEntry} (h : MRs Z σ es ms) {k x : AV} {n : Nat} {m : MapEntry} (hk : VR Z σ k m.key) (hx : VR Z σ x m.val) (hn : m.born = n) : MRs Z σ (es ++ [(k, x, n)]) (ms ++ [m]) := by
  induction h with
  | nil => exact .cons hk hx hn .nil
  | cons a b c _ ih => exact .cons a b c ih
theorem MRs.modify {es : List (AV × AV × Nat)} {ms : List MapEntry} (h : MRs Z σ es ms) {k x : AV} {f : MapEntry → MapEntry} (hf : ∀ m, VR Z σ k (f m).key ∧ VR Z σ x (f m).val ∧ (f m).born = m.born) : ∀ (j : Nat), MRs Z σ (es.modify j fun y => (k, x, y.2.2)) (ms.modify j f) := by
  induction h with
  | nil => intro j; simp; exact .nil
  | cons hk hx hn t ih =>
    intro j
    cases j with
    | zero => simp only [List.modify_zero_cons]; exact .cons (hf _).1 (hf _).2.1 ((hf _).2.2.trans hn) t
    | succ j => simp only [List.modify_succ_cons]; exact .cons hk hx hn (ih j)
theorem afind_spec {ty : Bool × List SK} {L : List Lit} : ∀ {es : List (AV × AV × Nat)} {ms : List MapEntry} {r : Option (Nat × AV)}, MRs Z σ es ms → afind ty L es = some r →
    (∀ e ∈ ms, ∃ L', vkey ty e.key = some L') ∧ match r with
      | none => ∀ e ∈ ms, vkey ty e.key ≠ some L
      | some (j, v) => ∃ m, ms[j]? = some m ∧ vkey ty m.key = some L ∧ VR Z σ v m.val ∧ ∀ (i : Nat) (m' : MapEntry), ms[i]? = some m' → vkey ty m'.key = some L → i = j
  | [], _, r, .nil, h => by
    simp only [afind, Option.some.injEq] at h; subst h
    exact ⟨by simp, by simp⟩
  | _, _, r, .cons (k := k) (x := x) (n := n) (m := m) (es := es) (ms := ms) hk hx hn t, h => by
    simp only [afind] at h
    split at h <;> (try (cases h; done))
    rename_i L' r' h1 h2
    obtain ⟨g1, g2⟩ := afind_spec t h2
    have hv := akey_vkey hk h1
    refine ⟨fun e he => ?_, ?_⟩
    · rcases List.mem_cons.1 he with rfl | he
      · exact ⟨_, hv⟩
      · exact g1 e he
    · cases hq : litsEq L' L with
      | true =>
        rw [hq] at h
        have hL := litsEq_iff.1 hq
        subst hL
        simp only [cond_true] at h
        cases r' with
        | some p => cases h
        | none =>
          simp only [Option.some.injEq] at h; subst h
          refine ⟨m, rfl, hv, hx, fun i m' hi hm => ?_⟩
          cases i with
          | zero => rfl
          | succ i => exact absurd hm (g2 m' (List.mem_of_getElem? (by simpa using hi)))
      | false =>
        rw [hq] at h
        have hL : L' ≠ L := fun e => by rw [litsEq_iff.2 e] at hq; cases hq
        simp only [cond_false, Option.some.injEq] at h; subst h
        cases r' with
        | none =>
          intro e he
          rcases List.mem_cons.1 he with rfl | he
          · rw [hv]; intro hh; exact hL (Option.some.inj hh)
          · exact g2 e he
        | some p =>
          obtain ⟨j, v⟩ := p
          obtain ⟨m1, k1, k2, k3, k4⟩ := g2
          refine ⟨m1, by simpa using k1, k2, k3, fun i m' hi hm => ?_⟩
          cases i with
          | zero =>
            simp only [List.getElem?_cons_zero, Option.some.injEq] at hi; subst hi
            rw [hv] at hm; exact absurd (Option.some.inj hm) hL
          | succ i => rw [k4 i m' (by simpa using hi) hm]
theorem find_sound {kt : TypeId} {ty : Bool × List SK} (hk : kty P kt = some ty) {L : List Lit} {kv : Value} (hkv : vkey ty kv = some L) {es : List (AV × AV × Nat)} {ms : List MapEntry} {r : Option (Nat × AV)} (hm : MRs Z σ es ms) (h : afind ty L es = some r) (w : World) :
    match r with
    | none => (Instr.findKey kt kv ms).run P w = .ok none w
    | some (j, v) => ∃ m, (Instr.findKey kt kv ms).run P w = .ok (some (j, m.val)) w ∧ ms[j]? = some m ∧ m.key = kv ∧ VR Z σ v m.val := by
  obtain ⟨g1, g2⟩ := afind_spec hm h
  have K := kty_keyed hk
  have hkk := vkey_keyOf hk hkv
  rcases K.find w hkk ms (fun e he => by obtain ⟨L', h'⟩ := g1 e he; exact ⟨_, vkey_keyOf hk h'⟩) with ⟨f1, f2⟩ | ⟨j', e', f1, f2, f3⟩
  · cases r with
    | none => exact f1
    | some p =>
      obtain ⟨j, v⟩ := p
      obtain ⟨m, k1, k2, k3, k4⟩ := g2
      exact absurd ((vkey_eq hk k2 hkv).2 rfl) (f2 m (List.mem_of_getElem? k1))
  · cases r with
    | none => exact absurd (by rw [f3]; exact hkv) (g2 e' (List.mem_of_getElem? f2))
    | some p =>
      obtain ⟨j, v⟩ := p
      obtain ⟨m, k1, k2, k3, k4⟩ := g2
      have hj := k4 j' e' f2 (by rw [f3]; exact hkv)
      subst hj
      rw [k1] at f2
      cases f2
      exact ⟨_, f1, k1, f3, k3⟩
theorem ames_sound (hW : WR Z σ H w) {x : AV} {vx : Value} (hx : VR Z σ x vx) {es : List (AV × AV × Nat)} (h : ames x H = some es) :
    (vx = .map none ∧ es = []) ∨ ∃ b ms clock, vx = .map (some b) ∧ w.heap[b]? = some (.map ms clock) ∧ MRs Z σ es ms.toList := by
  unfold ames at h
  split at h
  · simp only [Option.some.injEq] at h; subst h
    cases hx; exact .inl ⟨rfl, rfl⟩
  · rename_i r
    split at h <;> simp only [Option.some.injEq, reduceCtorEq] at h
    rename_i es' cl hr
    subst h
    cases hx with
    | mp hp =>
      obtain ⟨_, ho⟩ := hW.h _ _ _ hr hp
      cases ho with
      | map hb hn he => exact .inr ⟨_, _, _, rfl, hb, MRs.of (by simpa using hn) (by simpa using he)⟩
  · cases h
theorem alookup_sound (hW : WR Z σ H w) {t kt el : TypeId} {ty : Bool × List SK} {z : AV} (ht : P.underlying t = some (.map kt el)) (hk : kty P kt = some ty) (hz : tzv P el = some z) {m k : AV} {vm vk : Value} (hm : VR Z σ m vm) (hkv : VR Z σ k vk)
    {L : List Lit} (hL : akey ty k = some L) {es : List (AV × AV × Nat)} (hes : ames m H = some es) {r : Option (Nat × AV)} (hr : afind ty L es = some r) (ok : Bool) :
    ∃ cv, (Instr.lookup t vm vk ok).run P w = .ok cv w ∧ VR Z σ (bif ok then .tup [arv r z, .bool r.isSome] else arv r z) cv := by
  have K := kty_keyed hk
  have hv := akey_vkey hkv hL
  have hkk := vkey_keyOf hk hv
  obtain ⟨zv, hz1, hz2⟩ := tzv_sound (Z := Z) (σ := σ) (w := w) hz
  rcases ames_sound hW hm hes with ⟨rfl, rfl⟩ | ⟨b, ms, cl, rfl, hb, hms⟩
  · have hf := find_sound hk hv (MRs.nil (Z := Z) (σ := σ)) hr w
    simp only [afind, Option.some.injEq] at hr; subst hr
    simp only at hf
    refine ⟨if ok then .tuple #[zv, .bool false] else zv, ?_, ?_⟩
    · simp [Instr.lookup, run_underlying ht, K.check w true hkk, hf, hz1]
    · cases ok
      · exact hz2
      · exact .tup (.cons hz2 (.cons (.bool _) .nil))
  · have hf := find_sound hk hv hms hr w
    cases r with
    | none =>
      simp only at hf
      refine ⟨if ok then .tuple #[zv, .bool false] else zv, ?_, ?_⟩
      · simp [Instr.lookup, run_underlying ht, MapKept.run_getObj_map hb, K.check w _ hkk, hf, hz1]
      · cases ok
        · exact hz2
        · exact .tup (.cons hz2 (.cons (.bool _) .nil))
    | some p =>
      obtain ⟨j, v⟩ := p
      obtain ⟨m', f1, f2, f3, f4⟩ := hf
      refine ⟨if ok then .tuple #[m'.val, .bool true] else m'.val, ?_, ?_⟩
      · simp [Instr.lookup, run_underlying ht, MapKept.run_getObj_map hb, K.check w _ hkk, f1]
      · cases ok
        · exact f4
        · exact .tup (.cons f4 (.cons (.bool _) .nil))
theorem alenMap_sound (hW : WR Z σ H w) {t kt el : TypeId} (ht : P.underlying t = some (.map kt el)) {m : AV} {vm : Value} (hm : VR Z σ m vm) {es : List (AV × AV × Nat)} (hes : ames m H = some es) (ty : TypeId) :
    (Builtin.len_ #[t] ty #[vm]).run P w = .ok (.int .i64 es.length) w := by
  rcases ames_sound hW hm hes with ⟨rfl, rfl⟩ | ⟨b, ms, cl, rfl, hb, hms⟩
  · simp [Builtin.len_, run_underlying ht, goInt]
  · have := hms.length
    simp [Builtin.len_, run_underlying ht, goInt, MapKept.run_getObj_map hb, this]
theorem amakeMap_sound (hW : WR Z σ H w) (t : TypeId) :
    ∃ cv w' σ', (Instr.makeMap t none).run P w = .ok cv w' ∧ Nw σ H.next σ' ∧ WR Z σ' (H.push (.map [] 0)) w' ∧ VR Z σ' (.mp H.next) cv := by
  refine ⟨_, _, σ.add H.next ⟨w.heap.size, 0, 0⟩, (rfl : (Instr.makeMap t none).run P w = .ok (.map (some w.heap.size)) (w.alloc (.map #[] 0))), Nw.add _ _ _, hW.push rfl ?_ (Rest.allocO _ _), .mp (p := ⟨w.heap.size, 0, 0⟩) (Sg.add_same _ _ _)⟩
  exact .map (ms := #[]) (heap_alloc_eq w _) rfl (fun i k x n hi => by simp at hi)
theorem amapUpd_sound (hW : WR Z σ H w) {t kt el : TypeId} {ty : Bool × List SK} (ht : P.underlying t = some (.map kt el)) (hk : kty P kt = some ty) {r : Nat} {k x : AV} {vm vk vx : Value} (hm : VR Z σ (.mp r) vm) (hkv : VR Z σ k vk) (hx : VR Z σ x vx)
    {L : List Lit} (hL : akey ty k = some L) {es : List (AV × AV × Nat)} {clock : Nat} (hr : H.get r = some (.map es clock)) {q : Option (Nat × AV)} (hq : afind ty L es = some q) :
    ∃ w', (Instr.mapUpdate t vm vk vx).run P w = .ok () w' ∧ WR Z σ (H.set r (match q with
      | some (j, _) => .map (es.modify j fun y => (k, x, y.2.2)) clock
      | none => .map (es ++ [(k, x, clock)]) (clock + 1))) w' := by
  have K := kty_keyed hk
  have hv := akey_vkey hkv hL
  have hkk := vkey_keyOf hk hv
  cases hm with
  | mp hp =>
    rename_i p
    obtain ⟨_, ho⟩ := hW.h _ _ _ hr hp
    cases ho with
    | map hb hn he =>
      rename_i ms
      have hms : MRs Z σ es ms.toList := MRs.of (by simpa using hn) (by simpa using he)
      have hf := find_sound hk hv hms hq w
      have upd : ∀ (es' : List (AV × AV × Nat)) (ms' : Array MapEntry) (cl' : Nat), MRs Z σ es' ms'.toList →
          WR Z σ (H.set r (.map es' cl')) { w with heap := w.heap.setIfInBounds p.b (.map ms' cl') } := by
        intro es' ms' cl' h'
        have hlt := (Array.getElem?_eq_some_iff.1 hb).1
        refine hW.update hr hp (fun b hne => ?_) ⟨rfl, rfl⟩ (.map (ms := ms') ?_ ?_ ?_)
        · simp only [Array.getElem?_setIfInBounds]; rw [if_neg (fun e => hne e.symm)]
        · simp only [Array.getElem?_setIfInBounds, if_true, hlt]
        · have := h'.length; simpa using this.symm
        · intro i k x n hi
          have := h'.get i k x n hi
          simpa using this
      cases q with
      | none =>
        simp only at hf
        refine ⟨{ w with heap := w.heap.setIfInBounds p.b (.map (ms.push ⟨vk, vx, clock⟩) (clock + 1)) }, ?_, upd _ _ _ (by rw [Array.toList_push]; exact hms.snoc hkv hx rfl)⟩
        simp [Instr.mapUpdate, run_underlying ht, MapKept.run_getObj_map hb, K.check w false hkk, hf, MapKept.run_setObj_map _ hb, Result.andThen]
      | some pq =>
        obtain ⟨j, v⟩ := pq
        obtain ⟨m', f1, f2, f3, f4⟩ := hf
        have hj : ms[j]? = some m' := by simpa using f2
        refine ⟨{ w with heap := w.heap.setIfInBounds p.b (.map (ms.modify j fun e => { e with key := vk, val := vx }) clock) }, ?_, upd _ _ _ ?_⟩
        · simp [Instr.mapUpdate, run_underlying ht, MapKept.run_getObj_map hb, K.check w false hkk, f1, hj, f3, K.stays w hkk, MapKept.run_setObj_map _ hb, Result.andThen]
        · rw [Array.toList_modify]
          exact hms.modify (f := fun e => { e with key := vk, val := vx }) (fun m => ⟨hkv, hx, rfl⟩) j
theorem heap_freeze {b : Nat} {c : Array Value} {el : TypeId} {fr : Nat × Nat} (hb : w.heap[b]? = some (.cells c el fr)) (hf : Frn fr c.size) (o : Nat) :
    (w.freeze ⟨b, c.size, none⟩ 1).heap[b]? = some (.cells c el (c.size, c.size + 1)) ∧ (∀ x, x ≠ b → (w.freeze ⟨b, c.size, none⟩ 1).heap[x]? = w.heap[x]?) ∧ Rest w (w.freeze ⟨b, c.size, none⟩ 1) := by
  unfold World.freeze
  rw [if_neg (by decide)]
  refine ⟨?_, fun x hx => ?_, rfl, rfl⟩
  · simp only [Array.getElem?_modify, if_true, hb, Option.map_some]
    rcases hf with rfl | rfl
    · simp
    · simp
  · simp only [Array.getElem?_modify]; rw [if_neg (fun e => hx e.symm)]
theorem amark_sound (hW : WR Z σ H w) {t e : TypeId} (ht : P.underlying t = some (.slice e)) (he : P.underlying e = some (.int .u8)) {r o n m : Nat} {vx : Value} (hx : VR Z σ (.sl r o n (.ex m)) vx) {l : List AV} (hr : H.cells? r = some l) (hm : 0 < m) :
    ∃ w', (convert t t vx).run P w = .ok vx w' ∧ WR Z σ H w' := by
  cases hx with
  | slxz => omega
  | slx hp hn =>
    rename_i p
    have hr' := cells?_some hr
    obtain ⟨hz, c, el, fr, hb, hs, hf, hl, hv', h1'⟩ := hW.row hr hp
    obtain ⟨g1, g2, g3⟩ := heap_freeze hb hf 0
    have hsh : w.shape? p.b = some (el, c.size) := by unfold World.shape?; rw [hb]
    refine ⟨w.freeze ⟨p.b, c.size, none⟩ 1, by simp [convert, run_underlying ht, run_underlying he, markStringish, hsh], ?_⟩
    have := hW.update hr' hp g2 g3 (ObjR.cells g1 hs (.inr rfl) hl hv' h1')
    have e1 : H.set r (.cells l) = H := AH.ext (fun x => by
      rw [AH.get_set]; split
      · rename_i h; subst h; exact hr'.symm
      · rfl) rfl
    rw [e1] at this
    exact this
theorem run_appendZ_nil {t u el : TypeId} {i : TypeInfo} {z : Value} {q k : IntKind} (ht : P.underlying t = some (.slice el)) (hu : P.underlying u = some (.int q)) (hi : P.info? el = some i) (hz : i.zero = some z) (ty : TypeId)
    {n : Int} (h0 : 0 < n) (h63 : n ≤ 9223372036854775807) (hb : n.toNat * i.bytes ≤ 140737488355328) (hs : 0 < i.size) :
    (Builtin.append_ #[t, u] ty #[.slice none 0 0, .int k n]).run P w =
      .ok (.slice (some ⟨w.heap.size, 0, none⟩) n.toNat (grownCap w n.toNat 0 el))
        (w.drew.alloc (.cells (Builtin.zeroCells z.cells n.toNat ++ Builtin.zeroCells z.cells (grownCap w n.toNat 0 el - n.toNat)) el)) := by
  have e1 : ¬ (n < 0) := by omega
  have hnn : (n.toNat : Int) = n := by omega
  have e2 : ¬ (281474976710656 < n * (i.bytes : Int)) := by
    have : n * (i.bytes : Int) = ((n.toNat * i.bytes : Nat) : Int) := by rw [Int.natCast_mul, hnn]
    rw [this]; omega
  have e3 : ¬ (n.toNat ≤ 0) := by omega
  have e5 : ¬ (9223372036854775807 < (n.toNat : Int)) := by omega
  have hfit := growslice_fits (need := n.toNat) (old := 0) (bytes := i.bytes) (by omega) hb
  have e6 : ¬ (281474976710656 < Builtin.nextslicecap n.toNat 0 * i.bytes) := by omega
  have e7 : n.toNat ≠ 0 := by omega
  have e8 : i.size ≠ 0 := by omega
  have e9 : ¬ (n ≤ 0) := by omega
  have w64 : IntKind.i64.wrap n = n := wrap64_id (by omega) h63
  have e10 : max n 0 = n := by omega
  have e11 : ¬ (9223372036854775807 < n) := by omega
  have e12 : n.toNat * i.size ≠ 0 := Nat.mul_ne_zero e7 e8
  simp [Builtin.append_, run_underlying ht, run_underlying hu, sizeOf, typeInfo, zeroValue, hi, hz, asInt, asIntOf, w64, e1, e2, e6, e7, e8, e9, e10, e11, e12, Question.forced, newRow, grownCap, Builtin.firstCells]
theorem aappendZ_sound (hW : WR Z σ H w) {t u el : TypeId} {i : TypeInfo} {q k : IntKind} (ht : P.underlying t = some (.slice el)) (hu : P.underlying u = some (.int q)) (hi : P.info? el = some i) (ty : TypeId) {z : List AV} (hz : tzero P el = some z) (hsz : i.size = z.length) (hs : 0 < i.size)
    {n : Int} (h0 : 0 < n) (h63 : n ≤ 9223372036854775807) (hb : n.toNat * i.bytes ≤ 140737488355328) :
    ∃ cv w' σ', (Builtin.append_ #[t, u] ty #[.slice none 0 0, .int k n]).run P w = .ok cv w' ∧ Nw σ H.next σ' ∧ WR Z σ' (H.push (.cells (repl n.toNat z))) w' ∧ VR Z σ' (.sl H.next 0 n.toNat (.op i.size)) cv := by
  obtain ⟨i', zv, h1, h2, h3, h4⟩ := tzero_sound (Z := Z) (σ := σ) hz
  rw [hi] at h1; cases h1
  have hl : z.length = zv.cells.size := by simpa using h3.length
  obtain ⟨g1, g2⟩ := repl_rel h3 h4 (by omega) n.toNat
  have hge : n.toNat ≤ grownCap w n.toNat 0 el := by have := grownCap_ge w n.toNat 0 el; exact this
  have hlo : (repl n.toNat z).length = (Builtin.zeroCells zv.cells n.toNat).size := by rw [size_zeroCells]; simp [repl_length, hl]
  have htk : (Builtin.zeroCells zv.cells n.toNat ++ Builtin.zeroCells zv.cells (grownCap w n.toNat 0 el - n.toNat)).toList.take (repl n.toNat z).length = (Builtin.zeroCells zv.cells n.toNat).toList := by
    rw [Array.toList_append, List.take_append_of_le_length (by rw [hlo]; simp), List.take_of_length_le (by rw [hlo]; simp)]
  have hW1 : WR Z σ H w.drew := hW.congr rfl rfl rfl
  obtain ⟨k1, k2⟩ := hW1.newRow (l := repl n.toNat z) (c := Builtin.zeroCells zv.cells n.toNat ++ Builtin.zeroCells zv.cells (grownCap w n.toNat 0 el - n.toNat)) el
    (by rw [hlo, Array.size_append]; omega) (by rw [htk]; exact g1) (by rw [htk]; exact g2)
  refine ⟨_, _, _, run_appendZ_nil ht hu hi h2 ty h0 h63 hb hs, k2, k1, ?_⟩
  refine .slo (p := ⟨w.drew.heap.size, 0, _⟩) (Sg.add_same _ _ _) hge ?_
  have : (Builtin.zeroCells zv.cells n.toNat ++ Builtin.zeroCells zv.cells (grownCap w n.toNat 0 el - n.toNat)).size = grownCap w n.toNat 0 el * i.size := by
    simp only [Array.size_append, size_zeroCells, ← hl, ← hsz, ← Nat.add_mul]
    congr 1; omega
  rw [this]; simp
theorem abytesOf_sound (hW : WR Z σ H w) {s d e : TypeId} (hs : P.underlying s = some .string) (hd : P.underlying d = some (.slice e)) (he : P.underlying e = some (.int .u8)) (l : List UInt8) :
    ∃ cv w' σ', (convert s d (.string ⟨l.toArray⟩)).run P w = .ok cv w' ∧ Nw σ H.next σ' ∧ WR Z σ' (H.push (.cells (l.map fun b => .int .u8 (b.toNat : Int)))) w' ∧ VR Z σ' (.sl H.next 0 l.length (.op 1)) cv := by
  have hge : l.length ≤ grownCap w l.length 0 e := grownCap_ge w l.length 0 e
  obtain ⟨c, hc⟩ : ∃ c : Array Value, c = (l.toArray.map fun b => Value.int .u8 (b.toNat : Int)) ++ Array.replicate (grownCap w l.length 0 e - l.length) (Value.int .u8 0) := ⟨_, rfl⟩
  have hcs : c.size = grownCap w l.length 0 e := by rw [hc]; simp; omega
  have htk : c.toList.take (l.map fun b => AV.int .u8 (b.toNat : Int)).length = l.map fun b => Value.int .u8 (b.toNat : Int) := by
    rw [hc]; simp
  have hv : VRs Z σ (l.map fun b => AV.int .u8 (b.toNat : Int)) (l.map fun b => Value.int .u8 (b.toNat : Int)) := by
    clear hc htk hcs hge
    induction l with
    | nil => exact .nil
    | cons x l ih => exact .cons (.int _ _) ih
  have h1 : ∀ u ∈ (l.map fun b => Value.int .u8 (b.toNat : Int)), u.oneCell' = true := fun u hu => by
    obtain ⟨x, _, rfl⟩ := List.mem_map.1 hu; rfl
  have hW1 : WR Z σ H w.drew := hW.congr rfl rfl rfl
  obtain ⟨k1, k2⟩ := hW1.newRow (l := l.map fun b => AV.int .u8 (b.toNat : Int)) (c := c) e (by rw [hcs]; simpa using hge) (by rw [htk]; exact hv) (by rw [htk]; exact h1)
  have hh : w.drew.heap.size = w.heap.size := rfl
  have hr : (H.push (.cells (l.map fun b => AV.int .u8 (b.toNat : Int)))).get H.next = some (.cells (l.map fun b => AV.int .u8 (b.toNat : Int))) := AH.get_push_same _ _
  have hp : (σ.add H.next ⟨w.drew.heap.size, 0, c.size⟩) H.next = some ⟨w.drew.heap.size, 0, c.size⟩ := Sg.add_same _ _ _
  have hb : (w.drew.alloc (.cells c e)).heap[w.drew.heap.size]? = some (.cells c e (0, 0)) := heap_alloc_eq _ _
  obtain ⟨g1, g2, g3⟩ := heap_freeze hb (.inl rfl) 0
  have k3 := k1.update (o' := .cells (l.map fun b => AV.int .u8 (b.toNat : Int))) hr hp g2 g3 (ObjR.cells g1 rfl (.inr rfl) (by simp [hcs]; omega) (by rw [List.drop_zero, htk]; exact hv.mono (Zle.refl _) (Sg.add_le (hW.fresh _ (Nat.le_refl _)))) (by rw [List.drop_zero, htk]; exact h1))
  have e1 : (H.push (.cells (l.map fun b => AV.int .u8 (b.toNat : Int)))).set H.next (.cells (l.map fun b => AV.int .u8 (b.toNat : Int))) = H.push (.cells (l.map fun b => AV.int .u8 (b.toNat : Int))) := AH.ext (fun x => by
    rw [AH.get_set]; split
    · rename_i h; subst h; exact hr.symm
    · rfl) rfl
  rw [e1] at k3
  have hsh : (w.drew.alloc (.cells c e)).shape? w.drew.heap.size = some (e, c.size) := by unfold World.shape?; rw [hb]
  refine ⟨.slice (some ⟨w.drew.heap.size, 0, none⟩) l.length (grownCap w l.length 0 e), _, _, ?_, k2, k3, ?_⟩
  · have hsz : (⟨l.toArray⟩ : ByteArray).size = l.length := rfl
    have hc' : (List.map (fun b => Value.int .u8 (b.toNat : Int)) l).toArray ++ Array.replicate ((Question.appendCap l.length 0 e).cut (w.tape w.drawn (Question.appendCap l.length 0 e)) - l.length) (Value.int .u8 0) = c := by
      rw [hc]; simp [grownCap]
    have hsh' : (w.drew.alloc (.cells c e)).shape? w.heap.size = some (e, c.size) := hsh
    simp [convert, run_underlying hs, run_underlying hd, run_underlying he, Conv.stringToBytes, Question.forced, newRow, markStringish, hsz, grownCap]
    rw [hc', hsh']
    simp
  · exact .slo hp hge (by rw [hcs]; simp)
theorem aclr_sound (hW : WR Z σ H w) {t e : TypeId} {i : TypeInfo} (ht : P.underlying t = some (.slice e)) (hi : P.info? e = some i) (ty : TypeId) {z : List AV} (hz : tzero P e = some z) (hsz : i.size = z.length) (hs : 0 < i.size)
    {r o n : Nat} {lim : Lim} {vx : Value} (hx : VR Z σ (.sl r o n lim) vx) {l : List AV} (hr : H.cells? r = some l) (ho : o + n * i.size ≤ l.length) :
    ∃ w', (Builtin.clear_ #[t] ty #[vx]).run P w = .ok (.tuple #[]) w' ∧ WR Z σ (if n = 0 then H else H.set r (.cells (Go.AL.splice l o (repl n z)))) w' := by
  obtain ⟨i', zv, h1, h2, h3, h4⟩ := tzero_sound (Z := Z) (σ := σ) hz
  rw [hi] at h1; cases h1
  have hl : z.length = zv.cells.size := by simpa using h3.length
  have main : ∀ (p : Plc) (cap : Nat), σ r = some p → vx = .slice (some ⟨p.b, p.base + o, none⟩) n cap → ∃ w', (Builtin.clear_ #[t] ty #[vx]).run P w = .ok (.tuple #[]) w' ∧ WR Z σ (if n = 0 then H else H.set r (.cells (Go.AL.splice l o (repl n z)))) w' := by
    rintro p cap hp rfl
    by_cases hn : n = 0
    · subst hn
      exact ⟨w, by simp [Builtin.clear_, run_underlying ht], by simpa using hW⟩
    · obtain ⟨n, rfl⟩ : ∃ m, n = m + 1 := ⟨n - 1, by omega⟩
      obtain ⟨g1, g2⟩ := repl_rel h3 h4 (by omega) (n + 1)
      obtain ⟨k1, k2⟩ := hW.splice (P := P) (us := (Builtin.zeroCells zv.cells (n + 1)).toList) hr hp (o := o) g1 g2 (by rw [repl_length, ← hsz]; exact ho)
      have hrun : (Builtin.clear_ #[t] ty #[.slice (some ⟨p.b, p.base + o, none⟩) (n + 1) cap]).run P w = ((storeCells ⟨p.b, p.base + o, none⟩ (Builtin.zeroCells zv.cells (n + 1)).toList).run P w).andThen fun _ w' => .ok (.tuple #[]) w' := by
        simp [Builtin.clear_, run_underlying ht, zeroValue, typeInfo, hi, h2]
      rw [if_neg (by omega)]
      exact ⟨_, by rw [hrun, k1]; rfl, k2⟩
  cases hx with
  | slx hp hn => exact main _ _ hp rfl
  | slxz hp a => exact ⟨w, by simp [Builtin.clear_, run_underlying ht], by simpa using hW⟩
  | slo hp hn hs => exact main _ _ hp rfl
  | sloz hp a => exact ⟨w, by simp [Builtin.clear_, run_underlying ht], by simpa using hW⟩
end
def acopy (esz : Nat) (d x : AV) (H : AH) : Option (AV × AH) :=
  match aslcells esz x H with
  | some (m, xs) => match d with
    | .sl r o n _ => match H.cells? r with
      | some l => if min n m = 0 then some (.int .i64 0, H) else if o + min n m * esz ≤ l.length then some (.int .i64 ((min n m : Nat) : Int), H.set r (.cells (Go.AL.splice l o (xs.take (min n m * esz))))) else none
      | none => none
    | _ => none
  | none => none
section
variable {P : Program} {Z : Zt} {σ : Sg} {H : AH} {w : World}
theorem src_short {x : AV} {vx : Value} {esz m k : Nat} {xs : List AV} (hx : VR Z σ x vx) (h : aslcells esz x H = some (m, xs)) (hk : k < m) :
    ∃ ad cap x', vx = .slice ad m cap ∧ VR Z σ x' (.slice ad k cap) ∧ aslcells esz x' H = some (k, xs.take (k * esz)) := by
  unfold aslcells at h
  split at h
  · simp only [Option.some.injEq, Prod.mk.injEq] at h; omega
  · rename_i l n ex
    split at h <;> simp only [Option.some.injEq, Prod.mk.injEq, reduceCtorEq] at h
    rename_i hl
    obtain ⟨rfl, rfl⟩ := h
    have hke : k * esz ≤ n * esz := Nat.mul_le_mul_right _ (by omega)
    have hlt : (l.take (k * esz)).length = k * esz := by rw [List.length_take]; omega
    cases hx with
    | simz ad hx0 => omega
    | simn => omega
    | sim hn hxx hs hz h1 hv =>
      rename_i cap ad c el fr
      have e1 : (c.toList.drop ad.off).take (l.take (k * esz)).length = ((c.toList.drop ad.off).take l.length).take (k * esz) := by
        rw [List.take_take, hlt, hl, Nat.min_eq_left hke]
      refine ⟨some ad, cap, .sim (l.take (k * esz)) k false, rfl, .sim (by omega) (fun h => by cases h) hs hz ?_ ?_, by simp only [aslcells, hlt, if_true]⟩
      · rw [e1]; intro u hu; exact h1 u (List.mem_of_mem_take hu)
      · rw [e1]; exact hv.take _
  · rename_i r o n lim
    split at h
    · rename_i l hl
      split at h <;> simp only [Option.some.injEq, Prod.mk.injEq, reduceCtorEq] at h
      rename_i hlen
      obtain ⟨rfl, rfl⟩ := h
      have hke : k * esz ≤ n * esz := Nat.mul_le_mul_right _ (by omega)
      have main : ∀ lim', aslcells esz (.sl r o k lim') H = some (k, ((l.drop o).take (n * esz)).take (k * esz)) := fun lim' => by
        have hle : o + k * esz ≤ l.length := by omega
        simp only [aslcells, hl, hle, if_true, List.take_take, Nat.min_eq_left hke]
      cases hx with
      | slx hp hn => exact ⟨_, _, .sl r o k (.ex _), rfl, .slx hp (by omega), main _⟩
      | slxz hp a => omega
      | slo hp hn hs => exact ⟨_, _, .sl r o k (.op _), rfl, .slo hp (by omega) hs, main _⟩
      | sloz hp a => omega
    · cases h
  · cases h
theorem src_first (hW : WR Z σ H w) {x : AV} {vx : Value} {esz m k : Nat} {xs : List AV} (hx : VR Z σ x vx) (h : aslcells esz x H = some (m, xs)) (hk : k ≤ m) :
    ∃ ad cap news, vx = .slice ad m cap ∧ VRs Z σ (xs.take (k * esz)) news ∧ news.length = k * esz ∧ (∀ v ∈ news, v.oneCell' = true) ∧ (Builtin.firstCells esz k vx).run P w = .ok news.toArray w := by
  rcases Nat.lt_or_ge k m with hlt | hge
  · obtain ⟨ad, cap, x', rfl, h1, h2⟩ := src_short (H := H) hx h hlt
    obtain ⟨ad', cap', news, he, g1, g2, g3, _, g5⟩ := src_sound (P := P) hW h1 h2
    cases he
    refine ⟨ad, cap, news, rfl, g1, g2, g3, ?_⟩
    have := g5 w rfl
    cases ad <;> simpa [Builtin.firstCells] using this
  · have e : k = m := by omega
    subst e
    obtain ⟨ad, cap, news, rfl, g1, g2, g3, _, g5⟩ := src_sound (P := P) hW hx h
    have hl : xs.length = k * esz := by rw [g1.length, g2]
    exact ⟨ad, cap, news, rfl, by rw [List.take_of_length_le (by omega)]; exact g1, g2, g3, g5 w rfl⟩
theorem acopy_sound (hW : WR Z σ H w) {t u e : TypeId} {i : TypeInfo} (ht : P.underlying t = some (.slice e)) (hi : P.info? e = some i) {d x : AV} {vd vx : Value} (hd : VR Z σ d vd) (hx : VR Z σ x vx) (ty : TypeId)
    {v : AV} {H' : AH} (h : acopy i.size d x H = some (v, H')) : ∃ cv w', (Builtin.copy_ #[t, u] ty #[vd, vx]).run P w = .ok cv w' ∧ WR Z σ H' w' ∧ VR Z σ v cv := by
  unfold acopy at h
  split at h
  · rename_i m xs hs
    split at h
    · rename_i r o n lim
      split at h
      · rename_i l hl
        obtain ⟨ad, cap, news, rfl, g1, g2, g3, g4⟩ := src_first (P := P) hW hx hs (Nat.min_le_right n m)
        have hlen : ∀ (bs : Option Addr) (dc : Nat), (Builtin.copy_ #[t, u] ty #[.slice bs n dc, .slice ad m cap]).run P w = match bs with
            | some a => ((storeCells a news).run P w).andThen fun _ w' => .ok (.int .i64 ((min n m : Nat) : Int)) w'
            | none => .ok (.int .i64 ((min n m : Nat) : Int)) w := fun bs dc => by
          have hmn : Nat.min m n = min n m := Nat.min_comm _ _
          cases bs <;> simp [Builtin.copy_, run_underlying ht, Builtin.lenOf, sizeOf, typeInfo, hi, hmn, g4, goInt]
        have zero : min n m = 0 → ∀ (bs : Option Addr) (dc : Nat), (Builtin.copy_ #[t, u] ty #[.slice bs n dc, .slice ad m cap]).run P w = .ok (.int .i64 0) w := fun h0 bs dc => by
          have hn : news = [] := List.eq_nil_of_length_eq_zero (by rw [g2, h0, Nat.zero_mul])
          rw [hlen bs dc, h0, hn]
          cases bs <;> simp [storeCells]
        obtain ⟨bs, dc, rfl⟩ : ∃ bs dc, vd = .slice bs n dc := by cases hd <;> exact ⟨_, _, rfl⟩
        split at h
        · rename_i h0
          simp only [Option.some.injEq, Prod.mk.injEq] at h
          obtain ⟨rfl, rfl⟩ := h
          exact ⟨_, w, zero h0 bs dc, hW, .int _ _⟩
        · rename_i h0
          split at h <;> simp only [Option.some.injEq, Prod.mk.injEq, reduceCtorEq] at h
          rename_i hle
          obtain ⟨rfl, rfl⟩ := h
          have main : ∀ (p : Plc), σ r = some p → bs = some ⟨p.b, p.base + o, none⟩ → ∃ cv w', (Builtin.copy_ #[t, u] ty #[.slice bs n dc, .slice ad m cap]).run P w = .ok cv w' ∧ WR Z σ (H.set r (.cells (Go.AL.splice l o (xs.take (min n m * i.size))))) w' ∧ VR Z σ (.int .i64 ((min n m : Nat) : Int)) cv := by
            rintro p hp rfl
            obtain ⟨k1, k2⟩ := hW.splice (P := P) (us := news) hl hp (o := o) g1 g3 (by rw [g1.length, g2]; exact hle)
            exact ⟨_, _, by rw [hlen]; simp only [k1]; rfl, k2, .int _ _⟩
          cases hd with
          | slx hp hn => exact main _ hp rfl
          | slxz hp a => omega
          | slo hp hn hs => exact main _ hp rfl
          | sloz hp a => omega
      · cases h
    · cases h
  · cases h
end
end Go.AL
namespace Go.AL
def aeff (k : AK) (e : Env) (H : AH) : Option (AV × AH) :=
  match k with
  | .alloc z => some (.ptr H.next 0, H.push (.cells z))
  | .box x => match (x.ev e).cellsOf with
    | some l => some (.ptr H.next 0, H.push (.cells l))
    | none => none
  | .buildSlice _ len z ps => match afill e z ps with
    | some out => some (.sl H.next 0 len (.ex len), H.push (.cells out))
    | none => none
  | .mkSlice _ bytes z l c => match l.ev e, c.ev e with
    | .int _ l, .int _ c => if 0 ≤ l ∧ l ≤ c ∧ c ≤ 9223372036854775807 ∧ (bytes : Int) * c ≤ 281474976710656 then some (.sl H.next 0 l.toNat (.ex c.toNat), H.push (.cells (repl c.toNat z))) else none
    | _, _ => none
  | .store n x v => match x.ev e with
    | .ptr r o => match H.cells? r, (v.ev e).cellsOf with
      | some l, some vs => if vs.length = n ∧ o + n ≤ l.length then some (.unk, H.set r (.cells (splice l o vs))) else none
      | _, _ => none
    | _ => none
  | .append esz bytes s x => aappend esz bytes (s.ev e) (x.ev e) H
  | .mark x => match x.ev e with
    | .sl r o n (.ex m) => match H.cells? r with
      | some _ => if 0 < m then some (.sl r o n (.ex m), H) else none
      | none => none
    | _ => none
  | .appendZ esz bytes z s n => match s.ev e, n.ev e with
    | .nils, .int _ n => if 0 < n ∧ n.toNat * bytes ≤ 140737488355328 ∧ n ≤ 9223372036854775807 then some (.sl H.next 0 n.toNat (.op esz), H.push (.cells (repl n.toNat z))) else none
    | _, _ => none
  | .bytesOf x => match x.ev e with
    | .str l => some (.sl H.next 0 l.length (.op 1), H.push (.cells (l.map fun b => .int .u8 (b.toNat : Int))))
    | _ => none
  | .clr esz z x => match x.ev e with
    | .sl r o n lim => match H.cells? r with
      | some l => if o + n * esz ≤ l.length then some (.tup [], if n = 0 then H else H.set r (.cells (Go.AL.splice l o (repl n z)))) else none
      | none => none
    | _ => none
  | .copy esz x y => acopy esz (x.ev e) (y.ev e) H
  | .makeMap => some (.mp H.next, H.push (.map [] 0))
  | .mapUpd ty m k v => match m.ev e, akey ty (k.ev e) with
    | .mp r, some L => match H.get r with
      | some (.map es clock) => match afind ty L es with
        | some (some (j, _)) => some (.unk, H.set r (.map (es.modify j fun x => (k.ev e, v.ev e, x.2.2)) clock))
        | some none => some (.unk, H.set r (.map (es ++ [(k.ev e, v.ev e, clock)]) (clock + 1)))
        | none => none
      | _ => none
    | _, _ => none
  | _ => none
def aone (k : AK) (e : Env) (H : AH) : Option (AV × AH) :=
  match apure k e with
  | some v => some (v, H)
  | none => match aread k e H with
    | some v => some (v, H)
    | none => aeff k e H
inductive AOut where
  | ret (v : AV)
  | pan (v : AV)
def OutR (Z : Zt) (σ : Sg) : AOut → Ending → Prop
  | .ret v, e => ∃ cv, e = .returned cv ∧ VR Z σ v cv
  | .pan v, e => ∃ cv, e = .panicked [{ v := cv, recovered := false }] ∧ VR Z σ v cv
def Enters (P : Program) (f : FuncId) : Prop := ∃ fn, P.funcs[f]? = some fn ∧ fn.name ≠ "runtime.NumGoroutine" ∧ fn.body.isSome = true
def ACall (P : Program) (f : FuncId) (args : List AV) (H : AH) (post : AOut → AH → Prop) : Prop :=
  Enters P f ∧ ∀ (Z : Zt) (σ : Sg) (w : World) (vs : List Value), WR Z σ H w → VRs Z σ args vs →
    Calls P f vs.toArray w fun e w' => ∃ Z' σ' H' out, Zle Z Z' ∧ Nw σ H.next σ' ∧ H.next ≤ H'.next ∧ WR Z' σ' H' w' ∧ OutR Z' σ' out e ∧ post out H'
theorem ACall.mono {P : Program} {f : FuncId} {args : List AV} {H : AH} {post post' : AOut → AH → Prop} (h : ACall P f args H post) (hp : ∀ o H', post o H' → post' o H') : ACall P f args H post' :=
  ⟨h.1, fun Z σ w vs h1 h2 => (h.2 Z σ w vs h1 h2).mono fun _ _ ⟨Z', σ', H', out, a, b, c, d, e, f⟩ => ⟨Z', σ', H', out, a, b, c, d, e, hp _ _ f⟩⟩
class YC where
  y : Nat → List AV → AH → (AOut → AH → Prop) → Prop
  mono : ∀ {l : Nat} {args : List AV} {H : AH} {post post' : AOut → AH → Prop}, y l args H post → (∀ o H', post o H' → post' o H') → y l args H post'
instance (priority := low) ycNone : YC := ⟨fun _ _ _ _ => False, fun h _ => h⟩
variable [YC]
def ACallV (P : Program) (fv : AV) (args : List AV) (H : AH) (post : AOut → AH → Prop) : Prop :=
  match fv with
  | .fn (.func g) first cap => ACall P g (first ++ args ++ cap) H post
  | .fn (.yield l) [] [] => YC.y l args H post
  | _ => False
def aop (P : Program) (k : AK) (e : Env) (H : AH) (K : AV → AH → Prop) (Kp : AV → AH → Prop) : Prop :=
  match k with
  | .call f args => ACallV P (f.ev e) (args.map (·.ev e)) H fun out H' => match out with
    | .ret v => K v H'
    | .pan v => Kp v H'
  | .panic x => match x.ev e with
    | .ifc t v => Kp (.ifc t v) H
    | _ => False
  | .defer _ _ => False
  | .recover => False
  | k => match aone k e H with
    | some (v, H') => K v H'
    | none => False
def AK.isDefer : AK → Bool
  | .defer _ _ => true
  | _ => false
structure AOper where
  dst : Option Nat
  k : AK
  gd : Option (Nat × Bool)
def Env.put (e : Env) (d : Option Nat) (v : AV) : Env := match d with
  | some d => e.set d v
  | none => e
def agd : AV → Option (Option Bool)
  | .bool b => some (some b)
  | .tup [] => some none
  | _ => none
abbrev aud : AV := .tup []
def aops (P : Program) : List AOper → Env → AH → (Env → AH → Prop) → (AV → Env → AH → Prop) → Prop
  | [], e, H, K, _ => K e H
  | o :: l, e, H, K, Kp =>
    match o.gd with
    | none => (match o.k with
      | .defer f args => (match f.ev e, e dslot with
        | .fn (.func g) first cap, .tup ds => aops P l ((e.set dslot (.tup (.tup [.fn (.func g) [] [], .tup (first ++ args.map (·.ev e) ++ cap)] :: ds))).put o.dst .unk) H K Kp
        | _, _ => False)
      | k => aop P k e H (fun v H' => aops P l (e.put o.dst v) H' K Kp) (fun v H' => Kp v e H'))
    | some (s, want) => match agd (e s) with
      | some b => (b = some want → aop P o.k e H (fun v H' => aops P l (e.put o.dst v) H' K Kp) (fun v H' => Kp v e H')) ∧ (b ≠ some want → aops P l (e.put o.dst aud) H K Kp)
      | none => False
inductive Ex where
  | normal
  | exit (id : Nat)
  | ret
  | pan (v : AV)
def dstOk (n : Nat) : Option Nat → Bool
  | some d => decide (d < n)
  | none => true
def compOper (P : Program) (n : Nat) (ops : Array Oper) (o : Oper) : Option AOper :=
  match compOp P o with
  | none => none
  | some k =>
    if dstOk n o.dst = true then
      match o.guard with
      | none => some ⟨o.dst, k, none⟩
      | some (j, want) => match (ops[j]?).bind (·.dst) with
        | some s => if s < n ∧ k.isDefer = false then some ⟨o.dst, k, some (s, want)⟩ else none
        | none => none
    else none
def compOpers (P : Program) (n : Nat) (ops : Array Oper) : List Oper → Option (List AOper)
  | [] => some []
  | o :: l => match compOper P n ops o, compOpers P n ops l with
    | some x, some xs => some (x :: xs)
    | _, _ => none
end Go.AL
namespace Go.AL
section
variable {P : Program}
def Inv (P : Program) (o : Oper) (k : AK) : Prop :=
  match k with
  | .load g x => ∃ t y, o.op = .load t y ∧ tload P t = some g ∧ cOpd y = some x
  | .strOfBytes x => ∃ s d y e, o.op = .convert s d y ∧ P.underlying s = some (.slice e) ∧ P.underlying d = some .string ∧ P.underlying e = some (.int .u8) ∧ cOpd y = some x
  | .alloc z => ∃ t, o.op = .alloc t ∧ tzero P t = some z
  | .box x => ∃ t y, o.op = .box t y ∧ cOpd y = some x
  | .store n x v => ∃ t y u, o.op = .store t y u ∧ tsize P t = some n ∧ cOpd y = some x ∧ cOpd u = some v
  | .buildSlice n len z ps => ∃ t qs e zz, o.op = .buildSlice t len qs ∧ P.underlying t = some (.slice e) ∧ tsize P e = some n ∧ tzero P e = some zz ∧ n = zz.length ∧ 0 < n ∧ len * n ≤ 2 ^ 24 ∧ cParts (fun i => some (i * n, n)) qs.toList = some ps ∧ z = repl len zz
  | .mkSlice sz bytes z l c => ∃ t l' c' e i, o.op = .makeSlice t l' c' ∧ P.underlying t = some (.slice e) ∧ P.info? e = some i ∧ tzero P e = some z ∧ sz = i.size ∧ bytes = i.bytes ∧ i.size = z.length ∧ 0 < i.size ∧ cOpd l' = some l ∧ cOpd c' = some c
  | .append sz bytes s x => ∃ s' x' t u i e z, o.op = .call { callee := .builtin .append, args := #[s', x'], argTypes := #[t, u] } ∧ P.underlying t = some (.slice e) ∧ (∃ d, P.underlying u = some (.slice d)) ∧ P.info? e = some i ∧ tzero P e = some z ∧ sz = i.size ∧ bytes = i.bytes ∧ i.size = z.length ∧ 0 < i.size ∧ cOpd s' = some s ∧ cOpd x' = some x
  | .call f l => ∃ g args ats, o.op = .call { callee := .value g, args, argTypes := ats } ∧ cOpd g = some f ∧ cOpds args.toList = some l
  | .defer f l => ∃ g args ats, o.op = .defer { callee := .value g, args, argTypes := ats } ∧ cOpd g = some f ∧ cOpds args.toList = some l
  | .panic x => x = .cst .unk ∨ ∃ y, o.op = .panic y ∧ cOpd y = some x
  | .move x => ∃ y, (o.op = .move y ∨ o.op = .assign y) ∧ cOpd y = some x
  | .recover => ∃ args ats, o.op = .call { callee := .builtin .recover, args, argTypes := ats }
  | .mark x => ∃ s y e, o.op = .convert s s y ∧ P.underlying s = some (.slice e) ∧ P.underlying e = some (.int .u8) ∧ cOpd y = some x
  | .appendZ sz bytes z s x => ∃ s' x' t u i e q, o.op = .call { callee := .builtin .append, args := #[s', x'], argTypes := #[t, u] } ∧ P.underlying t = some (.slice e) ∧ P.underlying u = some (.int q) ∧ P.info? e = some i ∧ tzero P e = some z ∧ sz = i.size ∧ bytes = i.bytes ∧ i.size = z.length ∧ 0 < i.size ∧ cOpd s' = some s ∧ cOpd x' = some x
  | .bytesOf x => ∃ s d y e, o.op = .convert s d y ∧ P.underlying s = some .string ∧ P.underlying d = some (.slice e) ∧ P.underlying e = some (.int .u8) ∧ cOpd y = some x
  | .clr sz z s => ∃ s' t e i, o.op = .call { callee := .builtin .clear, args := #[s'], argTypes := #[t] } ∧ P.underlying t = some (.slice e) ∧ P.info? e = some i ∧ tzero P e = some z ∧ sz = i.size ∧ i.size = z.length ∧ 0 < i.size ∧ cOpd s' = some s
  | .copy sz x y => ∃ d s t u e i, o.op = .call { callee := .builtin .copy, args := #[d, s], argTypes := #[t, u] } ∧ P.underlying t = some (.slice e) ∧ P.info? e = some i ∧ sz = i.size ∧ cOpd d = some x ∧ cOpd s = some y
  | .makeMap => ∃ t, o.op = .makeMap t none
  | .lookup ty z ok m k => ∃ t m' k' kt el, o.op = .lookup t m' k' ok ∧ P.underlying t = some (.map kt el) ∧ kty P kt = some ty ∧ tzv P el = some z ∧ cOpd m' = some m ∧ cOpd k' = some k
  | .mapUpd ty m k v => ∃ t m' k' v' kt el, (o.op = .mapUpdate t m' k' v' ∨ o.op = .insert t m' k' v') ∧ P.underlying t = some (.map kt el) ∧ kty P kt = some ty ∧ cOpd m' = some m ∧ cOpd k' = some k ∧ cOpd v' = some v
  | .lenMap m => ∃ t m' k el, o.op = .call { callee := .builtin .len, args := #[m'], argTypes := #[t] } ∧ P.underlying t = some (.map k el) ∧ cOpd m' = some m
  | .ext c x y => ∃ g args ats f fn y1 y2, o.op = .call { callee := .value g, args, argTypes := ats } ∧ cOpd g = some (.fnc f) ∧ P.funcs[f]? = some fn ∧ fn.body = none ∧ Extern.allNextRows.lookup fn.origin = none ∧
      fn.name = (bif c then "internal/bytealg.Compare" else "internal/bytealg.IndexByte") ∧ args = #[y1, y2] ∧ cOpd y1 = some x ∧ cOpd y2 = some y
  | _ => True
theorem cOpds_two {l : List Operand} {x y : AOpd} (h : cOpds l = some [x, y]) : ∃ y1 y2, l = [y1, y2] ∧ cOpd y1 = some x ∧ cOpd y2 = some y := by
  match l, h with
  | [], h => simp [cOpds] at h
  | [a], h =>
    simp only [cOpds] at h
    cases q1 : cOpd a with
    | none => simp [q1] at h
    | some z1 => simp [q1] at h
  | [a, b], h =>
    simp only [cOpds] at h
    cases q1 : cOpd a with
    | none => simp [q1] at h
    | some z1 => cases q2 : cOpd b with
      | none => simp [q1, q2] at h
      | some z2 =>
        simp [q1, q2] at h
        exact ⟨a, b, rfl, by rw [q1, h.1], by rw [q2, h.2]⟩
  | a :: b :: c :: l, h =>
    simp only [cOpds] at h
    split at h <;> (try (cases h; done))
    rename_i h2
    split at h2 <;> (try (cases h2; done))
    rename_i h3
    split at h3 <;> (try (cases h3; done))
    simp only [Option.some.injEq] at h2 h3 h
    subst h3 h2
    simp at h
theorem extB_inv {f : AOpd} {c : Bool} (h : extB P f = some c) : ∃ g fn, f = .fnc g ∧ P.funcs[g]? = some fn ∧ fn.body = none ∧ Extern.allNextRows.lookup fn.origin = none ∧ fn.name = (bif c then "internal/bytealg.Compare" else "internal/bytealg.IndexByte") := by
  unfold extB at h
  split at h <;> (try (cases h; done))
  rename_i g
  split at h <;> (try (cases h; done))
  rename_i fn hf
  cases h1 : fn.body.isNone <;> rw [h1] at h <;> (try (cases h; done))
  cases h2 : (Extern.allNextRows.lookup fn.origin).isNone <;> rw [h2] at h <;> (try (cases h; done))
  refine ⟨g, fn, rfl, hf, by simpa using h1, by simpa using h2, ?_⟩
  simp only [cond_true] at h
  cases h3 : fn.name == "internal/bytealg.IndexByte" with
  | true =>
    rw [h3] at h
    cases h
    simpa using h3
  | false =>
    rw [h3] at h
    simp only [cond_false] at h
    cases h4 : fn.name == "internal/bytealg.Compare" with
    | true => rw [h4] at h; cases h; simpa using h4
    | false => rw [h4] at h; cases h
theorem compOp_inv0 {o : Oper} {k : AK} (h : compOp0 P o = some k) : Inv P o k := by
  obtain ⟨dst, op, ty, pos, after, guard⟩ := o
  unfold compOp0 at h
  cases op <;> simp only [] at h <;> (try (cases h; done))
  case move y =>
    simp only [Option.map_eq_some_iff] at h
    obtain ⟨z, hz, rfl⟩ := h
    exact ⟨y, .inl rfl, hz⟩
  case assign y =>
    simp only [Option.map_eq_some_iff] at h
    obtain ⟨z, hz, rfl⟩ := h
    exact ⟨y, .inr rfl, hz⟩
  case load t y =>
    split at h <;> simp only [Option.some.injEq, reduceCtorEq] at h
    rename_i h1 h2
    subst h; exact ⟨t, y, rfl, h1, h2⟩
  case store t y u =>
    split at h <;> simp only [Option.some.injEq, reduceCtorEq] at h
    rename_i h1 h2 h3
    subst h; exact ⟨t, y, u, rfl, h1, h2, h3⟩
  case alloc t =>
    simp only [Option.map_eq_some_iff] at h
    obtain ⟨z, hz, rfl⟩ := h
    exact ⟨t, rfl, hz⟩
  case box t y =>
    simp only [Option.map_eq_some_iff] at h
    obtain ⟨z, hz, rfl⟩ := h
    exact ⟨t, y, rfl, hz⟩
  case panic y =>
    simp only [Option.map_eq_some_iff] at h
    obtain ⟨z, hz, rfl⟩ := h
    exact .inr ⟨y, rfl, hz⟩
  case buildSlice t len qs =>
    split at h <;> (try (cases h; done))
    rename_i e hu
    split at h <;> (try (cases h; done))
    rename_i n zz hn hz
    split at h <;> (try (cases h; done))
    rename_i hc
    simp only [Option.map_eq_some_iff] at h
    obtain ⟨ps, hp, rfl⟩ := h
    exact ⟨t, qs, e, zz, rfl, hu, hn, hz, hc.1, hc.2.1, hc.2.2, hp, rfl⟩
  case makeSlice t l c =>
    split at h <;> (try (cases h; done))
    rename_i e l' c' hu h1 h2
    split at h <;> (try (cases h; done))
    rename_i i z hi hz
    split at h <;> (try (cases h; done))
    rename_i hc
    simp only [Option.some.injEq] at h; subst h
    exact ⟨t, l, c, e, i, rfl, hu, hi, hz, rfl, rfl, hc.1, hc.2, h1, h2⟩
  case convert s d y =>
    split at h
    · simp only [Option.some.injEq] at h; subst h; trivial
    · simp only [Option.some.injEq] at h; subst h; trivial
    · rename_i e x h1 h2 h3
      split at h
      · rename_i h4
        simp only [Option.some.injEq] at h; subst h; exact ⟨s, d, y, e, rfl, h1, h2, h4, h3⟩
      · cases h
    · rename_i e x h1 h2 h3
      split at h
      · rename_i h4
        simp only [Option.some.injEq] at h; subst h; exact ⟨s, d, y, e, rfl, h1, h2, h4, h3⟩
      · cases h
    · rename_i el e x h1 h2 h3
      split at h
      · rename_i h4
        split at h
        · rename_i h5
          simp only [Option.some.injEq] at h; subst h; subst h5
          exact ⟨s, y, e, rfl, h2, h4, h3⟩
        · cases h
      · cases h
    · cases h
  case makeMap t r =>
    cases r <;> simp only [Option.some.injEq, reduceCtorEq] at h
    subst h; exact ⟨t, rfl⟩
  case lookup t m k' ok =>
    split at h <;> (try (cases h; done))
    rename_i kt el m' k'' hu h1 h2
    split at h <;> simp only [Option.some.injEq, reduceCtorEq] at h
    rename_i ty' z h3 h4
    subst h; exact ⟨t, m, k', kt, el, rfl, hu, h3, h4, h1, h2⟩
  case mapUpdate t m k' v =>
    split at h <;> (try (cases h; done))
    rename_i kt el m' k'' v' hu h1 h2 h3
    simp only [Option.map_eq_some_iff] at h
    obtain ⟨ty', h4, rfl⟩ := h
    exact ⟨t, m, k', v, kt, el, .inl rfl, hu, h4, h1, h2, h3⟩
  case insert t m k' v =>
    split at h <;> (try (cases h; done))
    rename_i kt el m' k'' v' hu h1 h2 h3
    simp only [Option.map_eq_some_iff] at h
    obtain ⟨ty', h4, rfl⟩ := h
    exact ⟨t, m, k', v, kt, el, .inr rfl, hu, h4, h1, h2, h3⟩
  case defer c =>
    obtain ⟨callee, args, ats⟩ := c
    cases callee with
    | value f =>
      simp only [] at h
      split at h <;> (try (cases h; done))
      rename_i f' l h1 h2
      simp only [Option.some.injEq] at h; subst h
      exact ⟨f, args, ats, rfl, h1, h2⟩
    | _ => simp at h
  case call c =>
    obtain ⟨callee, args, ats⟩ := c
    cases callee with
    | value f =>
      simp only [] at h
      split at h <;> (try (cases h; done))
      rename_i f' l h1 h2
      simp only [Option.some.injEq] at h
      unfold xcall at h
      split at h
      · rename_i c hx
        split at h
        · rename_i x y
          subst h
          obtain ⟨g, fn, rfl, e1, e2, e3, e4⟩ := extB_inv hx
          obtain ⟨y1, y2, e5, e6, e7⟩ := cOpds_two h2
          have e8 : args = #[y1, y2] := Array.ext' (by simpa using e5)
          exact ⟨f, args, ats, g, fn, y1, y2, rfl, h1, e1, e2, e3, e4, e8, e6, e7⟩
        · subst h; exact ⟨f, args, ats, rfl, h1, h2⟩
      · subst h; exact ⟨f, args, ats, rfl, h1, h2⟩
    | builtin b =>
      cases b <;> simp only [] at h <;> (try (cases h; done))
      case clear =>
        split at h <;> (try (cases h; done))
        rename_i s t ha hts
        split at h <;> (try (cases h; done))
        rename_i e s' hu h1
        split at h <;> (try (cases h; done))
        rename_i i z hi hz
        split at h <;> (try (cases h; done))
        rename_i hc
        simp only [Option.some.injEq] at h; subst h
        have e1 : args = #[s] := Array.ext' (by simpa using ha)
        have e2 : ats = #[t] := Array.ext' (by simpa using hts)
        subst e1 e2
        exact ⟨s, t, e, i, rfl, hu, hi, hz, rfl, hc.1, hc.2, h1⟩
      case copy =>
        split at h <;> (try (cases h; done))
        rename_i d s t u ha hts
        split at h <;> (try (cases h; done))
        rename_i e d' s' hu h1 h2
        split at h <;> (try (cases h; done))
        rename_i i hi
        simp only [Option.some.injEq] at h; subst h
        have e1 : args = #[d, s] := Array.ext' (by simpa using ha)
        have e2 : ats = #[t, u] := Array.ext' (by simpa using hts)
        subst e1 e2
        exact ⟨d, s, t, u, e, i, rfl, hu, hi, rfl, h1, h2⟩
      case append =>
        split at h <;> (try (cases h; done))
        rename_i s x t u ha hts
        split at h <;> (try (cases h; done))
        rename_i e s' x' hu h1 h2
        split at h <;> (try (cases h; done))
        · rename_i i z d hi hz hd
          split at h <;> (try (cases h; done))
          rename_i hc
          simp only [Option.some.injEq] at h; subst h
          have e1 : args = #[s, x] := Array.ext' (by simpa using ha)
          have e2 : ats = #[t, u] := Array.ext' (by simpa using hts)
          subst e1 e2
          exact ⟨s, x, t, u, i, e, z, rfl, hu, ⟨d, hd⟩, hi, hz, rfl, rfl, hc.1, hc.2, h1, h2⟩
        · rename_i i z d hi hz hd
          split at h <;> (try (cases h; done))
          rename_i hc
          simp only [Option.some.injEq] at h; subst h
          have e1 : args = #[s, x] := Array.ext' (by simpa using ha)
          have e2 : ats = #[t, u] := Array.ext' (by simpa using hts)
          subst e1 e2
          exact ⟨s, x, t, u, i, e, d, rfl, hu, hd, hi, hz, rfl, rfl, hc.1, hc.2, h1, h2⟩
      case recover =>
        simp only [Option.some.injEq] at h; subst h; exact ⟨args, ats, rfl⟩
      case len =>
        split at h <;> (try (cases h; done))
        rename_i x t ha hts
        have e1 : args = #[x] := Array.ext' (by simpa using ha)
        have e2 : ats = #[t] := Array.ext' (by simpa using hts)
        subst e1 e2
        split at h <;> simp only [Option.some.injEq, reduceCtorEq] at h <;> subst h <;> try trivial
        rename_i k' el y hu hy
        exact ⟨t, x, k', el, rfl, hu, hy⟩
      all_goals
        (repeat' (split at h)) <;> (try (cases h; done)) <;> (simp only [Option.some.injEq] at h; subst h; trivial)
    | _ => simp at h
  all_goals
    (repeat' (split at h)) <;> (try (cases h; done)) <;>
      first
        | (simp only [Option.some.injEq] at h; subst h; trivial)
        | (simp only [Option.map_eq_some_iff] at h; obtain ⟨_, _, rfl⟩ := h; trivial)
        | (simp only [Option.bind_eq_some_iff, Option.map_eq_some_iff] at h; obtain ⟨_, _, _, _, rfl⟩ := h; trivial)
        | (simp only [Option.bind_eq_some_iff] at h; obtain ⟨_, _, h⟩ := h; split at h <;> (try (cases h; done)); (simp only [Option.some.injEq] at h; subst h; trivial))
theorem compOp_inv {o : Oper} {k : AK} (h : compOp P o = some k) : Inv P o k := by
  unfold compOp at h
  cases h0 : compOp0 P o with
  | none => rw [h0] at h; cases h; exact .inl rfl
  | some k' => rw [h0] at h; cases h; exact compOp_inv0 h0
end
end Go.AL
namespace Go.AL
inductive DR (Z : Zt) (σ : Sg) : List AV → List Deferred → Prop
  | nil : DR Z σ [] []
  | cons {g : FuncId} {all : List AV} {capt args : Array Value} {ds : List AV} {dd : List Deferred} (h : VRs Z σ all (args ++ capt).toList) (t : DR Z σ ds dd) :
      DR Z σ (.tup [.fn (.func g) [] [], .tup all] :: ds) ({ target := .fn (.func g) capt, args := args } :: dd)
  | mark {b : Nat} {ds : List AV} {dd : List Deferred} (h : Z b = some (.deferred (some []))) (ho : ¬ Z.old b) (hn : ∀ d ∈ dd, d.target ≠ .collected b) (t : DR Z σ ds dd) : DR Z σ (.nili :: ds) ({ target := .collected b, args := #[] } :: dd)
theorem DR.mono {Z Z' : Zt} {σ σ' : Sg} (hZ : Zle Z Z') (hS : Sle σ σ') {ds : List AV} {dd : List Deferred} (h : DR Z σ ds dd) : DR Z' σ' ds dd := by
  induction h with
  | nil => exact .nil
  | cons h _ ih => exact .cons (h.mono hZ hS) ih
  | mark h h2 h3 _ ih => exact .mark (hZ.le _ _ h) (by rw [hZ.old]; exact h2) h3 ih
theorem DR.marks {Z : Zt} {σ : Sg} {ds : List AV} {dd : List Deferred} (h : DR Z σ ds dd) {b : Nat} : ∀ d ∈ dd, d.target = .collected b → Z b = some (.deferred (some [])) := by
  induction h with
  | nil => intro d hd; cases hd
  | cons _ _ ih => intro d hd ht; cases hd with
    | head => cases ht
    | tail _ hd => exact ih d hd ht
  | mark h _ _ _ ih => intro d hd ht; cases hd with
    | head => cases ht; exact h
    | tail _ hd => exact ih d hd ht
structure FR (Z : Zt) (σ : Sg) (n : Nat) (e : Env) (a : Act) : Prop where
  er : ER Z σ e a
  ds : ∃ l, e dslot = .tup l ∧ DR Z σ l a.defers
  sz : a.tmps.size = n
theorem FR.mono {Z Z' : Zt} {σ σ' : Sg} (hZ : Zle Z Z') (hS : Sle σ σ') {n : Nat} {e : Env} {a : Act} (h : FR Z σ n e a) : FR Z' σ' n e a :=
  ⟨h.er.mono hZ hS, let ⟨l, h1, h2⟩ := h.ds; ⟨l, h1, h2.mono hZ hS⟩, h.sz⟩
theorem FR.put {Z : Zt} {σ : Sg} {n : Nat} (hn : n ≤ dslot) {e : Env} {a : Act} (h : FR Z σ n e a) {d : Option Nat} (hd : ∀ x, d = some x → x < n) {x : AV} {v : Value} (hx : VR Z σ x v) : FR Z σ n (e.put d x) (a.put d v) := by
  cases d with
  | none => exact h
  | some d =>
    have hdn := hd d rfl
    obtain ⟨l, h1, h2⟩ := h.ds
    refine ⟨h.er.put (by rw [h.sz]; exact hdn) hx, ⟨l, ?_, h2⟩, by simp [Act.put, h.sz]⟩
    simp only [Env.put]
    rw [Env.set_ne _ _ (by omega)]; exact h1
def ExR (Z : Zt) (σ : Sg) : Ex → Exit → Prop
  | .normal, x => x = .normal
  | .exit id, x => x = .exit id
  | .ret, x => x = .ret
  | .pan v, x => ∃ cv, x = .panic [{ v := cv, recovered := false }] ∧ VR Z σ v cv
def QR (Z : Zt) (σ : Sg) (n m : Nat) (Q : Ex → Env → AH → Prop) : Exit → Act → World → Prop := fun x a w =>
  ∃ Z' σ' y e H, Zle Z Z' ∧ Nw σ m σ' ∧ m ≤ H.next ∧ WR Z' σ' H w ∧ FR Z' σ' n e a ∧ ExR Z' σ' y x ∧ Q y e H
theorem QR.weaken {Z Z' : Zt} {σ σ' : Sg} {n m m' : Nat} {Q : Ex → Env → AH → Prop} {x : Exit} {a : Act} {w : World} (hZ : Zle Z Z') (hS : Nw σ m σ') (hm : m ≤ m') (h : QR Z' σ' n m' Q x a w) : QR Z σ n m Q x a w := by
  obtain ⟨Z2, σ2, y, e, H, a1, a2, a3, rest⟩ := h
  exact ⟨Z2, σ2, y, e, H, hZ.trans a1, hS.trans a2 hm, by omega, rest⟩
section
variable {P : Program} {Z : Zt} {σ : Sg} {H : AH} {e : Env} {a : Act} {w : World}
theorem aone_next {k : AK} {v : AV} {H' : AH} (h : aone k e H = some (v, H')) : H.next ≤ H'.next := by
  unfold aone at h
  split at h
  · simp only [Option.some.injEq, Prod.mk.injEq] at h; rw [← h.2]; exact Nat.le_refl _
  · split at h
    · simp only [Option.some.injEq, Prod.mk.injEq] at h; rw [← h.2]; exact Nat.le_refl _
    · unfold aeff at h
      split at h
      · simp only [Option.some.injEq, Prod.mk.injEq] at h; rw [← h.2]; simp
      · split at h <;> simp only [Option.some.injEq, Prod.mk.injEq, reduceCtorEq] at h
        rw [← h.2]; simp
      · split at h <;> simp only [Option.some.injEq, Prod.mk.injEq, reduceCtorEq] at h
        rw [← h.2]; simp
      · split at h <;> (try cases h; done)
        split at h <;> simp only [Option.some.injEq, Prod.mk.injEq, reduceCtorEq] at h
        rw [← h.2]; simp
      · split at h <;> (try cases h; done)
        split at h <;> (try cases h; done)
        split at h <;> simp only [Option.some.injEq, Prod.mk.injEq, reduceCtorEq] at h
        rw [← h.2]; simp
      · unfold aappend at h
        split at h <;> (try cases h; done)
        split at h
        · split at h
          · simp only [Option.some.injEq, Prod.mk.injEq] at h; rw [← h.2]; simp
          · split at h <;> simp only [Option.some.injEq, Prod.mk.injEq, reduceCtorEq] at h
            rw [← h.2]; simp
        · split at h
          · simp only [Option.some.injEq, Prod.mk.injEq] at h; rw [← h.2]; simp
          · split at h <;> simp only [Option.some.injEq, Prod.mk.injEq, reduceCtorEq] at h
            rw [← h.2]; simp
        · split at h <;> (try cases h; done)
          split at h
          · split at h <;> simp only [Option.some.injEq, Prod.mk.injEq, reduceCtorEq] at h
            rw [← h.2]; simp
          · split at h <;> simp only [Option.some.injEq, Prod.mk.injEq, reduceCtorEq] at h
            rw [← h.2]; simp
        · split at h <;> (try cases h; done)
          split at h
          · simp only [Option.some.injEq, Prod.mk.injEq] at h; rw [← h.2]; simp
          · split at h <;> simp only [Option.some.injEq, Prod.mk.injEq, reduceCtorEq] at h
            rw [← h.2]; simp
        · cases h
      · split at h <;> (try cases h; done)
        split at h <;> (try cases h; done)
        split at h <;> simp only [Option.some.injEq, Prod.mk.injEq, reduceCtorEq] at h
        rw [← h.2]; exact Nat.le_refl _
      · split at h <;> (try cases h; done)
        split at h <;> simp only [Option.some.injEq, Prod.mk.injEq, reduceCtorEq] at h
        rw [← h.2]; simp
      · split at h <;> simp only [Option.some.injEq, Prod.mk.injEq, reduceCtorEq] at h
        rw [← h.2]; simp
      · split at h <;> (try cases h; done)
        split at h <;> (try cases h; done)
        split at h <;> simp only [Option.some.injEq, Prod.mk.injEq, reduceCtorEq] at h
        rw [← h.2]; split <;> simp
      · unfold acopy at h
        split at h <;> (try cases h; done)
        split at h <;> (try cases h; done)
        split at h <;> (try cases h; done)
        split at h
        · simp only [Option.some.injEq, Prod.mk.injEq] at h; rw [← h.2]; exact Nat.le_refl _
        · split at h <;> simp only [Option.some.injEq, Prod.mk.injEq, reduceCtorEq] at h
          rw [← h.2]; simp
      · simp only [Option.some.injEq, Prod.mk.injEq] at h; rw [← h.2]; simp
      · split at h <;> (try cases h; done)
        split at h <;> (try cases h; done)
        split at h <;> simp only [Option.some.injEq, Prod.mk.injEq, reduceCtorEq] at h <;> (rw [← h.2]; simp)
      · cases h
theorem exec_append {ρ : Operand → Value} {o : Oper} {x y : Operand} {t u : TypeId} (ho : o.op = .call { callee := .builtin .append, args := #[x, y], argTypes := #[t, u] }) (w : World) :
    (execOp ρ o).run P w = ((do pure (.value (← Builtin.append_ #[t, u] o.type #[ρ x, ρ y])) : Sem Next)).run P w := by
  rw [exec_builtin ho]
  simp [builtin]
theorem avbytes_inv : ∀ {xs : List AV} {bs : List UInt8} {vs : List Value}, avbytes xs = some bs → VRs Z σ xs vs → ∃ ns : List Int, vs = ns.map (Value.int .u8) ∧ ∀ r : ByteArray, ns.foldl (fun r n => r.push (UInt8.ofNat n.toNat)) r = ⟨r.data ++ bs.toArray⟩
  | [], bs, vs, h, hv => by
    simp only [avbytes, Option.some.injEq] at h; subst h
    cases hv
    exact ⟨[], rfl, fun r => by simp⟩
  | x :: xs, bs, vs, h, hv => by
    cases hv with
    | cons hx ht =>
      rename_i v vs
      cases x <;> (try simp only [avbytes] at h) <;> (try (cases h; done))
      rename_i k n
      cases k <;> simp only [avbytes] at h <;> (try (cases h; done))
      simp only [Option.map_eq_some_iff] at h
      obtain ⟨bs', h1, rfl⟩ := h
      obtain ⟨ns, rfl, h2⟩ := avbytes_inv h1 ht
      have := hx.int_inv
      subst this
      refine ⟨n :: ns, rfl, fun r => ?_⟩
      simp only [List.foldl_cons]
      rw [h2]
      obtain ⟨d⟩ := r
      simp [ByteArray.push]
theorem idxB_eq : ∀ (l : List UInt8) (c : UInt8), idxB l c = Lib.indexByte l c
  | [], _ => rfl
  | b :: l, c => by simp only [idxB, Lib.indexByte, idxB_eq l c]
theorem cmpB_eq : ∀ (a b : List UInt8), cmpB a b = Lib.compareBytes a b
  | [], [] => rfl
  | [], _ :: _ => rfl
  | _ :: _, [] => rfl
  | a :: x, b :: y => by simp only [cmpB, Lib.compareBytes, cmpB_eq x y]
theorem abys_sound (hW : WR Z σ H w) {x : AV} {vx : Value} (hx : VR Z σ x vx) {l : List UInt8} (h : abys x H = some l) : (Extern.Bytes.bytesOf vx).run P w = .ok ⟨l.toArray⟩ w := by
  unfold abys at h
  split at h <;> (try (cases h; done))
  rename_i m xs hs
  obtain ⟨ad, cap, news, rfl, h1, h2, h3, h4⟩ := src_cell hW hx hs
  obtain ⟨ns, rfl, hf⟩ := avbytes_inv h h1
  have hfold : ∀ (ns : List Int) (r : ByteArray), (ns.foldl (fun r n => r.push (UInt8.ofNat n.toNat)) r) = ⟨r.data ++ (Lib.bytesOf ns).toArray⟩ := by
    intro ns
    induction ns with
    | nil => intro r; simp [Lib.bytesOf]
    | cons n ns ih =>
      intro r
      simp only [List.foldl_cons, ih]
      apply ByteArray.ext
      simp [ByteArray.push, Lib.bytesOf]
  cases ad with
  | none =>
    have : ns = [] := by cases ns with
      | nil => rfl
      | cons a b => simp at h2; have := h3 rfl; omega
    subst this
    have h0 := hf ByteArray.empty
    simp only [List.foldl_nil] at h0
    simp only [Extern.Bytes.bytesOf, Sem.run_pure]
    rw [h0]
    show Result.ok ({ data := #[] ++ l.toArray } : ByteArray) w = _
    rw [Array.empty_append]
  | some ad =>
    have hl := Lib.run_loadBytesX (P := P) w ns ad .empty (fun j x hj => h4 ad rfl j (.int .u8 x) (by rw [List.getElem?_map, hj]; rfl))
    have h5 : ns.length = m := by simpa using h2
    rw [h5] at hl
    simp only [Extern.Bytes.bytesOf, hl]
    have h0 := hf ByteArray.empty
    rw [hfold] at h0
    rw [h0]
    show Result.ok ({ data := #[] ++ l.toArray } : ByteArray) w = _
    rw [Array.empty_append]
theorem find_ext {c : Bool} {fn : Func} (h : fn.name = (bif c then "internal/bytealg.Compare" else "internal/bytealg.IndexByte")) : Extern.find fn = some (bif c then Extern.BytealgCompare.compare else Extern.BytealgIndexByte.indexByte) := by
  have e1 : Extern.allGenericRows.lookup "internal/bytealg.Compare" = none := by kernel_rfl
  have e2 : Extern.allTypedRows.lookup "internal/bytealg.Compare" = none := by kernel_rfl
  have e3 : Extern.allRows.lookup "internal/bytealg.Compare" = some Extern.BytealgCompare.compare := by kernel_rfl
  have f1 : Extern.allGenericRows.lookup "internal/bytealg.IndexByte" = none := by kernel_rfl
  have f2 : Extern.allTypedRows.lookup "internal/bytealg.IndexByte" = none := by kernel_rfl
  have f3 : Extern.allRows.lookup "internal/bytealg.IndexByte" = some Extern.BytealgIndexByte.indexByte := by kernel_rfl
  unfold Extern.find
  cases c
  · simp only [cond_false] at h ⊢
    rw [h, f1, f2, f3]; rfl
  · simp only [cond_true] at h ⊢
    rw [h, e1, e2, e3]; rfl
theorem findNext_ext {c : Bool} {fn : Func} (h : fn.name = (bif c then "internal/bytealg.Compare" else "internal/bytealg.IndexByte")) (ho : Extern.allNextRows.lookup fn.origin = none) : Extern.findNext fn = none := by
  have e1 : Extern.allNextRows.lookup "internal/bytealg.Compare" = none := by kernel_rfl
  have f1 : Extern.allNextRows.lookup "internal/bytealg.IndexByte" = none := by kernel_rfl
  unfold Extern.findNext
  cases c
  · simp only [cond_false] at h
    simp only [h, f1, ho, Option.map_none]; rfl
  · simp only [cond_true] at h
    simp only [h, e1, ho, Option.map_none]; rfl
theorem run_ext {ρ : Operand → Value} {o : Oper} {g : Operand} {args : Array Operand} {ats : Array TypeId} (ho : o.op = .call { callee := .value g, args, argTypes := ats }) {f : FuncId} (hf : ρ g = .func (.func f) #[] #[]) {c : Bool} {fn : Func}
    (h1 : P.funcs[f]? = some fn) (h2 : fn.body = none) (h3 : Extern.allNextRows.lookup fn.origin = none) (h4 : fn.name = (bif c then "internal/bytealg.Compare" else "internal/bytealg.IndexByte")) (w : World) {v : Value}
    (hr : ((bif c then Extern.BytealgCompare.compare else Extern.BytealgIndexByte.indexByte) (args.map ρ)).run P w = .ok v w) : (execOp ρ o).run P w = .ok (.value v) w := by
  have hn : (fn.name == "runtime.NumGoroutine") = false := by
    rw [h4]; cases c <;> kernel_rfl
  have hc := run_callFunc_extern (P := P) h1 hn (by rw [h2]; rfl) (findNext_ext h4 h3) (find_ext h4) (args.map ρ) w
  rw [hr] at hc
  have hc : (callFunc f (args.map ρ)).run P w = .ok (.value v) w := hc
  simp [execOp, ho, resolve, hf, Deferred.ofValue, invoke, hc]
theorem aread_sound {o : Oper} {k : AK} (hk : compOp P o = some k) (hW : WR Z σ H w) (he : ER Z σ e a) {v : AV} (hv : aread k e H = some v) :
    ∃ cv, (execOp a.eval o).run P w = .ok (.value cv) w ∧ VR Z σ v cv := by
  have hinv := compOp_inv hk
  unfold aread at hv
  split at hv
  · obtain ⟨t, y, ho, h1, h2⟩ := hinv
    obtain ⟨cv, r1, r2⟩ := aload_sound (P := P) hW h1 (cOpd_sound he h2) hv
    exact ⟨cv, by simp only [execOp, ho]; exact value_run w r1, r2⟩
  · obtain ⟨s, d, y, el, ho, h1, h2, h3, h4⟩ := hinv
    split at hv <;> (try cases hv; done)
    rename_i m xs hx
    simp only [Option.map_eq_some_iff] at hv
    obtain ⟨bs, hb, rfl⟩ := hv
    obtain ⟨ad, cap, news, e1, e2, e3, e4, e5, e6⟩ := src_sound (P := P) hW (cOpd_sound he h4) hx
    obtain ⟨ns, rfl, hf⟩ := avbytes_inv hb e2
    refine ⟨.string ⟨bs.toArray⟩, ?_, .str bs⟩
    simp only [execOp, ho]
    refine value_run w ?_
    rw [e1, run_convert_bytes_string w s d el _ _ _ h1 h3 h2]
    cases ad with
    | none =>
      have := e5 rfl
      subst this
      have : ns = [] := by cases ns with
        | nil => rfl
        | cons a b => simp at e3
      subst this
      have h0 := hf ByteArray.empty
      simp only [List.foldl_nil] at h0
      simp [Conv.bytesToString]
      rw [h0]
      show ({ data := #[] ++ bs.toArray } : ByteArray) = _
      rw [Array.empty_append]
    | some ad =>
      have hl := e6 w rfl
      rw [e1] at hl
      simp only [Builtin.firstCells, Nat.mul_one] at hl
      rw [run_bytesToString w ad m cap ns hl, hf]
      simp
  · obtain ⟨t, m', k', kt, el, ho, h1, h2, h3, h4, h5⟩ := hinv
    split at hv <;> (try cases hv; done)
    rename_i L es hL hes
    split at hv <;> (try cases hv; done)
    rename_i r hr
    simp only [Option.some.injEq] at hv; subst hv
    obtain ⟨cv, r1, r2⟩ := alookup_sound (P := P) hW h1 h2 h3 (cOpd_sound he h4) (cOpd_sound he h5) hL hes hr _
    exact ⟨cv, by simp only [execOp, ho]; exact value_run w r1, r2⟩
  · obtain ⟨t, m', k', el, ho, h1, h2⟩ := hinv
    split at hv <;> (try cases hv; done)
    rename_i es hes
    simp only [Option.some.injEq] at hv; subst hv
    refine ⟨_, ?_, .int _ _⟩
    rw [exec_builtin ho]
    simp [builtin, alenMap_sound (P := P) hW h1 (cOpd_sound he h2) hes o.type]
  · obtain ⟨g, args, ats, f, fn, y1, y2, ho, h1, h2, h3, h4, h5, rfl, h6, h7⟩ := hinv
    rename_i c x y
    split at hv <;> (try cases hv; done)
    rename_i l hl
    have hg : a.eval g = .func (.func f) #[] #[] := by
      have hfv := cOpd_sound he h1
      obtain ⟨vf, vc, e1, e2, e3⟩ := hfv.fn_inv
      have e2 : vf = #[] := by
        generalize hq : vf.toList = l2 at e2
        cases e2; exact Array.ext' (by simpa using hq)
      have e3 : vc = #[] := by
        generalize hq : vc.toList = l2 at e3
        cases e3; exact Array.ext' (by simpa using hq)
      rw [e1, e2, e3]
    have hx := abys_sound (P := P) hW (cOpd_sound he h6) hl
    have hm2 : Array.map a.eval #[y1, y2] = #[a.eval y1, a.eval y2] := by simp
    cases c with
    | true =>
      simp only [aextv, Option.map_eq_some_iff] at hv
      obtain ⟨m, hm, rfl⟩ := hv
      have hy := abys_sound (P := P) hW (cOpd_sound he h7) hm
      refine ⟨_, run_ext ho hg h2 h3 h4 h5 w ?_, .int _ _⟩
      rw [hm2]
      show Sem.run P (do pure (goInt (Extern.BytealgCompare.cmp (← Extern.Bytes.bytesOf (a.eval y1)) (← Extern.Bytes.bytesOf (a.eval y2))))) w = _
      simp only [Sem.run_bind, Sem.run_pure, hx, hy, Result.andThen]
      rw [Lib.cmp_eq, cmpB_eq]; rfl
    | false =>
      simp only [aextv] at hv
      split at hv <;> (try cases hv; done)
      rename_i n hn
      simp only [Option.some.injEq] at hv; subst hv
      have hy := cOpd_sound he h7
      rw [hn] at hy
      have hy := hy.int_inv
      refine ⟨_, run_ext ho hg h2 h3 h4 h5 w ?_, .int _ _⟩
      have hs := Lib.run_indexByteString (P := P) ⟨l.toArray⟩ n w
      rw [idxB_eq, hm2]
      show (Extern.BytealgIndexByte.indexByte #[a.eval y1, a.eval y2]).run P w = _
      rw [hy]
      change Sem.run P (do
        let b ← Extern.Bytes.bytesOf (a.eval y1)
        let c ← Extern.Bytes.asByte (.int .u8 n)
        match (List.range b.size).find? fun i => b[i]! == c with
        | some i => pure (goInt i)
        | none => pure (goInt (-1))) w = _
      change Sem.run P (do
        let b ← Extern.Bytes.bytesOf (.string ⟨l.toArray⟩)
        let c ← Extern.Bytes.asByte (.int .u8 n)
        match (List.range b.size).find? fun i => b[i]! == c with
        | some i => pure (goInt i)
        | none => pure (goInt (-1))) w = _ at hs
      simp only [Extern.Bytes.bytesOf, Sem.run_bind, Sem.run_pure, Result.andThen] at hs
      simp only [Sem.run_bind, hx, Result.andThen]
      exact hs
  · cases hv
theorem aone_run {o : Oper} {k : AK} (hk : compOp P o = some k) (hW : WR Z σ H w) (he : ER Z σ e a) {v : AV} {H' : AH} (h : aone k e H = some (v, H')) :
    ∃ cv w' σ', ((execOp a.eval o).run P w = .ok (.value cv) w' ∨ ((execOp a.eval o).run P w = .ok .skip w' ∧ cv = undef)) ∧ Nw σ H.next σ' ∧ WR Z σ' H' w' ∧ VR Z σ' v cv := by
  unfold aone at h
  split at h
  · rename_i v' hv
    simp only [Option.some.injEq, Prod.mk.injEq] at h
    obtain ⟨rfl, rfl⟩ := h
    obtain ⟨cv, r1, r2⟩ := apure_sound hk he hv w
    exact ⟨cv, w, σ, .inl r1, Nw.refl _ _, hW, r2⟩
  · have hinv := compOp_inv hk
    split at h
    · rename_i v' hv
      simp only [Option.some.injEq, Prod.mk.injEq] at h
      obtain ⟨rfl, rfl⟩ := h
      obtain ⟨cv, r1, r2⟩ := aread_sound (P := P) hk hW he hv
      exact ⟨cv, w, σ, .inl r1, Nw.refl _ _, hW, r2⟩
    · unfold aeff at h
      split at h
      · obtain ⟨t, ho, h1⟩ := hinv
        simp only [Option.some.injEq, Prod.mk.injEq] at h
        obtain ⟨rfl, rfl⟩ := h
        obtain ⟨cv, w', σ', r1, r2, r3, r4⟩ := aalloc_sound (P := P) hW h1
        exact ⟨cv, w', σ', .inl (by simp [execOp, ho, r1]), r2, r3, r4⟩
      · obtain ⟨t, y, ho, h1⟩ := hinv
        split at h <;> simp only [Option.some.injEq, Prod.mk.injEq, reduceCtorEq] at h
        rename_i l hl
        obtain ⟨rfl, rfl⟩ := h
        obtain ⟨cv, w', σ', r1, r2, r3, r4⟩ := abox_sound (P := P) hW t (cOpd_sound he h1) hl
        exact ⟨cv, w', σ', .inl (by simp [execOp, ho, r1]), r2, r3, r4⟩
      · obtain ⟨t, qs, el, zz, ho, hu, hn, hz, hnz, h0, hlim, hq, rfl⟩ := hinv
        split at h <;> simp only [Option.some.injEq, Prod.mk.injEq, reduceCtorEq] at h
        rename_i out hf
        obtain ⟨rfl, rfl⟩ := h
        obtain ⟨cv, w', σ', r1, r2, r3, r4⟩ := abuildSlice_sound (P := P) hW he hu hn hz hnz h0 hlim hq hf
        exact ⟨cv, w', σ', .inl (by simp [execOp, ho, r1]), r2, r3, r4⟩
      · obtain ⟨t, l', c', el, i, ho, hu, hi, hz, rfl, rfl, hnz, h0, h1, h2⟩ := hinv
        split at h <;> (try cases h; done)
        rename_i kl l kc c hl hc
        split at h <;> simp only [Option.some.injEq, Prod.mk.injEq, reduceCtorEq] at h
        rename_i hb
        obtain ⟨rfl, rfl⟩ := h
        have e1 := cOpd_sound he h1
        have e2 := cOpd_sound he h2
        rw [hl] at e1; rw [hc] at e2
        obtain ⟨cv, w', σ', r1, r2, r3, r4⟩ := amkSlice_sound (P := P) (k := kl) (k' := kc) hW hu hi hz hnz h0 hb.1 hb.2.1 hb.2.2.1 hb.2.2.2
        exact ⟨cv, w', σ', .inl (by simp only [execOp, ho]; rw [e1.int_inv, e2.int_inv]; exact (by simp [r1])), r2, r3, r4⟩
      · obtain ⟨t, y, u, ho, hn, h1, h2⟩ := hinv
        split at h <;> (try cases h; done)
        rename_i r o' hx
        split at h <;> (try cases h; done)
        rename_i l vs hl hvs
        split at h <;> simp only [Option.some.injEq, Prod.mk.injEq, reduceCtorEq] at h
        rename_i hb
        obtain ⟨rfl, rfl⟩ := h
        have e1 := cOpd_sound he h1
        rw [hx] at e1
        obtain ⟨w', r1, r2⟩ := astore_sound (P := P) hW hn e1 (cOpd_sound he h2) hl hvs hb.1 hb.2
        exact ⟨undef, w', σ, .inr ⟨by simp [execOp, ho, r1], rfl⟩, Nw.refl _ _, r2, .unk _⟩
      · obtain ⟨s', x', t, u, i, el, z, ho, ht, hu, hi, hz, rfl, rfl, hnz, h0, h1, h2⟩ := hinv
        obtain ⟨cv, w', σ', r1, r2, r3, r4⟩ := aappend_sound (P := P) hW ht hu hi hz hnz (cOpd_sound he h1) (cOpd_sound he h2) o.type h
        exact ⟨cv, w', σ', .inl (by rw [exec_append ho]; simp [r1]), r2, r3, r4⟩
      · obtain ⟨s, y, el, ho, h1, h2, h3⟩ := hinv
        split at h <;> (try cases h; done)
        rename_i r o' n m hx
        split at h <;> (try cases h; done)
        rename_i l hl
        split at h <;> simp only [Option.some.injEq, Prod.mk.injEq, reduceCtorEq] at h
        rename_i hm
        obtain ⟨rfl, rfl⟩ := h
        have e1 := cOpd_sound he h3
        rw [hx] at e1
        obtain ⟨w', r1, r2⟩ := amark_sound (P := P) hW h1 h2 e1 hl hm
        exact ⟨_, w', σ, .inl (by simp [execOp, ho, r1]), Nw.refl _ _, r2, e1⟩
      · obtain ⟨s', x', t, u, i, el, q, ho, ht, hu, hi, hz, rfl, rfl, hnz, h0, h1, h2⟩ := hinv
        split at h <;> (try cases h; done)
        rename_i k' n hs hn
        split at h <;> simp only [Option.some.injEq, Prod.mk.injEq, reduceCtorEq] at h
        rename_i hc
        obtain ⟨rfl, rfl⟩ := h
        have e1 := cOpd_sound he h1
        have e2 := cOpd_sound he h2
        rw [hs] at e1
        rw [hn] at e2
        obtain ⟨cv, w', σ', r1, r2, r3, r4⟩ := aappendZ_sound (P := P) (k := k') hW ht hu hi o.type hz hnz h0 hc.1 hc.2.2 hc.2.1
        refine ⟨cv, w', σ', .inl ?_, r2, r3, r4⟩
        rw [exec_append ho, e1.nils_inv, e2.int_inv]; simp [r1]
      · obtain ⟨s, d, y, el, ho, hs, hd, hel, h1⟩ := hinv
        split at h <;> (try cases h; done)
        rename_i l hx
        simp only [Option.some.injEq, Prod.mk.injEq] at h
        obtain ⟨rfl, rfl⟩ := h
        have e1 := cOpd_sound he h1
        rw [hx] at e1
        obtain ⟨cv, w', σ', r1, r2, r3, r4⟩ := abytesOf_sound (P := P) hW hs hd hel l
        exact ⟨cv, w', σ', .inl (by simp only [execOp, ho]; rw [e1.str_inv]; simp [r1]), r2, r3, r4⟩
      · obtain ⟨s', t, el, i, ho, ht, hi, hz, rfl, hnz, h0, h1⟩ := hinv
        split at h <;> (try cases h; done)
        rename_i r o' n lim hx
        split at h <;> (try cases h; done)
        rename_i l hl
        split at h <;> (try cases h; done)
        rename_i hb
        simp only [Option.some.injEq, Prod.mk.injEq] at h
        obtain ⟨rfl, rfl⟩ := h
        have e1 := cOpd_sound he h1
        rw [hx] at e1
        obtain ⟨w', r1, r2⟩ := aclr_sound (P := P) hW ht hi o.type hz hnz h0 e1 hl hb
        refine ⟨.tuple #[], w', σ, .inl ?_, Nw.refl _ _, r2, .tup .nil⟩
        rw [exec_builtin ho]
        simp [builtin, r1]
      · obtain ⟨d, s, t, u, el, i, ho, ht, hi, rfl, h1, h2⟩ := hinv
        obtain ⟨cv, w', r1, r2, r3⟩ := acopy_sound (P := P) (u := u) hW ht hi (cOpd_sound he h1) (cOpd_sound he h2) o.type h
        refine ⟨cv, w', σ, .inl ?_, Nw.refl _ _, r2, r3⟩
        rw [exec_builtin ho]
        simp [builtin, r1]
      · obtain ⟨t, ho⟩ := hinv
        simp only [Option.some.injEq, Prod.mk.injEq] at h
        obtain ⟨rfl, rfl⟩ := h
        obtain ⟨cv, w', σ', r1, r2, r3, r4⟩ := amakeMap_sound (P := P) hW t
        exact ⟨cv, w', σ', .inl (by simp [execOp, ho, r1]), r2, r3, r4⟩
      · obtain ⟨t, m', k', v', kt, el, ho, ht, hk', h1, h2, h3⟩ := hinv
        split at h <;> (try cases h; done)
        rename_i r L hm hL
        split at h <;> (try cases h; done)
        rename_i es clock hr
        have e1 := cOpd_sound he h1
        rw [hm] at e1
        split at h <;> simp only [Option.some.injEq, Prod.mk.injEq, reduceCtorEq] at h
        · rename_i j v0 hq
          obtain ⟨rfl, rfl⟩ := h
          obtain ⟨w', r1, r2⟩ := amapUpd_sound (P := P) hW ht hk' e1 (cOpd_sound he h2) (cOpd_sound he h3) hL hr hq
          refine ⟨undef, w', σ, .inr ⟨?_, rfl⟩, Nw.refl _ _, r2, .unk _⟩
          rcases ho with ho | ho <;> simp [execOp, ho, r1]
        · rename_i hq
          obtain ⟨rfl, rfl⟩ := h
          obtain ⟨w', r1, r2⟩ := amapUpd_sound (P := P) hW ht hk' e1 (cOpd_sound he h2) (cOpd_sound he h3) hL hr hq
          refine ⟨undef, w', σ, .inr ⟨?_, rfl⟩, Nw.refl _ _, r2, .unk _⟩
          rcases ho with ho | ho <;> simp [execOp, ho, r1]
      · cases h
end
end Go.AL
namespace Go.AL
abbrev RF (ro : Option Nat) : Fence := { fn := fun _ => True, depth := none, alive := false, round := ro }
theorem callsIn_rf {ro : Option Nat} {n : Nat} {P : Program} {f : FuncId} {args : Array Value} {w : World} {R : Ending → World → Prop} (h : Calls P f args w R) : CallsIn (RF ro) n P f args w R :=
  (callsIn_wide (n := n)).2 h
theorem roundIn_rf {ro : Option Nat} {n m l : Nat} {P : Program} {f : FuncId} {tmps : Array Value} {as bd : Code} {w : World} {R : Ending → World → Prop} (h : RoundIn Fence.wide n P l f tmps as bd w R) : RoundIn (RF ro) m P l f tmps as bd w R :=
  ⟨trivial, fun c cs _ => h.2 c cs (room_wide _)⟩
theorem rf_depth {ro : Option Nat} {n : Nat} : (RF ro).depth.isSome = true → 1 ≤ n := fun h => by cases h
def YOk (P : Program) (Z0 : Zt) (σ0 : Sg) (m : Nat) [YC] : Prop := ∀ (l : Nat) (args : List AV) (H : AH) (post : AOut → AH → Prop), YC.y l args H post → ∀ (Z : Zt) (σ : Sg) (w : World) (vs : List Value), Zle Z0 Z → Nw σ0 m σ → m ≤ H.next → WR Z σ H w → VRs Z σ args vs →
  YieldAt Fence.wide 0 P l vs.toArray w fun x w' => ∃ Z' σ' H' out, Zle Z Z' ∧ Nw σ H.next σ' ∧ H.next ≤ H'.next ∧ WR Z' σ' H' w' ∧ OutR Z' σ' out x ∧ post out H'
theorem yok_none {P : Program} {Z0 : Zt} {σ0 : Sg} {m : Nat} : YOk P Z0 σ0 m := fun _ _ _ _ h => h.elim
theorem YOk.up {P : Program} {Z0 Z1 : Zt} {σ0 σ1 : Sg} {m m1 : Nat} [YC] (hY : YOk P Z0 σ0 m) (hZ : Zle Z0 Z1) (hS : Nw σ0 m σ1) (hm : m ≤ m1) : YOk P Z1 σ1 m1 :=
  fun l args H post h Z σ w vs g1 g2 g3 => hY l args H post h Z σ w vs (hZ.trans g1) (hS.trans g2 hm) (Nat.le_trans hm g3)
theorem QR.lift {Z Z' : Zt} {σ σ' : Sg} {n m m' : Nat} {Q : Ex → Env → AH → Prop} {x : Exit} {a : Act} {w : World} (hZ : Zle Z Z') (hS : Nw σ m σ') (hm : m ≤ m') (h : QR Z' σ' n m' Q x a w) : QR Z σ n m Q x a w := h.weaken hZ hS hm
theorem compOper_inv {P : Program} {n : Nat} {ops : Array Oper} {o : Oper} {x : AOper} (h : compOper P n ops o = some x) :
    compOp P o = some x.k ∧ x.dst = o.dst ∧ (∀ d, o.dst = some d → d < n) ∧
      ((o.guard = none ∧ x.gd = none) ∨ ∃ j want s, o.guard = some (j, want) ∧ x.gd = some (s, want) ∧ (ops[j]?).bind (·.dst) = some s ∧ s < n ∧ x.k.isDefer = false) := by
  unfold compOper at h
  split at h
  · cases h
  · rename_i k hk
    by_cases hd : dstOk n o.dst = true
    · rw [if_pos hd] at h
      have hd' : ∀ d, o.dst = some d → d < n := by
        intro d he; rw [he] at hd; simpa [dstOk] using hd
      split at h
      · rename_i hg
        simp only [Option.some.injEq] at h; subst h
        exact ⟨hk, rfl, hd', .inl ⟨hg, rfl⟩⟩
      · rename_i j want hg
        split at h
        · rename_i s hs
          split at h
          · rename_i hc
            simp only [Option.some.injEq] at h; subst h
            exact ⟨hk, rfl, hd', .inr ⟨j, want, s, hg, rfl, hs, hc.1, hc.2⟩⟩
          · cases h
        · cases h
    · rw [if_neg hd] at h; cases h
theorem yielded_of {ops : Array Oper} {tmps : Array Value} {j s : Nat} {x : AV} {b : Option Bool} {Z : Zt} {σ : Sg} (h : (ops[j]?).bind (·.dst) = some s) (hv : VR Z σ x (tmps.getD s undef)) (hx : agd x = some b) : yielded ops tmps j = b := by
  unfold yielded
  rw [h]
  simp only [Option.bind_some]
  rw [Array.getD_eq_getD_getElem?] at hv
  unfold agd at hx
  split at hx <;> simp only [Option.some.injEq, reduceCtorEq] at hx <;> subst hx
  · have := hv.bool_inv
    cases hh : tmps[s]? with
    | none => rw [hh] at this; simp [undef] at this
    | some v => rw [hh] at this; simp at this; rw [this]
  · have := hv.tup_inv
    obtain ⟨vs, h1, h2⟩ := this
    cases hh : tmps[s]? with
    | none => rfl
    | some v => rw [hh] at h1; simp at h1; rw [h1]
theorem aud_VR {Z : Zt} {σ : Sg} : VR Z σ aud undef := .tup .nil
section
variable {P : Program}
theorem run_callFunc {g : FuncId} (h : Enters P g) (args : Array Value) (w : World) : (callFunc g args).run P w = .ok (.enter g args) w := by
  obtain ⟨fn, h1, h2, h3⟩ := h
  obtain ⟨c, hc⟩ := Option.isSome_iff_exists.1 h3
  simp [callFunc, h1, h2, hc]
theorem run_call {ρ : Operand → Value} {o : Oper} {f : Operand} {args : Array Operand} {ats : Array TypeId} (ho : o.op = .call { callee := .value f, args, argTypes := ats })
    {g : FuncId} {first cap : Array Value} (hf : ρ f = .func (.func g) first cap) (hE : Enters P g) (w : World) :
    (execOp ρ o).run P w = .ok (.enter g (first ++ args.map ρ ++ cap)) w := by
  simp [execOp, ho, resolve, hf, Deferred.ofValue, invoke, run_callFunc hE]
variable {Z : Zt} {σ : Sg} {H : AH} {e : Env} {a : Act} {w : World}
theorem acall_run [YC] {o : Oper} {f : AOpd} {args : List AOpd} (hk : compOp P o = some (.call f args)) (hW : WR Z σ H w) (he : ER Z σ e a) {post : AOut → AH → Prop}
    (h : ACallV P (f.ev e) (args.map (·.ev e)) H post) : (∃ g vs, (execOp a.eval o).run P w = .ok (.enter g vs) w ∧
      Calls P g vs w fun x w' => ∃ Z' σ' H' out, Zle Z Z' ∧ Nw σ H.next σ' ∧ H.next ≤ H'.next ∧ WR Z' σ' H' w' ∧ OutR Z' σ' out x ∧ post out H') ∨
      ∃ l vs, (execOp a.eval o).run P w = (Instr.yield l vs.toArray).run P w ∧ VRs Z σ (args.map (·.ev e)) vs ∧ YC.y l (args.map (·.ev e)) H post := by
  obtain ⟨f', args', ats, ho, h1, h2⟩ := compOp_inv hk
  unfold ACallV at h
  split at h
  · rename_i g first cap hf
    have hfv := cOpd_sound he h1
    rw [hf] at hfv
    obtain ⟨vf, vc, e1, e2, e3⟩ := hfv.fn_inv
    have ha := cOpds_sound he h2
    refine .inl ⟨g, _, run_call ho e1 h.1 w, ?_⟩
    have := h.2 Z σ w (vf.toList ++ args'.toList.map a.eval ++ vc.toList) hW ((e2.append ha).append e3)
    have hh : (vf ++ args'.map a.eval ++ vc) = (vf.toList ++ args'.toList.map a.eval ++ vc.toList).toArray := by simp
    rw [hh]; exact this
  · rename_i l hf
    have hfv := cOpd_sound he h1
    rw [hf] at hfv
    obtain ⟨vf, vc, e1, e2, e3⟩ := hfv.fn_inv
    have ha := cOpds_sound he h2
    have e2 : vf = #[] := by
      generalize hl : vf.toList = l2 at e2
      cases e2; exact Array.ext' (by simpa using hl)
    have e3 : vc = #[] := by
      generalize hl : vc.toList = l2 at e3
      cases e3; exact Array.ext' (by simpa using hl)
    subst e2; subst e3
    refine .inr ⟨l, args'.toList.map a.eval, ?_, ha, h⟩
    rw [show (args'.toList.map a.eval).toArray = args'.map a.eval from (Array.ext' (by rw [Array.toList_map]))]
    simp [execOp, ho, resolve, e1, Deferred.ofValue, invoke]
  · exact h.elim
theorem apanic_run {o : Oper} {x : AOpd} (hk : compOp P o = some (.panic x)) (he : ER Z σ e a) {t : TypeId} {v : AV} (hx : x.ev e = .ifc t v) :
    ∃ cv, (execOp a.eval o).run P w = .halt (.panic cv) w ∧ VR Z σ (.ifc t v) cv := by
  obtain rfl | ⟨y, ho, h1⟩ := compOp_inv hk
  · cases hx
  have h := cOpd_sound he h1
  rw [hx] at h
  refine ⟨a.eval y, ?_, h⟩
  cases hv : a.eval y <;> rw [hv] at h <;> (try cases h; done)
  simp [execOp, ho, hv, Instr.panic, goPanic]
theorem adefer_run {o : Oper} {f : AOpd} {args : List AOpd} (hk : compOp P o = some (.defer f args)) (he : ER Z σ e a) {g : FuncId} {first cap : List AV} (hf : f.ev e = .fn (.func g) first cap) :
    ∃ capt vs, (execOp a.eval o).run P w = .ok (.defer { target := .fn (.func g) capt, args := vs }) w ∧ VRs Z σ (first ++ args.map (·.ev e) ++ cap) (vs ++ capt).toList := by
  obtain ⟨f', args', ats, ho, h1, h2⟩ := compOp_inv hk
  have hfv := cOpd_sound he h1
  rw [hf] at hfv
  obtain ⟨vf, vc, e1, e2, e3⟩ := hfv.fn_inv
  have ha := cOpds_sound he h2
  refine ⟨vc, vf ++ args'.map a.eval, by simp [execOp, ho, resolve, e1, Deferred.ofValue], ?_⟩
  have := (e2.append ha).append e3
  simpa using this
theorem compOp_nd {o : Oper} {k : AK} (hk : compOp P o = some k) (hnd : k.isDefer = false) (hp : k ≠ .panic (.cst .unk)) : ∀ c, o.op ≠ .defer c := by
  intro c hc
  unfold compOp at hk
  cases h0 : compOp0 P o with
  | none => rw [h0] at hk; cases hk; exact hp rfl
  | some k' =>
    rw [h0] at hk
    simp only [Option.getD_some, Option.some.injEq] at hk; subst hk
    obtain ⟨dst, op, ty, pos, after, guard⟩ := o
    simp only at hc; subst hc
    obtain ⟨callee, cargs, ats⟩ := c
    cases callee <;> simp only [compOp0] at h0 <;> (try (cases h0; done))
    split at h0 <;> simp only [Option.some.injEq, reduceCtorEq] at h0
    subst h0; cases hnd
theorem semAt_nd {o : Oper} {k : AK} (hk : compOp P o = some k) (hnd : k.isDefer = false) (hp : k ≠ .panic (.cst .unk)) (ro : Option Nat) (ρ : Operand → Value) : o.semAt ro ρ = execOp ρ o := Oper.semAt_eq ro ρ o (compOp_nd hk hnd hp)
theorem aop_no [YC] {k : AK} (hp : k = .panic (.cst .unk)) {K Kp : AV → AH → Prop} (h : aop P k e H K Kp) : False := by subst hp; exact h
theorem aop_sound [YC] {ro : Option Nat} {n m : Nat} (hn : n ≤ dslot) {Z0 : Zt} {σ0 : Sg} {Q : Ex → Env → AH → Prop} {Qc : Exit → Act → World → Prop} {next : Act → World → Prop} {o : Oper} {k : AK} {dst : Option Nat}
    (hk : compOp P o = some k) (hd : dst = o.dst) (hdn : ∀ d, o.dst = some d → d < n) (hnd : k.isDefer = false)
    (hZ : Zle Z0 Z) (hS : Nw σ0 m σ) (hm : m ≤ H.next) (hW : WR Z σ H w) (he : FR Z σ n e a) {K : AV → AH → Prop} (h : aop P k e H K (fun v H' => Q (.pan v) e H'))
    (hK : ∀ Z' σ' v H' a' w', Zle Z0 Z' → Nw σ0 m σ' → m ≤ H'.next → WR Z' σ' H' w' → FR Z' σ' n (e.put dst v) a' → K v H' → next a' w')
    (hQ : ∀ x a' w', QR Z0 σ0 n m Q x a' w' → Qc x a' w') (hY : YOk P Z0 σ0 m) : o.wpIn (RF ro) 0 P a w next Qc := by
  subst hd
  unfold Oper.wpIn
  refine ⟨fun _ _ => trivial, ?_⟩
  rw [semAt_nd hk hnd (fun hp => aop_no hp h)]
  have plain : (match aone k e H with | some (v, H') => K v H' | none => False) → o.uponIn (RF ro) 0 P a next Qc ((execOp a.eval o).run P w) := by
    intro h
    split at h
    · rename_i v H' hone
      obtain ⟨cv, w', σ', r1, r2, r3, r4⟩ := aone_run hk hW he.er hone
      have hnx := aone_next hone
      have hF : FR Z σ' n (e.put o.dst v) (a.put o.dst cv) := (he.mono (Zle.refl _) (hW.sle r2)).put hn hdn r4
      have := hK Z σ' v H' (a.put o.dst cv) w' hZ (hS.trans r2 hm) (by omega) r3 hF h
      rcases r1 with r1 | ⟨r1, rfl⟩
      · rw [r1]; exact this
      · rw [r1]; exact this
    · exact h.elim
  cases k with
  | call f args =>
    rcases acall_run hk hW he.er h with ⟨g, vs, r1, r2⟩ | ⟨l, vs, r1, r2, r3⟩
    · rw [r1, Oper.uponIn_enter]
      refine ⟨rf_depth, callsIn_rf (r2.mono fun x w' hx => ?_)⟩
      obtain ⟨Z', σ', H', out, g1, g2, g3, g4, g5, g6⟩ := hx
      cases out with
      | ret v =>
        obtain ⟨cv, rfl, hv⟩ := g5
        exact hK Z' σ' v H' _ w' (hZ.trans g1) (hS.trans g2 hm) (by omega) g4 ((he.mono g1 (hW.sle g2)).put hn hdn hv) g6
      | pan v =>
        obtain ⟨cv, rfl, hv⟩ := g5
        exact hQ _ _ _ ⟨Z', σ', .pan v, e, H', hZ.trans g1, hS.trans g2 hm, by omega, g4, he.mono g1 (hW.sle g2), ⟨cv, rfl, hv⟩, g6⟩
    · obtain ⟨fn, tmps, as, bd, y1, y2⟩ := hY _ _ _ _ r3 Z σ w vs hZ hS hm hW r2
      rw [r1, y1, Oper.uponIn_round]
      refine ⟨rf_depth, roundIn_rf (y2.mono fun x w' hx => ?_)⟩
      obtain ⟨Z', σ', H', out, g1, g2, g3, g4, g5, g6⟩ := hx
      cases out with
      | ret v =>
        obtain ⟨cv, rfl, hv⟩ := g5
        exact hK Z' σ' v H' _ w' (hZ.trans g1) (hS.trans g2 hm) (by omega) g4 ((he.mono g1 (hW.sle g2)).put hn hdn hv) g6
      | pan v =>
        obtain ⟨cv, rfl, hv⟩ := g5
        exact hQ _ _ _ ⟨Z', σ', .pan v, e, H', hZ.trans g1, hS.trans g2 hm, by omega, g4, he.mono g1 (hW.sle g2), ⟨cv, rfl, hv⟩, g6⟩
  | panic x =>
    simp only [aop] at h
    split at h
    · rename_i t v hx
      obtain ⟨cv, r1, r2⟩ := apanic_run (w := w) hk he.er hx
      rw [r1, Oper.uponIn_panic]
      exact hQ _ _ _ ⟨Z, σ, .pan (.ifc t v), e, H, hZ, hS, hm, hW, he, ⟨cv, rfl, r2⟩, h⟩
    · exact h.elim
  | defer f args => exact h.elim
  | recover => exact h.elim
  | _ => exact plain h
theorem aops_sound [YC] {ro : Option Nat} {n : Nat} (hn : n ≤ dslot) {ops : Array Oper} {Z0 : Zt} {σ0 : Sg} {m : Nat} {Q : Ex → Env → AH → Prop} (hY : YOk P Z0 σ0 m) : ∀ (l : List Oper) (al : List AOper), compOpers P n ops l = some al → (ro = none ∨ al.all (fun o => !o.k.isDefer) = true) →
    ∀ (Z : Zt) (σ : Sg) (H : AH) (e : Env) (a : Act) (w : World), Zle Z0 Z → Nw σ0 m σ → m ≤ H.next → WR Z σ H w → FR Z σ n e a →
      aops P al e H (fun e' H' => Q .normal e' H') (fun v e' H' => Q (.pan v) e' H') → wpListIn (RF ro) 0 P ops (QR Z0 σ0 n m Q) l a w := by
  intro l
  induction l with
  | nil =>
    intro al hal hro Z σ H e a w hZ hS hm hW he h
    simp only [compOpers, Option.some.injEq] at hal; subst hal
    exact ⟨Z, σ, .normal, e, H, hZ, hS, hm, hW, he, rfl, h⟩
  | cons o l ih =>
    intro al hal hro Z σ H e a w hZ hS hm hW he h
    simp only [compOpers] at hal
    split at hal
    · rename_i x xs hx hxs
      simp only [Option.some.injEq] at hal; subst hal
      obtain ⟨hk, hd, hdn, hg⟩ := compOper_inv hx
      have hro' : ro = none ∨ xs.all (fun o => !o.k.isDefer) = true := hro.imp_right fun hh => by
        rw [List.all_cons, Bool.and_eq_true] at hh; exact hh.2
      unfold wpListIn
      simp only [aops] at h
      rcases hg with ⟨hg, hgx⟩ | ⟨j, want, s, hg, hgx, hs, hsn, hnd⟩
      · rw [if_pos (by simp [Region.wanted, hg])]
        rw [hgx] at h
        simp only [] at h
        split at h
        · rename_i f args hkk
          have hro0 : ro = none := by
            rcases hro with hro | hro
            · exact hro
            · rw [List.all_cons, Bool.and_eq_true, hkk] at hro; cases hro.1
          subst hro0
          rw [hkk] at hk
          split at h
          · rename_i g first cap ds hf hds
            obtain ⟨capt, vs, r1, r2⟩ := adefer_run (w := w) hk he.er hf
            unfold Oper.wpIn
            refine ⟨fun _ _ => trivial, ?_⟩
            rw [show (RF none).round = none from rfl, Oper.semAt_none, r1, Oper.uponIn_defer]
            refine ih xs hxs (.inl rfl) Z σ H _ _ w hZ hS hm hW ?_ h
            obtain ⟨l', e1, e2⟩ := he.ds
            rw [hds] at e1
            simp only [AV.tup.injEq] at e1
            subst e1
            rw [hd]
            refine FR.put hn (a := { a with defers := _ :: a.defers }) ⟨?_, ⟨_, Env.set_same .., .cons r2 e2⟩, he.sz⟩ hdn (.unk _)
            intro t ht
            rw [Env.set_ne _ _ (by omega)]
            exact he.er t ht
          · exact h.elim
        · rename_i hnd
          have hnd' : x.k.isDefer = false := by
            unfold AK.isDefer
            split
            · rename_i f args hh; exact absurd hh (hnd f args)
            · rfl
          exact aop_sound hn hk hd hdn hnd' hZ hS hm hW he h (fun Z' σ' v H' a' w' g1 g2 g3 g4 g5 g6 => ih xs hxs hro' Z' σ' H' _ a' w' g1 g2 g3 g4 g5 g6) (fun _ _ _ h => h) hY
      · rw [hgx] at h
        simp only [] at h
        split at h
        · rename_i b hb
          have hv := he.er s (by omega)
          have hy := yielded_of (ops := ops) hs hv hb
          have hw : Region.wanted o (yielded ops a.tmps) = (b == some want) := by simp [Region.wanted, hg, hy]
          rw [hw]
          by_cases hbw : b = some want
          · rw [if_pos (by simpa using hbw)]
            exact aop_sound hn hk hd hdn hnd hZ hS hm hW he (h.1 hbw) (fun Z' σ' v H' a' w' g1 g2 g3 g4 g5 g6 => ih xs hxs hro' Z' σ' H' _ a' w' g1 g2 g3 g4 g5 g6) (fun _ _ _ h => h) hY
          · rw [if_neg (by simpa using hbw)]
            refine ⟨fun _ _ => trivial, ih xs hxs hro' Z σ H _ _ w hZ hS hm hW ?_ (h.2 hbw)⟩
            rw [hd]
            exact he.put hn hdn aud_VR
        · exact h.elim
    · cases hal
theorem wpIn_loop_rel {F : Fence} {n : Nat} {c : Code} {Q : Exit → Act → World → Prop} (R : Nat → Act → World → Prop)
    (round : ∀ k a w, R k a w → c.wpIn F n P (Exit.then (fun a' w' => ∃ k', k' < k ∧ R k' a' w') Q) a w) (k : Nat) (a : Act) (w : World) (h : R k a w) : (Code.loop c).wpIn F n P Q a w := by
  intro b t cs hro hb hr
  have key : ∀ k a w, R k a w → ∃ e a' w', Q e a' w' ∧ ArrivesIn (Machine.fenced P F) P (lone (b.atR a (.code c :: .inLoop c :: t)) cs w) b t cs e a' w' := by
    intro k
    induction k using Nat.strongRecOn with
    | _ k ih =>
      intro a w hR
      obtain ⟨e, a₁, w₁, hq, harr⟩ := round k a w hR b (.inLoop c :: t) cs hro hb hr
      cases e with
      | normal =>
        obtain ⟨k', hlt, hR'⟩ := hq
        obtain ⟨e₂, a₂, w₂, hq₂, harr₂⟩ := ih k' hlt a₁ w₁ hR'
        exact ⟨e₂, a₂, w₂, hq₂, .of_steps (StepsIn.trans harr (.one (fenced_calm hb hr rfl) stepR_inLoop)) harr₂⟩
      | exit id => exact ⟨_, a₁, w₁, hq, .pass (x := .inLoop c) rfl (fun _ _ => .inl (by simp)) harr⟩
      | goto l => exact ⟨_, a₁, w₁, hq, .pass (x := .inLoop c) rfl (fun _ _ => .inl (by simp)) harr⟩
      | ret => exact ⟨_, a₁, w₁, hq, .pass (x := .inLoop c) rfl (fun _ _ => .inl (by simp)) harr⟩
      | panic ch => exact ⟨_, a₁, w₁, hq, .pass (x := .inLoop c) rfl (fun _ _ => .inl (by simp)) harr⟩
      | outgrown => exact ⟨_, a₁, w₁, hq, .pass (x := .inLoop c) rfl (fun _ _ => .inl (by simp)) harr⟩
  obtain ⟨e, a', w', hq, harr⟩ := key k a w h
  exact ⟨e, a', w', hq, .of_steps (.one (fenced_calm hb hr rfl) stepR_loop) harr⟩
end
end Go.AL
