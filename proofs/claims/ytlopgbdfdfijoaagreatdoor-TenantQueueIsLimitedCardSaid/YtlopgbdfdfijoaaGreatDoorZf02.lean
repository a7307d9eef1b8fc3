import Derived.Test.YtlopgbdfdfijoaaGreatDoorZf01
/-
  the least byte of a set.
-/
set_option linter.unusedSectionVars false
set_option linter.unusedVariables false
set_option linter.unusedSimpArgs false
namespace Go.Proofs.YtlopgbdfdfijoaaGreatDoor
open Go Go.RowKit Go.AL Go.Maps Go.Sort Go.Shelf
def FstB (a0 a1 : Nat) (x : UInt8) : Prop := (0 < a0 ∧ ∃ t m, t < 64 ∧ a0 = 2 ^ t * (2 * m + 1) ∧ x.toNat = t) ∨ (a0 = 0 ∧ 0 < a1 ∧ ∃ t m, t < 64 ∧ a1 = 2 ^ t * (2 * m + 1) ∧ x.toNat = 64 + t)
set_option maxRecDepth 100000 in
set_option maxHeartbeats 1000000 in
theorem iterL (n l b off : Nat) (hn : 1 ≤ n) (a0 a1 a2 a3 : Nat) (hp : 0 < a0 ∨ 0 < a1) (J : World → Prop) (Jx : UInt8 → World → Prop) (W : World) (hT : ∀ W', J W' → TabW W')
    (h0 : W.cell? ⟨b, off, none⟩ = some (.int .u64 (a0 : Int))) (h1 : W.cell? ⟨b, off + 1, none⟩ = some (.int .u64 (a1 : Int))) (h2 : W.cell? ⟨b, off + 2, none⟩ = some (.int .u64 (a2 : Int))) (h3 : W.cell? ⟨b, off + 3, none⟩ = some (.int .u64 (a3 : Int)))
    (l0 : a0 < 18446744073709551616) (l1 : a1 < 18446744073709551616)
    (hY : ∀ (x : UInt8) (W1 : World), J W1 → YieldAt Fence.wide (n - 1) Tryz.prog l #[.int .u8 (x.toNat : Int)] W1 fun e W' => e = .returned (.bool false) ∧ Jx x W')
    (hJ : J W) : CallsIn Fence.wide n Tryz.prog 185 #[.func (.yield l) #[] #[], .pointer (some ⟨b, off, none⟩)] W fun e W' => (∃ v, e = .returned v) ∧ ∃ x, FstB a0 a1 x ∧ Jx x W' := by
  refine callsIn_of_wp Tryz.func185 rfl trivial ?_ rfl
  simp only [Tryz.ntmps185, List.size_toArray, List.length_cons, List.length_nil, Nat.reduceAdd, Nat.reduceSub, Array.replicate_succ, Array.replicate_zero, List.push_toArray, List.append_toArray, List.nil_append, List.cons_append]
  have i0 := ix0 (.int .u64 (a0 : Int)) (.int .u64 (a1 : Int)) (.int .u64 (a2 : Int)) (.int .u64 (a3 : Int))
  have i1 := ix1 (.int .u64 (a0 : Int)) (.int .u64 (a1 : Int)) (.int .u64 (a2 : Int)) (.int .u64 (a3 : Int))
  gi_wp2
  gi_loopw [6] (fun v6 wr => ∃ i : Nat, v6 = .int .i64 (i : Int) ∧ (i = 0 ∨ (i = 1 ∧ a0 < 1)) ∧ J wr) (fun v6 _ => 4 - vnat v6)
  case atStart => exact ⟨0, rfl, .inl rfl, hJ⟩
  case round =>
    obtain ⟨i, rfl, hi, hJi⟩ := hrel
    rcases hi with rfl | ⟨rfl, ha0⟩
    · gi_wp2
      gi_loopw [4] (fun v4 wr => v4 = .int .u64 (a0 : Int) ∧ J wr) (fun v4 _ => vnat v4)
      case atStart => exact ⟨rfl, hJi⟩
      case round =>
        obtain ⟨rfl, hJp⟩ := hrel
        rcases Nat.eq_zero_or_pos a0 with hz | hpos
        · subst hz
          gi_wp2
          exact ⟨⟨1, rfl, .inr ⟨rfl, by omega⟩, hJp⟩, by decide⟩
        · have hne : ((a0 : Int) == 0) = false := by
            have : ¬ (a0 : Int) = 0 := by omega
            simp; omega
          have hTw := hT _ hJp
          gi_wp2
          refine ⟨trivial, (callsIn_wide.2 (o186 a0 wr hTw hpos l0)).mono ?_⟩
          rintro e w2 ⟨rfl, t, m, hwt, rfl⟩
          have ht : t < 64 := by
            have g1 : 2 ^ t ≤ a0 := by
              have : 2 ^ t * 1 ≤ 2 ^ t * (2 * m + 1) := Nat.mul_le_mul_left _ (by omega)
              omega
            exact (Nat.pow_lt_pow_iff_right (a := 2) (by omega)).1 (Nat.lt_of_le_of_lt g1 (by rw [show (2 : Nat) ^ 64 = 18446744073709551616 by decide]; exact l0))
          generalize hxb : UInt8.ofNat t = xb
          have hx8 : (xb.toNat : Int) = (t : Int) := by rw [← hxb]; simp; omega
          clear hxb
          obtain ⟨fn, tmps, assign, body, hy, hR⟩ := hY xb w2 hJp
          rw [hx8] at hy
          gi_wp2
          refine hR.mono ?_
          rintro e W3 ⟨rfl, hJ3⟩
          gi_wp2
          refine bodyPost_ret (results_none rfl _ _ _) rfl ?_
          exact ⟨⟨_, rfl⟩, xb, .inl ⟨hpos, t, m, ht, hwt, by omega⟩, hJ3⟩
    · gi_wp2
      gi_loopw [4] (fun v4 wr => v4 = .int .u64 (a1 : Int) ∧ J wr) (fun v4 _ => vnat v4)
      case atStart => exact ⟨rfl, hJi⟩
      case round =>
        obtain ⟨rfl, hJp⟩ := hrel
        have hpos : 0 < a1 := by omega
        have hne : ((a1 : Int) == 0) = false := by
          have : ¬ (a1 : Int) = 0 := by omega
          simp; omega
        have hTw := hT _ hJp
        gi_wp2
        refine ⟨trivial, (callsIn_wide.2 (o186 a1 wr hTw hpos l1)).mono ?_⟩
        rintro e w2 ⟨rfl, t, m, hwt, rfl⟩
        have ht : t < 64 := by
          have g1 : 2 ^ t ≤ a1 := by
            have : 2 ^ t * 1 ≤ 2 ^ t * (2 * m + 1) := Nat.mul_le_mul_left _ (by omega)
            omega
          exact (Nat.pow_lt_pow_iff_right (a := 2) (by omega)).1 (Nat.lt_of_le_of_lt g1 (by rw [show (2 : Nat) ^ 64 = 18446744073709551616 by decide]; exact l1))
        generalize hxb : UInt8.ofNat (64 + t) = xb
        have hx8 : (xb.toNat : Int) = (64 : Int) + (t : Int) := by rw [← hxb]; simp; omega
        clear hxb
        obtain ⟨fn, tmps, assign, body, hy, hR⟩ := hY xb w2 hJp
        rw [hx8] at hy
        gi_wp2
        refine hR.mono ?_
        rintro e W3 ⟨rfl, hJ3⟩
        gi_wp2
        refine bodyPost_ret (results_none rfl _ _ _) rfl ?_
        exact ⟨⟨_, rfl⟩, xb, .inr ⟨by omega, hpos, t, m, ht, hwt, by omega⟩, hJ3⟩
def Ls.assign : Code := (Code.region 2 #[{ dst := some 3, op := Op.assign (Operand.tmp 6), type := 5, pos := "class.go:90", after := #[], guard := none }] false)
def Ls.body : Code := (Code.block 1 ((Code.region 3 #[{ dst := some 7, op := Op.move (Operand.tmp 3), type := 5, pos := "class.go:91", after := #[], guard := none }, { dst := some 8, op := Op.convert 5 3 (Operand.tmp 7), type := 3, pos := "class.go:91", after := #[{ on := 0, ground := Ground.data }], guard := none }, { dst := none, op := Op.store 3 (Operand.tmp 2) (Operand.tmp 8), type := 0, pos := "class.go:91", after := #[{ on := 1, ground := Ground.data }, { on := 0, ground := Ground.phase }, { on := 1, ground := Ground.phase }], guard := none }] false).seq Code.ret))
def Ls.rec (fn : FuncId) (cv : Value) (Bc Br Bm D : Nat) (st : LoopState) (pend : Option Code) : Loop :=
  { state := st, pending := pend, fn, tmps := #[cv, .pointer (some ⟨Bc, 0, none⟩), .pointer (some ⟨Br, 0, none⟩), undef, cv, .func (.func 185) #[] #[.pointer (some ⟨Bm, 0, none⟩)], undef, undef, undef], params := #[6], assign := Ls.assign, body := Ls.body, defers := D }
structure Ls.At (w0 : World) (fn : FuncId) (cv : Value) (Bc Br Bm l D : Nat) (res : Value) (st : LoopState) (pend : Option Code) (W : World) : Prop where
  cr : W.heap[Br]? = some (.cells #[res] 3 (0, 0))
  L : W.heap[l]? = some (.loop (Ls.rec fn cv Bc Br Bm D st pend))
  K : W.heap[D]? = some (.deferred (some []))
  below : Below w0.heap.size w0 W
set_option maxRecDepth 100000 in
set_option maxHeartbeats 2000000 in
theorem Ls.yield (m : Nat) (w0 : World) (fn : FuncId) (cv : Value) (Bc Br Bm l D : Nat) (hrl : Br ≠ l) (hDl : D ≠ l) (hDr : D ≠ Br) (h0r : w0.heap.size ≤ Br) (h0l : w0.heap.size ≤ l) (x : UInt8) (W : World) (h : Ls.At w0 fn cv Bc Br Bm l D (.int .i64 0) .ready none W) :
    YieldAt Fence.wide m Tryz.prog l #[.int .u8 (x.toNat : Int)] W fun e W' => e = .returned (.bool false) ∧ Ls.At w0 fn cv Bc Br Bm l D (.int .i64 (x.toNat : Int)) .done (some .ret) W' := by
  refine ⟨fn, #[cv, .pointer (some ⟨Bc, 0, none⟩), .pointer (some ⟨Br, 0, none⟩), undef, cv, .func (.func 185) #[] #[.pointer (some ⟨Bm, 0, none⟩)], .int .u8 (x.toNat : Int), undef, undef], Ls.assign, Ls.body, by simpa [Ls.rec] using run_yield (P := Tryz.prog) (args := #[.int .u8 (x.toNat : Int)]) h.L rfl, roundIn_of_wpIn trivial ?_⟩
  have hl : l < W.heap.size := (Array.getElem?_eq_some_iff.1 h.L).1
  have hbr := run_beginRound (P := Tryz.prog) h.L rfl
  obtain ⟨W2, hW2⟩ : ∃ W2, W.putObj l (.loop { Ls.rec fn cv Bc Br Bm D .ready none with state := .busy }) = W2 := ⟨_, rfl⟩
  rw [hW2] at hbr
  have hg2 : W.grownBy W2 (some l) := by rw [← hW2]; exact grownBy_putObj_a _ _ _
  have hcr2 : W2.heap[Br]? = some (.cells #[.int .i64 0] 3 (0, 0)) := by rw [← hW2]; exact (World.putObj_heap_other hrl).trans h.cr
  have hK2 : W2.heap[D]? = some (.deferred (some [])) := by rw [← hW2]; exact (World.putObj_heap_other hDl).trans h.K
  have hL2 : W2.heap[l]? = some (.loop { Ls.rec fn cv Bc Br Bm D .ready none with state := .busy }) := by rw [← hW2]; exact World.putObj_heap_same hl
  have hb2 : Below w0.heap.size w0 W2 := h.below.grown hg2 h.below.size (fun k e => by cases e; exact h0l)
  obtain ⟨hc2, hf2⟩ := cell_of_box_a hcr2
  have hx := x.toNat_lt
  have hw : IntKind.i64.wrap (x.toNat : Int) = (x.toNat : Int) := by
    simp [IntKind.wrap, IntKind.bits, IntKind.signed]; omega
  clear hW2
  unfold Ls.assign
  gi_wp2_with gi_round_op_a
  unfold Ls.body
  gi_wp2_with gi_round_op_a
  obtain ⟨W4, hW4⟩ : ∃ W4, W2.setCell ⟨Br, 0, none⟩ (.int .i64 (x.toNat : Int)) = W4 := ⟨_, rfl⟩
  rw [hW4]
  have hg4 : W2.grownBy W4 (some Br) := by rw [← hW4]; exact grownBy_setCell0_a _ _ _
  have hv4 : W4.heap[Br]? = some (.cells #[.int .i64 (x.toNat : Int)] 3 (0, 0)) := by rw [← hW4]; exact heap_setCell_box_a _ hcr2
  have hL4 : W4.heap[l]? = some (.loop { Ls.rec fn cv Bc Br Bm D .ready none with state := .busy }) := (hg4.block l (Array.getElem?_eq_some_iff.1 hL2).1 (fun e => hrl (by cases e; rfl))).trans hL2
  have hK4 : W4.heap[D]? = some (.deferred (some [])) := (hg4.block D (Array.getElem?_eq_some_iff.1 hK2).1 (fun e => hDr (by cases e; rfl))).trans hK2
  have hl4 : l < W4.heap.size := (Array.getElem?_eq_some_iff.1 hL4).1
  have hb4 : Below w0.heap.size w0 W4 := hb2.grown hg4 hb2.size (fun k e => by cases e; exact h0r)
  clear hW4
  exact ⟨_, _, run_endRound (some .ret) hL4, rfl, (World.putObj_heap_other hrl).trans hv4, World.putObj_heap_same hl4, (World.putObj_heap_other hDl).trans hK4, hb4.grown (grownBy_putObj_a _ _ _) hb4.size (fun k e => by cases e; exact h0l)⟩
theorem members_in (n : Nat) (cv : Value) (w : World) (hcv : ∃ a0 a1 a2 a3 : Int, cv = .agg #[.int .u64 a0, .int .u64 a1, .int .u64 a2, .int .u64 a3]) :
    CallsIn Fence.wide n Tryz.prog 116 #[cv] w fun e w' => e = .returned (.func (.func 185) #[] #[.pointer (some ⟨w.heap.size, 0, none⟩)]) ∧ ∃ c, cv = .agg c ∧ w' = w.alloc (.cells c 68) := by
  obtain ⟨a0, a1, a2, a3, rfl⟩ := hcv
  refine callsIn_of_wp Tryz.func116 rfl trivial ?_ rfl
  simp only [Tryz.ntmps116, List.size_toArray, List.length_cons, List.length_nil, Nat.reduceAdd, Nat.reduceSub, Array.replicate_succ, Array.replicate_zero, List.push_toArray, List.append_toArray, List.nil_append, List.cons_append]
  gi_wp2
  refine bodyPost_ret (results_tmp rfl _ _ _) rfl ?_
  exact ⟨rfl, _, rfl, rfl⟩
set_option maxRecDepth 100000 in
set_option maxHeartbeats 2000000 in
theorem least_in (a0 a1 a2 a3 : Nat) (hp : 0 < a0 ∨ 0 < a1) (l0 : a0 < 18446744073709551616) (l1 : a1 < 18446744073709551616) (w : World) (hT : TabW w) :
    CallsIn Fence.wide 5 Tryz.prog 210 #[.agg #[.int .u64 (a0 : Int), .int .u64 (a1 : Int), .int .u64 (a2 : Int), .int .u64 (a3 : Int)]] w fun e w' => ∃ x, FstB a0 a1 x ∧ e = .returned (.int .i64 (x.toNat : Int)) ∧ Below w.heap.size w w' := by
  refine callsIn_of_wp_marks Tryz.func210 rfl trivial ?_ rfl
  obtain ⟨cv, hcv⟩ : ∃ cv : Value, cv = .agg #[.int .u64 (a0 : Int), .int .u64 (a1 : Int), .int .u64 (a2 : Int), .int .u64 (a3 : Int)] := ⟨_, rfl⟩
  simp only [Tryz.ntmps210, List.size_toArray, List.length_cons, List.length_nil, Nat.reduceAdd, Nat.reduceSub, Array.replicate_succ, Array.replicate_zero, List.push_toArray, List.append_toArray, List.nil_append, List.cons_append]
  gi_wp2
  refine ⟨trivial, (members_in _ _ _ ⟨_, _, _, _, rfl⟩).mono ?_⟩
  rintro e w' ⟨rfl, c, hc, rfl⟩
  cases hc
  gi_wp2
  refine wpIn_rangeFunc ?_
  intro fn hfn
  rw [← hcv]
  obtain ⟨W0, hW0⟩ : ∃ W0, ((w.alloc (.cells #[.int .u64 (a0 : Int), .int .u64 (a1 : Int), .int .u64 (a2 : Int), .int .u64 (a3 : Int)] 68)).alloc (.cells #[.int .i64 0] 3)).alloc (.cells #[.int .u64 (a0 : Int), .int .u64 (a1 : Int), .int .u64 (a2 : Int), .int .u64 (a3 : Int)] 68) = W0 := ⟨_, rfl⟩
  have hs0 : W0.heap.size = w.heap.size + 3 := by rw [← hW0]; simp
  have hv0 : W0.heap[w.heap.size + 1]? = some (.cells #[.int .i64 0] 3 (0, 0)) := by
    rw [← hW0]; refine (Below.heap_alloc _ _ _ (by simp)).trans ?_
    have := World.alloc_heap_new (w.alloc (.cells #[.int .u64 (a0 : Int), .int .u64 (a1 : Int), .int .u64 (a2 : Int), .int .u64 (a3 : Int)] 68)) (.cells #[.int .i64 0] 3); rwa [World.size_alloc] at this
  have hm0 : W0.heap[w.heap.size + 2]? = some (.cells #[.int .u64 (a0 : Int), .int .u64 (a1 : Int), .int .u64 (a2 : Int), .int .u64 (a3 : Int)] 68 (0, 0)) := by
    rw [← hW0]
    have := World.alloc_heap_new ((w.alloc (.cells #[.int .u64 (a0 : Int), .int .u64 (a1 : Int), .int .u64 (a2 : Int), .int .u64 (a3 : Int)] 68)).alloc (.cells #[.int .i64 0] 3)) (.cells #[.int .u64 (a0 : Int), .int .u64 (a1 : Int), .int .u64 (a2 : Int), .int .u64 (a3 : Int)] 68); rwa [World.size_alloc, World.size_alloc] at this
  have hb0 : Below w.heap.size w W0 := by rw [← hW0]; exact (((Below.refl _ w).alloc (Nat.le_refl _) _).alloc (by simp) _).alloc (by simp; omega) _
  simp only [World.size_alloc] at *
  rw [hW0]
  obtain ⟨W1, hW1⟩ : ∃ W1, (W0.alloc (.deferred (some []))).alloc (.loop (Ls.rec fn cv w.heap.size (w.heap.size + 1) (w.heap.size + 2) W0.heap.size .ready none)) = W1 := ⟨_, rfl⟩
  have hold : ∀ k, k < W0.heap.size → W1.heap[k]? = W0.heap[k]? := fun k hk => by
    rw [← hW1]; exact (Below.heap_alloc _ _ k (by simp; omega)).trans (Below.heap_alloc _ _ k hk)
  have hb1 : Below w.heap.size w W1 := by rw [← hW1]; exact (hb0.alloc hb0.size _).alloc (by have := hb0.size; simp; omega) _
  have hs1 : W1.heap.size = W0.heap.size + 2 := by rw [← hW1]; simp
  have hM : Ls.At w fn cv w.heap.size (w.heap.size + 1) (w.heap.size + 2) (W0.heap.size + 1) W0.heap.size (.int .i64 0) .ready none W1 :=
    ⟨(hold _ (by omega)).trans hv0, by rw [← hW1]; have := World.alloc_heap_new (W0.alloc (.deferred (some []))) (.loop (Ls.rec fn cv w.heap.size (w.heap.size + 1) (w.heap.size + 2) W0.heap.size .ready none)); rwa [World.size_alloc] at this,
     by rw [← hW1]; exact (Below.heap_alloc _ _ _ (by simp)).trans (World.alloc_heap_new W0 _), hb1⟩
  have hm1 : W1.heap[w.heap.size + 2]? = some (.cells #[.int .u64 (a0 : Int), .int .u64 (a1 : Int), .int .u64 (a2 : Int), .int .u64 (a3 : Int)] 68 (0, 0)) := (hold _ (by omega)).trans hm0
  refine ⟨W0.heap.size + 1, [{ target := .collected W0.heap.size, args := #[] }], W1, { target := .fn (.func 185) #[.pointer (some ⟨w.heap.size + 2, 0, none⟩)], args := #[.func (.yield (W0.heap.size + 1)) #[] #[]] }, W1, 185,
    #[.func (.yield (W0.heap.size + 1)) #[] #[]] ++ #[.pointer (some ⟨w.heap.size + 2, 0, none⟩)], W1, ?_, ?_, ?_, ?_, fun _ => by omega, ?_⟩
  · rw [← hW1]; exact run_enterLoop_outer _ _ _ _ _
  · simp [resolve, go_sem]
  · intro f' hf'; simp [Target.leads] at hf'; subst hf'; exact trivial
  · simp [invoke, go_sem, run_callFunc en185]
  · refine (iterL 4 (W0.heap.size + 1) (w.heap.size + 2) 0 (by omega) a0 a1 a2 a3 hp (Ls.At w fn cv w.heap.size (w.heap.size + 1) (w.heap.size + 2) (W0.heap.size + 1) W0.heap.size (.int .i64 0) .ready none)
      (fun x => Ls.At w fn cv w.heap.size (w.heap.size + 1) (w.heap.size + 2) (W0.heap.size + 1) W0.heap.size (.int .i64 (x.toNat : Int)) .done (some .ret)) W1 (fun W' hJ => hT.below hJ.below)
      (by simp [World.cell?, hm1]) (by simp [World.cell?, hm1]) (by simp [World.cell?, hm1]) (by simp [World.cell?, hm1]) l0 l1
      (fun x W hJ => Ls.yield _ w fn cv _ _ _ _ _ (by omega) (by omega) (by omega) (by omega) (by omega) x W hJ) hM).mono ?_
    rintro e W2 ⟨⟨v0, rfl⟩, x, hx, h2⟩
    have hend := run_endLoop (P := Tryz.prog) h2.L (by simp [Ls.rec])
    obtain ⟨W3, hW3⟩ : ∃ W3, W2.putObj (W0.heap.size + 1) (.loop { Ls.rec fn cv w.heap.size (w.heap.size + 1) (w.heap.size + 2) W0.heap.size .done (some .ret) with state := .exhausted }) = W3 := ⟨_, rfl⟩
    rw [hW3] at hend
    have hg3 : W2.grownBy W3 (some (W0.heap.size + 1)) := by rw [← hW3]; exact grownBy_putObj_a _ _ _
    have hv3 : W3.heap[w.heap.size + 1]? = some (.cells #[.int .i64 (x.toNat : Int)] 3 (0, 0)) := by rw [← hW3]; exact (World.putObj_heap_other (by omega)).trans h2.cr
    have hK3 : W3.heap[W0.heap.size]? = some (.deferred (some [])) := by rw [← hW3]; exact (World.putObj_heap_other (by omega)).trans h2.K
    have hb3 : Below w.heap.size w W3 := h2.below.grown hg3 h2.below.size (fun k e => by cases e; omega)
    obtain ⟨hc3, hf3⟩ := cell_of_box_a hv3
    clear hW3
    refine ⟨some .ret, W3, hend, ?_⟩
    gi_wp2
    rw [← hs0]
    refine ⟨by simp, .inl ⟨_, _, rfl, run_takeDeferred hK3, ?_⟩⟩
    have hc5 : (W3.putObj W0.heap.size (.deferred none)).cell? ⟨w.heap.size + 1, 0, none⟩ = some (.int .i64 (x.toNat : Int)) :=
      (World.cell?_of_block (World.putObj_heap_other (k := w.heap.size + 1) (by omega))).trans hc3
    refine ⟨.int .i64 (x.toNat : Int), ?_, x, hx, rfl, hb3.grown (grownBy_putObj_a _ _ _) hb3.size (fun k e => by cases e; omega)⟩
    simp [results, Tryz.f210, go_sem, hc5]
end Go.Proofs.YtlopgbdfdfijoaaGreatDoor
namespace Go.Proofs.YtlopgbdfdfijoaaGreatDoor
open Go Go.AL
variable [GLC]
theorem en210 : Go.AL.Enters Tryz.prog 210 := ⟨_, Tryz.func210, by
  have h : (Tryz.f210.name == "runtime.NumGoroutine") = false := by kernel_rfl
  simpa using h, by kernel_rfl⟩
theorem call210 [hC : TabC] {H : AH} (hg : H.gl = GLC.G) (a0 a1 a2 a3 x : Nat) (hp : 0 < a0 ∨ 0 < a1) (l0 : a0 < 18446744073709551616) (l1 : a1 < 18446744073709551616) (hx : ∀ y, FstB a0 a1 y → y.toNat = x) :
    RetF Tryz.prog 210 [.agg [.int .u64 (.ofNat a0), .int .u64 (.ofNat a1), .int .u64 (.ofNat a2), .int .u64 (.ofNat a3)]] H (.int .i64 (.ofNat x)) H := by
  refine ⟨en210, fun Z σ w vs hW hv => ?_⟩
  obtain ⟨v, rfl⟩ : ∃ v, vs = [v] := by
    cases hv with
    | cons h1 h2 => cases h2; exact ⟨_, rfl⟩
  have h1 : VR Z σ (.agg [.int .u64 (.ofNat a0), .int .u64 (.ofNat a1), .int .u64 (.ofNat a2), .int .u64 (.ofNat a3)]) v := by cases hv; assumption
  obtain ⟨oo, ho1, ho2⟩ := hC.tab
  have hT : TabW w := ho2 w (hW.z 0 oo (hW.rest.2.2 0 oo (by rw [hg]; exact ho1)).1)
  cases h1 with
  | agg g1 g2 =>
  rename_i us
  have hus : us = #[.int .u64 (a0 : Int), .int .u64 (a1 : Int), .int .u64 (a2 : Int), .int .u64 (a3 : Int)] := by
    cases g : us.toList with
    | nil => rw [g] at g2; cases g2
    | cons u0 us1 =>
      rw [g] at g2
      cases g2 with
      | cons b0 g2 =>
      cases g2 with
      | cons b1 g2 =>
      cases g2 with
      | cons b2 g2 =>
      cases g2 with
      | cons b3 g2 =>
      cases g2
      cases b0; cases b1; cases b2; cases b3
      exact Array.ext' (by simpa using g)
  subst hus
  refine Calls.mono (callsIn_wide.1 (least_in a0 a1 a2 a3 hp l0 l1 w hT)) ?_
  rintro en w' ⟨y, hy, rfl, hbel⟩
  have e := hx y hy
  subst e
  exact ⟨Z, σ, H, .ret _, Zle.refl _, Nw.refl _ _, Nat.le_refl _, hW.below hbel, ⟨_, rfl, .int _ _⟩, rfl, rfl⟩
theorem leastA : ∀ y, FstB 18446744073709551615 18446744065119617023 y → y.toNat = 0 := by
  rintro y (⟨_, t, m, ht, h, hy⟩ | ⟨h, _⟩)
  · rcases Nat.eq_zero_or_pos t with h0 | h0
    · omega
    · obtain ⟨s, rfl⟩ : ∃ s, t = s + 1 := ⟨t - 1, by omega⟩
      rw [Nat.pow_succ, Nat.mul_right_comm] at h
      omega
  · omega
theorem leastB : ∀ y, FstB 0 8589934592 y → y.toNat = 97 := by
  rintro y (⟨h, _⟩ | ⟨_, _, t, m, ht, h, hy⟩)
  · omega
  · have h1 := tb_w t m
    rw [← h] at h1
    have h2 : Nat.testBit 8589934592 t = true := by
      rw [h1 t, if_neg (by omega), Nat.sub_self, Nat.testBit_zero]
      simp
    have h3 : ∀ j, j < 64 → Nat.testBit 8589934592 j = decide (j = 33) := by decide
    rw [h3 t ht] at h2
    simp at h2
    omega
theorem en186 : Go.AL.Enters Tryz.prog 186 := ⟨_, Tryz.func186, by
  have h : (Tryz.f186.name == "runtime.NumGoroutine") = false := by kernel_rfl
  simpa using h, by kernel_rfl⟩
theorem call186 [hC : TabC] {H : AH} (hg : H.gl = GLC.G) : RetF Tryz.prog 186 [N .u64 16] H (I 4) H := by
  refine ⟨en186, fun Z σ w vs hW hv => ?_⟩
  obtain ⟨v, rfl⟩ : ∃ v, vs = [v] := by
    cases hv with
    | cons h1 h2 => cases h2; exact ⟨_, rfl⟩
  have h1 : VR Z σ (N .u64 16) v := by cases hv; assumption
  obtain ⟨oo, ho1, ho2⟩ := hC.tab
  have hT : TabW w := ho2 w (hW.z 0 oo (hW.rest.2.2 0 oo (by rw [hg]; exact ho1)).1)
  cases h1
  refine Calls.mono (o186 16 w hT (by decide) (by decide)) ?_
  rintro e w' ⟨rfl, t, m, hx, rfl⟩
  have ht : t = 4 := by
    have h1 : t < 5 := by
      rcases Nat.lt_or_ge t 5 with h | h
      · exact h
      · have : 2 ^ 5 ≤ 2 ^ t := Nat.pow_le_pow_right (by decide) h
        have h2 : 2 ^ t * 1 ≤ 2 ^ t * (2 * m + 1) := Nat.mul_le_mul_left _ (by omega)
        omega
    match t, h1, hx with
    | 0, _, hx => omega
    | 1, _, hx => omega
    | 2, _, hx => omega
    | 3, _, hx => omega
    | 4, _, hx => rfl
  subst ht
  exact ⟨Z, σ, H, .ret _, Zle.refl _, Nw.refl _ _, Nat.le_refl _, hW, ⟨_, rfl, .int _ _⟩, rfl, rfl⟩
end Go.Proofs.YtlopgbdfdfijoaaGreatDoor
