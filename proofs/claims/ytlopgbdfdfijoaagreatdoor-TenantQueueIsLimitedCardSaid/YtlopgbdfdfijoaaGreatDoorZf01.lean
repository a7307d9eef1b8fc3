import Derived.Shelf.SlIterI.Collect
import Derived.Test.YtlopgbdfdfijoaaGreatDoorProg
import Derived.Test.YtlopgbdfdfijoaaGreatDoorZb03
import Derived.Test.YtlopgbdfdfijoaaGreatDoorZa04
import Derived.Test.YtlopgbdfdfijoaaGreatDoorZc01
/-
  what slices.AppendSeq answers over a set of bytes.
-/
set_option linter.unusedSectionVars false
set_option linter.unusedVariables false
set_option linter.unusedSimpArgs false
namespace Go.AL
theorem odd_part : ∀ w : Nat, 0 < w → ∃ t m, w = 2 ^ t * (2 * m + 1) := by
  intro w
  induction w using Nat.strongRecOn with
  | _ w ih =>
    intro hw
    rcases Nat.mod_two_eq_zero_or_one w with h | h
    · obtain ⟨t, m, e⟩ := ih (w / 2) (by omega) (by omega)
      refine ⟨t + 1, m, ?_⟩
      rw [Nat.pow_succ, Nat.mul_comm (2 ^ t) 2, Nat.mul_assoc, ← e]; omega
    · exact ⟨0, w / 2, by rw [Nat.pow_zero, Nat.one_mul]; omega⟩
theorem tb_w (t m j : Nat) : (2 ^ t * (2 * m + 1)).testBit j = if j < t then false else (2 * m + 1).testBit (j - t) := by
  have := Nat.testBit_two_pow_mul_add (2 * m + 1) (b := 0) (i := t) (Nat.two_pow_pos t) j
  rw [Nat.add_zero, Nat.zero_testBit] at this
  exact this
theorem tb_w1 (t m j : Nat) : (2 ^ t * (2 * m + 1) - 1).testBit j = if j < t then true else (2 * m).testBit (j - t) := by
  have hp := Nat.two_pow_pos t
  have e : 2 ^ t * (2 * m + 1) - 1 = 2 ^ t * (2 * m) + (2 ^ t - 1) := by
    rw [Nat.mul_add, Nat.mul_one]; omega
  rw [e, Nat.testBit_two_pow_mul_add (2 * m) (b := 2 ^ t - 1) (i := t) (by omega) j, Nat.testBit_two_pow_sub_one]
  by_cases h : j < t <;> simp [h]
theorem tb_odd (m s : Nat) : (2 * m + 1).testBit (s + 1) = (2 * m).testBit (s + 1) := by
  rw [Nat.testBit_succ, Nat.testBit_succ]
  congr 1; omega
theorem tb_rest {w t m : Nat} (h : w = 2 ^ t * (2 * m + 1)) (j : Nat) : (w &&& (w - 1)).testBit j = (decide (j ≠ t) && w.testBit j) := by
  subst h
  rw [Nat.testBit_and, tb_w, tb_w1]
  rcases Nat.lt_or_ge j t with h1 | h1
  · simp [h1]
  · have h2 : ¬ j < t := by omega
    simp only [h2, if_false]
    rcases Nat.eq_zero_or_pos (j - t) with h3 | h3
    · have : j = t := by omega
      subst this; simp
    · obtain ⟨s, hs⟩ : ∃ s, j - t = s + 1 := ⟨j - t - 1, by omega⟩
      have h4 : j ≠ t := by omega
      rw [hs, tb_odd]; simp [h4]
theorem tb_low {w t m n : Nat} (h : w = 2 ^ t * (2 * m + 1)) (hw : w < 2 ^ n) : w &&& (2 ^ n - w) = 2 ^ t := by
  have hpos : 0 < w := by rw [h]; exact Nat.mul_pos (Nat.two_pow_pos t) (by omega)
  have htn : t < n := by
    have h1 : 2 ^ t ≤ w := by rw [h]; exact Nat.le_mul_of_pos_right _ (by omega)
    exact (Nat.pow_lt_pow_iff_right (by omega)).1 (Nat.lt_of_le_of_lt h1 hw)
  have e : 2 ^ n - w = 2 ^ n - ((w - 1) + 1) := by omega
  refine Nat.eq_of_testBit_eq fun j => ?_
  rw [Nat.testBit_and, e, Nat.testBit_two_pow_sub_succ (by omega), Nat.testBit_two_pow]
  subst h
  rw [tb_w, tb_w1]
  rcases Nat.lt_or_ge j t with h1 | h1
  · have h2 : ¬ t = j := by omega
    simp [h1, h2]
  · have h2 : ¬ j < t := by omega
    simp only [h2, if_false]
    rcases Nat.eq_zero_or_pos (j - t) with h3 | h3
    · have : j = t := by omega
      subst this; simp [htn]
    · obtain ⟨s, hs⟩ : ∃ s, j - t = s + 1 := ⟨j - t - 1, by omega⟩
      have h4 : ¬ t = j := by omega
      rw [hs, tb_odd]; simp [h4]
      exact fun a _ => a
theorem and_lt {a b n : Nat} (h : a < 2 ^ n) : a &&& b < 2 ^ n := Nat.lt_of_le_of_lt Nat.and_le_left h
def bl (w base : Nat) : List UInt8 := ((List.range 64).filter fun j => w.testBit j).map fun j => UInt8.ofNat (base + j)
theorem bl_zero (base : Nat) : bl 0 base = [] := by
  unfold bl
  simp
theorem range_split {t : Nat} (ht : t < 64) : List.range 64 = List.range t ++ t :: (List.range (63 - t)).map (t + 1 + ·) := by
  have h1 : 64 = t + (1 + (63 - t)) := by omega
  conv => lhs; rw [h1, List.range_add]
  congr 1
  rw [List.range_add, List.map_append]
  simp [Function.comp_def, Nat.add_assoc]
theorem bl_step {w base t m : Nat} (h : w = 2 ^ t * (2 * m + 1)) (hw : w < 2 ^ 64) : bl w base = UInt8.ofNat (base + t) :: bl (w &&& (w - 1)) base := by
  have htn : t < 64 := by
    have h1 : 2 ^ t ≤ w := by rw [h]; exact Nat.le_mul_of_pos_right _ (by omega)
    exact (Nat.pow_lt_pow_iff_right (by omega)).1 (Nat.lt_of_le_of_lt h1 hw)
  have key : (List.range 64).filter (fun j => w.testBit j) = t :: (List.range 64).filter fun j => (w &&& (w - 1)).testBit j := by
    rw [range_split htn, List.filter_append, List.filter_append, List.filter_cons, List.filter_cons]
    have e1 : (List.range t).filter (fun j => w.testBit j) = [] := List.filter_eq_nil_iff.2 fun j hj => by
      have := List.mem_range.1 hj
      rw [h, tb_w]; simp [this]
    have e2 : (List.range t).filter (fun j => (w &&& (w - 1)).testBit j) = [] := List.filter_eq_nil_iff.2 fun j hj => by
      have := List.mem_range.1 hj
      rw [tb_rest h, h, tb_w]; simp [this]
    have e3 : w.testBit t = true := by rw [h, tb_w]; simp
    have e4 : (w &&& (w - 1)).testBit t = false := by rw [tb_rest h]; simp
    rw [e1, e2, e3, e4]
    simp only [if_true, List.nil_append, Bool.false_eq_true, if_false]
    congr 1
    refine List.filter_congr fun j hj => ?_
    obtain ⟨s, _, rfl⟩ := List.mem_map.1 hj
    rw [tb_rest h]
    have : t + 1 + s ≠ t := by omega
    simp [this]
  unfold bl
  rw [key, List.map_cons]
def dbt : List Nat := [0, 1, 56, 2, 57, 49, 28, 3, 61, 58, 42, 50, 38, 29, 17, 4, 62, 47, 59, 36, 45, 43, 51, 22, 53, 39, 33, 30, 24, 18, 12, 5, 63, 55, 48, 27, 60, 41, 37, 16, 46, 35, 44, 21, 52, 32, 23, 11, 54, 26, 40, 15, 34, 20, 31, 10, 25, 14, 19, 9, 13, 8, 7, 6]
theorem dbt_all : ∀ t, t < 64 → dbt[(2 ^ t * 285870213051353865 % 18446744073709551616) / 288230376151711744]? = some t := by decide
theorem dbt_idx (x : Nat) : (x % 18446744073709551616) / 288230376151711744 < 64 := by omega
def bl4 (a b c d : Nat) : List UInt8 := bl a 0 ++ (bl b 64 ++ (bl c 128 ++ bl d 192))
theorem bl_len (w base : Nat) : (bl w base).length ≤ 64 := by
  unfold bl
  rw [List.length_map]
  exact Nat.le_trans (List.length_filter_le _ _) (by simp)
end Go.AL
namespace Go.Proofs.YtlopgbdfdfijoaaGreatDoor
open Go Go.RowKit Go.AL
theorem wrapu (n : Int) : IntKind.u64.wrap n = n % 18446744073709551616 := by
  simp [IntKind.wrap, IntKind.bits, IntKind.signed]
theorem wrapn {n : Nat} (h : n < 18446744073709551616) : IntKind.u64.wrap (n : Int) = (n : Int) := by rw [wrapu]; omega
theorem band {a b : Nat} (ha : a < 18446744073709551616) (hb : b < 18446744073709551616) : bits .and .u64 (a : Int) (b : Int) = ((a &&& b : Nat) : Int) := by
  have h1 : a &&& b < 18446744073709551616 := Nat.lt_of_le_of_lt Nat.and_le_left ha
  have h2 : (BitVec.ofInt 64 (a : Int) &&& BitVec.ofInt 64 (b : Int)).toNat = a &&& b := by
    rw [BitVec.ofInt_natCast, BitVec.ofInt_natCast, BitVec.toNat_and, BitVec.toNat_ofNat, BitVec.toNat_ofNat, Nat.mod_eq_of_lt (by omega), Nat.mod_eq_of_lt (by omega)]
  show IntKind.u64.wrap (((BitVec.ofInt 64 (a : Int) &&& BitVec.ofInt 64 (b : Int)).toNat : Nat) : Int) = _
  rw [h2, wrapn h1]
theorem low64 {x t m : Nat} (h : x = 2 ^ t * (2 * m + 1)) (hx : 0 < x) (hx2 : x < 18446744073709551616) : bits .and .u64 (x : Int) (IntKind.u64.wrap (-(x : Int))) = ((2 ^ t : Nat) : Int) := by
  have e : IntKind.u64.wrap (-(x : Int)) = ((18446744073709551616 - x : Nat) : Int) := by rw [wrapu]; omega
  rw [e, band hx2 (by omega)]
  have := tb_low (n := 64) h hx2
  rw [show (2 : Nat) ^ 64 = 18446744073709551616 by decide] at this
  rw [this]
theorem at64 {x t m : Nat} (h : x = 2 ^ t * (2 * m + 1)) (hx : 0 < x) (hx2 : x < 18446744073709551616) :
    IntKind.u64.wrap (bits .and .u64 (x : Int) (IntKind.u64.wrap (-(x : Int))) * 285870213051353865) / 288230376151711744 = (((2 ^ t * 285870213051353865 % 18446744073709551616) / 288230376151711744 : Nat) : Int) := by
  rw [low64 h hx hx2, wrapu]; omega
def TabW (W : World) : Prop := ∀ t : Nat, t < 64 → ∀ n : Nat, dbt[t]? = some n → W.cell? ⟨0, t, none⟩ = some (.int .u8 (n : Int))
theorem walk186 (x : Nat) (t : Nat) (W : World) (hc : W.cell? ⟨0, (IntKind.u64.wrap (bits .and .u64 (x : Int) (IntKind.u64.wrap (-(x : Int))) * 285870213051353865) / 288230376151711744).toNat, none⟩ = some (.int .u8 (t : Int)))
    (h0 : ((x : Int) == 0) = false) (h1 : 0 ≤ IntKind.u64.wrap (bits .and .u64 (x : Int) (IntKind.u64.wrap (-(x : Int))) * 285870213051353865) / 288230376151711744)
    (h2 : IntKind.u64.wrap (bits .and .u64 (x : Int) (IntKind.u64.wrap (-(x : Int))) * 285870213051353865) / 288230376151711744 < 64) (hw : IntKind.i64.wrap (t : Int) = (t : Int)) :
    Calls Tryz.prog 186 #[.int .u64 (x : Int)] W fun e w' => w' = W ∧ e = .returned (.int .i64 (t : Int)) := by
  go_enter Tryz.func186, Tryz.ntmps186
  go_wp2
  all_goals go_ret
  all_goals exact ⟨rfl, by simp [hw]⟩
theorem o186 (x : Nat) (W : World) (h : TabW W) (hx : 0 < x) (hx2 : x < 18446744073709551616) : Calls Tryz.prog 186 #[.int .u64 (x : Int)] W fun e w' => w' = W ∧ ∃ t m : Nat, x = 2 ^ t * (2 * m + 1) ∧ e = .returned (.int .i64 (t : Int)) := by
  obtain ⟨t, m, hxt⟩ := odd_part x hx
  have ht : t < 64 := by
    have h1 : 2 ^ t ≤ x := by rw [hxt]; exact Nat.le_mul_of_pos_right _ (by omega)
    exact (Nat.pow_lt_pow_iff_right (a := 2) (by omega)).1 (Nat.lt_of_le_of_lt h1 (by rw [show (2 : Nat) ^ 64 = 18446744073709551616 by decide]; exact hx2))
  have hix := at64 hxt hx hx2
  have hlt := dbt_idx (2 ^ t * 285870213051353865)
  have hc : W.cell? ⟨0, (IntKind.u64.wrap (bits .and .u64 (x : Int) (IntKind.u64.wrap (-(x : Int))) * 285870213051353865) / 288230376151711744).toNat, none⟩ = some (.int .u8 (t : Int)) := by
    rw [hix, Int.toNat_natCast]
    exact h _ hlt t (dbt_all t ht)
  have h0 : ((x : Int) == 0) = false := by
    have : ¬ (x : Int) = 0 := by omega
    simp; omega
  have hw : IntKind.i64.wrap (t : Int) = (t : Int) := by
    simp [IntKind.wrap, IntKind.bits, IntKind.signed]; omega
  exact (walk186 x t W hc h0 (by rw [hix]; omega) (by rw [hix]; omega) hw).mono fun e w' h => ⟨h.1, t, m, hxt, h.2⟩
end Go.Proofs.YtlopgbdfdfijoaaGreatDoor
namespace Go.Proofs.YtlopgbdfdfijoaaGreatDoor.San
open Go Go.AL
variable [GLC]
noncomputable def bits1 (w : Nat) (base : Nat) : Nat → List AV → List AV := fun n => Nat.rec (motive := fun _ => List AV → List AV) (fun acc => acc) (fun m ih acc => ih (bif Nat.beq (Nat.mod (Nat.div w (Nat.pow 2 m)) 2) 1 then N .u8 (Nat.add base m) :: acc else acc)) n
noncomputable def word (l : List AV) (i : Nat) : Option Nat := match kget l i with
  | some (.int .u64 (.ofNat n)) => bif Nat.ble n 18446744073709551615 then some n else none
  | _ => none
noncomputable def orc308 : KCall := fun g ar h => bif Nat.beq g 184 then (match ar with
  | [.nils, .fn (.func f) [] [.ptr r o]] => bif Nat.beq f 185 then (match kcells h r with
    | some l => (match word l o, word l (o + 1), word l (o + 2), word l (o + 3) with
      | some a, some b, some c, some d => (match bits1 a 0 64 (bits1 b 64 64 (bits1 c 128 64 (bits1 d 192 64 []))) with
        | [] => .ret .nils h
        | x :: xs => h.pushL (x :: xs) .bad fun nx h' => .ret (.sl nx 0 (klen (x :: xs)) (.op 1)) h')
      | _, _, _, _ => .bad)
    | none => .bad) else .bad
  | _ => .bad) else .bad
end Go.Proofs.YtlopgbdfdfijoaaGreatDoor.San
namespace Go.Proofs.YtlopgbdfdfijoaaGreatDoor
open Go Go.RowKit Go.AL Go.Maps Go.Sort Go.Shelf
def vnat : Value → Nat
  | .int _ j => j.toNat
  | _ => 0
theorem vnat_int (k : IntKind) (n : Nat) : vnat (.int k (n : Int)) = n := Int.toNat_natCast n
theorem ix0 (v0 v1 v2 v3 : Value) (w : World) : (Instr.index 68 (.agg #[v0, v1, v2, v3]) (.int .i64 0)).run Tryz.prog w = .ok v0 w := by
  simp [Instr.index, asIntOf, run_underlying Tryz.underlying68, Tryz.sizeOf123, part, Tryz.isAgg123]
theorem ix1 (v0 v1 v2 v3 : Value) (w : World) : (Instr.index 68 (.agg #[v0, v1, v2, v3]) (.int .i64 1)).run Tryz.prog w = .ok v1 w := by
  simp [Instr.index, asIntOf, run_underlying Tryz.underlying68, Tryz.sizeOf123, part, Tryz.isAgg123]
theorem ix2 (v0 v1 v2 v3 : Value) (w : World) : (Instr.index 68 (.agg #[v0, v1, v2, v3]) (.int .i64 2)).run Tryz.prog w = .ok v2 w := by
  simp [Instr.index, asIntOf, run_underlying Tryz.underlying68, Tryz.sizeOf123, part, Tryz.isAgg123]
theorem ix3 (v0 v1 v2 v3 : Value) (w : World) : (Instr.index 68 (.agg #[v0, v1, v2, v3]) (.int .i64 3)).run Tryz.prog w = .ok v3 w := by
  simp [Instr.index, asIntOf, run_underlying Tryz.underlying68, Tryz.sizeOf123, part, Tryz.isAgg123]
set_option maxRecDepth 100000 in
set_option maxHeartbeats 1000000 in
theorem iter185 (n l b off : Nat) (hn : 1 ≤ n) (a0 a1 a2 a3 : Nat) (J : List UInt8 → World → Prop) (W : World) (hT : ∀ pre W', J pre W' → TabW W')
    (h0 : W.cell? ⟨b, off, none⟩ = some (.int .u64 (a0 : Int))) (h1 : W.cell? ⟨b, off + 1, none⟩ = some (.int .u64 (a1 : Int))) (h2 : W.cell? ⟨b, off + 2, none⟩ = some (.int .u64 (a2 : Int))) (h3 : W.cell? ⟨b, off + 3, none⟩ = some (.int .u64 (a3 : Int)))
    (l0 : a0 < 18446744073709551616) (l1 : a1 < 18446744073709551616) (l2 : a2 < 18446744073709551616) (l3 : a3 < 18446744073709551616)
    (hY : ∀ (pre : List UInt8) (x : UInt8) (W1 : World), J pre W1 → pre.length < 256 → YieldAt Fence.wide (n - 1) Tryz.prog l #[.int .u8 (x.toNat : Int)] W1 fun e W' => e = .returned (.bool true) ∧ J (pre ++ [x]) W')
    (hJ : J [] W) : CallsIn Fence.wide n Tryz.prog 185 #[.func (.yield l) #[] #[], .pointer (some ⟨b, off, none⟩)] W fun e W' => (∃ v, e = .returned v) ∧ J (bl4 a0 a1 a2 a3) W' := by
  refine callsIn_of_wp Tryz.func185 rfl trivial ?_ rfl
  simp only [Tryz.ntmps185, List.size_toArray, List.length_cons, List.length_nil, Nat.reduceAdd, Nat.reduceSub, Array.replicate_succ, Array.replicate_zero, List.push_toArray, List.append_toArray, List.nil_append, List.cons_append]
  have i0 := ix0 (.int .u64 (a0 : Int)) (.int .u64 (a1 : Int)) (.int .u64 (a2 : Int)) (.int .u64 (a3 : Int))
  have i1 := ix1 (.int .u64 (a0 : Int)) (.int .u64 (a1 : Int)) (.int .u64 (a2 : Int)) (.int .u64 (a3 : Int))
  have i2 := ix2 (.int .u64 (a0 : Int)) (.int .u64 (a1 : Int)) (.int .u64 (a2 : Int)) (.int .u64 (a3 : Int))
  have i3 := ix3 (.int .u64 (a0 : Int)) (.int .u64 (a1 : Int)) (.int .u64 (a2 : Int)) (.int .u64 (a3 : Int))
  gi_wp2
  obtain ⟨up, hup⟩ : ∃ up : Nat → List UInt8, up = fun i => match i with
    | 0 => []
    | 1 => bl a0 0
    | 2 => bl a0 0 ++ bl a1 64
    | 3 => bl a0 0 ++ (bl a1 64 ++ bl a2 128)
    | _ => bl4 a0 a1 a2 a3 := ⟨_, rfl⟩
  gi_loopw [6] (fun v6 wr => ∃ i : Nat, v6 = .int .i64 (i : Int) ∧ i ≤ 4 ∧ J (up i) wr) (fun v6 _ => 4 - vnat v6)
  case atStart => exact ⟨0, rfl, by omega, by rw [hup]; exact hJ⟩
  case round =>
    obtain ⟨i, rfl, hi, hJi⟩ := hrel
    have hcase : i = 0 ∨ i = 1 ∨ i = 2 ∨ i = 3 ∨ i = 4 := by omega
    rcases hcase with rfl | rfl | rfl | rfl | rfl
    · gi_wp2
      gi_loopw [4] (fun v4 wr => ∃ (w : Nat) (pre : List UInt8), v4 = .int .u64 (w : Int) ∧ w < 18446744073709551616 ∧ J pre wr ∧ pre ++ bl w 0 = up 1) (fun v4 _ => vnat v4)
      case atStart => exact ⟨a0, up 0, rfl, l0, hJi, by rw [hup]; simp [bl4]⟩
      case round =>
        obtain ⟨w, pre, rfl, hw, hJp, hpre⟩ := hrel
        rcases Nat.eq_zero_or_pos w with hz | hpos
        · subst hz
          gi_wp2
          refine ⟨⟨1, rfl, by omega, ?_⟩, by decide⟩
          rw [bl_zero, List.append_nil] at hpre
          rw [← hpre]; exact hJp
        · have hne : ((w : Int) == 0) = false := by
            have : ¬ (w : Int) = 0 := by omega
            simp; omega
          have hTw := hT _ _ hJp
          gi_wp2
          refine ⟨trivial, (callsIn_wide.2 (o186 w wr hTw hpos hw)).mono ?_⟩
          rintro e w2 ⟨rfl, t, m, hwt, rfl⟩
          have ht : t < 64 := by
            have g1 : 2 ^ t ≤ w := by rw [hwt]; exact Nat.le_mul_of_pos_right _ (by omega)
            exact (Nat.pow_lt_pow_iff_right (a := 2) (by omega)).1 (Nat.lt_of_le_of_lt g1 (by rw [show (2 : Nat) ^ 64 = 18446744073709551616 by decide]; exact hw))
          have hbl := bl_step (base := 0) hwt (by rw [show (2 : Nat) ^ 64 = 18446744073709551616 by decide]; exact hw)
          clear hwt
          generalize hxb : UInt8.ofNat (0 + t) = xb at hbl
          have hx8 : (xb.toNat : Int) = (t : Int) := by rw [← hxb]; simp; omega
          clear hxb
          have hlen : pre.length < 256 := by
            have e1 := congrArg List.length hpre
            rw [hbl, hup] at e1
            have b0 := bl_len a0 0
            simp [bl4] at e1
            omega
          obtain ⟨fn, tmps, assign, body, hy, hR⟩ := hY pre xb w2 hJp hlen
          rw [hx8] at hy
          rw [hbl] at hpre
          have hand : bits .and .u64 (w : Int) ((w : Int) - 1) = ((w &&& (w - 1) : Nat) : Int) := by
            have e1 : (w : Int) - 1 = ((w - 1 : Nat) : Int) := by omega
            rw [e1, band hw (by omega)]
          clear hbl hx8
          gi_wp2
          refine hR.mono ?_
          rintro e W3 ⟨rfl, hJ3⟩
          gi_wp2
          refine ⟨⟨_, _, _, _, _, _, _, _, _, _, _, _, _, _, _, _, ⟨w &&& (w - 1), pre ++ [xb], rfl, Nat.lt_of_le_of_lt Nat.and_le_left hw, hJ3, by rw [List.append_assoc]; exact hpre⟩, rfl⟩, ?_⟩
          · show vnat (.int .u64 ((w &&& (w - 1) : Nat) : Int)) < vnat (.int .u64 (w : Int))
            rw [vnat_int, vnat_int]
            exact Nat.lt_of_le_of_lt Nat.and_le_right (by omega)
    · gi_wp2
      gi_loopw [4] (fun v4 wr => ∃ (w : Nat) (pre : List UInt8), v4 = .int .u64 (w : Int) ∧ w < 18446744073709551616 ∧ J pre wr ∧ pre ++ bl w 64 = up 2) (fun v4 _ => vnat v4)
      case atStart => exact ⟨a1, up 1, rfl, l1, hJi, by rw [hup]; simp [bl4]⟩
      case round =>
        obtain ⟨w, pre, rfl, hw, hJp, hpre⟩ := hrel
        rcases Nat.eq_zero_or_pos w with hz | hpos
        · subst hz
          gi_wp2
          refine ⟨⟨2, rfl, by omega, ?_⟩, by decide⟩
          rw [bl_zero, List.append_nil] at hpre
          rw [← hpre]; exact hJp
        · have hne : ((w : Int) == 0) = false := by
            have : ¬ (w : Int) = 0 := by omega
            simp; omega
          have hTw := hT _ _ hJp
          gi_wp2
          refine ⟨trivial, (callsIn_wide.2 (o186 w wr hTw hpos hw)).mono ?_⟩
          rintro e w2 ⟨rfl, t, m, hwt, rfl⟩
          have ht : t < 64 := by
            have g1 : 2 ^ t ≤ w := by rw [hwt]; exact Nat.le_mul_of_pos_right _ (by omega)
            exact (Nat.pow_lt_pow_iff_right (a := 2) (by omega)).1 (Nat.lt_of_le_of_lt g1 (by rw [show (2 : Nat) ^ 64 = 18446744073709551616 by decide]; exact hw))
          have hbl := bl_step (base := 64) hwt (by rw [show (2 : Nat) ^ 64 = 18446744073709551616 by decide]; exact hw)
          clear hwt
          generalize hxb : UInt8.ofNat (64 + t) = xb at hbl
          have hx8 : (xb.toNat : Int) = (64 : Int) + (t : Int) := by rw [← hxb]; simp; omega
          clear hxb
          have hlen : pre.length < 256 := by
            have e1 := congrArg List.length hpre
            rw [hbl, hup] at e1
            have b0 := bl_len a0 0
            have b1 := bl_len a1 64
            simp [bl4] at e1
            omega
          obtain ⟨fn, tmps, assign, body, hy, hR⟩ := hY pre xb w2 hJp hlen
          rw [hx8] at hy
          rw [hbl] at hpre
          have hand : bits .and .u64 (w : Int) ((w : Int) - 1) = ((w &&& (w - 1) : Nat) : Int) := by
            have e1 : (w : Int) - 1 = ((w - 1 : Nat) : Int) := by omega
            rw [e1, band hw (by omega)]
          clear hbl hx8
          gi_wp2
          refine hR.mono ?_
          rintro e W3 ⟨rfl, hJ3⟩
          gi_wp2
          refine ⟨⟨_, _, _, _, _, _, _, _, _, _, _, _, _, _, _, _, ⟨w &&& (w - 1), pre ++ [xb], rfl, Nat.lt_of_le_of_lt Nat.and_le_left hw, hJ3, by rw [List.append_assoc]; exact hpre⟩, rfl⟩, ?_⟩
          · show vnat (.int .u64 ((w &&& (w - 1) : Nat) : Int)) < vnat (.int .u64 (w : Int))
            rw [vnat_int, vnat_int]
            exact Nat.lt_of_le_of_lt Nat.and_le_right (by omega)
    · gi_wp2
      gi_loopw [4] (fun v4 wr => ∃ (w : Nat) (pre : List UInt8), v4 = .int .u64 (w : Int) ∧ w < 18446744073709551616 ∧ J pre wr ∧ pre ++ bl w 128 = up 3) (fun v4 _ => vnat v4)
      case atStart => exact ⟨a2, up 2, rfl, l2, hJi, by rw [hup]; simp [bl4]⟩
      case round =>
        obtain ⟨w, pre, rfl, hw, hJp, hpre⟩ := hrel
        rcases Nat.eq_zero_or_pos w with hz | hpos
        · subst hz
          gi_wp2
          refine ⟨⟨3, rfl, by omega, ?_⟩, by decide⟩
          rw [bl_zero, List.append_nil] at hpre
          rw [← hpre]; exact hJp
        · have hne : ((w : Int) == 0) = false := by
            have : ¬ (w : Int) = 0 := by omega
            simp; omega
          have hTw := hT _ _ hJp
          gi_wp2
          refine ⟨trivial, (callsIn_wide.2 (o186 w wr hTw hpos hw)).mono ?_⟩
          rintro e w2 ⟨rfl, t, m, hwt, rfl⟩
          have ht : t < 64 := by
            have g1 : 2 ^ t ≤ w := by rw [hwt]; exact Nat.le_mul_of_pos_right _ (by omega)
            exact (Nat.pow_lt_pow_iff_right (a := 2) (by omega)).1 (Nat.lt_of_le_of_lt g1 (by rw [show (2 : Nat) ^ 64 = 18446744073709551616 by decide]; exact hw))
          have hbl := bl_step (base := 128) hwt (by rw [show (2 : Nat) ^ 64 = 18446744073709551616 by decide]; exact hw)
          clear hwt
          generalize hxb : UInt8.ofNat (128 + t) = xb at hbl
          have hx8 : (xb.toNat : Int) = (128 : Int) + (t : Int) := by rw [← hxb]; simp; omega
          clear hxb
          have hlen : pre.length < 256 := by
            have e1 := congrArg List.length hpre
            rw [hbl, hup] at e1
            have b0 := bl_len a0 0
            have b1 := bl_len a1 64
            have b2 := bl_len a2 128
            simp [bl4] at e1
            omega
          obtain ⟨fn, tmps, assign, body, hy, hR⟩ := hY pre xb w2 hJp hlen
          rw [hx8] at hy
          rw [hbl] at hpre
          have hand : bits .and .u64 (w : Int) ((w : Int) - 1) = ((w &&& (w - 1) : Nat) : Int) := by
            have e1 : (w : Int) - 1 = ((w - 1 : Nat) : Int) := by omega
            rw [e1, band hw (by omega)]
          clear hbl hx8
          gi_wp2
          refine hR.mono ?_
          rintro e W3 ⟨rfl, hJ3⟩
          gi_wp2
          refine ⟨⟨_, _, _, _, _, _, _, _, _, _, _, _, _, _, _, _, ⟨w &&& (w - 1), pre ++ [xb], rfl, Nat.lt_of_le_of_lt Nat.and_le_left hw, hJ3, by rw [List.append_assoc]; exact hpre⟩, rfl⟩, ?_⟩
          · show vnat (.int .u64 ((w &&& (w - 1) : Nat) : Int)) < vnat (.int .u64 (w : Int))
            rw [vnat_int, vnat_int]
            exact Nat.lt_of_le_of_lt Nat.and_le_right (by omega)
    · gi_wp2
      gi_loopw [4] (fun v4 wr => ∃ (w : Nat) (pre : List UInt8), v4 = .int .u64 (w : Int) ∧ w < 18446744073709551616 ∧ J pre wr ∧ pre ++ bl w 192 = up 4) (fun v4 _ => vnat v4)
      case atStart => exact ⟨a3, up 3, rfl, l3, hJi, by rw [hup]; simp [bl4]⟩
      case round =>
        obtain ⟨w, pre, rfl, hw, hJp, hpre⟩ := hrel
        rcases Nat.eq_zero_or_pos w with hz | hpos
        · subst hz
          gi_wp2
          refine ⟨⟨4, rfl, by omega, ?_⟩, by decide⟩
          rw [bl_zero, List.append_nil] at hpre
          rw [← hpre]; exact hJp
        · have hne : ((w : Int) == 0) = false := by
            have : ¬ (w : Int) = 0 := by omega
            simp; omega
          have hTw := hT _ _ hJp
          gi_wp2
          refine ⟨trivial, (callsIn_wide.2 (o186 w wr hTw hpos hw)).mono ?_⟩
          rintro e w2 ⟨rfl, t, m, hwt, rfl⟩
          have ht : t < 64 := by
            have g1 : 2 ^ t ≤ w := by rw [hwt]; exact Nat.le_mul_of_pos_right _ (by omega)
            exact (Nat.pow_lt_pow_iff_right (a := 2) (by omega)).1 (Nat.lt_of_le_of_lt g1 (by rw [show (2 : Nat) ^ 64 = 18446744073709551616 by decide]; exact hw))
          have hbl := bl_step (base := 192) hwt (by rw [show (2 : Nat) ^ 64 = 18446744073709551616 by decide]; exact hw)
          clear hwt
          generalize hxb : UInt8.ofNat (192 + t) = xb at hbl
          have hx8 : (xb.toNat : Int) = (192 : Int) + (t : Int) := by rw [← hxb]; simp; omega
          clear hxb
          have hlen : pre.length < 256 := by
            have e1 := congrArg List.length hpre
            rw [hbl, hup] at e1
            have b0 := bl_len a0 0
            have b1 := bl_len a1 64
            have b2 := bl_len a2 128
            have b3 := bl_len a3 192
            simp [bl4] at e1
            omega
          obtain ⟨fn, tmps, assign, body, hy, hR⟩ := hY pre xb w2 hJp hlen
          rw [hx8] at hy
          rw [hbl] at hpre
          have hand : bits .and .u64 (w : Int) ((w : Int) - 1) = ((w &&& (w - 1) : Nat) : Int) := by
            have e1 : (w : Int) - 1 = ((w - 1 : Nat) : Int) := by omega
            rw [e1, band hw (by omega)]
          clear hbl hx8
          gi_wp2
          refine hR.mono ?_
          rintro e W3 ⟨rfl, hJ3⟩
          gi_wp2
          refine ⟨⟨_, _, _, _, _, _, _, _, _, _, _, _, _, _, _, _, ⟨w &&& (w - 1), pre ++ [xb], rfl, Nat.lt_of_le_of_lt Nat.and_le_left hw, hJ3, by rw [List.append_assoc]; exact hpre⟩, rfl⟩, ?_⟩
          · show vnat (.int .u64 ((w &&& (w - 1) : Nat) : Int)) < vnat (.int .u64 (w : Int))
            rw [vnat_int, vnat_int]
            exact Nat.lt_of_le_of_lt Nat.and_le_right (by omega)
    · gi_wp2
      go_end0
      exact ⟨⟨_, rfl⟩, by rw [hup] at hJi; exact hJi⟩
end Go.Proofs.YtlopgbdfdfijoaaGreatDoor
namespace Go.Proofs.YtlopgbdfdfijoaaGreatDoor
open Go Go.RowKit Go.AL Go.Maps Go.Sort Go.Shelf
abbrev encB (x : UInt8) : Value := .int .u8 (x.toNat : Int)
theorem nm185 : Tryz.f185.name ≠ "runtime.NumGoroutine" := by
  have h : (Tryz.f185.name == "runtime.NumGoroutine") = false := by kernel_rfl
  simpa using h
theorem en185 : Go.AL.Enters Tryz.prog 185 := ⟨_, Tryz.func185, nm185, by kernel_rfl⟩
theorem i5 : (Tryz.prog.info? 5).map (fun i => (i.zero, i.size, i.bytes)) = some (some (.int .u8 0), 1, 1) := by kernel_rfl
theorem TabW.below {w W : World} (h : TabW w) (hb : Below w.heap.size w W) : TabW W := fun t ht n hn => by
  have h1 := h t ht n hn
  have h2 : 0 < w.heap.size := by
    have h3 := h 0 (by omega) 0 rfl
    unfold World.cell? at h3
    split at h3
    · rename_i heq
      exact (Array.getElem?_eq_some_iff.1 heq).1
    · cases h3
  exact (hb.cell (p := ⟨0, t, none⟩) h2).trans h1
def Cb.apAssign : Code := (Code.region 2 #[{ dst := some 5, op := Op.assign (Operand.tmp 7), type := 5, pos := "iter.go:51", after := #[], guard := none }] false)
def Cb.apBody : Code := (Code.block 1 (Code.region 3 #[{ dst := some 8, op := Op.load 36 (Operand.tmp 2), type := 36, pos := "iter.go:52", after := #[], guard := none }, { dst := some 9, op := Op.move (Operand.tmp 5), type := 5, pos := "iter.go:52", after := #[], guard := none }, { dst := some 10, op := Op.buildSlice 36 1 #[(0, Operand.tmp 9)], type := 36, pos := "iter.go:52", after := #[{ on := 1, ground := Ground.data }], guard := none }, { dst := some 11, op := Op.call { callee := Callee.builtin Builtin.append, args := #[Operand.tmp 8, Operand.tmp 10], argTypes := #[36, 36] }, type := 36, pos := "iter.go:52", after := #[{ on := 0, ground := Ground.data }, { on := 2, ground := Ground.data }], guard := none }, { dst := none, op := Op.store 36 (Operand.tmp 2) (Operand.tmp 11), type := 0, pos := "iter.go:52", after := #[{ on := 3, ground := Ground.data }, { on := 3, ground := Ground.chain }, { on := 0, ground := Ground.phase }, { on := 1, ground := Ground.phase }, { on := 2, ground := Ground.phase }, { on := 3, ground := Ground.phase }], guard := none }] false))
def Cb.apRec (fn : FuncId) (sv : Value) (Bs D : Nat) (st : LoopState) (pend : Option Code) : Loop :=
  { state := st, pending := pend, fn, tmps := #[.slice none 0 0, sv, .pointer (some ⟨Bs, 0, none⟩), undef, .slice none 0 0, undef, sv, undef, undef, undef, undef, undef, undef], params := #[7], assign := Cb.apAssign, body := Cb.apBody, defers := D }
structure Cb.ApAt (w0 : World) (fn : FuncId) (sv : Value) (Bs l D : Nat) (ss : List UInt8) (W : World) : Prop where
  box : ∃ v, W.heap[Bs]? = some (.cells #[v] 36 (0, 0)) ∧ W.ownsRow w0.heap.size 5 1 v ss.length (ss.map encB) ∧ (v = .slice none 0 0 ↔ ss = [])
  L : W.heap[l]? = some (.loop (Cb.apRec fn sv Bs D .ready none))
  K : W.heap[D]? = some (.deferred (some []))
  below : Below w0.heap.size w0 W
set_option maxRecDepth 100000 in
set_option maxHeartbeats 2000000 in
theorem Cb.apYield (m : Nat) (w0 : World) (fn : FuncId) (sv : Value) (Bs l D : Nat) (hBl : Bs ≠ l) (hDl : D ≠ l) (hDB : D ≠ Bs) (h0B : w0.heap.size ≤ Bs) (h0l : w0.heap.size ≤ l)
    (N : Nat) (hN : N ≤ maxLen) (hNb : N * 1 ≤ 140737488355328) (ss : List UInt8) (x : UInt8) (W : World) (h : Cb.ApAt w0 fn sv Bs l D ss W) (hlen : ss.length < N) :
    YieldAt Fence.wide m Tryz.prog l #[encB x] W fun e W' => e = .returned (.bool true) ∧ Cb.ApAt w0 fn sv Bs l D (ss ++ [x]) W' ∧ KeepsWalks W W' := by
  have hne : 36 ≠ 5 := fun e => by cases e
  obtain ⟨i0, hi, hz0, hz1, hz2⟩ := info_parts i5
  obtain ⟨v, hv, hrow, _⟩ := h.box
  refine ⟨fn, #[.slice none 0 0, sv, .pointer (some ⟨Bs, 0, none⟩), undef, .slice none 0 0, undef, sv, encB x, undef, undef, undef, undef, undef], Cb.apAssign, Cb.apBody, by simpa [Cb.apRec] using run_yield (P := Tryz.prog) (args := #[encB x]) h.L rfl, roundIn_of_wpIn trivial ?_⟩
  have hl : l < W.heap.size := (Array.getElem?_eq_some_iff.1 h.L).1
  have hbr := run_beginRound (P := Tryz.prog) h.L rfl
  obtain ⟨W2, hW2⟩ : ∃ W2, W.putObj l (.loop { Cb.apRec fn sv Bs D .ready none with state := .busy }) = W2 := ⟨_, rfl⟩
  rw [hW2] at hbr
  have hg2 : W.grownBy W2 (some l) := by rw [← hW2]; exact grownBy_putObj_a _ _ _
  have hk2 : KeepsWalks W W2 := by rw [← hW2]; exact KeepsWalks.putObj _ h.L rfl
  have hv2 : W2.heap[Bs]? = some (.cells #[v] 36 (0, 0)) := by rw [← hW2]; exact (World.putObj_heap_other hBl).trans hv
  have hK2 : W2.heap[D]? = some (.deferred (some [])) := by rw [← hW2]; exact (World.putObj_heap_other hDl).trans h.K
  have hL2 : W2.heap[l]? = some (.loop { Cb.apRec fn sv Bs D .ready none with state := .busy }) := by rw [← hW2]; exact World.putObj_heap_same hl
  have hrow2 : W2.ownsRow w0.heap.size 5 1 v ss.length (ss.map encB) := hrow.kept hg2 (ownsRow_ne_a hrow h.L (fun cur e => by first | cases e | exact hne (Obj.cells.inj e).2.1))
  have hb2 : Below w0.heap.size w0 W2 := h.below.grown hg2 h.below.size (fun k e => by cases e; exact h0l)
  obtain ⟨hc2, hf2⟩ := cell_of_box_a hv2
  have hBlt : Bs < W2.heap.size := (Array.getElem?_eq_some_iff.1 hv2).1
  have hl2 : l < W2.heap.size := (Array.getElem?_eq_some_iff.1 hL2).1
  have hDlt : D < W2.heap.size := (Array.getElem?_eq_some_iff.1 hK2).1
  have ne_of : ∀ {j : Nat} {o : Obj}, W2.heap[j]? = some o → (∀ cur, o ≠ .cells cur 5 (0, 0)) → some j ≠ v.ownBlock := fun hj hno => by
    rcases ownsRow_ne_a hrow2 hj hno with e | e
    · rw [e]; simp
    · exact fun e' => e e'.symm
  clear hW2
  unfold Cb.apAssign
  gi_wp2_with gi_round_op_a
  unfold Cb.apBody
  gi_wp2_with (first
    | (gi_at_builtin; refine wpListIn_append_own _ rfl _ _ 36 rfl w0.heap.size 5 i0 (.int .u8 0) 1 1 Tryz.underlying36 hi hz0 hz1 hz2 rfl (by decide) _ _ _ rfl (hrow2.alloc _) ⟨W2.heap.size, 0, none⟩ 1 1 [encB x] rfl rfl (cell_one_new _ _ _) (by simp [Value.oneCell', encB]) (by omega) (by omega) (by have := hb2.size; simp; omega) ?_; intro v' w3 hown' hg3 hnil3
       have hv3 : w3.heap[Bs]? = some (.cells #[v] 36 (0, 0)) := (hg3.block Bs (by simp; omega) (ne_of hv2 (fun cur e => by first | cases e | exact hne (Obj.cells.inj e).2.1))).trans ((Below.heap_alloc _ _ Bs hBlt).trans hv2)
       obtain ⟨hc3, hf3⟩ := cell_of_box_a hv3
       obtain ⟨g', cap', cur', rfl, hbase', hgb', hr1, hr2, hr3, hr4⟩ : ∃ g' cap' cur', v' = .slice (some ⟨g', 0, none⟩) (ss.length + 1) cap' ∧ w0.heap.size ≤ g' ∧ w3.heap[g']? = some (.cells cur' 5 (0, 0)) ∧ ss.length + 1 ≤ cap' ∧ cap' ≤ maxLen ∧ cur'.size = cap' * 1 ∧ cur'.toList.take ((ss.length + 1) * 1) = ss.map encB ++ [encB x] := by
         rcases hown'.2 with ⟨_, h0⟩ | h'
         · exact absurd h0 (by omega)
         · exact h'
       go_frame)
    | gi_round_op_a)
  have hg3' : (W2.alloc (.cells #[encB x] 5)).grownBy w3 v.ownBlock := hg3
  have hL3 : w3.heap[l]? = some (.loop { Cb.apRec fn sv Bs D .ready none with state := .busy }) := (hg3'.block l (by simp; omega) (ne_of hL2 (fun cur e => by first | cases e | exact hne (Obj.cells.inj e).2.1))).trans ((Below.heap_alloc _ _ l hl2).trans hL2)
  have hK3 : w3.heap[D]? = some (.deferred (some [])) := (hg3'.block D (by simp; omega) (ne_of hK2 (fun cur e => by first | cases e | exact hne (Obj.cells.inj e).2.1))).trans ((Below.heap_alloc _ _ D hDlt).trans hK2)
  obtain ⟨w4, hw4⟩ : ∃ w4, w3.setCell ⟨Bs, 0, none⟩ (.slice (some ⟨g', 0, none⟩) (ss.length + 1) cap') = w4 := ⟨_, rfl⟩
  rw [hw4]
  have hg4 : w3.grownBy w4 (some Bs) := by rw [← hw4]; exact grownBy_setCell0_a _ _ _
  have hv4 : w4.heap[Bs]? = some (.cells #[.slice (some ⟨g', 0, none⟩) (ss.length + 1) cap'] 36 (0, 0)) := by rw [← hw4]; exact heap_setCell_box_a _ hv3
  have hL4 : w4.heap[l]? = some (.loop { Cb.apRec fn sv Bs D .ready none with state := .busy }) := (hg4.block l (Array.getElem?_eq_some_iff.1 hL3).1 (fun e => hBl (by cases e; rfl))).trans hL3
  have hK4 : w4.heap[D]? = some (.deferred (some [])) := (hg4.block D (Array.getElem?_eq_some_iff.1 hK3).1 (fun e => hDB (by cases e; rfl))).trans hK3
  have hrow4 := hown'.kept hg4 (ownsRow_ne_a hown' hv3 (fun cur e => by first | cases e | exact hne (Obj.cells.inj e).2.1))
  have hl4 : l < w4.heap.size := (Array.getElem?_eq_some_iff.1 hL4).1
  have hb3 : Below w0.heap.size w0 w3 := (hb2.alloc hb2.size _).grown hg3' (by have := hb2.size; simp; omega) (fun k e => (hrow2.lt k e).1)
  have hb4 : Below w0.heap.size w0 w4 := hb3.grown hg4 hb3.size (fun k e => by cases e; exact h0B)
  have hk4 : KeepsWalks W w4 := ((hk2.trans (KeepsWalks.alloc _ _)).trans (KeepsWalks.of_grownBy hg3' (ownsRow_not_walk_a (hrow2.alloc _)))).trans (by rw [← hw4]; exact KeepsWalks.setCell _ _ _)
  clear hw4
  refine ⟨_, _, run_endRound none hL4, rfl, ⟨⟨_, (World.putObj_heap_other hBl).trans hv4, ?_, by simp⟩, World.putObj_heap_same hl4, (World.putObj_heap_other hDl).trans hK4, hb4.grown (grownBy_putObj_a _ _ _) hb4.size (fun k e => by cases e; exact h0l)⟩, hk4.trans (KeepsWalks.putObj _ hL4 rfl)⟩
  have := hrow4.kept (grownBy_putObj_a w4 l (.loop { { Cb.apRec fn sv Bs D .ready none with state := .busy } with state := if (none : Option Code).isNone then .ready else .done, pending := none })) (ownsRow_ne_a hrow4 hL4 (fun cur e => by first | cases e | exact hne (Obj.cells.inj e).2.1))
  simpa using this
set_option maxRecDepth 100000 in
set_option maxHeartbeats 2000000 in
theorem Cb.appendSeq_in (b off a0 a1 a2 a3 : Nat) (w : World) (hT : TabW w) (hb : b < w.heap.size)
    (h0 : w.cell? ⟨b, off, none⟩ = some (.int .u64 (a0 : Int))) (h1 : w.cell? ⟨b, off + 1, none⟩ = some (.int .u64 (a1 : Int))) (h2 : w.cell? ⟨b, off + 2, none⟩ = some (.int .u64 (a2 : Int))) (h3 : w.cell? ⟨b, off + 3, none⟩ = some (.int .u64 (a3 : Int)))
    (l0 : a0 < 18446744073709551616) (l1 : a1 < 18446744073709551616) (l2 : a2 < 18446744073709551616) (l3 : a3 < 18446744073709551616) :
    CallsIn Fence.wide 5 Tryz.prog 184 #[.slice none 0 0, .func (.func 185) #[] #[.pointer (some ⟨b, off, none⟩)]] w fun e w' => ∃ v : Value, e = .returned v ∧ w'.ownsRow w.heap.size 5 1 v (bl4 a0 a1 a2 a3).length ((bl4 a0 a1 a2 a3).map encB) ∧ (v = .slice none 0 0 ↔ bl4 a0 a1 a2 a3 = []) ∧ Below w.heap.size w w' := by
  have hne : 36 ≠ 5 := fun e => by cases e
  refine callsIn_of_wp_marks Tryz.func184 rfl trivial ?_ rfl
  simp only [Tryz.ntmps184, List.size_toArray, List.length_cons, List.length_nil, Nat.reduceAdd, Nat.reduceSub, Array.replicate_succ, Array.replicate_zero, List.push_toArray, List.append_toArray, List.nil_append, List.cons_append]
  gi_wp2
  refine wpIn_rangeFunc ?_
  intro fn hfn
  obtain ⟨W0, hW0⟩ : ∃ W0, w.alloc (.cells #[.slice none 0 0] 36) = W0 := ⟨_, rfl⟩
  have hs0 : W0.heap.size = w.heap.size + 1 := by rw [← hW0]; simp
  have hv0 : W0.heap[w.heap.size]? = some (.cells #[.slice none 0 0] 36 (0, 0)) := by rw [← hW0]; exact World.alloc_heap_new w _
  have hb0 : Below w.heap.size w W0 := by rw [← hW0]; exact (Below.refl _ w).alloc (Nat.le_refl _) _
  rw [hW0]
  obtain ⟨W1, hW1⟩ : ∃ W1, (W0.alloc (.deferred (some []))).alloc (.loop (Cb.apRec fn (.func (.func 185) #[] #[.pointer (some ⟨b, off, none⟩)]) w.heap.size W0.heap.size .ready none)) = W1 := ⟨_, rfl⟩
  have hold : ∀ k, k < W0.heap.size → W1.heap[k]? = W0.heap[k]? := fun k hk => by
    rw [← hW1]; exact (Below.heap_alloc _ _ k (by simp; omega)).trans (Below.heap_alloc _ _ k hk)
  have hb1 : Below w.heap.size w W1 := by rw [← hW1]; exact (hb0.alloc hb0.size _).alloc (by have := hb0.size; simp; omega) _
  have hs1 : W1.heap.size = W0.heap.size + 2 := by rw [← hW1]; simp
  have hM : Cb.ApAt w fn (.func (.func 185) #[] #[.pointer (some ⟨b, off, none⟩)]) w.heap.size (W0.heap.size + 1) W0.heap.size [] W1 :=
    ⟨⟨_, (hold w.heap.size (by omega)).trans hv0, ⟨rfl, .inl ⟨rfl, rfl⟩⟩, by simp⟩,
     by rw [← hW1]; have := World.alloc_heap_new (W0.alloc (.deferred (some []))) (.loop (Cb.apRec fn (.func (.func 185) #[] #[.pointer (some ⟨b, off, none⟩)]) w.heap.size W0.heap.size .ready none)); rwa [World.size_alloc] at this,
     by rw [← hW1]; exact (Below.heap_alloc _ _ _ (by simp)).trans (World.alloc_heap_new W0 _), hb1⟩
  refine ⟨W0.heap.size + 1, [{ target := .collected W0.heap.size, args := #[] }], W1, { target := .fn (.func 185) #[.pointer (some ⟨b, off, none⟩)], args := #[.func (.yield (W0.heap.size + 1)) #[] #[]] }, W1, 185,
    #[.func (.yield (W0.heap.size + 1)) #[] #[]] ++ #[.pointer (some ⟨b, off, none⟩)], W1, ?_, ?_, ?_, ?_, fun _ => by omega, ?_⟩
  · rw [← hW1]; exact run_enterLoop_outer _ _ _ _ _
  · simp [resolve, go_sem]
  · intro f' hf'; simp [Target.leads] at hf'; subst hf'; exact trivial
  · simp [invoke, go_sem, run_callFunc en185]
  · have hcell : ∀ k : Nat, W1.cell? ⟨b, off + k, none⟩ = w.cell? ⟨b, off + k, none⟩ := fun k => hb1.cell (p := ⟨b, off + k, none⟩) hb
    have hcell0 : W1.cell? ⟨b, off, none⟩ = w.cell? ⟨b, off, none⟩ := hb1.cell (p := ⟨b, off, none⟩) hb
    refine (iter185 4 (W0.heap.size + 1) b off (by omega) a0 a1 a2 a3 (Cb.ApAt w fn (.func (.func 185) #[] #[.pointer (some ⟨b, off, none⟩)]) w.heap.size (W0.heap.size + 1) W0.heap.size) W1 (fun pre W' hJ => hT.below hJ.below) (by rw [hcell0]; exact h0) (by rw [hcell 1]; exact h1) (by rw [hcell 2]; exact h2) (by rw [hcell 3]; exact h3) l0 l1 l2 l3
      (fun pre x W hJ hl => ?_) hM).mono ?_
    · obtain ⟨fn', tmps, assign, body, q1, q2⟩ := Cb.apYield (4 - 1) w fn _ w.heap.size (W0.heap.size + 1) W0.heap.size (by omega) (by omega) (by omega) (Nat.le_refl _) (by omega) 256 (by decide) (by decide) pre x W hJ hl
      exact ⟨fn', tmps, assign, body, q1, q2.mono fun e W' h => ⟨h.1, h.2.1⟩⟩
    rintro e W2 ⟨⟨v0, rfl⟩, h2⟩
    obtain ⟨v, hv, hrow, hnil⟩ := h2.box
    have hend := run_endLoop (P := Tryz.prog) h2.L (by simp [Cb.apRec])
    obtain ⟨W3, hW3⟩ : ∃ W3, W2.putObj (W0.heap.size + 1) (.loop { Cb.apRec fn (.func (.func 185) #[] #[.pointer (some ⟨b, off, none⟩)]) w.heap.size W0.heap.size .ready none with state := .exhausted }) = W3 := ⟨_, rfl⟩
    rw [hW3] at hend
    have hg3 : W2.grownBy W3 (some (W0.heap.size + 1)) := by rw [← hW3]; exact grownBy_putObj_a _ _ _
    have hv3 : W3.heap[w.heap.size]? = some (.cells #[v] 36 (0, 0)) := by rw [← hW3]; exact (World.putObj_heap_other (by omega)).trans hv
    have hK3 : W3.heap[W0.heap.size]? = some (.deferred (some [])) := by rw [← hW3]; exact (World.putObj_heap_other (by omega)).trans h2.K
    have hrow3 := hrow.kept hg3 (ownsRow_ne_a hrow h2.L (fun cur e => by first | cases e | exact hne (Obj.cells.inj e).2.1))
    have hb3 : Below w.heap.size w W3 := h2.below.grown hg3 h2.below.size (fun k e => by cases e; omega)
    obtain ⟨hc3, hf3⟩ := cell_of_box_a hv3
    clear hW3
    refine ⟨none, W3, hend, ?_⟩
    gi_wp2
    rw [← hs0]
    refine ⟨by simp, .inl ⟨_, _, rfl, run_takeDeferred hK3, ?_⟩⟩
    exact ⟨_, results_tmp rfl _ _ _, v, rfl, hrow3.kept (grownBy_putObj_a _ _ _) (ownsRow_ne_a hrow3 hK3 (fun cur e => by first | cases e | exact hne (Obj.cells.inj e).2.1)), hnil, hb3.grown (grownBy_putObj_a _ _ _) hb3.size (fun k e => by cases e; omega)⟩
end Go.Proofs.YtlopgbdfdfijoaaGreatDoor
namespace Go.AL
theorem WR.newAt {Z : Zt} {σ : Sg} {H : AH} {w w' : World} (h : WR Z σ H w) (hB : Go.RowKit.Below w.heap.size w w') {ao : AObj} {p : Plc} (hp : w.heap.size ≤ p.b) (ho : ObjR Z (σ.add H.next p) w' p ao) : WR Z (σ.add H.next p) (H.push ao) w' := by
  have hf : σ H.next = none := h.fresh _ (Nat.le_refl _)
  have hlt : ∀ r o' p', H.get r = some o' → σ r = some p' → p'.b < w.heap.size := fun r o' p' h1 h2 => (h.h r o' p' h1 h2).2.lt
  refine ⟨fun b o' hz => ?_, fun r o' p' hr hp' => ?_, fun r r' o1 o2 p1 p2 h1 h2 h3 h4 he => ?_, fun r hr => ?_, fun r hr => ?_, h.rest.to ⟨hB.os, hB.output⟩⟩
  · have := h.z b o' hz
    rw [hB.block b (Array.getElem?_eq_some_iff.1 this).1]; exact this
  · by_cases e : r = H.next
    · subst e
      simp only [AH.get_push_same, Option.some.injEq] at hr
      simp only [Sg.add_same, Option.some.injEq] at hp'
      subst hr; subst hp'
      refine ⟨?_, ho⟩
      cases hz : Z p.b with
      | none => rfl
      | some x => have := (Array.getElem?_eq_some_iff.1 (h.z _ _ hz)).1; omega
    · rw [AH.get_push_ne _ _ e] at hr
      have hp'' : σ r = some p' := by simpa [Sg.add, e] using hp'
      obtain ⟨h1, h2⟩ := h.h r o' p' hr hp''
      exact ⟨h1, h2.mono (Zle.refl _) (Sg.add_le hf) (hB.block _ h2.lt)⟩
  · by_cases e1 : r = H.next <;> by_cases e2 : r' = H.next
    · rw [e1, e2]
    · rw [AH.get_push_ne _ _ e2] at h2
      have h4' : σ r' = some p2 := by simpa [Sg.add, e2] using h4
      subst e1
      simp only [Sg.add_same, Option.some.injEq] at h3
      subst h3
      have := hlt _ _ _ h2 h4'
      omega
    · rw [AH.get_push_ne _ _ e1] at h1
      have h3' : σ r = some p1 := by simpa [Sg.add, e1] using h3
      subst e2
      simp only [Sg.add_same, Option.some.injEq] at h4
      subst h4
      have := hlt _ _ _ h1 h3'
      omega
    · rw [AH.get_push_ne _ _ e1] at h1
      rw [AH.get_push_ne _ _ e2] at h2
      exact h.inj r r' o1 o2 p1 p2 h1 h2 (by simpa [Sg.add, e1] using h3) (by simpa [Sg.add, e2] using h4) he
  · simp only [AH.next_push] at hr
    have : r ≠ H.next := by omega
    simp only [Sg.add, this, if_false]
    exact h.fresh r (by omega)
  · simp only [AH.next_push] at hr
    rw [AH.get_push_ne _ _ (by omega)]
    exact h.top r (by omega)
theorem WR.below {Z : Zt} {σ : Sg} {H : AH} {w w' : World} (h : WR Z σ H w) (hB : Go.RowKit.Below w.heap.size w w') : WR Z σ H w' := by
  refine ⟨fun b o' hz => ?_, fun r o' p' hr hp' => ?_, h.inj, h.fresh, h.top, h.rest.to ⟨hB.os, hB.output⟩⟩
  · have := h.z b o' hz
    rw [hB.block b (Array.getElem?_eq_some_iff.1 this).1]; exact this
  · obtain ⟨h1, h2⟩ := h.h r o' p' hr hp'
    exact ⟨h1, h2.mono (Zle.refl _) (fun _ _ h => h) (hB.block _ h2.lt)⟩
end Go.AL
namespace Go.Proofs.YtlopgbdfdfijoaaGreatDoor
open Go Go.AL
open Go.Proofs.YtlopgbdfdfijoaaGreatDoor.San (bits1 word orc308)
variable [GLC]
theorem bits1_eq (w base : Nat) (hb : base + 64 ≤ 256) : ∀ (n : Nat) (acc : List AV), n ≤ 64 → bits1 w base n acc = (((List.range n).filter fun j => w.testBit j).map fun j => bv (UInt8.ofNat (base + j))) ++ acc
  | 0, acc, _ => rfl
  | n + 1, acc, hn => by
    have e : bits1 w base (n + 1) acc = bits1 w base n (bif Nat.beq (Nat.mod (Nat.div w (Nat.pow 2 n)) 2) 1 then N .u8 (Nat.add base n) :: acc else acc) := rfl
    rw [e, bits1_eq w base hb n _ (by omega), List.range_succ, List.filter_append, List.map_append, List.append_assoc]
    congr 1
    have ht : w.testBit n = Nat.beq (Nat.mod (Nat.div w (Nat.pow 2 n)) 2) 1 := by
      rw [Nat.testBit_eq_decide_div_mod_eq]
      show decide (w / 2 ^ n % 2 = 1) = Nat.beq (w / 2 ^ n % 2) 1
      by_cases h : w / 2 ^ n % 2 = 1
      · rw [h]; rfl
      · rw [decide_eq_false h]
        cases hq : Nat.beq (w / 2 ^ n % 2) 1 with
        | false => rfl
        | true => exact absurd (Nat.eq_of_beq_eq_true hq) h
    rw [List.filter_cons, List.filter_nil, ht]
    cases Nat.beq (Nat.mod (Nat.div w (Nat.pow 2 n)) 2) 1 with
    | false => rfl
    | true =>
      show AV.int .u8 ((base + n : Nat) : Int) :: acc = AV.int .u8 (((UInt8.ofNat (base + n)).toNat : Nat) : Int) :: acc
      have : (UInt8.ofNat (base + n)).toNat = base + n := by simp; omega
      rw [this]
theorem bits4 (a b c d : Nat) : bits1 a 0 64 (bits1 b 64 64 (bits1 c 128 64 (bits1 d 192 64 []))) = (bl4 a b c d).map bv := by
  rw [bits1_eq d 192 (by omega) 64 _ (by omega), bits1_eq c 128 (by omega) 64 _ (by omega), bits1_eq b 64 (by omega) 64 _ (by omega), bits1_eq a 0 (by omega) 64 _ (by omega)]
  simp [bl4, bl, Function.comp_def]
theorem word_inv {l : List AV} {i a : Nat} (h : word l i = some a) : l[i]? = some (.int .u64 (a : Int)) ∧ a < 18446744073709551616 := by
  unfold word at h
  rw [kget_eq] at h
  split at h
  · rename_i n heq
    cases hb : Nat.ble n 18446744073709551615 with
    | false => rw [hb] at h; cases h
    | true =>
      rw [hb] at h
      have h : some n = some a := h
      cases h
      exact ⟨heq, by have := Nat.le_of_ble_eq_true hb; omega⟩
  · cases h
class TabC : Prop where
  tab : ∃ o, GLC.G 0 = some o ∧ ∀ w : World, w.heap[0]? = some o → TabW w
theorem en184 : Go.AL.Enters Tryz.prog 184 := ⟨_, Tryz.func184, by
  have h : (Tryz.f184.name == "runtime.NumGoroutine") = false := by kernel_rfl
  simpa using h, by kernel_rfl⟩
theorem enc_vrs (Z : Zt) (σ : Sg) : ∀ l : List UInt8, VRs Z σ (l.map bv) (l.map encB)
  | [] => .nil
  | _ :: l => .cons (.int _ _) (enc_vrs Z σ l)
set_option maxHeartbeats 1000000 in
theorem call184 [hC : TabC] {H : AH} {r o : Nat} {l : List AV} {a b c d : Nat} (hg : H.gl = GLC.G) (hl : H.cells? r = some l) (ha : word l o = some a) (hb : word l (o + 1) = some b) (hc : word l (o + 2) = some c) (hd : word l (o + 3) = some d) :
    ACall Tryz.prog 184 [.nils, .fn (.func 185) [] [.ptr r o]] H (fun out H' => match (bl4 a b c d).map bv with
      | [] => out = .ret .nils ∧ H' = H
      | x :: xs => out = .ret (.sl H.next 0 (x :: xs).length (.op 1)) ∧ H' = H.push (.cells (x :: xs))) := by
  refine ⟨en184, fun Z σ w vs hW hv => ?_⟩
  cases hv with
  | cons h1 hv =>
  cases hv with
  | cons h2 hv =>
  cases hv
  cases h1
  cases h2 with
  | fn g1 g2 =>
  rename_i vf vc
  have hvf : vf = #[] := by
    cases hvf : vf.toList with
    | nil => exact Array.ext' (by simpa using hvf)
    | cons _ _ => rw [hvf] at g1; cases g1
  subst hvf
  obtain ⟨p, hvc, hp⟩ : ∃ p : Plc, vc = #[.pointer (some ⟨p.b, p.base + o, none⟩)] ∧ σ r = some p := by
    cases hvc : vc.toList with
    | nil => rw [hvc] at g2; cases g2
    | cons y ys =>
      rw [hvc] at g2
      cases g2 with
      | cons q1 q2 =>
        cases q2
        cases q1 with
        | ptr hs => exact ⟨_, Array.ext' (by simpa using hvc), hs⟩
  subst hvc
  obtain ⟨z0, cc, e, fr, hb1, hb2, hb3, hb4, hb5, hb6⟩ := hW.row hl hp
  have hblt : p.b < w.heap.size := (Array.getElem?_eq_some_iff.1 hb1).1
  have cellOf : ∀ (k n : Nat), word l (o + k) = some n → w.cell? ⟨p.b, p.base + o + k, none⟩ = some (.int .u64 (n : Int)) ∧ n < 18446744073709551616 := fun k n hk => by
    obtain ⟨q1, q2⟩ := word_inv hk
    refine ⟨?_, q2⟩
    obtain ⟨v, q3, q4⟩ := hb5.get q1
    have hlt : o + k < l.length := (List.getElem?_eq_some_iff.1 q1).1
    rw [List.getElem?_take, if_pos hlt, List.getElem?_drop] at q3
    have q3 : cc[p.base + (o + k)]? = some v := by simpa using q3
    cases q4
    simp only [World.cell?, hb1]
    rw [Nat.add_assoc]
    simpa using q3
  obtain ⟨oo, ho1, ho2⟩ := hC.tab
  have hT : TabW w := ho2 w (hW.z 0 oo (hW.rest.2.2 0 oo (by rw [hg]; exact ho1)).1)
  have c0 := cellOf 0 a ha
  have c1 := cellOf 1 b hb
  have c2 := cellOf 2 c hc
  have c3 := cellOf 3 d hd
  have hcall := callsIn_wide.1 (Cb.appendSeq_in p.b (p.base + o) a b c d w hT hblt c0.1 c1.1 c2.1 c3.1 c0.2 c1.2 c2.2 c3.2)
  refine Calls.mono hcall ?_
  rintro en w' ⟨v, rfl, hrow, hnil, hbel⟩
  generalize hss : bl4 a b c d = ss at hrow hnil
  cases ss with
  | nil =>
    have hv0 := hnil.2 rfl
    subst hv0
    exact ⟨Z, σ, H, .ret .nils, Zle.refl _, Nw.refl _ _, Nat.le_refl _, hW.below hbel, ⟨_, rfl, .nils⟩, rfl, rfl⟩
  | cons x xs =>
    rcases hrow.2 with ⟨_, h0⟩ | ⟨g, cap, cur, rfl, q1, q2, q3, q4, q5, q6⟩
    · simp at h0
    · have hcur : cur.size = cap := by omega
      have htk : cur.toList.take ((x :: xs).map bv).length = (x :: xs).map encB := by
        have : ((x :: xs).map bv).length = (x :: xs).length * 1 := by simp
        rw [this]; exact q6
      have hne : cap ≠ 0 := by simp at q3; omega
      refine ⟨Z, σ.add H.next ⟨g, 0, cap⟩, H.push (.cells ((x :: xs).map bv)), .ret (.sl H.next 0 ((x :: xs).map bv).length (.op 1)), Zle.refl _, Nw.add _ _ _, by simp, hW.newAt hbel q1 ?_, ⟨_, rfl, ?_⟩, rfl, rfl⟩
      · refine .cells (c := cur) (e := 5) (fr := (0, 0)) q2 hcur (.inl rfl) ?_ ?_ ?_
        · show 0 + ((x :: xs).map bv).length ≤ cur.size
          rw [List.length_map, hcur]; omega
        · show VRs Z _ ((x :: xs).map bv) ((cur.toList.drop 0).take ((x :: xs).map bv).length)
          rw [List.drop_zero, htk]
          exact enc_vrs _ _ (x :: xs)
        · show ∀ v ∈ (cur.toList.drop 0).take ((x :: xs).map bv).length, v.oneCell' = true
          rw [List.drop_zero, htk]
          intro v hv
          obtain ⟨y, _, rfl⟩ := List.mem_map.1 hv
          rfl
      · have : ((x :: xs).map bv).length = (x :: xs).length := by simp
        rw [this]
        exact .slo (p := ⟨g, 0, cap⟩) (Sg.add_same _ _ _) q3 (by show 0 + 0 + cap * 1 ≤ cap; omega)
theorem ok308 [TabC] : CallsOk Tryz.prog orc308 := by
  intro g ar h
  have key : ∀ kc, orc308 g ar h = kc → kc = .bad ∨ ∃ r o l a b c d, g = 184 ∧ ar = [.nils, .fn (.func 185) [] [.ptr r o]] ∧ kcells h r = some l ∧ word l o = some a ∧ word l (o + 1) = some b ∧ word l (o + 2) = some c ∧ word l (o + 3) = some d ∧
      (match bits1 a 0 64 (bits1 b 64 64 (bits1 c 128 64 (bits1 d 192 64 []))) with
        | [] => KC.ret .nils h
        | x :: xs => h.pushL (x :: xs) .bad fun nx h' => .ret (.sl nx 0 (klen (x :: xs)) (.op 1)) h') = kc := by
    intro kc hk
    unfold orc308 at hk
    cases hg : Nat.beq g 184 with
    | false => rw [hg] at hk; exact .inl hk.symm
    | true =>
      rw [hg] at hk
      simp only [cond_true] at hk
      split at hk
      · rename_i f r o
        cases hf : Nat.beq f 185 with
        | false => rw [hf] at hk; exact .inl hk.symm
        | true =>
          rw [hf] at hk
          simp only [cond_true] at hk
          split at hk
          · rename_i l hl
            split at hk
            · rename_i a b c d ha hb hc hd
              have e1 := Nat.eq_of_beq_eq_true hg
              have e2 := Nat.eq_of_beq_eq_true hf
              subst e1; subst e2
              exact .inr ⟨r, o, l, a, b, c, d, rfl, rfl, hl, ha, hb, hc, hd, hk⟩
            · exact .inl hk.symm
          · exact .inl hk.symm
      · exact .inl hk.symm
  have main : ∀ v h', orc308 g ar h = .ret v h' → ACall Tryz.prog g ar (toAH h) (fun o H' => o = .ret v ∧ H' = toAH h') := fun v h' hk => by
    rcases key _ hk with h0 | ⟨r, o, l, a, b, c, d, rfl, rfl, hl, ha, hb, hc, hd, hm⟩
    · cases h0
    · refine (call184 (H := toAH h) rfl (by rw [← kcells_eq]; exact hl) ha hb hc hd).mono fun out H' hp => ?_
      rw [bits4] at hm
      cases hs : (bl4 a b c d).map bv with
      | nil => rw [hs] at hm hp; cases hm; exact hp
      | cons x xs =>
        rw [hs] at hm hp
        obtain ⟨h1, q1, q2⟩ := KH.pushL_inv hm (by simp)
        cases q2
        rw [klen_eq]
        exact ⟨hp.1, by rw [q1]; exact hp.2⟩
  refine ⟨main, fun v h' hk => ?_⟩
  rcases key _ hk with h0 | ⟨r, o, l, a, b, c, d, rfl, rfl, hl, ha, hb, hc, hd, hm⟩
  · cases h0
  · exfalso
    cases hs : bits1 a 0 64 (bits1 b 64 64 (bits1 c 128 64 (bits1 d 192 64 []))) with
    | nil => rw [hs] at hm; cases hm
    | cons x xs =>
      rw [hs] at hm
      obtain ⟨h1, q1, q2⟩ := KH.pushL_inv hm (by simp)
      cases q2
end Go.Proofs.YtlopgbdfdfijoaaGreatDoor
