import Derived.Test.YtaicmpphnbofmaaGreatDoorZa04
/-
  the coding of proofs, in plain Lean; the writer of a number.
-/
namespace Go.AL.Co
inductive Er where
  | short
  | form
  deriving DecidableEq
inductive Rs (α : Type) where
  | ok (x : α) (r : List UInt8)
  | err (e : Er)
def Rs.bind {α β : Type} (x : Rs α) (f : α → List UInt8 → Rs β) : Rs β := match x with
  | .ok a r => f a r
  | .err e => .err e
def encU (u : Nat) : List UInt8 := if u ≤ 127 then [UInt8.ofNat u] else UInt8.ofNat (u % 128 + 128) :: encU (u / 128)
 termination_by u
 decreasing_by omega
def decU : Nat → List UInt8 → Rs Nat
  | _, [] => .err .short
  | i, x :: r => if (i = 9 ∧ 1 < x.toNat) ∨ (0 < i ∧ x.toNat = 0) then .err .form else
      if x.toNat < 128 then .ok x.toNat r else (decU (i + 1) r).bind fun v r' => .ok (x.toNat - 128 + 128 * v) r'
theorem ofNat_toNat {n : Nat} (h : n < 256) : (UInt8.ofNat n).toNat = n := by simp; omega
theorem encU_pos (u : Nat) : encU u ≠ [] := by
  unfold encU; split <;> simp
theorem decU_encU : ∀ (k i u : Nat) (r : List UInt8), i + k = 9 → u < 2 ^ (64 - 7 * i) → (0 < i → 0 < u) → decU i (encU u ++ r) = .ok u r := by
  intro k
  induction k with
  | zero =>
    intro i u r hi hu hp
    have hi9 : i = 9 := by omega
    subst hi9
    have hu1 : u < 2 := by simpa using hu
    have hup := hp (by omega)
    have : u = 1 := by omega
    subst this
    unfold encU
    simp [decU]
  | succ k ih =>
    intro i u r hi hu hp
    unfold encU
    by_cases h : u ≤ 127
    · rw [if_pos h]
      have h1 : (UInt8.ofNat u).toNat = u := ofNat_toNat (by omega)
      simp only [List.cons_append, List.nil_append, decU, h1]
      have hc : ¬ ((i = 9 ∧ 1 < u) ∨ (0 < i ∧ u = 0)) := by
        rintro (⟨h9, _⟩ | ⟨hp', h0⟩)
        · omega
        · have := hp hp'; omega
      rw [if_neg hc, if_pos (by omega)]
    · rw [if_neg h]
      have h1 : (UInt8.ofNat (u % 128 + 128)).toNat = u % 128 + 128 := ofNat_toNat (by omega)
      simp only [List.cons_append, decU, h1]
      have hc : ¬ ((i = 9 ∧ 1 < u % 128 + 128) ∨ (0 < i ∧ u % 128 + 128 = 0)) := by omega
      rw [if_neg hc, if_neg (by omega)]
      have hpow : 2 ^ (64 - 7 * i) = 2 ^ (64 - 7 * (i + 1)) * 128 := by
        have : 64 - 7 * i = (64 - 7 * (i + 1)) + 7 := by omega
        rw [this, Nat.pow_add]
      have hdiv : u / 128 < 2 ^ (64 - 7 * (i + 1)) := by
        rw [hpow] at hu
        exact Nat.div_lt_of_lt_mul (by rw [Nat.mul_comm]; exact hu)
      have hih := ih (i + 1) (u / 128) r (by omega) hdiv (fun _ => by omega)
      have e : u % 128 + 128 - 128 + 128 * (u / 128) = u := by omega
      simp only [hih, Rs.bind, e]
theorem decU_canon : ∀ (b : List UInt8) (i v : Nat) (r : List UInt8), i ≤ 9 → decU i b = .ok v r → b = encU v ++ r ∧ v < 2 ^ (64 - 7 * i) ∧ (0 < i → 0 < v) := by
  intro b
  induction b with
  | nil => intro i v r _ h; cases h
  | cons x b ih =>
    intro i v r hi h
    simp only [decU] at h
    have hx := x.toNat_lt
    split at h
    · cases h
    · rename_i hc
      split at h
      · rename_i hlt
        cases h
        refine ⟨?_, ?_, fun hp => ?_⟩
        · unfold encU
          rw [if_pos (by omega)]; simp
        · rcases Nat.lt_or_ge i 9 with h9 | h9
          · exact Nat.lt_of_lt_of_le hlt (by
              have : 2 ^ 7 ≤ 2 ^ (64 - 7 * i) := Nat.pow_le_pow_right (by omega) (by omega)
              simpa using this)
          · have : i = 9 := by omega
            subst this; simp; omega
        · omega
      · rename_i hge
        cases hd : decU (i + 1) b with
        | err e => rw [hd] at h; cases h
        | ok v' r' =>
          rw [hd] at h
          simp only [Rs.bind, Rs.ok.injEq] at h
          obtain ⟨rfl, rfl⟩ := h
          have hi9 : i + 1 ≤ 9 := by
            rcases Nat.lt_or_ge i 9 with h9 | h9
            · omega
            · exfalso; exact hc (.inl ⟨by omega, by omega⟩)
          obtain ⟨h1, h2, h3⟩ := ih (i + 1) v' r' hi9 hd
          have hv' := h3 (by omega)
          refine ⟨?_, ?_, fun _ => by omega⟩
          · rw [encU, if_neg (by omega)]
            have e1 : (x.toNat - 128 + 128 * v') % 128 + 128 = x.toNat := by omega
            have e2 : (x.toNat - 128 + 128 * v') / 128 = v' := by omega
            rw [e1, e2, h1]; simp
          · have hpow : 2 ^ (64 - 7 * i) = 2 ^ (64 - 7 * (i + 1)) * 128 := by
              have : 64 - 7 * i = (64 - 7 * (i + 1)) + 7 := by omega
              rw [this, Nat.pow_add]
            omega
theorem decU_short : ∀ (s u : List UInt8) (i v : Nat) (r : List UInt8), decU i (s ++ u) = .ok v r → r.length < u.length → decU i s = .err .short
  | [], _, _, _, _, _, _ => rfl
  | x :: s, u, i, v, r, h, hl => by
    simp only [List.cons_append, decU] at h ⊢
    split at h
    · cases h
    · rename_i hc
      rw [if_neg hc]
      split at h
      · cases h; simp at hl; omega
      · rename_i hge
        rw [if_neg hge]
        cases hd : decU (i + 1) (s ++ u) with
        | err e => rw [hd] at h; cases h
        | ok v' r' =>
          rw [hd] at h
          simp only [Rs.bind, Rs.ok.injEq] at h
          obtain ⟨_, rfl⟩ := h
          rw [decU_short s u (i + 1) v' r' hd hl]; rfl
def zz (n : Int) : Nat := if 0 ≤ n then 2 * n.toNat else 2 * (-n - 1).toNat + 1
def unzz (u : Nat) : Int := if u % 2 = 1 then -((u / 2 : Nat) : Int) - 1 else ((u / 2 : Nat) : Int)
theorem unzz_zz (n : Int) : unzz (zz n) = n := by unfold unzz zz; split <;> split <;> omega
theorem zz_unzz (u : Nat) : zz (unzz u) = u := by unfold unzz zz; split <;> split <;> omega
def encN (n : Int) : List UInt8 := encU (zz n)
def decN (b : List UInt8) : Rs Int := (decU 0 b).bind fun u r => .ok (unzz u) r
def I64 (n : Int) : Prop := -9223372036854775808 ≤ n ∧ n ≤ 9223372036854775807
theorem zz_lt {n : Int} (h : I64 n) : zz n < 2 ^ 64 := by unfold zz; obtain ⟨h1, h2⟩ := h; split <;> omega
theorem unzz_I64 {u : Nat} (h : u < 2 ^ 64) : I64 (unzz u) := by unfold unzz I64; split <;> omega
theorem decN_encN {n : Int} (h : I64 n) (r : List UInt8) : decN (encN n ++ r) = .ok n r := by
  unfold decN encN
  rw [decU_encU 9 0 (zz n) r (by omega) (by simpa using zz_lt h) (by omega)]
  simp [Rs.bind, unzz_zz]
theorem decN_canon {b : List UInt8} {n : Int} {r : List UInt8} (h : decN b = .ok n r) : b = encN n ++ r ∧ I64 n := by
  unfold decN at h
  cases hd : decU 0 b with
  | err e => rw [hd] at h; cases h
  | ok u r' =>
    rw [hd] at h
    simp only [Rs.bind, Rs.ok.injEq] at h
    obtain ⟨rfl, rfl⟩ := h
    obtain ⟨h1, h2, _⟩ := decU_canon b 0 u r' (by omega) hd
    exact ⟨by rw [encN, zz_unzz]; exact h1, unzz_I64 (by simpa using h2)⟩
theorem decN_short {s u : List UInt8} {n : Int} {r : List UInt8} (h : decN (s ++ u) = .ok n r) (hl : r.length < u.length) : decN s = .err .short := by
  unfold decN at h ⊢
  cases hd : decU 0 (s ++ u) with
  | err e => rw [hd] at h; cases h
  | ok v r' =>
    rw [hd] at h
    simp only [Rs.bind, Rs.ok.injEq] at h
    obtain ⟨_, rfl⟩ := h
    rw [decU_short s u 0 v r' hd hl]; rfl
theorem encN_pos (n : Int) : encN n ≠ [] := encU_pos _
inductive Ty where
  | int
  | byte
  | bool
  | list (t : Ty)
  | pair (a b : Ty)
  | vec (n : Nat)
def Ty.D : Ty → Type
  | .int => Int
  | .byte => UInt8
  | .bool => Bool
  | .list t => List t.D
  | .pair a b => a.D × b.D
  | .vec _ => List UInt8
def asL {t : Ty} (l : (Ty.list t).D) : List t.D := l
def asV {n : Nat} (l : (Ty.vec n).D) : List UInt8 := l
def Ty.pos : Ty → Prop
  | .vec n => 0 < n
  | .list t => t.pos
  | .pair a b => a.pos ∧ b.pos
  | _ => True
def Ty.wf : (t : Ty) → t.D → Prop
  | .int, n => I64 n
  | .byte, _ => True
  | .bool, _ => True
  | .list t, l => I64 ((asL l).length : Int) ∧ ∀ x ∈ asL l, t.wf x
  | .pair a b, p => a.wf p.1 ∧ b.wf p.2
  | .vec n, l => (asV l).length = n
def Ty.enc : (t : Ty) → t.D → List UInt8
  | .int, n => encN n
  | .byte, x => [x]
  | .bool, b => [bif (show Bool from b) then 1 else 0]
  | .list t, l => encN ((asL l).length : Int) ++ (asL l).flatMap t.enc
  | .pair a b, p => a.enc p.1 ++ b.enc p.2
  | .vec _, l => l
def many {α : Type} (f : List UInt8 → Rs α) : Nat → List UInt8 → Rs (List α)
  | 0, b => .ok [] b
  | n + 1, b => (f b).bind fun x r => (many f n r).bind fun l r' => .ok (x :: l) r'
def decByte : List UInt8 → Rs UInt8
  | [] => .err .short
  | x :: r => .ok x r
def Ty.dec : (t : Ty) → List UInt8 → Rs t.D
  | .int, b => decN b
  | .byte, b => decByte b
  | .bool, b => (decByte b).bind fun x r => if 1 < x.toNat then .err .form else .ok (decide (x.toNat = 1)) r
  | .list t, b => (decN b).bind fun n r => if n < 0 then .err .form else if (r.length : Int) < n then .err .short else many t.dec n.toNat r
  | .pair a b, l => (a.dec l).bind fun x r => (b.dec r).bind fun y r' => .ok (x, y) r'
  | .vec n, b => (many decByte n b)
theorem many_enc {α : Type} {f : List UInt8 → Rs α} {g : α → List UInt8} : ∀ (l : List α) (r : List UInt8), (∀ x ∈ l, ∀ r, f (g x ++ r) = .ok x r) → many f l.length (l.flatMap g ++ r) = .ok l r
  | [], r, _ => rfl
  | x :: l, r, h => by
    simp only [List.length_cons, many, List.flatMap_cons, List.append_assoc]
    rw [h x (by simp)]
    simp only [Rs.bind]
    rw [many_enc l r fun y hy => h y (by simp [hy])]
theorem many_canon {α : Type} {f : List UInt8 → Rs α} {g : α → List UInt8} {p : α → Prop} (h : ∀ b x r, f b = .ok x r → b = g x ++ r ∧ p x) : ∀ (n : Nat) (b : List UInt8) (l : List α) (r : List UInt8), many f n b = .ok l r → b = l.flatMap g ++ r ∧ l.length = n ∧ ∀ x ∈ l, p x
  | 0, b, l, r, hm => by cases hm; simp
  | n + 1, b, l, r, hm => by
    simp only [many] at hm
    cases hf : f b with
    | err e => rw [hf] at hm; cases hm
    | ok x r1 =>
      rw [hf] at hm
      simp only [Rs.bind] at hm
      cases hg : many f n r1 with
      | err e => rw [hg] at hm; cases hm
      | ok l1 r2 =>
        rw [hg] at hm
        cases hm
        obtain ⟨h1, h2⟩ := h b x r1 hf
        obtain ⟨h3, h4, h5⟩ := many_canon h n r1 l1 r hg
        refine ⟨by rw [h1, h3]; simp, by simp [h4], fun y hy => ?_⟩
        rcases List.mem_cons.1 hy with rfl | hy
        · exact h2
        · exact h5 y hy
def Sh {α : Type} (f : List UInt8 → Rs α) : Prop := ∀ b x r, f b = .ok x r → r.length ≤ b.length
def Ext {α : Type} (f : List UInt8 → Rs α) : Prop := ∀ s u x r, f (s ++ u) = .ok x r → u.length ≤ r.length → ∃ r', r = r' ++ u ∧ f s = .ok x r'
def Cut {α : Type} (f : List UInt8 → Rs α) : Prop := ∀ s u x r, f (s ++ u) = .ok x r → r.length < u.length → f s = .err .short
theorem ext_of_canon {α : Type} {f : List UInt8 → Rs α} {g : α → List UInt8} {p : α → Prop} (hc : ∀ b x r, f b = .ok x r → b = g x ++ r ∧ p x) (he : ∀ x r, p x → f (g x ++ r) = .ok x r) : Ext f := by
  intro s u x r h hl
  obtain ⟨h1, h2⟩ := hc _ _ _ h
  have hlen := congrArg List.length h1
  simp only [List.length_append] at hlen
  refine ⟨r.take (r.length - u.length), ?_, ?_⟩
  · have e1 : (s ++ u).drop s.length = u := by simp
    have e2 : (g x ++ r).drop s.length = r.drop (s.length - (g x).length) := by
      rw [List.drop_append, List.drop_of_length_le (by omega)]; simp
    rw [h1, e2] at e1
    have e3 : s.length - (g x).length = r.length - u.length := by omega
    rw [e3] at e1
    conv => lhs; rw [← List.take_append_drop (r.length - u.length) r, e1]
  · have e1 : (s ++ u).take s.length = s := by simp
    have e2 : (g x ++ r).take s.length = g x ++ r.take (s.length - (g x).length) := by
      rw [List.take_append, List.take_of_length_le (by omega)]
    rw [h1, e2] at e1
    have e3 : s.length - (g x).length = r.length - u.length := by omega
    rw [e3] at e1
    rw [← e1]
    exact he x _ h2
theorem many_cut {α : Type} {f : List UInt8 → Rs α} (hs : Cut f) (hE : Ext f) : ∀ n, Cut (many f n)
  | 0 => fun s u x r h hl => by cases h; simp at hl; omega
  | n + 1 => fun s u l r h hl => by
    simp only [many] at h ⊢
    cases hf : f (s ++ u) with
    | err e => rw [hf] at h; cases h
    | ok x r1 =>
      rw [hf] at h
      simp only [Rs.bind] at h
      cases hg : many f n r1 with
      | err e => rw [hg] at h; cases h
      | ok l1 r2 =>
        rw [hg] at h
        cases h
        rcases Nat.lt_or_ge r1.length u.length with h1 | h1
        · rw [hs s u x r1 hf h1]; rfl
        · obtain ⟨r', rfl, h2⟩ := hE s u x r1 hf h1
          rw [h2]
          simp only [Rs.bind]
          rw [many_cut hs hE n r' u l1 r hg hl]
theorem decByte_canon {b : List UInt8} {x : UInt8} {r : List UInt8} (h : decByte b = .ok x r) : b = [x] ++ r ∧ True := by
  cases b with
  | nil => cases h
  | cons y b => cases h; exact ⟨rfl, trivial⟩
theorem decByte_cut : Cut decByte := fun s u x r h hl => by
  cases s with
  | nil => rfl
  | cons y s => simp only [List.cons_append, decByte, Rs.ok.injEq] at h; obtain ⟨_, rfl⟩ := h; simp at hl; omega
theorem enc_pos : ∀ (t : Ty), t.pos → ∀ x : t.D, t.wf x → t.enc x ≠ []
  | .int, _, n, _ => encN_pos n
  | .byte, _, x, _ => by simp [Ty.enc]
  | .bool, _, x, _ => by simp [Ty.enc]
  | .list t, _, l, _ => by
    simp only [Ty.enc]
    intro h
    exact encN_pos _ (List.append_eq_nil_iff.1 h).1
  | .pair a b, hp, p, hw => by
    simp only [Ty.enc]
    intro h
    exact enc_pos a hp.1 p.1 hw.1 (List.append_eq_nil_iff.1 h).1
  | .vec n, hp, l, hw => by
    simp only [Ty.enc]
    intro h
    have hw : (asV l).length = n := hw
    have : (asV l) = [] := h
    rw [this] at hw
    simp only [Ty.pos, List.length_nil] at hp hw
    omega
theorem flat1 : ∀ l : List UInt8, l.flatMap (fun x => [x]) = l
  | [] => rfl
  | x :: l => by rw [List.flatMap_cons, flat1 l]; rfl
def Ty.good : Ty → Prop
  | .list t => t.pos ∧ t.good
  | .pair a b => a.good ∧ b.good
  | _ => True
theorem dec_enc : ∀ (t : Ty), t.good → ∀ (d : t.D), t.wf d → ∀ r, t.dec (t.enc d ++ r) = .ok d r
  | .int, _, d, hw, r => decN_encN hw r
  | .byte, _, d, _, r => rfl
  | .bool, _, d, _, r => by
    show (decByte ([bif (show Bool from d) then 1 else 0] ++ r)).bind _ = _
    cases d <;> simp [decByte, Rs.bind]
  | .list t, hg, l, hw, r => by
    obtain ⟨h1, h2⟩ := hw
    have key0 : ((decN (encN ((asL l).length : Int) ++ (asL l).flatMap t.enc ++ r)).bind (fun n r => if n < 0 then .err .form else if (r.length : Int) < n then .err .short else many t.dec n.toNat r) : Rs (List t.D)) = .ok (asL l) r := by
     rw [List.append_assoc, decN_encN h1]
     simp only [Rs.bind]
     have hlen : (asL l).length ≤ ((asL l).flatMap t.enc).length := by
       have key : ∀ l : List t.D, (∀ x ∈ l, t.wf x) → l.length ≤ (l.flatMap t.enc).length := by
         intro l
         induction l with
         | nil => simp
         | cons x l ih =>
           intro hx
           have h3 : 0 < (t.enc x).length := List.length_pos_iff.2 (enc_pos t hg.1 x (hx x (by simp)))
           have h4 := ih fun y hy => hx y (by simp [hy])
           simp only [List.flatMap_cons, List.length_append, List.length_cons]; omega
       exact key l h2
     rw [if_neg (by omega), if_neg (by rw [List.length_append]; omega)]
     rw [Int.toNat_natCast]
     exact many_enc l r fun x hx r => dec_enc t hg.2 x (h2 x hx) r
    exact key0
  | .pair a b, hg, p, hw, r => by
    show (a.dec (a.enc p.1 ++ b.enc p.2 ++ r)).bind _ = _
    rw [List.append_assoc, dec_enc a hg.1 p.1 hw.1]
    simp only [Rs.bind]
    rw [dec_enc b hg.2 p.2 hw.2]; rfl
  | .vec n, _, l, hw, r => by
    have hw : (asV l).length = n := hw
    show many decByte n ((asV l) ++ r) = _
    have := many_enc (f := decByte) (g := fun x => [x]) (asV l) r (fun x _ r => rfl)
    rw [flat1, hw] at this
    exact this
theorem dec_canon : ∀ (t : Ty) (b : List UInt8) (d : t.D) (r : List UInt8), t.dec b = .ok d r → b = t.enc d ++ r ∧ t.wf d
  | .int, b, d, r, h => decN_canon h
  | .byte, b, d, r, h => decByte_canon h
  | .bool, b, d, r, h => by
    have h : (decByte b).bind (fun x r => if 1 < x.toNat then .err .form else .ok (decide (x.toNat = 1)) r) = .ok d r := h
    cases hd : decByte b with
    | err e => rw [hd] at h; cases h
    | ok x r1 =>
      rw [hd] at h
      simp only [Rs.bind] at h
      split at h
      · cases h
      · rename_i hx
        cases h
        obtain ⟨h1, _⟩ := decByte_canon hd
        refine ⟨?_, trivial⟩
        rw [h1]
        show _ = [bif decide (x.toNat = 1) then 1 else 0] ++ r
        congr 1
        have hx2 : x.toNat = 0 ∨ x.toNat = 1 := by omega
        rcases hx2 with h0 | h0
        · have : x = 0 := UInt8.toNat_inj.1 (by simpa using h0)
          subst this; rfl
        · have : x = 1 := UInt8.toNat_inj.1 (by simpa using h0)
          subst this; rfl
  | .list t, b, l, r, h => by
    have h : (decN b).bind (fun n r => if n < 0 then .err .form else if (r.length : Int) < n then .err .short else many t.dec n.toNat r) = .ok l r := h
    cases hd : decN b with
    | err e => rw [hd] at h; cases h
    | ok n r1 =>
      rw [hd] at h
      simp only [Rs.bind] at h
      split at h
      · cases h
      · split at h
        · cases h
        · rename_i h0 _
          obtain ⟨h1, h2⟩ := decN_canon hd
          obtain ⟨h3, h4, h5⟩ := many_canon (g := t.enc) (p := t.wf) (fun b x r hx => dec_canon t b x r hx) n.toNat r1 l r h
          have hn : ((asL l).length : Int) = n := by
            have h4 : (asL l).length = n.toNat := h4
            omega
          refine ⟨?_, ?_, h5⟩
          · show b = encN ((asL l).length : Int) ++ (asL l).flatMap t.enc ++ r
            rw [hn, h1, h3, List.append_assoc]; rfl
          · show I64 ((asL l).length : Int)
            rw [hn]; exact h2
  | .pair a b, l, p, r, h => by
    have h : (a.dec l).bind (fun x r => (b.dec r).bind fun y r' => .ok (x, y) r') = .ok p r := h
    cases ha : a.dec l with
    | err e => rw [ha] at h; cases h
    | ok x r1 =>
      rw [ha] at h
      simp only [Rs.bind] at h
      cases hb : b.dec r1 with
      | err e => rw [hb] at h; cases h
      | ok y r2 =>
        rw [hb] at h
        cases h
        obtain ⟨h1, h2⟩ := dec_canon a l x r1 ha
        obtain ⟨h3, h4⟩ := dec_canon b r1 y r hb
        refine ⟨?_, h2, h4⟩
        show l = a.enc x ++ b.enc y ++ r
        rw [h1, h3, List.append_assoc]
  | .vec n, b, l, r, h => by
    obtain ⟨h1, h2, _⟩ := many_canon (g := fun x => [x]) (p := fun _ => True) (fun b x r hx => decByte_canon hx) n b l r h
    refine ⟨?_, h2⟩
    have h1 : b = (asV l).flatMap (fun x => [x]) ++ r := h1
    rw [flat1] at h1
    exact h1
theorem dec_ext (t : Ty) (hg : t.good) : Ext t.dec := ext_of_canon (dec_canon t) (fun x r hp => dec_enc t hg x hp r)
theorem decN_ext : Ext decN := ext_of_canon (fun b x r h => decN_canon h) (fun x r hp => decN_encN hp r)
theorem decByte_ext : Ext decByte := ext_of_canon (fun b x r h => decByte_canon h) (fun x r _ => rfl)
theorem dec_cut : ∀ (t : Ty), t.good → Cut t.dec
  | .int, _ => fun s u x r h hl => decN_short h hl
  | .byte, _ => decByte_cut
  | .bool, _ => fun s u d r h hl => by
    have h : (decByte (s ++ u)).bind (fun x r => if 1 < x.toNat then .err .form else .ok (decide (x.toNat = 1)) r) = .ok d r := h
    show (decByte s).bind _ = _
    cases hd : decByte (s ++ u) with
    | err e => rw [hd] at h; cases h
    | ok x r1 =>
      rw [hd] at h
      simp only [Rs.bind] at h
      split at h
      · cases h
      · cases h
        rw [decByte_cut s u x r hd hl]; rfl
  | .list t, hg => fun s u l r h hl => by
    have h : (decN (s ++ u)).bind (fun n r => if n < 0 then .err .form else if (r.length : Int) < n then .err .short else many t.dec n.toNat r) = .ok l r := h
    show (decN s).bind (fun n r => if n < 0 then .err .form else if (r.length : Int) < n then .err .short else many t.dec n.toNat r) = _
    cases hd : decN (s ++ u) with
    | err e => rw [hd] at h; cases h
    | ok n r1 =>
      rw [hd] at h
      simp only [Rs.bind] at h
      split at h
      · cases h
      · rename_i h0
        split at h
        · cases h
        · rename_i h1
          rcases Nat.lt_or_ge r1.length u.length with h2 | h2
          · rw [decN_short hd h2]; rfl
          · obtain ⟨r', rfl, h3⟩ := decN_ext s u n r1 hd h2
            rw [h3]
            simp only [Rs.bind]
            rw [if_neg h0]
            split
            · rfl
            · exact many_cut (dec_cut t hg.2) (dec_ext t hg.2) n.toNat r' u l r h hl
  | .pair a b, hg => fun s u p r h hl => by
    have h : (a.dec (s ++ u)).bind (fun x r => (b.dec r).bind fun y r' => .ok (x, y) r') = .ok p r := h
    show (a.dec s).bind (fun x r => (b.dec r).bind fun y r' => .ok (x, y) r') = _
    cases ha : a.dec (s ++ u) with
    | err e => rw [ha] at h; cases h
    | ok x r1 =>
      rw [ha] at h
      simp only [Rs.bind] at h
      cases hb : b.dec r1 with
      | err e => rw [hb] at h; cases h
      | ok y r2 =>
        rw [hb] at h
        cases h
        rcases Nat.lt_or_ge r1.length u.length with h1 | h1
        · rw [dec_cut a hg.1 s u x r1 ha h1]; rfl
        · obtain ⟨r', rfl, h2⟩ := dec_ext a hg.1 s u x r1 ha h1
          rw [h2]
          simp only [Rs.bind]
          rw [dec_cut b hg.2 r' u y r hb hl]; rfl
  | .vec n, _ => many_cut decByte_cut decByte_ext n
def whole (t : Ty) (b : List UInt8) : Except Er t.D := match t.dec b with
  | .ok x [] => .ok x
  | .ok _ (_ :: _) => .error .form
  | .err e => .error e
theorem whole_cut (t : Ty) (hg : t.good) (d : t.D) (hw : t.wf d) {n : Nat} (hn : n < (t.enc d).length) : whole t ((t.enc d).take n) = .error .short := by
  have h : t.dec ((t.enc d).take n ++ (t.enc d).drop n) = .ok d [] := by
    rw [List.take_append_drop]
    have := dec_enc t hg d hw []
    rwa [List.append_nil] at this
  unfold whole; rw [dec_cut t hg _ _ d [] h (by simp; omega)]
def tItem : Ty := .pair .int .byte
def tItems : Ty := .list tItem
def tInts : Ty := .list .int
def tPiece : Ty := .pair .bool .byte
def tMove : Ty := .pair .int (.list tPiece)
def tClass : Ty := .vec 32
def tBytes : Ty := .list .byte
def tQ : Ty := .pair .int (.pair .int (.pair .int (.pair .int .bool)))
def tLit : Ty := .pair .int (.pair tItems (.pair tItems (.pair (.list tClass) (.pair (.list tInts) (.pair (.list .bool) (.pair tInts (.pair .int (.pair (.list tClass) (.pair (.list (.list tMove)) (.pair (.list .bool) (.pair (.list tBytes) (.pair tQ (.pair .int .bool)))))))))))))
def tStep : Ty := .pair .int (.pair tInts (.pair .int (.pair .int (.pair .int (.pair .int (.pair .int .int))))))
def tEqn : Ty := .pair tItems tItems
def tNode : Ty := .pair .int (.pair .int (.pair .int (.pair .int (.pair tLit (.pair tInts (.pair (.list tInts) (.pair (.list tStep) (.list tEqn))))))))
def tProof : Ty := .list tNode
theorem tProof_good : tProof.good := by
  simp [tProof, tNode, tEqn, tStep, tLit, tQ, tBytes, tClass, tMove, tPiece, tInts, tItems, tItem, Ty.good, Ty.pos]
end Go.AL.Co
namespace Go.AL
def a18h : Hints := []
def a18r0 : List AOper := [
  ⟨(some 5), .move (.tmp 1), none⟩,
  ⟨(some 6), .convI .u64 (.tmp 5), none⟩,
  ⟨(some 7), .bin .shl (.tmp 6) (.cst (.int .u64 1)), none⟩,
  ⟨(some 4), .move (.tmp 7), none⟩]
def a18r1 : List AOper := [
  ⟨(some 8), .move (.tmp 1), none⟩,
  ⟨(some 9), .bin .lss (.tmp 8) (.cst (.int .i64 0)), none⟩]
def a18r2 : List AOper := [
  ⟨(some 10), .move (.tmp 1), none⟩,
  ⟨(some 11), .un .xor (.tmp 10), none⟩,
  ⟨(some 12), .convI .u64 (.tmp 11), none⟩,
  ⟨(some 13), .bin .shl (.tmp 12) (.cst (.int .u64 1)), none⟩,
  ⟨(some 14), .bin .or (.tmp 13) (.cst (.int .u64 1)), none⟩,
  ⟨(some 4), .move (.tmp 14), none⟩]
def a18r3 : List AOper := [
  ⟨(some 15), .move (.tmp 4), none⟩,
  ⟨(some 16), .bin .gtr (.tmp 15) (.cst (.int .u64 127)), none⟩]
def a18r4 : List AOper := [
  ⟨(some 19), .move (.tmp 0), none⟩,
  ⟨(some 20), .move (.tmp 0), none⟩,
  ⟨(some 21), .nilCheck (.tmp 20), none⟩,
  ⟨(some 22), .fieldAddr 0 (.tmp 21), none⟩,
  ⟨(some 23), .load none (.tmp 22), none⟩,
  ⟨(some 24), .move (.tmp 4), none⟩,
  ⟨(some 25), .convI .u8 (.tmp 24), none⟩,
  ⟨(some 26), .bin .or (.tmp 25) (.cst (.int .u8 128)), none⟩,
  ⟨(some 27), .buildSlice 1 1 [(.int .u8 0)] [(0, 1, (.tmp 26))], none⟩,
  ⟨(some 28), .append 1 1 (.tmp 23) (.tmp 27), none⟩,
  ⟨(some 29), .nilCheck (.tmp 19), none⟩,
  ⟨(some 30), .fieldAddr 0 (.tmp 29), none⟩,
  ⟨none, .store 1 (.tmp 30) (.tmp 28), none⟩]
def a18r5 : List AOper := [
  ⟨(some 17), .move (.tmp 4), none⟩,
  ⟨(some 18), .bin .shr (.tmp 17) (.cst (.int .u64 7)), none⟩,
  ⟨(some 4), .move (.tmp 18), none⟩]
def a18l6 : ACode := (.seq (.seq (.reg a18r3) (.cond (.tmp 16) .skip (.exit 0))) (.seq (.block 1 (.reg a18r4)) (.reg a18r5)))
def a18r7 : List AOper := [
  ⟨(some 31), .move (.tmp 0), none⟩,
  ⟨(some 32), .move (.tmp 0), none⟩,
  ⟨(some 33), .nilCheck (.tmp 32), none⟩,
  ⟨(some 34), .fieldAddr 0 (.tmp 33), none⟩,
  ⟨(some 35), .load none (.tmp 34), none⟩,
  ⟨(some 36), .move (.tmp 4), none⟩,
  ⟨(some 37), .convI .u8 (.tmp 36), none⟩,
  ⟨(some 38), .buildSlice 1 1 [(.int .u8 0)] [(0, 1, (.tmp 37))], none⟩,
  ⟨(some 39), .append 1 1 (.tmp 35) (.tmp 38), none⟩,
  ⟨(some 40), .nilCheck (.tmp 31), none⟩,
  ⟨(some 41), .fieldAddr 0 (.tmp 40), none⟩,
  ⟨none, .store 1 (.tmp 41) (.tmp 39), none⟩]
def a18 : ACode := (.seq (.reg a18r0) (.seq (.seq (.reg a18r1) (.cond (.tmp 9) (.reg a18r2) .skip)) (.seq (.block 0 (.loop a18l6)) (.reg a18r7))))
def a18q : List ARes := []
def a56h : Hints := []
def a56r0 : List AOper := [
  ⟨(some 4), .move (.tmp 0), none⟩,
  ⟨(some 5), .move (.tmp 0), none⟩,
  ⟨(some 6), .nilCheck (.tmp 5), none⟩,
  ⟨(some 7), .fieldAddr 0 (.tmp 6), none⟩,
  ⟨(some 8), .load none (.tmp 7), none⟩,
  ⟨(some 9), .move (.tmp 1), none⟩,
  ⟨(some 10), .buildSlice 1 1 [(.int .u8 0)] [(0, 1, (.tmp 9))], none⟩,
  ⟨(some 11), .append 1 1 (.tmp 8) (.tmp 10), none⟩,
  ⟨(some 12), .nilCheck (.tmp 4), none⟩,
  ⟨(some 13), .fieldAddr 0 (.tmp 12), none⟩,
  ⟨none, .store 1 (.tmp 13) (.tmp 11), none⟩]
def a56 : ACode := (.reg a56r0)
def a56q : List ARes := []
def a60h : Hints := []
def a60r0 : List AOper := [
  ⟨(some 8), .move (.tmp 0), none⟩,
  ⟨(some 9), .move (.tmp 1), none⟩,
  ⟨(some 10), .len (.tmp 9), none⟩,
  ⟨(some 11), .call (.fnc 18) [(.tmp 8), (.tmp 10)], none⟩]
def a60r1 : List AOper := [
  ⟨(some 12), .move (.tmp 1), none⟩,
  ⟨(some 13), .len (.tmp 12), none⟩,
  ⟨(some 14), .move (.cst (.int .i64 0)), none⟩]
def a60r2 : List AOper := [
  ⟨(some 15), .bin .lss (.tmp 14) (.tmp 13), none⟩]
def a60r3 : List AOper := [
  ⟨(some 16), .indexAddrS 1 (.tmp 12) (.tmp 14), none⟩,
  ⟨(some 17), .load none (.tmp 16), none⟩,
  ⟨(some 7), .move (.tmp 17), none⟩]
def a60r4 : List AOper := [
  ⟨(some 18), .move (.tmp 2), none⟩,
  ⟨(some 19), .move (.tmp 7), none⟩,
  ⟨(some 20), .call (.tmp 18) [(.tmp 19)], none⟩]
def a60r5 : List AOper := [
  ⟨(some 21), .bin .add (.tmp 14) (.cst (.int .i64 1)), none⟩,
  ⟨(some 14), .move (.tmp 21), none⟩]
def a60l6 : ACode := (.seq (.reg a60r2) (.seq (.cond (.tmp 15) .skip (.exit 0)) (.seq (.block 1 (.seq (.reg a60r3) (.reg a60r4))) (.reg a60r5))))
def a60 : ACode := (.seq (.reg a60r0) (.seq (.reg a60r1) (.block 0 (.loop a60l6))))
def a60q : List ARes := []
end Go.AL
namespace Go.AL
def bv (x : UInt8) : AV := .int .u8 (x.toNat : Int)
inductive Wr (H : AH) (p : Nat) : Option Nat → List UInt8 → Prop
  | nil (hp : H.get p = some (.cells [.nils])) (hlt : p < H.next) : Wr H p none []
  | row {r : Nat} {bs : List UInt8} (hp : H.get p = some (.cells [.sl r 0 bs.length (.op 1)])) (hr : H.get r = some (.cells (bs.map bv))) (hne : r ≠ p) (hlt : p < H.next) (hrt : r < H.next) : Wr H p (some r) bs
def WPost (H : AH) (p : Nat) (ro : Option Nat) (bs' : List UInt8) : AOut → AH → Prop := fun o H' =>
  o = .ret (.tup []) ∧ ∃ r', H.next ≤ r' ∧ Wr H' p (some r') bs' ∧ H.next ≤ H'.next ∧ (∀ q, q < H.next → q ≠ p → some q ≠ ro → H'.get q = H.get q) ∧ H'.gl = H.gl
theorem w_op2 {P : Program} {e : Env} {H H1 : AH} {K : Env → AH → Prop} {Kp : AV → Env → AH → Prop} {l : List AOper} {d : Option Nat} {k : AK} {v : AV}
    (h : aone k e H = some (v, H1)) (hp : k.plain = true) (hK : aops P l (e.put d v) H1 K Kp) : aops P (⟨d, k, none⟩ :: l) e H K Kp := w_op (v := (v, H1)) h hp hK
variable {P : Program}
end Go.AL
namespace Go.AL
open Co
variable {P : Program}
structure WMid (H : AH) (p : Nat) (ro : Option Nat) (H' : AH) (bs' : List UInt8) : Prop where
  w : ∃ ro', Wr H' p ro' bs' ∧ (ro' = ro ∨ ∃ r', ro' = some r' ∧ H.next ≤ r')
  nx : H.next ≤ H'.next
  fr : ∀ q, q < H.next → q ≠ p → some q ≠ ro → H'.get q = H.get q
  gl : H'.gl = H.gl
theorem WMid.refl {H : AH} {p : Nat} {ro : Option Nat} {bs : List UInt8} (h : Wr H p ro bs) : WMid H p ro H bs := ⟨⟨ro, h, .inl rfl⟩, Nat.le_refl _, fun _ _ _ _ => rfl, rfl⟩
theorem WMid.post {H H1 H2 : AH} {p : Nat} {ro ro1 : Option Nat} {bs2 : List UInt8} (h : H.next ≤ H1.next) (hro : ro1 = ro ∨ ∃ r', ro1 = some r' ∧ H.next ≤ r') (hf : ∀ q, q < H.next → q ≠ p → some q ≠ ro → H1.get q = H.get q) (hg : H1.gl = H.gl)
    {r2 : Nat} (h1 : H1.next ≤ r2) (h2 : Wr H2 p (some r2) bs2) (h3 : H1.next ≤ H2.next) (h4 : ∀ q, q < H1.next → q ≠ p → some q ≠ ro1 → H2.get q = H1.get q) (h5 : H2.gl = H1.gl) : WMid H p ro H2 bs2 :=
  ⟨⟨some r2, h2, .inr ⟨r2, rfl, by omega⟩⟩, by omega, fun q hq hp hr => by
    rw [h4 q (by omega) hp ?_, hf q hq hp hr]
    rcases hro with rfl | ⟨r', rfl, hr'⟩
    · exact hr
    · intro e; cases e; omega, h5.trans hg⟩
theorem wrap_u8 (n : Int) : IntKind.u8.wrap n = n % 256 := by simp [IntKind.wrap, IntKind.bits, IntKind.signed]
theorem wrap_u64 (n : Int) : IntKind.u64.wrap n = n % 18446744073709551616 := by simp [IntKind.wrap, IntKind.bits, IntKind.signed]
theorem wrap_i64 (n : Int) : IntKind.i64.wrap n = if n % 18446744073709551616 ≥ 9223372036854775808 then n % 18446744073709551616 - 18446744073709551616 else n % 18446744073709551616 := by simp [IntKind.wrap, IntKind.bits, IntKind.signed]
theorem or128 : ∀ k < 256, (BitVec.ofInt 8 ((k : Nat) : Int) ||| BitVec.ofInt 8 128).toNat = k % 128 + 128 := by decide +kernel
theorem u8_or {u : Nat} : IntKind.u8.wrap (((BitVec.ofInt 8 (IntKind.u8.wrap (u : Int)) ||| BitVec.ofInt 8 128).toNat : Nat) : Int) = ((UInt8.ofNat (u % 128 + 128)).toNat : Int) := by
  have h1 : (u : Int) % 256 = ((u % 256 : Nat) : Int) := by omega
  rw [wrap_u8 (u : Int), h1, or128 (u % 256) (Nat.mod_lt _ (by omega)), ofNat_toNat (by omega), wrap_u8]; omega
theorem u8_conv {u : Nat} (h : u ≤ 127) : IntKind.u8.wrap (u : Int) = ((UInt8.ofNat u).toNat : Int) := by
  rw [ofNat_toNat (by omega), wrap_u8]; omega
theorem u64_shr {u : Nat} : ((u : Int).fdiv (2 ^ 7)) = ((u / 128 : Nat) : Int) := by
  rw [Int.fdiv_eq_ediv_of_nonneg _ (by decide)]; simp
theorem Wr.step {H : AH} {p : Nat} {ro : Option Nat} {bs : List UInt8} (hW : Wr H p ro bs) (hb : bs.length < 1099511627776) (x : UInt8) :
    ∃ v v' H1 H2, aload none (.ptr p 0) (H.push (.cells [bv x])) = some v ∧ aload none (.ptr p 0) H = some v ∧ aappend 1 1 v (.sl H.next 0 1 (.ex 1)) (H.push (.cells [bv x])) = some (v', H1) ∧
      H1.cells? p = some [v] ∧ v'.cellsOf = some [v'] ∧ H2 = H1.set p (.cells [v']) ∧ H2.gl = H.gl ∧ Wr H2 p (some (H.next + 1)) (bs ++ [x]) ∧ H2.next = H.next + 2 ∧ ∀ q, q < H.next → q ≠ p → some q ≠ ro → H2.get q = H.get q := by
  cases hW with
  | nil hp hlt =>
    have h1 : p ≠ H.next := by omega
    have h2 : p ≠ H.next + 1 := by omega
    refine ⟨.nils, .sl (H.next + 1) 0 1 (.op 1), (H.push (.cells [bv x])).push (.cells [bv x]), _, ?_, ?_, ?_, ?_, rfl, rfl, rfl, ?_, by simp, ?_⟩
    · simp [aload, AH.cells?, AH.get_push, h1, hp, apart]
    · simp [aload, AH.cells?, hp, apart]
    · simp [aappend, aslcells, AH.cells?, AH.get_push]
    · simp [AH.cells?, AH.get_push, h1, h2, hp]
    · refine .row (bs := [x]) ?_ ?_ (by omega) (by simp; omega) (by simp)
      · simp [AH.get_set]
      · simp [AH.get_set, AH.get_push, bv]; omega
    · intro q hq hqp hqr
      have h3 : q ≠ H.next := by omega
      have h4 : q ≠ H.next + 1 := by omega
      simp [AH.get_set, AH.get_push, hqp, h3, h4]
  | row hp hr hne hlt hrt =>
    rename_i r
    have h1 : p ≠ H.next := by omega
    have h2 : p ≠ H.next + 1 := by omega
    have h3 : r ≠ H.next := by omega
    have h4 : ¬ p = r := fun e => hne e.symm
    have h5 : bs.length + 1 ≤ 140737488355328 := by omega
    have h6 : bs.length + 1 ≤ 9223372036854775807 := by omega
    refine ⟨.sl r 0 bs.length (.op 1), .sl (H.next + 1) 0 (bs.length + 1) (.op 1), ((H.push (.cells [bv x])).erase r).push (.cells (bs.map bv ++ [bv x])), _, ?_, ?_, ?_, ?_, rfl, rfl, rfl, ?_, by simp, ?_⟩
    · simp [aload, AH.cells?, AH.get_push, h1, hp, apart]
    · simp [aload, AH.cells?, hp, apart]
    · simp [aappend, aslcells, AH.cells?, AH.get_push, h3, hr, h5, h6, List.take_of_length_le]
    · simp [AH.cells?, AH.get_push, AH.get_erase, h1, h2, h4, hp]
    · refine .row ?_ ?_ (by omega) (by simp; omega) (by simp)
      · simp [AH.get_set]
      · have h7 : H.next + 1 ≠ p := by omega
        simp [AH.get_set, AH.get_push, AH.get_erase, h7]
    · intro q hq hqp hqr
      have h7 : q ≠ H.next := by omega
      have h8 : q ≠ H.next + 1 := by omega
      have h9 : q ≠ r := fun e => hqr (by rw [e])
      simp [AH.get_set, AH.get_push, AH.get_erase, hqp, h7, h8, h9]
theorem zz_pos {n : Int} (h0 : 0 ≤ n) (h : I64 n) : IntKind.u64.wrap (IntKind.u64.wrap n * 2 ^ (min (1 : Int).toNat IntKind.u64.bits)) = ((zz n : Nat) : Int) := by
  obtain ⟨h1, h2⟩ := h
  have e : (2 : Int) ^ (min (1 : Int).toNat IntKind.u64.bits) = 2 := by rfl
  rw [e, wrap_u64, wrap_u64]
  unfold zz; rw [if_pos h0]; omega
theorem xor_not (n : Int) : ((BitVec.ofInt 64 (-1) ^^^ BitVec.ofInt 64 n).toNat : Int) = (-n - 1) % 18446744073709551616 := by
  have e1 : BitVec.ofInt 64 (-1) = BitVec.allOnes 64 := by decide
  rw [e1, BitVec.allOnes_xor, BitVec.toNat_not, BitVec.toNat_ofInt]
  have h1 : (0 : Int) ≤ n % ((2 ^ 64 : Nat) : Int) := Int.emod_nonneg _ (by decide)
  have h2 : n % ((2 ^ 64 : Nat) : Int) < 18446744073709551616 := Int.emod_lt_of_pos _ (by decide)
  have e2 : ((2 ^ 64 : Nat) : Int) = 18446744073709551616 := by decide
  rw [e2] at *
  have e3 : 2 ^ 64 = 18446744073709551616 := by decide
  rw [e3]
  omega
theorem or_one (m : Nat) (h : m < 9223372036854775808) : ((BitVec.ofInt 64 ((2 * m : Nat) : Int) ||| BitVec.ofInt 64 1).toNat) = 2 * m + 1 := by
  rw [BitVec.toNat_or]
  have e1 : (BitVec.ofInt 64 ((2 * m : Nat) : Int)).toNat = 2 * m := by simp; omega
  have e2 : (BitVec.ofInt 64 1).toNat = 1 := by decide
  rw [e1, e2]
  have := Nat.two_pow_add_eq_or_of_lt (i := 1) (b := 1) (by decide) m
  simpa using this.symm
theorem zz_neg {n : Int} (h0 : ¬ 0 ≤ n) (h : I64 n) :
    IntKind.u64.wrap (((BitVec.ofInt 64 (IntKind.u64.wrap (IntKind.u64.wrap (IntKind.i64.wrap (((BitVec.ofInt 64 (-1) ^^^ BitVec.ofInt 64 n).toNat : Nat) : Int)) * 2 ^ (min (1 : Int).toNat IntKind.u64.bits))) ||| BitVec.ofInt 64 1).toNat : Nat) : Int) = ((zz n : Nat) : Int) := by
  obtain ⟨h1, h2⟩ := h
  have e : (2 : Int) ^ (min (1 : Int).toNat IntKind.u64.bits) = 2 := by rfl
  have e1 : IntKind.i64.wrap (((BitVec.ofInt 64 (-1) ^^^ BitVec.ofInt 64 n).toNat : Nat) : Int) = -n - 1 := by
    rw [xor_not, wrap_i64]
    split <;> omega
  rw [e1, e, wrap_u64 (-n - 1), wrap_u64]
  have e2 : (-n - 1) % 18446744073709551616 * 2 % 18446744073709551616 = ((2 * (-n - 1).toNat : Nat) : Int) := by omega
  rw [wrap_u64, e2, or_one _ (by omega)]
  unfold zz; rw [if_neg h0]; omega
end Go.AL
namespace Go.AL
open Co
variable {P : Program}
theorem e_seq {e : Env} {H : AH} {y : ACode} {Q : Ex → Env → AH → Prop} {Kp : AV → Env → AH → Prop} (h : D P y Q e H) : aops P [] e H (fun e' H' => vsQ (seqQ P y Q) .normal e' H') Kp := w_nil (vs_seq h)
theorem e_last {e : Env} {H : AH} {Q : Ex → Env → AH → Prop} {Kp : AV → Env → AH → Prop} (h : Q .normal e H) : aops P [] e H (fun e' H' => vsQ Q .normal e' H') Kp := w_nil (vs_same h)
abbrev WQ (H : AH) (p : Nat) (ro : Option Nat) (bs' : List UInt8) : Ex → Env → AH → Prop := fun x e H' => e dslot = .tup [] ∧ fpost [] (WPost H p ro bs') x e H'
theorem WMid.WQ {H H1 H2 : AH} {p : Nat} {ro ro1 : Option Nat} {e : Env} {bs1 bs2 : List UInt8} (hm : WMid H p ro H1 bs1) (hw : Wr H1 p ro1 bs1) (hro : ro1 = ro ∨ ∃ r', ro1 = some r' ∧ H.next ≤ r') (hd : e dslot = .tup []) (hg : H2.gl = H1.gl)
    (h2 : Wr H2 p (some (H1.next + 1)) bs2) (hn : H2.next = H1.next + 2) (h4 : ∀ q, q < H1.next → q ≠ p → some q ≠ ro1 → H2.get q = H1.get q) : WQ H p ro bs2 .normal e H2 := by
  have hnx := hm.nx
  obtain ⟨⟨_, _, _⟩, _, fr, gl⟩ := WMid.post hm.nx hro hm.fr hm.gl (r2 := H1.next + 1) (by omega) h2 (by omega) h4 hg
  exact ⟨hd, rfl, H1.next + 1, by omega, h2, by omega, fr, gl⟩
theorem c18_loop {H : AH} {p : Nat} {ro : Option Nat} {all : List UInt8} (hb : all.length < 1099511627776) (u0 : Nat) (e0 : Env) (h0 : e0 0 = .ptr p 0) (h4 : e0 4 = .int .u64 (u0 : Nat)) (hd : e0 dslot = .tup [])
    {bs : List UInt8} (hW : Wr H p ro bs) (hall : bs ++ encU u0 = all) : D P (.seq (.block 0 (.loop a18l6)) (.reg a18r7)) (WQ H p ro all) e0 H := by
  refine d_seq (d_block (d_loop (fun e H' => ∃ (u : Nat) (bs' : List UInt8), e 0 = .ptr p 0 ∧ e 4 = .int .u64 (u : Nat) ∧ e dslot = .tup [] ∧ WMid H p ro H' bs' ∧ bs' ++ encU u = all)
    (fun e _ => match e 4 with | .int _ u => u.toNat | _ => 0) ⟨u0, bs, h0, h4, hd, WMid.refl hW, hall⟩ ?_))
  rintro e H' ⟨u, bs', h0, h4, hd, hm, hall'⟩
  have hd' : e 1000000 = .tup [] := hd
  obtain ⟨ro1, hw, hro⟩ := hm.w
  have hlen : bs'.length < 1099511627776 := by
    have := congrArg List.length hall'
    simp only [List.length_append] at this; omega
  unfold a18l6 a18r3
  refine d_seq (d_sregV ?_)
  refine w_op2 (v := .int .u64 (u : Nat)) (H1 := H') (by simp [aone, apure, AOpd.ev, h4]) rfl ?_
  refine w_op2 (v := .bool (decide (127 < u))) (H1 := H') (by simp [aone, apure, AOpd.ev, Env.put, Env.set_get, abin]; omega) rfl ?_
  refine e_seq (d_cond (t := decide (127 < u)) (by simp [AOpd.ev, Env.put, Env.set_get]) (fun ht => ?_) (fun ht => ?_))
  ·
    have hu : 127 < u := by simpa using ht
    refine d_skip ?_
    have hor := @u8_or u
    have henc : encU u = UInt8.ofNat (u % 128 + 128) :: encU (u / 128) := by rw [encU, if_neg (by omega)]
    generalize UInt8.ofNat (u % 128 + 128) = x at hor henc
    obtain ⟨v, v', H1, H2, s1, s2, s3, s4, s5, s6, s7, s8, s9, s10⟩ := hw.step hlen x
    refine d_seq (d_block ?_)
    unfold a18r4
    refine d_regV ?_
    refine w_op2 (v := .ptr p 0) (H1 := H') (by simp [aone, apure, AOpd.ev, Env.put, Env.set_get, h0]) rfl ?_
    refine w_op2 (v := .ptr p 0) (H1 := H') (by simp [aone, apure, AOpd.ev, Env.put, Env.set_get, h0]) rfl ?_
    refine w_op2 (v := .ptr p 0) (H1 := H') (by simp [aone, apure, AOpd.ev, Env.put, Env.set_get, anilc]) rfl ?_
    refine w_op2 (v := .ptr p 0) (H1 := H') (by simp [aone, apure, AOpd.ev, Env.put, Env.set_get, afaddr]) rfl ?_
    refine w_op2 (v := v) (H1 := H') (by simp [aone, apure, aread, AOpd.ev, Env.put, Env.set_get, s2]) rfl ?_
    refine w_op2 (v := .int .u64 (u : Nat)) (H1 := H') (by simp [aone, apure, AOpd.ev, Env.put, Env.set_get, h4]) rfl ?_
    refine w_op2 (v := .int .u8 (IntKind.u8.wrap (u : Nat))) (H1 := H') (by simp [aone, apure, AOpd.ev, Env.put, Env.set_get]) rfl ?_
    refine w_op2 (v := bv x) (H1 := H') (by
      simp only [aone, apure, AOpd.ev, Env.put, Env.set_get, reduceIte, abin]
      exact congrArg (fun z => some (AV.int IntKind.u8 z, H')) hor) rfl ?_
    refine w_op2 (v := .sl H'.next 0 1 (.ex 1)) (H1 := H'.push (.cells [bv x])) (by simp [aone, apure, aread, aeff, afill, AV.cellsOf, AOpd.ev, Env.put, Env.set_get, bv]) rfl ?_
    refine w_op2 (v := v') (H1 := H1) (by simp [aone, apure, aread, aeff, AOpd.ev, Env.put, Env.set_get, s3]) rfl ?_
    refine w_op2 (v := .ptr p 0) (H1 := H1) (by simp [aone, apure, AOpd.ev, Env.put, Env.set_get, anilc]) rfl ?_
    refine w_op2 (v := .ptr p 0) (H1 := H1) (by simp [aone, apure, AOpd.ev, Env.put, Env.set_get, afaddr]) rfl ?_
    refine w_op2 (v := .unk) (H1 := H2) (by simp [aone, apure, aread, aeff, AOpd.ev, Env.put, Env.set_get, s4, s5, s6, splice]) rfl ?_
    refine e_last (q_blk (q_seq ?_))
    unfold a18r5
    refine d_regV ?_
    refine w_op2 (v := .int .u64 (u : Nat)) (H1 := H2) (by simp [aone, apure, AOpd.ev, Env.put, Env.set_get, h4]) rfl ?_
    refine w_op2 (v := .int .u64 ((u / 128 : Nat) : Int)) (H1 := H2) (by
      simp only [aone, apure, AOpd.ev, Env.put, Env.set_get, reduceIte, abin, IntKind.bits]
      have := @u64_shr u
      simp only [show (0 : Int) ≤ 7 by omega, if_true, show min (7 : Int).toNat 64 = 7 by decide, this]) rfl ?_
    refine w_op2 (v := .int .u64 ((u / 128 : Nat) : Int)) (H1 := H2) (by simp [aone, apure, AOpd.ev, Env.put, Env.set_get]) rfl ?_
    refine e_last (q_loop ⟨u / 128, bs' ++ [x], by simp [Env.put, Env.set_get, h0], by simp [Env.put, Env.set_get], by simp [Env.put, Env.set_get, dslot, hd'], ?_, ?_⟩ ?_)
    · have hnx := hm.nx
      exact WMid.post hm.nx hro hm.fr hm.gl (r2 := H'.next + 1) (by omega) s8 (by omega) s10 s7
    · rw [← hall', List.append_assoc, henc]; rfl
    · simp [Env.put, Env.set_get, h4]; omega
  ·
    have hu : u ≤ 127 := by simpa using ht
    refine d_exit (q_seq_exit (q_loop_exit (q_blk_exit (q_seq ?_))))
    have hcv := u8_conv hu
    have hfin : all = bs' ++ [UInt8.ofNat u] := by rw [← hall', encU, if_pos hu]
    generalize UInt8.ofNat u = x at hcv hfin
    obtain ⟨v, v', H1, H2, s1, s2, s3, s4, s5, s6, s7, s8, s9, s10⟩ := hw.step hlen x
    unfold a18r7
    refine d_regV ?_
    refine w_op2 (v := .ptr p 0) (H1 := H') (by simp [aone, apure, AOpd.ev, Env.put, Env.set_get, h0]) rfl ?_
    refine w_op2 (v := .ptr p 0) (H1 := H') (by simp [aone, apure, AOpd.ev, Env.put, Env.set_get, h0]) rfl ?_
    refine w_op2 (v := .ptr p 0) (H1 := H') (by simp [aone, apure, AOpd.ev, Env.put, Env.set_get, anilc]) rfl ?_
    refine w_op2 (v := .ptr p 0) (H1 := H') (by simp [aone, apure, AOpd.ev, Env.put, Env.set_get, afaddr]) rfl ?_
    refine w_op2 (v := v) (H1 := H') (by simp [aone, apure, aread, AOpd.ev, Env.put, Env.set_get, s2]) rfl ?_
    refine w_op2 (v := .int .u64 (u : Nat)) (H1 := H') (by simp [aone, apure, AOpd.ev, Env.put, Env.set_get, h4]) rfl ?_
    refine w_op2 (v := bv x) (H1 := H') (by simp only [aone, apure, AOpd.ev, Env.put, Env.set_get, reduceIte, bv, hcv]) rfl ?_
    refine w_op2 (v := .sl H'.next 0 1 (.ex 1)) (H1 := H'.push (.cells [bv x])) (by simp [aone, apure, aread, aeff, afill, AV.cellsOf, AOpd.ev, Env.put, Env.set_get, bv]) rfl ?_
    refine w_op2 (v := v') (H1 := H1) (by simp [aone, apure, aread, aeff, AOpd.ev, Env.put, Env.set_get, s3]) rfl ?_
    refine w_op2 (v := .ptr p 0) (H1 := H1) (by simp [aone, apure, AOpd.ev, Env.put, Env.set_get, anilc]) rfl ?_
    refine w_op2 (v := .ptr p 0) (H1 := H1) (by simp [aone, apure, AOpd.ev, Env.put, Env.set_get, afaddr]) rfl ?_
    refine w_op2 (v := .unk) (H1 := H2) (by simp [aone, apure, aread, aeff, AOpd.ev, Env.put, Env.set_get, s4, s5, s6, splice]) rfl ?_
    rw [hfin]
    exact e_last (hm.WQ hw hro (by simp [Env.put, Env.set_get, dslot, hd']) s7 s8 s9 s10)
end Go.AL
namespace Go.AL
open Co
variable {P : Program}
theorem c18 (F : Fun P 18 42 a18 a18q) {H : AH} {p : Nat} {ro : Option Nat} {bs : List UInt8} {n : Int} (hn : I64 n) (hW : Wr H p ro bs) (hb : (bs ++ encN n).length < 1099511627776) :
    ACall P 18 [.ptr p 0, .int .i64 n] H (WPost H p ro (bs ++ encN n)) := by
  refine F.call (by simp) ?_
  show D P a18 (WQ H p ro (bs ++ encN n)) _ H
  unfold a18 a18r0 a18r1 a18r2
  refine d_sregV ?_
  refine w_op2 (v := .int .i64 n) (H1 := H) (by simp [aone, apure, AOpd.ev, env0, dslot]) rfl ?_
  refine w_op2 (v := .int .u64 (IntKind.u64.wrap n)) (H1 := H) (by simp [aone, apure, AOpd.ev, Env.put, Env.set_get]) rfl ?_
  refine w_op2 (v := .int .u64 (IntKind.u64.wrap (IntKind.u64.wrap n * 2 ^ (min (1 : Int).toNat IntKind.u64.bits)))) (H1 := H) (by simp [aone, apure, AOpd.ev, Env.put, Env.set_get, abin]) rfl ?_
  refine w_op2 (v := .int .u64 (IntKind.u64.wrap (IntKind.u64.wrap n * 2 ^ (min (1 : Int).toNat IntKind.u64.bits)))) (H1 := H) (by simp [aone, apure, AOpd.ev, Env.put, Env.set_get]) rfl ?_
  refine e_seq (d_seq (d_sregV ?_))
  refine w_op2 (v := .int .i64 n) (H1 := H) (by simp [aone, apure, AOpd.ev, Env.put, Env.set_get, env0, dslot]) rfl ?_
  refine w_op2 (v := .bool (decide (n < 0))) (H1 := H) (by simp [aone, apure, AOpd.ev, Env.put, Env.set_get, abin]) rfl ?_
  refine e_seq (d_cond (t := decide (n < 0)) (by simp [AOpd.ev, Env.put, Env.set_get]) (fun ht => ?_) (fun ht => ?_))
  · have h0 : ¬ 0 ≤ n := by have : n < 0 := by simpa using ht
                            omega
    refine d_regV ?_
    refine w_op2 (v := .int .i64 n) (H1 := H) (by simp [aone, apure, AOpd.ev, Env.put, Env.set_get, env0, dslot]) rfl ?_
    refine w_op2 (v := .int .i64 (IntKind.i64.wrap (((BitVec.ofInt 64 (-1) ^^^ BitVec.ofInt 64 n).toNat : Nat) : Int))) (H1 := H) (by simp only [aone, apure, AOpd.ev, Env.put, Env.set_get, reduceIte, aun]; rfl) rfl ?_
    refine w_op2 (v := .int .u64 (IntKind.u64.wrap (IntKind.i64.wrap (((BitVec.ofInt 64 (-1) ^^^ BitVec.ofInt 64 n).toNat : Nat) : Int)))) (H1 := H) (by simp only [aone, apure, AOpd.ev, Env.put, Env.set_get, reduceIte]) rfl ?_
    refine w_op2 (v := .int .u64 (IntKind.u64.wrap (IntKind.u64.wrap (IntKind.i64.wrap (((BitVec.ofInt 64 (-1) ^^^ BitVec.ofInt 64 n).toNat : Nat) : Int)) * 2 ^ (min (1 : Int).toNat IntKind.u64.bits)))) (H1 := H) (by simp only [aone, apure, AOpd.ev, Env.put, Env.set_get, reduceIte, abin, show (0 : Int) ≤ 1 by omega, if_true]) rfl ?_
    refine w_op2 (v := .int .u64 ((zz n : Nat) : Int)) (H1 := H) (by
      simp only [aone, apure, AOpd.ev, Env.put, Env.set_get, reduceIte, abin]
      exact congrArg (fun z => some (AV.int IntKind.u64 z, H)) (zz_neg h0 hn)) rfl ?_
    refine w_op2 (v := .int .u64 ((zz n : Nat) : Int)) (H1 := H) (by simp [aone, apure, AOpd.ev, Env.put, Env.set_get]) rfl ?_
    exact e_last (q_seq (c18_loop hb (zz n) _ (by simp [Env.put, Env.set_get, env0, dslot]) (by simp [Env.put, Env.set_get]) (by simp [Env.put, Env.set_get, env0, dslot]) hW rfl))
  · have h0 : 0 ≤ n := by have : ¬ n < 0 := by simpa using ht
                          omega
    refine d_skip (q_seq (c18_loop hb (zz n) _ (by simp [Env.put, Env.set_get, env0, dslot]) ?_ (by simp [Env.put, Env.set_get, env0, dslot]) hW rfl))
    have := zz_pos h0 hn
    simp only [Env.put, Env.set_get, reduceIte]
    exact congrArg (AV.int IntKind.u64) this
end Go.AL
