import Derived.Test.YtlopgbdfdfijoaaGreatDoorZd01
import Derived.Test.YtlopgbdfdfijoaaGreatDoorZc01
import Derived.Test.YtlopgbdfdfijoaaGreatDoorZb02
/-
  the queue of jobs: New, Submit, Step, the sanity run and the law, over what the closed calls answer.
-/
set_option linter.unusedSectionVars false
set_option linter.unusedVariables false
set_option linter.unusedSimpArgs false
namespace Go.Proofs.YtlopgbdfdfijoaaGreatDoor
open Go Go.AL
variable [GLC]
structure Job where
  t : Int
  q0 : AV
  q1 : AV
  q2 : AV
  q3 : AV
  q4 : AV
  q5 : AV
  f : Int
def jc (j : Job) : List AV := [iv j.t, j.q0, j.q1, j.q2, j.q3, j.q4, j.q5, iv j.f]
abbrev JE (js : List Job) (i : Nat) (c : List AV) : Prop := ∃ j, js[i]? = some j ∧ c = jc j
abbrev IE (ns : List Int) (i : Nat) (c : List AV) : Prop := ∃ x, ns[i]? = some x ∧ c = [iv x]
abbrev FLJ (js : List Job) (v : AV) : Prop := FL 8 (JE js) js.length v
abbrev FLI (ns : List Int) (v : AV) : Prop := FL 1 (IE ns) ns.length v
def am (n : Int) : Bool := decide (0 ≤ n) && decide (n ≤ 1073741824)
def fit (n : Nat) (j : Job) : Bool := decide (0 ≤ j.t) && decide (j.t < (n : Int)) && am j.f
def vld (js : List Job) (ns : List Int) : Bool := decide (1 ≤ ns.length) && decide (ns.length ≤ 64) && decide (js.length ≤ 16) && !ns.any (fun n => !am n) && !js.any (fun j => !fit ns.length j)
theorem C33 {H : AH} {n : Int} : CP Tryz.prog 33 [iv n] H fun x => x = .bool (am n) := by
  refine CP.of (T33 ?_)
  unfold G33
  try simp only [I_lit]
  refine c_geq (fun h => grp_tt ?_) (fun h => grp_tf ?_)
  · exact s_leq (s_pk (.same (fun k => .bool _) (by simp [am, h])))
  · exact y_pu_of (v := .bool false) rfl (.same (fun k => .bool _) (by simp [am, h]))
theorem C12 {H : AH} {jv fv cv : AV} {ns : List Int} {j : Job} (hf : FLI ns fv) : CP Tryz.prog 12 [.agg [jv, fv, cv], .agg (jc j)] H fun x => x = .bool (fit ns.length j) := by
  refine CP.of (T12 ?_)
  unfold G12
  try simp only [I_lit]
  refine (NSt.start H).box rfl fun q1 H1 s => s.box rfl fun q2 H2 s => ?_
  have m1 : (q1, [jv, fv, cv]) ∈ [(q2, jc j), (q1, [jv, fv, cv])] := .tail _ (.head _)
  have m2 : (q2, jc j) ∈ [(q2, jc j), (q1, [jv, fv, cv])] := .head _
  refine y_pu_of (v := .ptr q2 0) rfl (s.ld (x := iv j.t) m2 rfl ?_)
  refine c_geq (fun h0 => grp_tt ?_) (fun h0 => grp_tf ?_)
  · refine y_pu_of (v := .ptr q2 0) rfl (s.ld (x := iv j.t) m2 rfl (y_pu_of (v := .ptr q1 1) rfl (s.ld (x := fv) m1 rfl (hf.len ?_))))
    refine c_lss (fun h1 => ?_) (fun h1 => ?_)
    · refine y_pu_of (v := .bool true) rfl (grp_tt ?_)
      refine y_pu_of (v := .ptr q2 7) rfl (s.ld (x := iv j.f) m2 rfl (y_cp C33 fun x hx => ?_))
      subst hx
      exact s_pk (s.finS (fun k => .bool _) (by simp [fit, h0, h1]))
    · refine y_pu_of (v := .bool false) rfl (grp_tf ?_)
      exact y_pu_of (v := .bool false) rfl (s.finS (fun k => .bool _) (by simp [fit, h1]))
  · refine y_pu_of (v := .bool false) rfl (grp_tf (y_pu_of (v := .bool false) rfl (s.finS (fun k => .bool _) (by simp [fit, h0]))))
theorem C32 {H : AH} {n : Int} : CP Tryz.prog 32 [iv n] H fun x => x = .bool (!am n) := by
  refine CP.of (T32 ?_)
  unfold G32
  refine y_cp C33 fun x hx => ?_
  subst hx
  exact s_not (.same (fun k => .bool _) rfl)
theorem C31 {H : AH} {q : Nat} {jv fv cv : AV} {ns : List Int} {j : Job} (hq : q < H.next) (hg : H.get q = some (.cells [jv, fv, cv])) (hf : FLI ns fv) : CP Tryz.prog 31 [.agg (jc j), .ptr q 0] H fun x => x = .bool (!fit ns.length j) := by
  refine CP.of (T31 ?_)
  unfold G31
  refine (NSt.start H).box rfl fun q1 H1 s => ?_
  refine y_rd_of (v := .agg [jv, fv, cv]) (by
    have := s.k.get q hq
    rw [hg] at this
    simp [aread, aload, AOpd.ev, AH.cells?, this, apart]) (s.ldA (c := jc j) (.head _) rfl (y_cp (C12 hf) fun x hx => ?_))
  subst hx
  exact s_not (s.finS (fun k => .bool _) rfl)
def findG (ns : List Bool) : Int := match ns.findIdx? id with
  | some i => i
  | none => -1
theorem findG_nonneg (ns : List Bool) : decide (0 ≤ findG ns) = ns.any id := by
  unfold findG
  cases h : ns.findIdx? id with
  | none =>
    rw [List.findIdx?_eq_none_iff] at h
    have : ns.any id = false := by
      rw [List.any_eq_false]
      intro x hx
      have := h x hx
      simp_all
    rw [this]; rfl
  | some i =>
    have h1 : ns.any id = true := by
      rw [List.findIdx?_eq_some_iff_getElem] at h
      obtain ⟨h1, h2, _⟩ := h
      rw [List.any_eq_true]
      exact ⟨_, List.getElem_mem h1, h2⟩
    rw [h1]
    simp
theorem find_step {ns : List Bool} {i : Nat} (h : ∀ k, k < i → ns[k]? = some false) (hx : ns[i]? = some true) : findG ns = i := by
  unfold findG
  have h1 : i < ns.length := (List.getElem?_eq_some_iff.1 hx).1
  have h2 : ns.findIdx? id = some i := by
    rw [List.findIdx?_eq_some_iff_getElem]
    refine ⟨h1, by simpa [List.getElem?_eq_getElem h1] using hx, fun j hj => ?_⟩
    have := h j hj
    rw [List.getElem?_eq_getElem (by omega)] at this
    simp at this
    simp [this]
  rw [h2]
theorem find_none {ns : List Bool} (h : ∀ k, k < ns.length → ns[k]? = some false) : findG ns = -1 := by
  unfold findG
  have h2 : ns.findIdx? id = none := by
    rw [List.findIdx?_eq_none_iff]
    intro x hx
    obtain ⟨k, hk⟩ := List.getElem?_of_mem hx
    have := h k (List.getElem?_eq_some_iff.1 hk).1
    rw [hk] at this
    cases this; rfl
  rw [h2]
theorem C50 {H : AH} {v fv : AV} {ns : List Int} {p : Int → Bool} (hv : FLI ns v) (hn : ns.length ≤ 100000) (hp : ∀ x, CV Tryz.prog fv [iv x] H fun r => r = .bool (p x)) : CP Tryz.prog 50 [v, fv] H fun x => x = iv (findG (ns.map p)) := by
  refine CP.of (T50 ?_)
  unfold G50
  try simp only [I_lit]
  have hv' := hv
  generalize hl : ns.length = n at hv' hn
  refine hv'.len ?_
  let Iv : AV → AV → AV → AV → AH → Prop := fun a b c d H' => a = v ∧ b = fv ∧ c = iv (n : Int) ∧ ∃ i : Nat, d = iv (i : Int) ∧ i ≤ n ∧ (∀ k, k < i → (ns.map p)[k]? = some false) ∧ H' = H
  let μ : AV → AV → AV → AV → AH → Nat := fun _ _ _ f _ => match f with
    | .int _ j => (n - j).toNat
    | _ => 0
  refine ⟨Iv, μ, ⟨rfl, rfl, by rw [← hl]; rfl, 0, rfl, by omega, fun k hk => by omega, rfl⟩, ?_⟩
  intro e H1 hI
  obtain ⟨e1, e2, e3, i, e4, hi, hall, rfl⟩ := (hI : Iv (e 0) (e 1) (e 7) (e 8) H1)
  have hmu : μ (e 0) (e 1) (e 7) (e 8) H1 = ((n : Int) - (i : Int)).toNat := by rw [e4]
  show y_pu (.bin .lss (.cst (e 8)) (.cst (e 7))) _
  rw [e1, e2, e3, e4]
  refine c_lss (fun hlt => if0_t ?_) (fun hlt => if0_f ?_)
  · refine hv'.at1 (by omega) fun y _ hy => ?_
    obtain ⟨x, hx, hy⟩ := hy
    cases hy
    have hm : (ns.map p)[i]? = some (p x) := by rw [List.getElem?_map, hx]; rfl
    refine y_cpv (hp x) fun r hr => ?_
    subst hr
    cases hpx : p x with
    | true =>
      rw [hpx] at hm
      exact if0_t (.same (fun k => .int _ _) (by rw [find_step hall hm]))
    | false =>
      rw [hpx] at hm
      refine if0_f (s_add ⟨by omega, by omega⟩ ⟨⟨rfl, rfl, rfl, i + 1, rfl, by omega, fun k hk => ?_, rfl⟩, ?_⟩)
      · by_cases e : k = i
        · rw [e]; exact hm
        · exact hall k (by omega)
      · show _ < μ (e 0) (e 1) (e 7) (e 8) H1
        rw [hmu]
        show ((n : Int) - ((i : Int) + 1)).toNat < ((n : Int) - (i : Int)).toNat
        omega
  · exact .same (fun k => .int _ _) (by rw [find_none fun k hk => hall k (by simp at hk; omega)])
theorem C51 {H : AH} {v fv : AV} {js : List Job} {p : Job → Bool} (hv : FLJ js v) (hn : js.length ≤ 100000) (hp : ∀ x, CV Tryz.prog fv [.agg (jc x)] H fun r => r = .bool (p x)) : CP Tryz.prog 51 [v, fv] H fun x => x = iv (findG (js.map p)) := by
  refine CP.of (T51 ?_)
  unfold G51
  try simp only [I_lit]
  have hv' := hv
  generalize hl : js.length = n at hv' hn
  refine hv'.len ?_
  let Iv : AV → AV → AV → AV → AH → Prop := fun a b c d H' => a = v ∧ b = fv ∧ c = iv (n : Int) ∧ ∃ i : Nat, d = iv (i : Int) ∧ i ≤ n ∧ (∀ k, k < i → (js.map p)[k]? = some false) ∧ H' = H
  let μ : AV → AV → AV → AV → AH → Nat := fun _ _ _ f _ => match f with
    | .int _ j => (n - j).toNat
    | _ => 0
  refine ⟨Iv, μ, ⟨rfl, rfl, by rw [← hl]; rfl, 0, rfl, by omega, fun k hk => by omega, rfl⟩, ?_⟩
  intro e H1 hI
  obtain ⟨e1, e2, e3, i, e4, hi, hall, rfl⟩ := (hI : Iv (e 0) (e 1) (e 7) (e 8) H1)
  have hmu : μ (e 0) (e 1) (e 7) (e 8) H1 = ((n : Int) - (i : Int)).toNat := by rw [e4]
  show y_pu (.bin .lss (.cst (e 8)) (.cst (e 7))) _
  rw [e1, e2, e3, e4]
  refine c_lss (fun hlt => if0_t ?_) (fun hlt => if0_f ?_)
  · refine hv'.atA (by omega) fun y _ _ hy => ?_
    obtain ⟨x, hx, hy⟩ := hy
    cases hy
    have hm : (js.map p)[i]? = some (p x) := by rw [List.getElem?_map, hx]; rfl
    refine y_cpv (hp x) fun r hr => ?_
    subst hr
    cases hpx : p x with
    | true =>
      rw [hpx] at hm
      exact if0_t (.same (fun k => .int _ _) (by rw [find_step hall hm]))
    | false =>
      rw [hpx] at hm
      refine if0_f (s_add ⟨by omega, by omega⟩ ⟨⟨rfl, rfl, rfl, i + 1, rfl, by omega, fun k hk => ?_, rfl⟩, ?_⟩)
      · by_cases e : k = i
        · rw [e]; exact hm
        · exact hall k (by omega)
      · show _ < μ (e 0) (e 1) (e 7) (e 8) H1
        rw [hmu]
        show ((n : Int) - ((i : Int) + 1)).toNat < ((n : Int) - (i : Int)).toNat
        omega
  · exact .same (fun k => .int _ _) (by rw [find_none fun k hk => hall k (by simp at hk; omega)])
theorem C34 {H : AH} {v fv : AV} {ns : List Int} {p : Int → Bool} (hv : FLI ns v) (hn : ns.length ≤ 100000) (hp : ∀ x, CV Tryz.prog fv [iv x] H fun r => r = .bool (p x)) : CP Tryz.prog 34 [v, fv] H fun x => x = .bool (ns.any p) := by
  refine CP.of (T34 ?_)
  unfold G34
  try simp only [I_lit]
  refine y_cp (C50 hv hn hp) fun x hx => ?_
  subst hx
  exact s_geq (.same (fun k => .bool _) (by rw [findG_nonneg, List.any_map]; rfl))
theorem C35 {H : AH} {v fv : AV} {js : List Job} {p : Job → Bool} (hv : FLJ js v) (hn : js.length ≤ 100000) (hp : ∀ x, CV Tryz.prog fv [.agg (jc x)] H fun r => r = .bool (p x)) : CP Tryz.prog 35 [v, fv] H fun x => x = .bool (js.any p) := by
  refine CP.of (T35 ?_)
  unfold G35
  try simp only [I_lit]
  refine y_cp (C51 hv hn hp) fun x hx => ?_
  subst hx
  exact s_geq (.same (fun k => .bool _) (by rw [findG_nonneg, List.any_map]; rfl))
theorem C11 {H : AH} {jv fv cv : AV} {js : List Job} {ns : List Int} (hj : FLJ js jv) (hf : FLI ns fv) : CP Tryz.prog 11 [.agg [jv, fv, cv]] H fun x => x = .bool (vld js ns) := by
  refine CP.of (T11 ?_)
  unfold G11
  try simp only [I_lit]
  refine (NSt.start H).box rfl fun q H1 s => ?_
  have m : (q, [jv, fv, cv]) ∈ [(q, [jv, fv, cv])] := .head _
  refine y_pu_of (v := .ptr q 1) rfl (s.ld (x := fv) m rfl (hf.len ?_))
  refine c_geq (fun h0 => grp_tt ?_) (fun h0 => grp_tf ?_)
  rotate_left
  · refine y_pu_of (v := .bool false) rfl (grp_tf (y_pu_of (v := .bool false) rfl (grp_tf (y_pu_of (v := .bool false) rfl (grp_tf (y_pu_of (v := .bool false) rfl (s.finS (fun k => .bool _) ?_)))))))
    have : ¬ 1 ≤ ns.length := by omega
    simp [vld, this]
  refine y_pu_of (v := .ptr q 1) rfl (s.ld (x := fv) m rfl (hf.len ?_))
  refine c_leq (fun h1 => ?_) (fun h1 => ?_)
  rotate_left
  · refine y_pu_of (v := .bool false) rfl (grp_tf (y_pu_of (v := .bool false) rfl (grp_tf (y_pu_of (v := .bool false) rfl (grp_tf (y_pu_of (v := .bool false) rfl (s.finS (fun k => .bool _) ?_)))))))
    have : ¬ ns.length ≤ 64 := by omega
    simp [vld, this]
  refine y_pu_of (v := .bool true) rfl (grp_tt (y_pu_of (v := .ptr q 0) rfl (s.ld (x := jv) m rfl (hj.len ?_))))
  refine c_leq (fun h2 => ?_) (fun h2 => ?_)
  rotate_left
  · refine y_pu_of (v := .bool false) rfl (grp_tf (y_pu_of (v := .bool false) rfl (grp_tf (y_pu_of (v := .bool false) rfl (s.finS (fun k => .bool _) ?_)))))
    have : ¬ js.length ≤ 16 := by omega
    simp [vld, this]
  have b0 : decide (1 ≤ ns.length) = true := decide_eq_true (by omega)
  have b1 : decide (ns.length ≤ 64) = true := decide_eq_true (by omega)
  have b2 : decide (js.length ≤ 16) = true := decide_eq_true (by omega)
  refine y_pu_of (v := .bool true) rfl (grp_tt (y_pu_of (v := .ptr q 1) rfl (s.ld (x := fv) m rfl ?_)))
  refine y_cp (C34 (p := fun n => !am n) hf (by omega) fun x => C32) fun x hx => ?_
  subst hx
  refine s_not (s_pk ?_)
  have e1 : (true && !ns.any fun n => !am n) = !ns.any fun n => !am n := Bool.true_and _
  rw [e1]
  cases ha : ns.any fun n => !am n with
  | true =>
    refine grp_tf (y_pu_of (v := .bool false) rfl (s.finS (fun k => .bool _) ?_))
    simp [vld, ha]
  | false =>
    refine grp_tt (y_pu_of (v := .ptr q 0) rfl (s.ld (x := jv) m rfl ?_))
    obtain ⟨_, g2, g3⟩ := s.l _ m
    refine y_cp (C35 (p := fun j => !fit ns.length j) hj (by omega) fun x => C31 g2 g3 hf) fun x hx => ?_
    subst hx
    refine s_not (s_pk (s.finS (fun k => .bool _) ?_))
    simp [vld, b0, b1, b2, ha]
end Go.Proofs.YtlopgbdfdfijoaaGreatDoor
namespace Go.AL
variable [GLC] {P : Program}
theorem LL.sc {z n : Nat} {Pr : Nat → List AV → Prop} {v : AV} (h : LL z Pr n v) (k : Nat) : Sc k v := by
  rcases h.ex with ⟨_, rfl⟩ | ⟨css, b, rfl, h3, h4⟩
  · exact .nils
  · refine .sim (Scs.of_mem fun x hx => ?_)
    obtain ⟨c, hc, hxc⟩ := List.mem_flatten.1 hx
    obtain ⟨i, hi⟩ := List.getElem?_of_mem hc
    exact ((h4 i c hi).2.1 k).mem hxc
theorem FL.tail {z n : Nat} {Pr : Nat → List AV → Prop} {v : AV} (h : FL z Pr n v) (hn : 0 < n) {K : AV → Prop} (hK : ∀ y, LL z (fun i c => Pr (i + 1) c) (n - 1) y → K y) :
    y_pu (.sliceS z (.cst v) (some (.cst (iv 1))) none none) K := by
  rcases h.ex with ⟨rfl, rfl⟩ | ⟨css, b, rfl, _, h3, h4⟩
  · omega
  · match css, h3, h4 with
    | [], h3, _ => simp at h3; omega
    | c0 :: css, h3, h4 =>
      have hz : c0.length = z := (h4 0 c0 rfl).1
      have h3' : css.length = n - 1 := by simp at h3; omega
      have hl : css.flatten.length = (n - 1) * z := by
        rw [flat_len css fun c hc => ?_, h3']
        obtain ⟨i, hi⟩ := List.getElem?_of_mem hc
        exact (h4 (i + 1) c (by simpa using hi)).1
      have c1 : (0 : Int) ≤ 1 ∧ (1 : Int) ≤ (n : Int) ∧ (n : Int) ≤ (n : Int) := by omega
      have e1 : ((n : Int) - 1).toNat = n - 1 := by omega
      refine y_pu_of (v := .sim css.flatten (n - 1) (b && decide ((n : Int) = (n : Int)))) ?_ (hK _ ⟨.inr ⟨css, _, rfl, h3', fun i c hc => h4 (i + 1) c (by simpa using hc)⟩⟩)
      have e2 : (((c0 :: css).flatten).drop (1 * z)).take ((n - 1) * z) = css.flatten := by
        rw [List.flatten_cons, Nat.one_mul, ← hz, List.drop_left, List.take_of_length_le (by rw [hz]; omega)]
      show aslice z (.sim (c0 :: css).flatten n b) (some 1) none none = _
      show (if 0 ≤ (1 : Int) ∧ (1 : Int) ≤ (n : Int) ∧ (n : Int) ≤ (n : Int) then some (AV.sim (((c0 :: css).flatten.drop ((1 : Int).toNat * z)).take (((n : Int) - 1).toNat * z)) ((n : Int) - 1).toNat (b && decide ((n : Int) = (n : Int)))) else none) = _
      rw [if_pos c1, e1, show ((1 : Int)).toNat = 1 from rfl, e2]
end Go.AL
namespace Go.Proofs.YtlopgbdfdfijoaaGreatDoor
open Go Go.AL
variable [GLC]
theorem JE_ln {js : List Job} {i : Nat} {c : List AV} (h : JE js i c) : c.length = 8 := by obtain ⟨j, _, rfl⟩ := h; rfl
theorem C10o {H : AH} {v : AV} {ns : List Int} (h : FLI ns v) (hn : ns.length ≤ 100000) : ACall Tryz.prog 10 [v] H (OwnP H 1 (IE ns) ns.length) := T10 (clone_own (z := 1) (b := 8) h hn (by decide))
theorem C36o {H : AH} {v : AV} {js : List Job} (h : FLJ js v) (hn : js.length ≤ 100000) : ACall Tryz.prog 36 [v] H (OwnP H 8 (JE js) js.length) := T36 (clone_own (z := 8) (b := 144) h hn (by decide))
theorem C37z {H : AH} : CP Tryz.prog 37 [.nils] H fun x => x = .nils := CP.of (T37 (by
  unfold G37
  exact y_pu_of (v := .bool true) rfl (if0_t (.same (fun k => .nils) rfl))))
def CopQ (H : AH) (js : List Job) (ns : List Int) : AOut → AH → Prop := fun o H' => ∃ jv fv oj cj, o = .ret (.agg [jv, fv, .nils]) ∧ NSt H oj H' ∧ Lv 8 oj js.length cj jv ∧ GX 8 (JE js) js.length cj ∧ FLI ns fv
theorem C13 {H : AH} {jv fv : AV} {js : List Job} {ns : List Int} (hj : FLJ js jv) (hf : FLI ns fv) (h1 : js.length ≤ 100000) (h2 : ns.length ≤ 100000) : ACall Tryz.prog 13 [.agg [jv, fv, .nils]] H (CopQ H js ns) := by
  refine T13 ?_
  unfold G13
  try simp only [I_lit]
  refine (NSt.start H).box rfl fun q1 H1 s => s.alloc fun q2 H2 s => ?_
  refine y_pu_of (v := .ptr q1 0) rfl (s.ld (x := jv) (.tail _ (.head _)) rfl ?_)
  refine y_pu_of (v := .ptr q1 1) rfl (s.ld (x := fv) (.tail _ (.head _)) rfl ?_)
  refine y_pu_of (v := .ptr q1 2) rfl (s.ld (x := .nils) (.tail _ (.head _)) rfl ?_)
  refine s.callO (C36o hj h1) fun jv' oj cj H3 s lj gj => ?_
  have m1 : (q1, [jv, fv, .nils]) ∈ oj ++ [(q2, [.nils, .nils, .nils]), (q1, [jv, fv, .nils])] := List.mem_append_right _ (.tail _ (.head _))
  refine ⟨⟨s.ldE m1 rfl, s.ldE m1 rfl, trivial⟩, ?_⟩
  refine y_pu_of (v := .ptr q1 0) rfl (y_cp (CP.own (C10o hf h2)) fun fv' hf' => ⟨⟨s.ldE m1 rfl, trivial⟩, ?_⟩)
  refine y_cp C37z fun x hx => ⟨trivial, ?_⟩
  subst hx
  have s : NSt H ((oj ++ [(q2, [.nils, .nils, .nils])]) ++ (q1, [jv, fv, .nils]) :: []) H3 := by simpa using s
  refine s.putM (vs := [jv']) lj.cell rfl (by simp) fun H4 s => ⟨trivial, ?_⟩
  refine y_pu_of (v := .ptr q1 1) rfl (s.putM (vs := [fv']) hf'.one rfl (by simp [splice]) fun H5 s => ⟨trivial, ?_⟩)
  refine y_pu_of (v := .ptr q1 2) rfl (s.putM (vs := [.nils]) rfl rfl (by simp [splice]) fun H6 s => ⟨trivial, ?_⟩)
  have s : NSt H ((oj ++ [(q2, [.nils, .nils, .nils])]) ++ (q1, [jv', fv', .nils]) :: []) H6 := s
  have m1 : (q1, [jv', fv', .nils]) ∈ (oj ++ [(q2, [.nils, .nils, .nils])]) ++ (q1, [jv', fv', .nils]) :: [] := List.mem_append_right _ (.head _)
  refine y_pu_of (v := .ptr q1 2) rfl (s.ld (x := .nils) m1 rfl (y_pu_of (v := iv 0) rfl ?_))
  refine ⟨fun a b c d H' => a = .ptr q1 0 ∧ b = .ptr q2 0 ∧ c = iv 0 ∧ d = iv 0 ∧ H' = H6, fun _ _ _ _ _ => 0, ⟨rfl, rfl, rfl, rfl, rfl⟩, ?_⟩
  intro e H7 hI
  obtain ⟨e1, e2, e3, e4, rfl⟩ := (hI : e 1 = .ptr q1 0 ∧ e 2 = .ptr q2 0 ∧ e 18 = iv 0 ∧ e 19 = iv 0 ∧ H7 = H6)
  show y_pu (.bin .lss (.cst (e 19)) (.cst (e 18))) _
  rw [e1, e2, e3, e4]
  refine f_lss (by decide) (if0_f ?_)
  refine s.ldA (c := [jv', fv', .nils]) m1 rfl ?_
  have s : NSt H (oj ++ (q2, [.nils, .nils, .nils]) :: [(q1, [jv', fv', .nils])]) H7 := by simpa using s
  refine s.putM (vs := [jv', fv', .nils]) rfl rfl (by simp) fun H8 s => ?_
  have s : NSt H (oj ++ (q2, [jv', fv', .nils]) :: [(q1, [jv', fv', .nils])]) H8 := s
  refine s.ldA (c := [jv', fv', .nils]) (List.mem_append_right _ (.head _)) rfl ?_
  exact ⟨jv', fv', oj, cj, rfl, s.sub (List.sublist_append_left _ _), lj, gj, hf'⟩
theorem C13f {H : AH} {jv fv : AV} {js : List Job} {ns : List Int} (hj : FLJ js jv) (hf : FLI ns fv) (h1 : js.length ≤ 100000) (h2 : ns.length ≤ 100000) :
    CP Tryz.prog 13 [.agg [jv, fv, .nils]] H fun x => ∃ jv fv, x = .agg [jv, fv, .nils] ∧ FLJ js jv ∧ FLI ns fv :=
  CP.of ((C13 hj hf h1 h2).mono fun o H' h => by
    obtain ⟨jv', fv', oj, cj, rfl, s, lj, gj, hf'⟩ := h
    obtain ⟨y, hy1, hy2⟩ := (gj.gl (R := [])).frz lj
    refine s.fin (y := .agg [y, fv', .nils]) (.agg (.cons (by simpa using hy1) (.cons (.low hf'.sc) (.cons (.low fun k => .nils) .nil)))) ⟨y, fv', rfl, hy2, hf'⟩)
abbrev nil3 : AV := .agg [.nils, .nils, .nils]
theorem nil3_sc (k : Nat) : Sc k nil3 := .agg (.cons .nils (.cons .nils (.cons .nils .nil)))
theorem C5 {H : AH} {v : AV} {ns : List Int} (h : FLI ns v) (hn : ns.length ≤ 100000) :
    CP Tryz.prog 5 [v] H fun x => if vld [] ns = true then ∃ fv, x = .tup [.agg [.nils, fv, .nils], iv 0] ∧ FLI ns fv else x = .tup [nil3, iv 1] := by
  refine CP.of (T5 ?_)
  unfold G5
  try simp only [I_lit]
  refine (NSt.start H).alloc fun q1 H1 s => ?_
  refine y_cp (CP.own (C10o h hn)) fun fv hf => ?_
  refine y_pu_of (v := .agg [.nils, fv, .nils]) (by have := hf.one; simp [apure, afill, AOpd.ev, this]) ?_
  refine s.alloc fun q2 H2 s => s.putA (vs := [.nils, fv, .nils]) rfl rfl fun H3 s => s.ldA (c := [.nils, fv, .nils]) (.head _) rfl ?_
  have hj : FLJ [] .nils := .nil
  refine y_cp (C11 hj hf) fun x hx => ?_
  subst hx
  refine s_not ?_
  have s' : NSt H ((q1, [.nils, .nils, .nils]) :: [(q2, [.nils, fv, .nils])]) H3 := s.swap
  cases hv : vld [] ns with
  | true =>
    refine if0_f (s.ldA (c := [.nils, fv, .nils]) (.head _) rfl ?_)
    refine s'.putA (vs := [.nils, fv, .nils]) rfl rfl fun H4 s => s.ldA (c := [.nils, fv, .nils]) (.head _) rfl ?_
    refine s.finS (fun k => .tup (.cons (.agg (.cons .nils (.cons (hf.sc k) (.cons .nils .nil)))) (.cons (.int _ _) .nil))) ?_
    rw [if_pos rfl]
    exact ⟨fv, rfl, hf⟩
  | false =>
    refine if0_t (y_pu_of (v := nil3) rfl ?_)
    refine s'.putA (vs := [.nils, .nils, .nils]) rfl rfl fun H4 s => s.ldA (c := [.nils, .nils, .nils]) (.head _) rfl ?_
    refine s.finS (fun k => .tup (.cons (nil3_sc k) (.cons (.int _ _) .nil))) ?_
    rw [if_neg (by decide)]
def SubQ (js : List Job) (ns : List Int) (j : Job) (x : AV) : Prop :=
  if vld js ns = true ∧ fit ns.length j = true then if js.length = 16 then x = .tup [nil3, iv 2] else ∃ jv fv, x = .tup [.agg [jv, fv, .nils], iv 0] ∧ FLJ (js ++ [j]) jv ∧ FLI ns fv
  else x = .tup [nil3, iv 1]
theorem C6 {H : AH} {jv fv : AV} {js : List Job} {ns : List Int} {j : Job} (hj : FLJ js jv) (hf : FLI ns fv) (h1 : js.length ≤ 100000) (h2 : ns.length ≤ 100000) (hs : ∀ k, Scs k (jc j)) :
    CP Tryz.prog 6 [.agg [jv, fv, .nils], .agg (jc j)] H (SubQ js ns j) := by
  refine CP.of (T6 ?_)
  unfold G6
  try simp only [I_lit]
  refine (NSt.start H).box rfl fun q1 H1 s => s.box rfl fun q2 H2 s => s.alloc fun q3 H3 s => ?_
  have m1 : (q1, [jv, fv, .nils]) ∈ [(q3, [.nils, .nils, .nils]), (q2, jc j), (q1, [jv, fv, .nils])] := .tail _ (.tail _ (.head _))
  have m2 : (q2, jc j) ∈ [(q3, [.nils, .nils, .nils]), (q2, jc j), (q1, [jv, fv, .nils])] := .tail _ (.head _)
  refine s.ldA (c := [jv, fv, .nils]) m1 rfl (y_cp (C11 hj hf) fun x hx => ?_)
  subst hx
  refine s_not ?_
  have bad : ¬ (vld js ns = true ∧ fit ns.length j = true) → y_pu (.build [.nils, .nils, .nils] []) fun v14 => y_ef (.store 3 (.cst (.ptr q3 0)) (.cst v14)) H3 fun _ h15 => y_rd (.load (some 3) (.cst (.ptr q3 0))) h15 fun v16 => MP H (SubQ js ns j) (.ret (.tup [v16, iv 1])) h15 := fun hb => by
    refine y_pu_of (v := nil3) rfl (s.putA (vs := [.nils, .nils, .nils]) rfl rfl fun H4 s => s.ldA (c := [.nils, .nils, .nils]) (.head _) rfl ?_)
    refine s.finS (fun k => .tup (.cons (nil3_sc k) (.cons (.int _ _) .nil))) ?_
    unfold SubQ
    rw [if_neg hb]
  cases hv : vld js ns with
  | false =>
    refine grp_ft (y_pu_of (v := .bool true) rfl (if0_t (bad ?_)))
    rw [hv]; rintro ⟨h, _⟩; cases h
  | true =>
  refine grp_ff (s.ldA (c := [jv, fv, .nils]) m1 rfl (s.ldA (c := jc j) m2 rfl (y_cp (C12 hf) fun x hx => ?_)))
  subst hx
  refine s_not ?_
  cases hfit : fit ns.length j with
  | false =>
    refine y_pu_of (v := .bool true) rfl (if0_t (bad ?_))
    rw [hfit]; rintro ⟨_, h⟩; cases h
  | true =>
  clear bad
  have hgood : vld js ns = true ∧ fit ns.length j = true := ⟨hv, hfit⟩
  refine y_pu_of (v := .bool false) rfl (if0_f ?_)
  refine y_pu_of (v := .ptr q1 0) rfl (s.ld (x := jv) m1 rfl (hj.len ?_))
  refine c_eql (fun h16 => if0_t ?_) (fun h16 => if0_f ?_)
  · refine y_pu_of (v := nil3) rfl (s.putA (vs := [.nils, .nils, .nils]) rfl rfl fun H4 s => s.ldA (c := [.nils, .nils, .nils]) (.head _) rfl ?_)
    refine s.finS (fun k => .tup (.cons (nil3_sc k) (.cons (.int _ _) .nil))) ?_
    unfold SubQ
    rw [if_pos hgood, if_pos (by omega)]
  refine s.ldA (c := [jv, fv, .nils]) m1 rfl ?_
  refine y_call_of (C13 hj hf h1 h2) (fun v H4 hp => ?_) (fun v H4 hp => by obtain ⟨_, _, _, _, e, _⟩ := hp; cases e)
  obtain ⟨jv', fv', oj, cj, e, s2, lj, gj, hf'⟩ := hp
  cases e
  have s := s.join s2
  have s : NSt H ((oj ++ [(q3, [.nils, .nils, .nils]), (q2, jc j)]) ++ (q1, [jv, fv, .nils]) :: []) H4 := by simpa using s
  refine s.putM (vs := [jv', fv', .nils]) rfl rfl (by simp) fun H5 s => ?_
  have s : NSt H ((oj ++ [(q3, [.nils, .nils, .nils]), (q2, jc j)]) ++ (q1, [jv', fv', .nils]) :: []) H5 := s
  have m1 : (q1, [jv', fv', .nils]) ∈ (oj ++ [(q3, [.nils, .nils, .nils]), (q2, jc j)]) ++ (q1, [jv', fv', .nils]) :: [] := List.mem_append_right _ (.head _)
  have m2 : (q2, jc j) ∈ (oj ++ [(q3, [.nils, .nils, .nils]), (q2, jc j)]) ++ (q1, [jv', fv', .nils]) :: [] := List.mem_append_left _ (List.mem_append_right _ (.tail _ (.head _)))
  refine y_pu_of (v := .ptr q1 0) rfl (s.ld (x := jv') m1 rfl (s.ldA (c := jc j) m2 rfl ?_))
  have s : NSt H (oj ++ ([(q3, [.nils, .nils, .nils]), (q2, jc j)] ++ (q1, [jv', fv', .nils]) :: [])) H5 := by simpa using s
  refine s.app (k := 8) (c := jc j) lj gj.ln rfl rfl rfl (by omega) (by decide) fun oj' jv2 H6 s lj' => ?_
  have gj' : GX 8 (JE (js ++ [j])) (js.length + 1) (cj ++ jc j) := (gj.mono fun i c hi h => by
    obtain ⟨x, hx, hc⟩ := h
    exact ⟨x, by rw [List.getElem?_append_left hi]; exact hx, hc⟩).addS rfl hs ⟨j, by rw [List.getElem?_append_right (Nat.le_refl _), Nat.sub_self]; rfl, rfl⟩
  have s : NSt H ((oj' ++ [(q3, [.nils, .nils, .nils]), (q2, jc j)]) ++ (q1, [jv', fv', .nils]) :: []) H6 := by simpa using s
  refine y_pu_of (v := .ptr q1 0) rfl (s.putM (vs := [jv2]) lj'.cell rfl (by simp) fun H7 s => ?_)
  have s : NSt H ((oj' ++ [(q3, [.nils, .nils, .nils]), (q2, jc j)]) ++ (q1, [jv2, fv', .nils]) :: []) H7 := s
  refine s.ldA (c := [jv2, fv', .nils]) (List.mem_append_right _ (.head _)) rfl ?_
  have s : NSt H (oj' ++ (q3, [.nils, .nils, .nils]) :: [(q2, jc j), (q1, [jv2, fv', .nils])]) H7 := by simpa using s
  refine s.putM (vs := [jv2, fv', .nils]) rfl rfl (by simp) fun H8 s => ?_
  have s : NSt H (oj' ++ (q3, [jv2, fv', .nils]) :: [(q2, jc j), (q1, [jv2, fv', .nils])]) H8 := s
  refine s.ldA (c := [jv2, fv', .nils]) (List.mem_append_right _ (.head _)) rfl ?_
  have s : NSt H oj' H8 := s.sub (List.sublist_append_left _ _)
  obtain ⟨y, hy1, hy2⟩ := (gj'.gl (R := [])).frz lj'
  have hy1 : FZ oj' jv2 y := by simpa using hy1
  refine s.fin (y := .tup [.agg [y, fv', .nils], iv 0]) (fun H' k hR => .tup (.cons (.agg (.cons (hy1 H' k hR) (.cons (.low (hf'.sc k)) (.cons (.low .nils) .nil)))) (.cons (.low (.int _ _)) .nil))) ?_
  unfold SubQ
  rw [if_pos hgood, if_neg (by omega)]
  refine ⟨y, fv', rfl, ?_, hf'⟩
  show FL 8 (JE (js ++ [j])) (js ++ [j]).length y
  rw [List.length_append]; exact hy2
end Go.Proofs.YtlopgbdfdfijoaaGreatDoor
namespace Go.AL
variable [GLC] {P : Program}
theorem LL.one {z n : Nat} {Pr : Nat → List AV → Prop} {v : AV} (h : LL z Pr n v) : v.cellsOf = some [v] := by
  rcases h.ex with ⟨_, rfl⟩ | ⟨css, b, rfl, _⟩ <;> rfl
theorem FL.ll {z n : Nat} {Pr : Nat → List AV → Prop} {v : AV} (h : FL z Pr n v) : LL z Pr n v := by
  rcases h.ex with h | ⟨css, b, h1, _, h3, h4⟩
  · exact ⟨.inl h⟩
  · exact ⟨.inr ⟨css, b, h1, h3, h4⟩⟩
end Go.AL
namespace Go.Proofs.YtlopgbdfdfijoaaGreatDoor
open Go Go.AL
variable [GLC]
def rs (k code : Int) (d : Bool) : List AV := [iv k, .nils, .nils, iv 0, iv code, .bool d]
def vd (k : Int) : AV := .agg [iv k, .nils, .nils, iv 0]
theorem rs_sc (k code : Int) (d : Bool) (n : Nat) : Sc n (.agg (rs k code d)) := .agg (.cons (.int _ _) (.cons .nils (.cons .nils (.cons (.int _ _) (.cons (.int _ _) (.cons (.bool _) .nil))))))
theorem vd_sc (k : Int) (n : Nat) : Sc n (vd k) := .agg (.cons (.int _ _) (.cons .nils (.cons .nils (.cons (.int _ _) .nil))))
def amt (ns : List Int) (t : Int) : Int := ns.getD t.toNat 0
theorem C14 {H : AH} {q : Nat} {e : Int} (hq : q < H.next) (hg : H.get q = some (.cells [iv e])) : CP Tryz.prog 14 [.ptr q 0] H fun x => x = .agg (rs 0 e (decide (e ≠ 0))) := by
  refine CP.of (T14 ?_)
  unfold G14
  try simp only [I_lit]
  refine (NSt.start H).alloc fun q1 H1 s => s.ldO hq hg rfl (s.ldO hq hg rfl (s_neq (y_pu_of (v := .agg (rs 0 e (decide (e ≠ 0)))) rfl ?_)))
  exact s.putA (vs := rs 0 e (decide (e ≠ 0))) rfl rfl fun H2 s => s.ldA (c := rs 0 e (decide (e ≠ 0))) (.head _) rfl (s.finS (rs_sc _ _ _) rfl)
theorem C15 {H : AH} {qs qj qc : Nat} {jv fv cv : AV} {ns : List Int} {j : Job} {c : Int} (hs : qs < H.next) (gs : H.get qs = some (.cells [jv, fv, cv])) (hj : qj < H.next) (gj : H.get qj = some (.cells (jc j)))
    (hc : qc < H.next) (gc : H.get qc = some (.cells [iv c])) (hf : FLI ns fv) (h0 : 0 ≤ j.t) (h1 : j.t < (ns.length : Int)) : CP Tryz.prog 15 [.ptr qs 0, .ptr qj 0, .ptr qc 0] H fun x => x = .agg (rs 0 350 (decide (amt ns j.t < c))) := by
  refine CP.of (T15 ?_)
  unfold G15
  try simp only [I_lit]
  refine (NSt.start H).alloc fun q1 H1 s => ?_
  refine y_pu_of (v := .ptr qs 1) rfl (s.ldO hs gs (x := fv) rfl (y_pu_of (v := .ptr qj 0) rfl (s.ldO hj gj (x := iv j.t) rfl ?_)))
  have e1 : iv j.t = iv ((j.t.toNat : Nat) : Int) := by rw [Int.toNat_of_nonneg h0]
  rw [e1]
  refine hf.at1 (by omega) fun x _ hx => ?_
  obtain ⟨y, hy, hx⟩ := hx
  cases hx
  have ey : amt ns j.t = y := by show ns.getD j.t.toNat 0 = y; rw [List.getD_eq_getElem?_getD, hy]; rfl
  rw [ey]
  refine s.ldO hc gc (x := iv c) rfl (s_lss (y_pu_of (v := .agg (rs 0 350 (decide (y < c)))) rfl ?_))
  exact s.putA (vs := rs 0 350 (decide (y < c))) rfl rfl fun H2 s => s.ldA (c := rs 0 350 (decide (y < c))) (.head _) rfl (s.finS (rs_sc _ _ _) rfl)
theorem C16 {H : AH} {qj qc : Nat} {j : Job} {c : Int} (hj : qj < H.next) (gj : H.get qj = some (.cells (jc j))) (hc : qc < H.next) (gc : H.get qc = some (.cells [iv c])) :
    CP Tryz.prog 16 [.ptr qj 0, .ptr qc 0] H fun x => x = .agg (rs 3 0 (decide (j.f < c))) := by
  refine CP.of (T16 ?_)
  unfold G16
  try simp only [I_lit]
  refine (NSt.start H).alloc fun q1 H1 s => ?_
  refine y_pu_of (v := vd 3) rfl (y_pu_of (v := .ptr qj 7) rfl (s.ldO hj gj (x := iv j.f) rfl (s.ldO hc gc (x := iv c) rfl (s_lss (y_pu_of (v := .agg (rs 3 0 (decide (j.f < c)))) rfl ?_)))))
  exact s.putA (vs := rs 3 0 (decide (j.f < c))) rfl rfl fun H2 s => s.ldA (c := rs 3 0 (decide (j.f < c))) (.head _) rfl (s.finS (rs_sc _ _ _) rfl)
def StepO (ns : List Int) (j : Job) (c e k code : Int) : Prop := (e ≠ 0 ∧ k = 0 ∧ code = e) ∨ (e = 0 ∧ amt ns j.t < c ∧ k = 0 ∧ code = 350) ∨ (e = 0 ∧ ¬ amt ns j.t < c ∧ j.f < c ∧ k = 3 ∧ code = 0)
def StepQ (js : List Job) (ns : List Int) (c e : Int) (x : AV) : Prop :=
  if vld js ns = true then
    if js.length = 0 then ∃ jv fv, x = .tup [.agg [jv, fv, .nils], vd 0, iv 3] ∧ FLJ js jv ∧ FLI ns fv
    else ∃ (jv fv : AV) (k code : Int) (j : Job) (Pr : Nat → List AV → Prop), x = .tup [.agg [jv, fv, .nils], vd k, iv code] ∧ LL 8 Pr (js.length - 1) jv ∧ FLI ns fv ∧ js[0]? = some j ∧ StepO ns j c e k code
  else x = .tup [nil3, vd 0, iv 1]
theorem C7 {H : AH} {jv fv sv : AV} {d : List AV} {js : List Job} {ns : List Int} {c e : Int} (hj : FLJ js jv) (hf : FLI ns fv) (h1 : js.length ≤ 100000) (h2 : ns.length ≤ 100000) (hd : sv.cellsOf = some d)
    (hc : ∀ j, js[0]? = some j → ∀ H' : AH, H'.gl = H.gl → CP Tryz.prog 9 [.agg [j.q0, j.q1, j.q2, j.q3, j.q4, j.q5]] H' fun x => x = .tup [iv c, iv e])
    (hn : ∀ j, js[0]? = some j → e ≠ 0 ∨ amt ns j.t < c ∨ j.f < c) :
    CP Tryz.prog 7 [.agg [jv, fv, .nils], sv] H (StepQ js ns c e) := by
  refine CP.of (T7 ?_)
  unfold G7
  try simp only [I_lit]
  refine (NSt.start H).box rfl fun q2 H1 s => s.box hd fun q3 H2 s => s.alloc fun q4 H3 s => s.alloc fun q5 H4 s => ?_
  have m2 : (q2, [jv, fv, .nils]) ∈ [(q5, [iv 0, .nils, .nils, iv 0]), (q4, [.nils, .nils, .nils]), (q3, d), (q2, [jv, fv, .nils])] := .tail _ (.tail _ (.tail _ (.head _)))
  refine s.ldA (c := [jv, fv, .nils]) m2 rfl (y_cp (C11 hj hf) fun x hx => ?_)
  subst hx
  refine s_not ?_
  cases hv : vld js ns with
  | false =>
    refine if0_t (y_pu_of (v := nil3) rfl (y_pu_of (v := vd 0) rfl ?_))
    have s : NSt H ([(q5, [iv 0, .nils, .nils, iv 0])] ++ (q4, [.nils, .nils, .nils]) :: [(q3, d), (q2, [jv, fv, .nils])]) H4 := s
    refine s.putM (vs := [.nils, .nils, .nils]) rfl rfl (by simp) fun H5 s => ?_
    have s : NSt H ((q5, [iv 0, .nils, .nils, iv 0]) :: [(q4, [.nils, .nils, .nils]), (q3, d), (q2, [jv, fv, .nils])]) H5 := s
    refine s.putA (vs := [iv 0, .nils, .nils, iv 0]) rfl rfl fun H6 s => s.ldA (c := [.nils, .nils, .nils]) (.tail _ (.head _)) rfl (s.ldA (c := [iv 0, .nils, .nils, iv 0]) (.head _) rfl ?_)
    refine s.finS (fun k => .tup (.cons (nil3_sc k) (.cons (vd_sc 0 k) (.cons (.int _ _) .nil)))) ?_
    unfold StepQ
    rw [hv]
    exact rfl
  | true =>
  refine if0_f (s.ldA (c := [jv, fv, .nils]) m2 rfl (y_cp (C13f hj hf h1 h2) fun x hx => ?_))
  obtain ⟨jv', fv', rfl, hj', hf'⟩ := hx
  have s : NSt H ([(q5, [iv 0, .nils, .nils, iv 0]), (q4, [.nils, .nils, .nils]), (q3, d)] ++ (q2, [jv, fv, .nils]) :: []) H4 := s
  refine s.putM (vs := [jv', fv', .nils]) rfl rfl (by simp) fun H5 s => ?_
  have s : NSt H [(q5, [iv 0, .nils, .nils, iv 0]), (q4, [.nils, .nils, .nils]), (q3, d), (q2, [jv', fv', .nils])] H5 := s
  have m2 : (q2, [jv', fv', .nils]) ∈ [(q5, [iv 0, .nils, .nils, iv 0]), (q4, [.nils, .nils, .nils]), (q3, d), (q2, [jv', fv', .nils])] := .tail _ (.tail _ (.tail _ (.head _)))
  refine y_pu_of (v := .ptr q2 0) rfl (s.ld (x := jv') m2 rfl (hj'.len ?_))
  refine c_eql (fun h0 => if0_t ?_) (fun h0 => if0_f ?_)
  · refine s.ldA (c := [jv', fv', .nils]) m2 rfl (y_pu_of (v := vd 0) rfl ?_)
    have s : NSt H ([(q5, [iv 0, .nils, .nils, iv 0])] ++ (q4, [.nils, .nils, .nils]) :: [(q3, d), (q2, [jv', fv', .nils])]) H5 := s
    refine s.putM (vs := [jv', fv', .nils]) rfl rfl (by simp) fun H6 s => ?_
    have s : NSt H ((q5, [iv 0, .nils, .nils, iv 0]) :: [(q4, [jv', fv', .nils]), (q3, d), (q2, [jv', fv', .nils])]) H6 := s
    refine s.putA (vs := [iv 0, .nils, .nils, iv 0]) rfl rfl fun H7 s => s.ldA (c := [jv', fv', .nils]) (.tail _ (.head _)) rfl (s.ldA (c := [iv 0, .nils, .nils, iv 0]) (.head _) rfl ?_)
    refine s.finS (fun k => .tup (.cons (.agg (.cons (hj'.sc k) (.cons (hf'.sc k) (.cons .nils .nil)))) (.cons (vd_sc 0 k) (.cons (.int _ _) .nil)))) ?_
    unfold StepQ
    rw [hv, if_pos rfl, if_pos (by omega)]
    exact ⟨jv', fv', rfl, hj', hf'⟩
  have hpos : 0 < js.length := by omega
  refine y_pu_of (v := .ptr q2 0) rfl (s.ld (x := jv') m2 rfl ?_)
  refine hj'.atA (i := 0) hpos fun cc _ hcs hcj => ?_
  obtain ⟨j, hj0, rfl⟩ := hcj
  refine s.alloc fun q20 H6 s => s.putA (vs := jc j) rfl rfl fun H7 s => ?_
  have s : NSt H ([(q20, jc j), (q5, [iv 0, .nils, .nils, iv 0]), (q4, [.nils, .nils, .nils]), (q3, d)] ++ (q2, [jv', fv', .nils]) :: []) H7 := s
  refine y_pu_of (v := .ptr q2 0) rfl (s.ld (x := jv') (List.mem_append_right _ (.head _)) rfl (hj'.tail hpos fun jt hjt => ?_))
  refine y_pu_of (v := .ptr q2 0) rfl (s.putM (vs := [jt]) hjt.one rfl (by simp) fun H8 s => ?_)
  have s : NSt H [(q20, jc j), (q5, [iv 0, .nils, .nils, iv 0]), (q4, [.nils, .nils, .nils]), (q3, d), (q2, [jt, fv', .nils])] H8 := s
  refine y_pu_of (v := .ptr q20 1) rfl (s.ldP (c := jc j) (d := [j.q0, j.q1, j.q2, j.q3, j.q4, j.q5]) (.head _) rfl (by simp [jc]) ?_)
  refine y_cp (hc j hj0 H8 s.k.gl) fun x hx => ?_
  subst hx
  refine y_pu_of (v := iv c) rfl (y_pu_of (v := iv e) rfl ?_)
  refine s.alloc fun q32 H9 s => s.alloc fun q33 H10 s => ?_
  have s : NSt H ([(q33, [iv 0])] ++ (q32, [iv 0]) :: [(q20, jc j), (q5, [iv 0, .nils, .nils, iv 0]), (q4, [.nils, .nils, .nils]), (q3, d), (q2, [jt, fv', .nils])]) H10 := s
  refine s.putM (vs := [iv c]) rfl rfl (by simp) fun H11 s => ?_
  have s : NSt H ((q33, [iv 0]) :: [(q32, [iv c]), (q20, jc j), (q5, [iv 0, .nils, .nils, iv 0]), (q4, [.nils, .nils, .nils]), (q3, d), (q2, [jt, fv', .nils])]) H11 := s
  refine s.put (vs := [iv e]) rfl rfl (by simp) fun H12 s => ?_
  refine s.bs (out := [.fn (.func 14) [] [.ptr q33 0], .fn (.func 15) [] [.ptr q2 0, .ptr q20 0, .ptr q32 0], .fn (.func 16) [] [.ptr q20 0, .ptr q32 0], .fn (.func 17) [] [.ptr q2 0, .ptr q20 0, .ptr q32 0, .ptr q3 0]]) rfl fun q36 H13 s => ?_
  generalize hL : [AV.fn (.func 14) [] [.ptr q33 0], .fn (.func 15) [] [.ptr q2 0, .ptr q20 0, .ptr q32 0], .fn (.func 16) [] [.ptr q20 0, .ptr q32 0], .fn (.func 17) [] [.ptr q2 0, .ptr q20 0, .ptr q32 0, .ptr q3 0]] = fns at s
  have s : NSt H [(q36, fns), (q33, [iv e]), (q32, [iv c]), (q20, jc j), (q5, [iv 0, .nils, .nils, iv 0]), (q4, [.nils, .nils, .nils]), (q3, d), (q2, [jt, fv', .nils])] H13 := s
  refine y_pu_of (v := iv 4) rfl ?_
  have hfit : fit ns.length j = true := by
    have h := hv
    simp only [vld, Bool.and_eq_true, Bool.not_eq_true', List.any_eq_false] at h
    have := h.2 j (List.mem_of_getElem? hj0)
    simpa using this
  have ht : 0 ≤ j.t ∧ j.t < (ns.length : Int) := by
    simp only [fit, Bool.and_eq_true, decide_eq_true_eq] at hfit
    exact hfit.1
  let Iv : AV → AV → AV → AV → AV → AV → AH → Prop := fun a b c1 f g i H' => a = .ptr q2 0 ∧ b = .ptr q4 0 ∧ c1 = .ptr q5 0 ∧ f = .sl q36 0 4 (.ex 4) ∧ g = iv 4 ∧
    ∃ n : Nat, i = iv (n : Int) ∧ n ≤ 2 ∧ (0 < n → e = 0) ∧ (1 < n → ¬ amt ns j.t < c) ∧ NSt H [(q36, fns), (q33, [iv e]), (q32, [iv c]), (q20, jc j), (q5, [iv 0, .nils, .nils, iv 0]), (q4, [.nils, .nils, .nils]), (q3, d), (q2, [jt, fv', .nils])] H'
  let μ : AV → AV → AV → AV → AV → AV → AH → Nat := fun _ _ _ _ _ f _ => match f with
    | .int _ j => (4 - j).toNat
    | _ => 0
  refine ⟨Iv, μ, ⟨rfl, rfl, rfl, rfl, rfl, 0, rfl, by omega, fun h => by omega, fun h => by omega, s⟩, ?_⟩
  intro ev H14 hI
  obtain ⟨e1, e2, e3, e4, e5, n, e6, hn2, hb0, hb1, s⟩ := (hI : Iv (ev 2) (ev 4) (ev 5) (ev 46) (ev 47) (ev 48) H14)
  have hmu : μ (ev 2) (ev 4) (ev 5) (ev 46) (ev 47) (ev 48) H14 = ((4 : Int) - (n : Int)).toNat := by rw [e6]
  show y_pu (.bin .lss (.cst (ev 48)) (.cst (ev 47))) _
  rw [e1, e2, e3, e4, e5, e6]
  refine t_lss (by omega) (if0_t ?_)
  have g : ∃ (fn : AV) (k code : Int) (dn : Bool), fns[n]? = some fn ∧ CV Tryz.prog fn [] H14 (fun x => x = .agg (rs k code dn)) ∧ (dn = true → StepO ns j c e k code) ∧
      (dn = false → n + 1 ≤ 2 ∧ (0 < n + 1 → e = 0) ∧ (1 < n + 1 → ¬ amt ns j.t < c)) := by
    obtain ⟨_, l33, g33⟩ := s.l (q33, [iv e]) (.tail _ (.head _))
    obtain ⟨_, l32, g32⟩ := s.l (q32, [iv c]) (.tail _ (.tail _ (.head _)))
    obtain ⟨_, l20, g20⟩ := s.l (q20, jc j) (.tail _ (.tail _ (.tail _ (.head _))))
    obtain ⟨_, l2, g2⟩ := s.l (q2, [jt, fv', .nils]) (.tail _ (.tail _ (.tail _ (.tail _ (.tail _ (.tail _ (.tail _ (.head _))))))))
    subst hL
    match n, hn2, hb0, hb1 with
    | 0, _, _, _ =>
      refine ⟨_, 0, e, decide (e ≠ 0), rfl, C14 l33 g33, fun h => .inl ⟨of_decide_eq_true h, rfl, rfl⟩, fun h => ⟨by omega, fun _ => ?_, fun h => by omega⟩⟩
      have := of_decide_eq_false h
      omega
    | 1, _, hb0, _ =>
      refine ⟨_, 0, 350, decide (amt ns j.t < c), rfl, C15 l2 g2 l20 g20 l32 g32 hf' ht.1 ht.2, fun h => .inr (.inl ⟨hb0 (by omega), of_decide_eq_true h, rfl, rfl⟩), fun h => ⟨by omega, fun _ => hb0 (by omega), fun _ => of_decide_eq_false h⟩⟩
    | 2, _, hb0, hb1 =>
      have h0 := hb0 (by omega)
      have h1 := hb1 (by omega)
      have h2 : j.f < c := by
        rcases hn j hj0 with h | h | h
        · exact absurd h0 h
        · exact absurd h h1
        · exact h
      refine ⟨_, 3, 0, decide (j.f < c), rfl, C16 l20 g20 l32 g32, fun h => .inr (.inr ⟨h0, h1, h2, rfl, rfl⟩), fun h => absurd h2 (of_decide_eq_false h)⟩
    | n + 3, h, _, _ => omega
  obtain ⟨fn, k, code, dn, hfn, hcv, hdt, hdf⟩ := g
  refine y_pu_of (v := .ptr q36 n) ?_ (s.ld (x := fn) (.head _) hfn (y_cpv hcv fun x hx => ?_))
  · have h9 : (0 : Int) ≤ (n : Int) ∧ (n : Int) < 4 := by omega
    simp [apure, AOpd.ev, aidxS, h9]
  subst hx
  have s0 := s
  refine s.alloc fun q50 H15 s => s.putA (vs := rs k code dn) rfl rfl fun H16 s => ?_
  refine y_pu_of (v := .ptr q50 5) rfl (s.ld (x := .bool dn) (.head _) rfl ?_)
  cases dn with
  | true =>
    have m2 : (q2, [jt, fv', .nils]) ∈ [(q50, rs k code true), (q36, fns), (q33, [iv e]), (q32, [iv c]), (q20, jc j), (q5, [iv 0, .nils, .nils, iv 0]), (q4, [.nils, .nils, .nils]), (q3, d), (q2, [jt, fv', .nils])] := .tail _ (.tail _ (.tail _ (.tail _ (.tail _ (.tail _ (.tail _ (.tail _ (.head _))))))))
    refine if0_t (s.ldA (c := [jt, fv', .nils]) m2 rfl (y_pu_of (v := .ptr q50 0) rfl (s.ldP (c := rs k code true) (d := [iv k, .nils, .nils, iv 0]) (.head _) rfl (by simp [rs]) (y_pu_of (v := .ptr q50 4) rfl (s.ld (x := iv code) (.head _) rfl ?_)))))
    have s : NSt H ([(q50, rs k code true), (q36, fns), (q33, [iv e]), (q32, [iv c]), (q20, jc j), (q5, [iv 0, .nils, .nils, iv 0])] ++ (q4, [.nils, .nils, .nils]) :: [(q3, d), (q2, [jt, fv', .nils])]) H16 := s
    refine s.putM (vs := [jt, fv', .nils]) rfl rfl (by simp) fun H17 s => ?_
    have s : NSt H ([(q50, rs k code true), (q36, fns), (q33, [iv e]), (q32, [iv c]), (q20, jc j)] ++ (q5, [iv 0, .nils, .nils, iv 0]) :: [(q4, [jt, fv', .nils]), (q3, d), (q2, [jt, fv', .nils])]) H17 := s
    refine ⟨⟨s.ldE (c := rs k code true) (.head _) rfl, s.ldPE (c := rs k code true) (.head _) rfl (by simp [rs]), trivial⟩, ?_⟩
    refine s.putM (vs := [iv k, .nils, .nils, iv 0]) rfl rfl (by simp) fun H18 s => ?_
    have s : NSt H [(q50, rs k code true), (q36, fns), (q33, [iv e]), (q32, [iv c]), (q20, jc j), (q5, [iv k, .nils, .nils, iv 0]), (q4, [jt, fv', .nils]), (q3, d), (q2, [jt, fv', .nils])] H18 := s
    refine ⟨⟨s.ldE (c := rs k code true) (.head _) rfl, trivial⟩, ?_⟩
    refine s.ldA (c := [jt, fv', .nils]) (.tail _ (.tail _ (.tail _ (.tail _ (.tail _ (.tail _ (.head _))))))) rfl (s.ldA (c := [iv k, .nils, .nils, iv 0]) (.tail _ (.tail _ (.tail _ (.tail _ (.tail _ (.head _)))))) rfl ?_)
    refine s.finS (fun n => .tup (.cons (.agg (.cons (hjt.sc n) (.cons (hf'.sc n) (.cons .nils .nil)))) (.cons (vd_sc k n) (.cons (.int _ _) .nil)))) ?_
    unfold StepQ
    rw [hv, if_pos rfl, if_neg (by omega)]
    exact ⟨jt, fv', k, code, j, _, rfl, hjt, hf', hj0, hdt rfl⟩
  | false =>
    refine if0_f (s_add ⟨by omega, by omega⟩ ?_)
    obtain ⟨d1, d2, d3⟩ := hdf rfl
    have s := s.sub (List.sublist_cons_self _ _)
    refine ⟨⟨rfl, rfl, rfl, rfl, rfl, n + 1, rfl, d1, d2, d3, s⟩, ?_⟩
    show _ < μ (ev 2) (ev 4) (ev 5) (ev 46) (ev 47) (ev 48) H14
    rw [hmu]
    show ((4 : Int) - ((n : Int) + 1)).toNat < ((4 : Int) - (n : Int)).toNat
    omega
end Go.Proofs.YtlopgbdfdfijoaaGreatDoor
namespace Go.AL
variable [GLC] {P : Program}
theorem CP.row {g : FuncId} {ar : List AV} {H : AH} {x : AV} {Q : AV → Prop} (h : RetF P g ar H x H) (hq : Q x) : CP P g ar H Q := h.mono fun o H' ⟨h1, h2⟩ => ⟨h2, x, h1, hq⟩
theorem FZ.rowS {R : List (Nat × List AV)} {r n : Nat} {c : List AV} (hm : (r, c) ∈ R) (hs : ∀ k, Scs k c) (hn : n = 0 → c = []) : FZ R (.sl r 0 n (.ex n)) (.sim c n true) := FZ.row hm hs hn
theorem FLx {z n : Nat} {Pr : Nat → List AV → Prop} {css : List (List AV)} (h1 : css.length = n) (h : ∀ i c, css[i]? = some c → c.length = z ∧ (∀ k, Scs k c) ∧ Pr i c) : FL z Pr n (.sim css.flatten n true) := ⟨.inr ⟨css, true, rfl, fun _ => rfl, h1, h⟩⟩
end Go.AL
namespace Go.Proofs.YtlopgbdfdfijoaaGreatDoor
open Go Go.AL
variable [GLC]
theorem FLIx (ns : List Int) : FLI ns (.sim (ns.map iv) ns.length true) := by
  have e : ns.map iv = (ns.map fun n => [iv n]).flatten := by
    induction ns with
    | nil => rfl
    | cons n ns ih => simp [ih]
  rw [e]
  refine FLx (by simp) fun i c hc => ?_
  rw [List.getElem?_map] at hc
  cases h : ns[i]? with
  | none => rw [h] at hc; cases hc
  | some n =>
    rw [h] at hc
    cases hc
    exact ⟨rfl, fun k => .cons (.int _ _) .nil, n, h, rfl⟩
theorem rpl_sc (n k : Nat) : Scs k (rpl n (N .u8 0) []) := by
  induction n with
  | zero => exact .nil
  | succ n ih => exact .cons (.int _ _) ih
theorem FrzVs.same {H : AH} {R : Nat → Prop} : ∀ l : List AV, FrzVs H R l l
  | [] => .nil
  | x :: l => .cons (.same x) (FrzVs.same l)
theorem new5 {H0 H : AH} {L : List (Nat × List AV)} {q : Nat} {ns : List Int} {Kp K : AV → AH → Prop} (s : NSt H0 ((q, ns.map iv) :: L) H) (hl : ns.length ≤ 100000) (hn : ns ≠ [])
    (hK : ∀ x H', NSt H0 L H' → (if vld [] ns = true then ∃ fv, x = .tup [.agg [.nils, fv, .nils], iv 0] ∧ FLI ns fv else x = .tup [nil3, iv 1]) → K x H') : y_call Tryz.prog 5 [.sl q 0 ns.length (.ex ns.length)] H Kp K := by
  obtain ⟨_, _, g3⟩ := s.l _ (.head _)
  exact NSt.callF (A := []) (B := L) (q := q) (c := ns.map iv) (ar' := [.sim (ns.map iv) ns.length true]) s (.cons (FrzV.row (l := ns.map iv) rfl g3 (FrzVs.same _) (fun h => absurd (List.length_eq_zero_iff.1 h) hn) fun _ => rfl) .nil) (fun H' s' => C5 (FLIx ns) hl) (fun x H' s' hx => hK x H' s' hx)
def mkJ (w k : Nat) : Job := ⟨(w : Int) % 3, .nils, .nils, .nils, .nils, .nils, iv 0, k⟩
def QJ (w i : Nat) : List Job := (List.range i).map (mkJ w)
theorem QJ_len (w i : Nat) : (QJ w i).length = i := by simp [QJ]
theorem QJ_succ (w i : Nat) : QJ w (i + 1) = QJ w i ++ [mkJ w i] := by simp [QJ, List.range_succ]
theorem QJ_get {w i k : Nat} (h : k < i) : (QJ w i)[k]? = some (mkJ w k) := by simp [QJ, h]
theorem mkJ_sc (w k n : Nat) : Scs n (jc (mkJ w k)) := .cons (.int _ _) (.cons .nils (.cons .nils (.cons .nils (.cons .nils (.cons .nils (.cons (.int _ _) (.cons (.int _ _) .nil)))))))
theorem fit_mk {w k : Nat} (h : k ≤ 16) : fit 3 (mkJ w k) = true := by
  have h1 : 0 ≤ (w : Int) % 3 := Int.emod_nonneg _ (by decide)
  have h2 : (w : Int) % 3 < 3 := Int.emod_lt_of_pos _ (by decide)
  have e : fit 3 (mkJ w k) = (decide (0 ≤ (w : Int) % 3) && decide ((w : Int) % 3 < 3) && (decide (0 ≤ (k : Int)) && decide ((k : Int) ≤ 1073741824))) := rfl
  rw [e, decide_eq_true h1, decide_eq_true h2, decide_eq_true (by omega : 0 ≤ (k : Int)), decide_eq_true (by omega : (k : Int) ≤ 1073741824)]
  rfl
theorem vldQ {w i : Nat} {ns : List Int} (hi : i ≤ 16) (hl : ns.length = 3) : vld (QJ w i) ns = !ns.any (fun n => !am n) := by
  have h1 : (QJ w i).any (fun j => !fit 3 j) = false := by
    rw [List.any_eq_false]
    intro j hj
    obtain ⟨k, hk, rfl⟩ := List.mem_map.1 hj
    have := List.mem_range.1 hk
    rw [fit_mk (by omega)]
    decide
  unfold vld
  rw [hl, QJ_len, h1, decide_eq_true hi]
  cases ns.any fun n => !am n <;> rfl
theorem vld123 {w i : Nat} (hi : i ≤ 16) : vld (QJ w i) [1, 2, 3] = true := (vldQ hi rfl).trans rfl
theorem vld1b3 {w i : Nat} {b : Int} (hi : i ≤ 16) : vld (QJ w i) [1, b, 3] = am b := by
  rw [vldQ hi rfl]
  show (!(false || (!am b || (false || false)))) = am b
  cases am b <;> rfl
def zJ : Job := ⟨0, .nils, .nils, .nils, .nils, .nils, iv 0, 0⟩
theorem zJ_sc (n : Nat) : Scs n (jc zJ) := mkJ_sc 0 0 n
theorem SubQ_mk {w k : Nat} (hk : k ≤ 16) {x : AV} (h : SubQ (QJ w k) [1, 2, 3] (mkJ w k) x) : (k = 16 ∧ x = .tup [nil3, iv 2]) ∨ (k < 16 ∧ ∃ jv fv, x = .tup [.agg [jv, fv, .nils], iv 0] ∧ FLJ (QJ w (k + 1)) jv ∧ FLI [1, 2, 3] fv) := by
  unfold SubQ at h
  rw [if_pos ⟨vld123 hk, fit_mk hk⟩, QJ_len] at h
  by_cases e : k = 16
  · rw [if_pos e] at h
    exact .inl ⟨e, h⟩
  · rw [if_neg e] at h
    obtain ⟨jv, fv, h1, h2, h3⟩ := h
    exact .inr ⟨by omega, jv, fv, h1, by rw [QJ_succ]; exact h2, h3⟩
theorem SubQ_z {w k : Nat} {b : Int} (hk : k ≤ 16) {x : AV} (h : SubQ (QJ w k) [1, b, 3] zJ x) : ∃ a1 a2 a3 g, x = .tup [.agg [a1, a2, a3], iv g] ∧ (am b = true → g = 0 ∨ g = 2) ∧ (am b = false → g = 1) := by
  unfold SubQ at h
  rw [vld1b3 hk] at h
  have hz : fit [1, b, 3].length zJ = true := rfl
  rw [hz] at h
  cases hb : am b with
  | true =>
    rw [hb, if_pos ⟨rfl, rfl⟩] at h
    split at h
    · exact ⟨.nils, .nils, .nils, 2, h, fun _ => .inr rfl, fun h => by cases h⟩
    · obtain ⟨jv, fv, h, _⟩ := h
      exact ⟨jv, fv, .nils, 0, h, fun _ => .inl rfl, fun h => by cases h⟩
  | false =>
    rw [hb, if_neg (by decide)] at h
    exact ⟨.nils, .nils, .nils, 1, h, (fun h => by cases h), fun _ => rfl⟩
theorem StepQ_z {js : List Job} {w k : Nat} {b c e : Int} (hk : k ≤ 16) {x : AV} (he : js = QJ w k) (h : StepQ js [1, b, 3] c e x) : ∃ a1 a2 a3 kk g, x = .tup [.agg [a1, a2, a3], vd kk, iv g] ∧ (am b = false → g = 1) := by
  subst he
  unfold StepQ at h
  rw [vld1b3 hk] at h
  cases hb : am b with
  | true =>
    rw [hb, if_pos rfl] at h
    split at h
    · obtain ⟨jv, fv, h, _⟩ := h
      exact ⟨jv, fv, .nils, 0, 3, h, fun h => by cases h⟩
    · obtain ⟨jv, fv, kk, code, j, Pr, h, _⟩ := h
      exact ⟨jv, fv, .nils, kk, code, h, fun h => by cases h⟩
  | false =>
    rw [hb, if_neg (by decide)] at h
    exact ⟨.nils, .nils, .nils, 0, 1, h, fun _ => rfl⟩
theorem C3 (hP : ∀ H : AH, H.gl = GLC.G → CP Tryz.prog 4 [] H fun x => x = .bool true) (hZ : ∀ H : AH, H.gl = GLC.G → CP Tryz.prog 9 [.agg [.nils, .nils, .nils, .nils, .nils, iv 0]] H fun x => x = .tup [iv 0, iv 1])
    {H : AH} (hg : H.gl = GLC.G) {n w : UInt8} {b : Int} : CP Tryz.prog 3 [bv n, bv w, iv b] H fun x => x = .bool true := by
  refine CP.of (T3 ?_)
  unfold G3
  try simp only [I_lit]
  refine y_cp (hP H hg) fun x hx => ?_
  subst hx
  refine (NSt.start H).bs (out := [iv 1, iv 2, iv 3]) rfl fun q4 H4 s => ?_
  refine new5 (ns := [1, 2, 3]) s (by decide) (by decide) fun x H5 s hx => ?_
  rw [if_pos (show vld [] [1, 2, 3] = true from rfl)] at hx
  obtain ⟨fv, rfl, hf⟩ := hx
  refine y_pu_of (v := .agg [.nils, fv, .nils]) rfl (y_pu_of (v := iv 0) rfl ?_)
  refine s.alloc fun q8 H8 s => s.putA (vs := [.nils, fv, .nils]) rfl rfl fun H9 s => f_neq rfl (if0_f ?_)
  let Iv : AV → AV → AV → AV → AV → AV → AH → Prop := fun a b1 c up p i H' => a = bv n ∧ b1 = bv w ∧ c = iv b ∧ up = .bool true ∧ p = .ptr q8 0 ∧
    ∃ (k : Nat) (jv fv : AV), i = iv (k : Int) ∧ k ≤ 16 ∧ NSt H [(q8, [jv, fv, .nils])] H' ∧ FLJ (QJ w.toNat k) jv ∧ FLI [1, 2, 3] fv
  let μ : AV → AV → AV → AV → AV → AV → AH → Nat := fun _ _ _ _ _ f _ => match f with
    | .int _ j => (20 - j).toNat
    | _ => 0
  refine ⟨Iv, μ, ⟨rfl, rfl, rfl, rfl, rfl, 0, .nils, fv, rfl, by omega, s, .nil, hf⟩, ?_⟩
  clear hf s
  intro ev H10 hI
  obtain ⟨e1, e2, e3, e4, e5, k, jv, fv, e6, hk, s, hj, hf⟩ := (hI : Iv (ev 0) (ev 1) (ev 2) (ev 7) (ev 8) (ev 10) H10)
  have hmu : μ (ev 0) (ev 1) (ev 2) (ev 7) (ev 8) (ev 10) H10 = ((20 : Int) - (k : Int)).toNat := by rw [e6]
  have hl : (QJ w.toNat k).length ≤ 100000 := by rw [QJ_len]; omega
  show y_pu (.convI .i64 (.cst (ev 0))) _
  rw [e1, e2, e3, e4, e5, e6]
  refine s_byte (s_rem (by omega) (by omega) (c_lss (fun hlt => if0_t ?_) (fun hlt => if0_f ?_)))
  · refine s.ldA (c := [jv, fv, .nils]) (.head _) rfl (s_byte (s_rem (by omega) (by omega) ?_))
    refine y_pu_of (v := .agg (jc (mkJ w.toNat k))) rfl ?_
    refine y_cp (C6 hj hf hl (by decide) (mkJ_sc w.toNat k)) fun x hx => ?_
    rcases SubQ_mk hk hx with ⟨h16, rfl⟩ | ⟨h16, jv', fv', rfl, hj', hf'⟩
    · refine y_pu_of (v := nil3) rfl (y_pu_of (v := iv 2) rfl ?_)
      refine s.alloc fun q29 H29 s => s.putA (vs := [.nils, .nils, .nils]) rfl rfl fun H30 s => t_geq (by omega) (if0_t (t_eql rfl (grp_tt ?_)))
      refine y_pu_of (v := .ptr q29 0) rfl (s.ld (x := .nils) (.head _) rfl (y_pu_of (v := iv 0) rfl (t_eql rfl (y_pu_of (v := .bool true) rfl (grp_tt ?_)))))
      refine y_pu_of (v := .ptr q29 1) rfl (s.ld (x := .nils) (.head _) rfl (y_pu_of (v := iv 0) rfl (t_eql rfl (y_pu_of (v := .bool true) rfl (grp_tt ?_)))))
      exact y_pu_of (v := .bool true) rfl (s.finS (fun k => .bool _) rfl)
    · refine y_pu_of (v := .agg [jv', fv', .nils]) rfl (y_pu_of (v := iv 0) rfl ?_)
      refine s.alloc fun q29 H29 s => s.putA (vs := [jv', fv', .nils]) rfl rfl fun H30 s => f_geq (by omega) (if0_f (f_neq rfl (grp_ff ?_)))
      have hjl := hj'
      unfold FLJ at hjl
      rw [QJ_len] at hjl
      refine y_pu_of (v := .ptr q29 0) rfl (s.ld (x := jv') (.head _) rfl (hjl.len (s_add ⟨by omega, by omega⟩ (f_neq (by omega) (y_pu_of (v := .bool false) rfl (grp_ff ?_))))))
      obtain ⟨cs, c, a1, _, _, a4, a5, _⟩ := hjl.at (i := k) (by omega)
      obtain ⟨j, hj0, rfl⟩ := a4
      rw [QJ_get (by omega)] at hj0
      cases hj0
      refine y_pu_of (v := .ptr q29 0) rfl (s.ld (x := jv') (.head _) rfl (y_pu_of a1 (y_pu_of (v := .pim cs (k * 8 + 7)) rfl (y_rd_of (v := iv (k : Int)) (a5 7 _ rfl) (f_neq rfl (y_pu_of (v := .bool false) rfl (if0_f ?_)))))))
      refine s.ldA (c := [jv', fv', .nils]) (.head _) rfl ?_
      have s : NSt H ([(q29, [jv', fv', .nils])] ++ (q8, [jv, fv, .nils]) :: []) H30 := s
      refine s.putM (vs := [jv', fv', .nils]) rfl rfl (by simp) fun H31 s => ?_
      have s : NSt H [(q8, [jv', fv', .nils])] H31 := s.sub (List.sublist_cons_self _ _)
      refine s_add ⟨by omega, by omega⟩ ⟨⟨rfl, rfl, rfl, rfl, rfl, k + 1, jv', fv', rfl, by omega, s, hj', hf'⟩, ?_⟩
      show _ < μ (ev 0) (ev 1) (ev 2) (ev 7) (ev 8) (ev 10) H10
      rw [hmu]
      show ((20 : Int) - ((k : Int) + 1)).toNat < ((20 : Int) - (k : Int)).toNat
      omega
  · refine s.ldA (c := [jv, fv, .nils]) (.head _) rfl (s.alloc fun q23 H23 s => s.putA (vs := [jv, fv, .nils]) rfl rfl fun H24 s => s.bs (out := [iv 1, iv b, iv 3]) rfl fun q25 H25 s => ?_)
    have s : NSt H ([(q25, [iv 1, iv b, iv 3])] ++ (q23, [jv, fv, .nils]) :: [(q8, [jv, fv, .nils])]) H25 := s
    refine y_pu_of (v := .ptr q23 1) rfl (s.putM (vs := [.sl q25 0 3 (.ex 3)]) rfl rfl (by simp) fun H27 s => ?_)
    have s : NSt H ([] ++ (q25, [iv 1, iv b, iv 3]) :: (q23, [jv, .sl q25 0 3 (.ex 3), .nils]) :: [(q8, [jv, fv, .nils])]) H27 := s
    refine s.ldA (c := [jv, .sl q25 0 3 (.ex 3), .nils]) (.tail _ (.head _)) rfl (y_pu_of (v := .agg (jc zJ)) rfl ?_)
    have g3 : H27.get q25 = some (.cells [iv 1, iv b, iv 3]) := (s.l _ (.head _)).2.2
    have fz : FrzV H27 (fun r => r = q25) (.sl q25 0 3 (.ex 3)) (.sim [iv 1, iv b, iv 3] 3 true) := FrzV.row rfl g3 (FrzVs.same _) (fun h => by cases h) fun _ => rfl
    have hfb : FLI [1, b, 3] (.sim [iv 1, iv b, iv 3] 3 true) := FLIx [1, b, 3]
    refine s.callF2 (ar' := [.agg [jv, .sim [iv 1, iv b, iv 3] 3 true, .nils], .agg (jc zJ)]) (d' := [jv, .sim [iv 1, iv b, iv 3] 3 true, .nils]) (.cons (.agg (.cons (.same _) (.cons fz (.cons (.same _) .nil)))) (.cons (.same _) .nil)) (.cons (.same _) (.cons fz (.cons (.same _) .nil)))
      (fun H' s' => C6 hj hfb hl (by simp) zJ_sc) fun x H30 s hx => ?_
    obtain ⟨a1, a2, a3, g, rfl, hgt, hgf⟩ := SubQ_z hk hx
    refine y_pu_of (v := .agg [a1, a2, a3]) rfl (y_pu_of (v := iv g) rfl ?_)
    refine s.alloc fun q33 H33 s => s.putA (vs := [a1, a2, a3]) rfl rfl fun H34 s => ?_
    refine s.ldA (c := [jv, .sim [iv 1, iv b, iv 3] 3 true, .nils]) (.tail _ (.head _)) rfl (y_pu_of (v := .agg (rpl 32 (N .u8 0) [])) rfl ?_)
    refine y_cp (C7 (c := 0) (e := 1) hj hfb hl (by simp) (d := rpl 32 (N .u8 0) []) rfl (fun j hj0 H' hg' => ?_) (fun j _ => .inl (by decide))) fun x hx => ?_
    · have : j = mkJ w.toNat 0 := by
        rcases Nat.eq_zero_or_pos k with h | h
        · subst h; cases hj0
        · rw [QJ_get h] at hj0; cases hj0; rfl
      subst this
      exact hZ H' (hg'.trans (s.k.gl.trans hg))
    obtain ⟨b1, b2, b3, kk, h, rfl, hhf⟩ := StepQ_z hk rfl hx
    refine y_pu_of (v := .agg [b1, b2, b3]) rfl (y_pu_of (v := vd kk) rfl (y_pu_of (v := iv h) rfl ?_))
    refine s.alloc fun q41 H41 s => s.alloc fun q42 H42 s => ?_
    have s := s.swap
    refine s.putA (vs := [b1, b2, b3]) rfl rfl fun H43 s => ?_
    have s := s.swap
    refine s.putA (vs := [iv kk, .nils, .nils, iv 0]) rfl rfl fun H44 s => ?_
    have hA : am b = false → g = 1 ∧ h = 1 := fun hb => ⟨hgf hb, hhf hb⟩
    refine c_lss (fun hb => grp_ft (y_pu_of (v := .bool true) rfl (if0_t ?_))) (fun hb => grp_ff (c_gtr (fun hb2 => y_pu_of (v := .bool true) rfl (if0_t ?_)) (fun hb2 => y_pu_of (v := .bool false) rfl (if0_f ?_))))
    · obtain ⟨rfl, rfl⟩ := hA (by unfold am; rw [decide_eq_false (by omega : ¬ 0 ≤ b)]; rfl)
      exact t_eql rfl (grp_tt (t_eql rfl (y_pu_of (v := .bool true) rfl (grp_tt (y_pu_of (v := .bool true) rfl (s.finS (fun k => .bool _) rfl))))))
    · obtain ⟨rfl, rfl⟩ := hA (by unfold am; rw [decide_eq_false (by omega : ¬ b ≤ 1073741824)]; exact Bool.and_false _)
      exact t_eql rfl (grp_tt (t_eql rfl (y_pu_of (v := .bool true) rfl (grp_tt (y_pu_of (v := .bool true) rfl (s.finS (fun k => .bool _) rfl))))))
    · have hb3 : am b = true := by unfold am; rw [decide_eq_true (by omega : 0 ≤ b), decide_eq_true (by omega : b ≤ 1073741824)]; rfl
      have hgg := hgt hb3
      exact c_eql (fun h0 => grp_ft (y_pu_of (v := .bool true) rfl (grp_tt (y_pu_of (v := .bool true) rfl (s.finS (fun k => .bool _) rfl)))))
        (fun h0 => grp_ff (t_eql (by rcases hgg with h | h; exact absurd h h0; exact h) (y_pu_of (v := .bool true) rfl (grp_tt (y_pu_of (v := .bool true) rfl (s.finS (fun k => .bool _) rfl))))))
end Go.Proofs.YtlopgbdfdfijoaaGreatDoor
namespace Go.Proofs.YtlopgbdfdfijoaaGreatDoor
open Go Go.AL
variable [GLC]
def sJ (a b w : AV) (f : Int) : Job := ⟨0, a, b, a, b, w, iv 1, f⟩
theorem SubQ_s {a b w : AV} {m f : Int} {x : AV} (h1 : am m = true) (h2 : am f = true) (h : SubQ [] [m] (sJ a b w f) x) : ∃ jv fv, x = .tup [.agg [jv, fv, .nils], iv 0] ∧ FLJ [sJ a b w f] jv ∧ FLI [m] fv := by
  unfold SubQ at h
  have e1 : vld [] [m] = true := by
    show (!(!am m || false) && true) = true
    rw [h1]; rfl
  have e2 : fit [m].length (sJ a b w f) = true := by
    show (true && am f) = true
    rw [h2]; rfl
  rw [if_pos ⟨e1, e2⟩, if_neg (by decide)] at h
  exact h
theorem vld_s {a b w : AV} {m f : Int} (h1 : am m = true) (h2 : am f = true) : vld [sJ a b w f] [m] = true := by
  show (!(!am m || false) && !(!(true && am f) || false)) = true
  rw [h1, h2]; rfl
theorem StepQ_s {a b w : AV} {m f c : Int} {x : AV} (h1 : am m = true) (h2 : am f = true) (h : StepQ [sJ a b w f] [m] c 0 x) :
    ∃ (jv fv : AV) (k code : Int) (Pr : Nat → List AV → Prop), x = .tup [.agg [jv, fv, .nils], vd k, iv code] ∧ LL 8 Pr 0 jv ∧ FLI [m] fv ∧ ((m < c ∧ k = 0 ∧ code = 350) ∨ (¬ m < c ∧ f < c ∧ k = 3 ∧ code = 0)) := by
  unfold StepQ at h
  rw [if_pos (vld_s h1 h2), if_neg (by simp)] at h
  obtain ⟨jv, fv, k, code, j, Pr, g1, g2, g3, g4, g5⟩ := h
  cases g4
  refine ⟨jv, fv, k, code, Pr, g1, g2, g3, ?_⟩
  rcases g5 with h | h | h
  · exact absurd rfl h.1
  · exact .inl ⟨h.2.1, h.2.2⟩
  · exact .inr ⟨h.2.1, h.2.2⟩
theorem C7e {H : AH} {fv sv : AV} {d : List AV} {m : Int} (hf : FLI [m] fv) (hd : sv.cellsOf = some d) (hm : am m = true) : CP Tryz.prog 7 [.agg [.nils, fv, .nils], sv] H fun x => ∃ jv fv, x = .tup [.agg [jv, fv, .nils], vd 0, iv 3] :=
  (C7 (c := 0) (e := 1) (js := []) .nil hf (by simp) (by simp) hd (fun j hj => by cases hj) (fun j hj => by cases hj)).mono fun x h => by
    unfold StepQ at h
    have e1 : vld [] [m] = true := by
      show (!(!am m || false) && true) = true
      rw [hm]; rfl
    rw [if_pos e1, if_pos (show ([] : List Job).length = 0 from rfl)] at h
    obtain ⟨jv, fv, h, _⟩ := h
    exact ⟨jv, fv, h⟩
theorem C6e {H : AH} {fv : AV} {m : Int} {j : Job} (hf : FLI [m] fv) (hj : fit 1 j = false) (hs : ∀ k, Scs k (jc j)) : CP Tryz.prog 6 [.agg [.nils, fv, .nils], .agg (jc j)] H fun x => x = .tup [nil3, iv 1] :=
  (C6 (js := []) .nil hf (by simp) (by simp) hs).mono fun x h => by
    unfold SubQ at h
    rw [if_neg (fun h => by have := h.2; rw [show [m].length = 1 from rfl, hj] at this; cases this)] at h
    exact h
theorem C4 {SA SB : AV} (hA : ∀ k, Sc k SA) (hB : ∀ k, Sc k SB)
    (h8 : ∀ H : AH, H.gl = GLC.G → CP Tryz.prog 8 [N .u8 0] H fun x => x = .agg [SA, SB])
    (h9 : ∀ H : AH, H.gl = GLC.G → CP Tryz.prog 9 [.agg [SA, SB, SA, SB, .sim [N .u8 97] 1 true, iv 1]] H fun x => x = .tup [iv 262146, iv 0])
    {H : AH} (hg : H.gl = GLC.G) : CP Tryz.prog 4 [] H fun x => x = .bool true := by
  refine CP.of (T4 ?_)
  unfold G4
  try simp only [I_lit]
  have s := NSt.start H
  refine y_cp (C5 (ns := []) .nil (by simp)) fun x hx => ?_
  rw [if_neg (by decide)] at hx
  subst hx
  refine y_pu_of (v := nil3) rfl (y_pu_of (v := iv 1) rfl ?_)
  refine s.alloc fun q3 H3 s => s.putA (vs := [.nils, .nils, .nils]) rfl rfl fun H4 s => ?_
  have s := s.sub (List.sublist_cons_self _ _)
  refine s.bs (out := [iv 5]) rfl fun q5 H5 s => new5 (ns := [5]) s (by decide) (by decide) fun x H6 s hx => ?_
  rw [if_pos (show vld [] [5] = true from rfl)] at hx
  obtain ⟨f5, rfl, hf5⟩ := hx
  refine y_pu_of (v := .agg [.nils, f5, .nils]) rfl (y_pu_of (v := iv 0) rfl ?_)
  refine s.alloc fun q9 H9 s => s.putA (vs := [.nils, f5, .nils]) rfl rfl fun H10 s => s.ldA (c := [.nils, f5, .nils]) (.head _) rfl (y_pu_of (v := .agg (rpl 32 (N .u8 0) [])) rfl ?_)
  refine y_cp (C7e hf5 rfl rfl) fun x hx => ?_
  obtain ⟨j14, f14, rfl⟩ := hx
  refine y_pu_of (v := .agg [j14, f14, .nils]) rfl (y_pu_of (v := vd 0) rfl (y_pu_of (v := iv 3) rfl ?_))
  refine s.alloc fun q17 H17 s => s.alloc fun q18 H18 s => ?_
  have s := s.swap
  refine s.putA (vs := [j14, f14, .nils]) rfl rfl fun H19 s => ?_
  have s := s.swap
  refine s.putA (vs := [iv 0, .nils, .nils, iv 0]) rfl rfl fun H20 s => ?_
  have s := (s.sub (List.sublist_cons_self _ _)).sub (List.sublist_cons_self _ _)
  refine s.ldA (c := [.nils, f5, .nils]) (.head _) rfl (y_pu_of (v := .agg (jc ⟨1, .nils, .nils, .nils, .nils, .nils, iv 0, 0⟩)) rfl ?_)
  refine y_cp (C6e hf5 rfl fun k => .cons (.int _ _) (.cons .nils (.cons .nils (.cons .nils (.cons .nils (.cons .nils (.cons (.int _ _) (.cons (.int _ _) .nil)))))))) fun x hx => ?_
  subst hx
  refine y_pu_of (v := nil3) rfl (y_pu_of (v := iv 1) rfl ?_)
  refine s.alloc fun q26 H26 s => s.putA (vs := [.nils, .nils, .nils]) rfl rfl fun H27 s => ?_
  have s := s.sub (List.sublist_cons_self _ _)
  refine y_cp (h8 _ (s.k.gl.trans hg)) fun x hx => ?_
  subst hx
  refine y_cp (h8 _ (s.k.gl.trans hg)) fun x hx => ?_
  subst hx
  refine s.bs (out := [N .u8 97]) rfl fun q30 H30 s => s.mark (.head _) (by decide) ?_
  refine y_pu_of (v := .agg [.sl q30 0 1 (.ex 1), iv 1]) rfl (y_pu_of (v := .agg [SA, SB, SA, SB, .sl q30 0 1 (.ex 1), iv 1]) rfl ?_)
  refine s.alloc fun q34 H34 s => s.putA (vs := [SA, SB, SA, SB, .sl q30 0 1 (.ex 1), iv 1]) rfl rfl fun H35 s => s.ldA (c := [SA, SB, SA, SB, .sl q30 0 1 (.ex 1), iv 1]) (.head _) rfl ?_
  have s : NSt H ([] ++ (q30, [N .u8 97]) :: (q34, [SA, SB, SA, SB, .sl q30 0 1 (.ex 1), iv 1]) :: [(q9, [.nils, f5, .nils])]) H35 := s.swap
  have g3 : H35.get q30 = some (.cells [N .u8 97]) := (s.l _ (.head _)).2.2
  have fz : FrzV H35 (fun r => r = q30) (.sl q30 0 1 (.ex 1)) (.sim [N .u8 97] 1 true) := FrzV.row rfl g3 (FrzVs.same _) (fun h => by cases h) fun _ => rfl
  have fzs : FrzVs H35 (fun r => r = q30) [SA, SB, SA, SB, .sl q30 0 1 (.ex 1), iv 1] [SA, SB, SA, SB, .sim [N .u8 97] 1 true, iv 1] := .cons (.same _) (.cons (.same _) (.cons (.same _) (.cons (.same _) (.cons fz (.cons (.same _) .nil)))))
  refine s.callF2 (ar' := [.agg [SA, SB, SA, SB, .sim [N .u8 97] 1 true, iv 1]]) (d' := [SA, SB, SA, SB, .sim [N .u8 97] 1 true, iv 1]) (.cons (.agg fzs) .nil) fzs (fun H' s' => h9 _ (s'.k.gl.trans hg)) fun x H37 s hx => ?_
  subst hx
  generalize hw : AV.sim [N .u8 97] 1 true = AA at s h9
  have hAA : ∀ k, Sc k AA := fun k => by rw [← hw]; exact .sim (.cons (.int _ _) .nil)
  have hsJ : ∀ (f : Int) (k : Nat), Scs k (jc (sJ SA SB AA f)) := fun f k => .cons (.int _ _) (.cons (hA k) (.cons (hB k) (.cons (hA k) (.cons (hB k) (.cons (hAA k) (.cons (.int _ _) (.cons (.int _ _) .nil)))))))
  refine y_pu_of (v := iv 262146) rfl (y_pu_of (v := iv 0) rfl ?_)
  have m34 : (q34, [SA, SB, SA, SB, AA, iv 1]) ∈ [] ++ (q34, [SA, SB, SA, SB, AA, iv 1]) :: [(q9, [.nils, f5, .nils])] := .head _
  have m9 : (q9, [AV.nils, f5, .nils]) ∈ [] ++ (q34, [SA, SB, SA, SB, AA, iv 1]) :: [(q9, [.nils, f5, .nils])] := .tail _ (.head _)
  refine s.ldA (c := [.nils, f5, .nils]) m9 rfl (s.ldA (c := [SA, SB, SA, SB, AA, iv 1]) m34 rfl ?_)
  refine y_pu_of (v := .agg (jc (sJ SA SB AA 7))) rfl (y_cp (C6 (js := []) .nil hf5 (by simp) (by simp) (hsJ 7)) fun x hx => ?_)
  obtain ⟨j44, f44, rfl, hj44, hf44⟩ := SubQ_s rfl rfl hx
  clear hx
  refine y_pu_of (v := .agg [j44, f44, .nils]) rfl (y_pu_of (v := iv 0) rfl ?_)
  refine s.alloc fun q46 H46 s => s.putA (vs := [j44, f44, .nils]) rfl rfl fun H47 s => s.ldA (c := [j44, f44, .nils]) (.head _) rfl (y_pu_of (v := .agg (rpl 32 (N .u8 0) [])) rfl ?_)
  refine y_cp (C7 (c := 262146) (e := 0) hj44 hf44 (by simp) (by simp) (d := rpl 32 (N .u8 0) []) rfl (fun j hj H' hg' => by cases hj; exact h9 H' (hg'.trans (s.k.gl.trans hg))) (fun j hj => by cases hj; exact .inr (.inl (by show (5 : Int) < 262146; decide)))) fun x hx => ?_
  obtain ⟨j51, f51, k51, c51, P51, rfl, hj51, hf51, ho⟩ := StepQ_s rfl rfl hx
  clear hx
  rcases ho with ⟨_, rfl, rfl⟩ | ⟨h, _⟩
  rotate_left
  · exact absurd (by decide) h
  have s := s.sub (List.sublist_cons_self _ _)
  refine y_pu_of (v := .agg [j51, f51, .nils]) rfl (y_pu_of (v := vd 0) rfl (y_pu_of (v := iv 350) rfl ?_))
  refine s.alloc fun q54 H54 s => s.alloc fun q55 H55 s => ?_
  have s := s.swap
  refine s.putA (vs := [j51, f51, .nils]) rfl rfl fun H56 s => ?_
  have s := s.swap
  refine s.putA (vs := [iv 0, .nils, .nils, iv 0]) rfl rfl fun H57 s => ?_
  refine s.bs (out := [iv 262146]) rfl fun q58 H58 s => new5 (ns := [262146]) s (by decide) (by decide) fun x H59 s hx => ?_
  rw [if_pos (show vld [] [262146] = true from rfl)] at hx
  obtain ⟨f60, rfl, hf60⟩ := hx
  refine y_pu_of (v := .agg [.nils, f60, .nils]) rfl (y_pu_of (v := iv 0) rfl ?_)
  refine s.alloc fun q62 H62 s => s.putA (vs := [.nils, f60, .nils]) rfl rfl fun H63 s => s.ldA (c := [.nils, f60, .nils]) (.head _) rfl (s.ldA (c := [SA, SB, SA, SB, AA, iv 1]) (.tail _ (.tail _ (.tail _ (.head _)))) rfl ?_)
  refine y_pu_of (v := .agg (jc (sJ SA SB AA 262145))) rfl (y_cp (C6 (js := []) .nil hf60 (by simp) (by simp) (hsJ 262145)) fun x hx => ?_)
  obtain ⟨j68, f68, rfl, hj68, hf68⟩ := SubQ_s rfl rfl hx
  clear hx
  have s := s.sub (List.sublist_cons_self _ _)
  refine y_pu_of (v := .agg [j68, f68, .nils]) rfl (y_pu_of (v := iv 0) rfl ?_)
  refine s.alloc fun q70 H70 s => s.putA (vs := [j68, f68, .nils]) rfl rfl fun H71 s => s.ldA (c := [j68, f68, .nils]) (.head _) rfl (y_pu_of (v := .agg (rpl 32 (N .u8 0) [])) rfl ?_)
  refine y_cp (C7 (c := 262146) (e := 0) hj68 hf68 (by simp) (by simp) (d := rpl 32 (N .u8 0) []) rfl (fun j hj H' hg' => by cases hj; exact h9 H' (hg'.trans (s.k.gl.trans hg))) (fun j hj => by cases hj; exact .inr (.inr (by show (262145 : Int) < 262146; decide)))) fun x hx => ?_
  obtain ⟨j75, f75, k75, c75, P75, rfl, hj75, hf75, ho⟩ := StepQ_s rfl rfl hx
  clear hx
  rcases ho with ⟨h, _⟩ | ⟨_, _, rfl, rfl⟩
  · exact absurd h (by decide)
  have s := s.sub (List.sublist_cons_self _ _)
  refine y_pu_of (v := .agg [j75, f75, .nils]) rfl (y_pu_of (v := vd 3) rfl (y_pu_of (v := iv 0) rfl ?_))
  refine s.alloc fun q78 H78 s => s.alloc fun q79 H79 s => ?_
  have s := s.swap
  refine s.putA (vs := [j75, f75, .nils]) rfl rfl fun H80 s => ?_
  have s := s.swap
  refine s.putA (vs := [iv 3, .nils, .nils, iv 0]) rfl rfl fun H81 s => ?_
  have m79 := (.head _ : (q79, [iv 3, .nils, .nils, iv 0]) ∈ (q79, [iv 3, .nils, .nils, iv 0]) :: (q78, [j75, f75, .nils]) :: (q55, [iv 0, .nils, .nils, iv 0]) :: (q54, [j51, f51, .nils]) :: ([] ++ (q34, [SA, SB, SA, SB, AA, iv 1]) :: [(q9, [.nils, f5, .nils])]))
  have m78 := (.tail _ (.head _) : (q78, [j75, f75, .nils]) ∈ (q79, [iv 3, .nils, .nils, iv 0]) :: (q78, [j75, f75, .nils]) :: (q55, [iv 0, .nils, .nils, iv 0]) :: (q54, [j51, f51, .nils]) :: ([] ++ (q34, [SA, SB, SA, SB, AA, iv 1]) :: [(q9, [.nils, f5, .nils])]))
  have m55 := (.tail _ (.tail _ (.head _)) : (q55, [iv 0, .nils, .nils, iv 0]) ∈ (q79, [iv 3, .nils, .nils, iv 0]) :: (q78, [j75, f75, .nils]) :: (q55, [iv 0, .nils, .nils, iv 0]) :: (q54, [j51, f51, .nils]) :: ([] ++ (q34, [SA, SB, SA, SB, AA, iv 1]) :: [(q9, [.nils, f5, .nils])]))
  have m54 := (.tail _ (.tail _ (.tail _ (.head _))) : (q54, [j51, f51, .nils]) ∈ (q79, [iv 3, .nils, .nils, iv 0]) :: (q78, [j75, f75, .nils]) :: (q55, [iv 0, .nils, .nils, iv 0]) :: (q54, [j51, f51, .nils]) :: ([] ++ (q34, [SA, SB, SA, SB, AA, iv 1]) :: [(q9, [.nils, f5, .nils])]))
  generalize ((q79, [iv 3, .nils, .nils, iv 0]) :: (q78, [j75, f75, .nils]) :: (q55, [iv 0, .nils, .nils, iv 0]) :: (q54, [j51, f51, .nils]) :: ([] ++ (q34, [SA, SB, SA, SB, AA, iv 1]) :: [(q9, [.nils, f5, .nils])])) = L at s m79 m78 m55 m54
  have pk : ∀ {K : AV → Prop}, K (.bool true) → y_pu (.pick (.cst (.bool true)) (.cst (.bool true)) (.cst (.bool false))) K := fun h => y_pu_of (v := .bool true) rfl h
  refine y_pu_of (v := .ptr q54 1) rfl (s.ld (x := f51) m54 rfl (hf51.len (f_neq rfl (grp_ff ?_))))
  refine y_pu_of (v := .ptr q78 1) rfl (s.ld (x := f75) m78 rfl (hf75.len (f_neq rfl (y_pu_of (v := .bool false) rfl (if0_f ?_)))))
  refine t_eql rfl (grp_tt (t_eql rfl (pk (grp_tt ?_))))
  refine t_eql rfl (pk (grp_tt (t_eql rfl (pk (grp_tt (t_eql rfl (pk (grp_tt (t_eql rfl (pk (grp_tt ?_)))))))))))
  refine t_eql rfl (pk (grp_tt (t_eql rfl (pk (grp_tt ?_)))))
  refine y_pu_of (v := .ptr q55 0) rfl (s.ld (x := iv 0) m55 rfl (t_eql rfl (pk (grp_tt ?_))))
  refine y_pu_of (v := .ptr q54 0) rfl (s.ld (x := j51) m54 rfl (hj51.len (t_eql rfl (pk (grp_tt ?_)))))
  refine y_pu_of (v := .ptr q54 1) rfl (s.ld (x := f51) m54 rfl (hf51.at1 (i := 0) (by simp) fun y _ hy => ?_))
  obtain ⟨z, hz, hy⟩ := hy
  cases hz
  cases hy
  refine t_eql rfl (pk (grp_tt ?_))
  refine t_eql rfl (pk (grp_tt (t_eql rfl (pk (grp_tt ?_)))))
  refine y_pu_of (v := .ptr q79 0) rfl (s.ld (x := iv 3) m79 rfl (t_eql rfl (pk (grp_tt ?_))))
  refine y_pu_of (v := .ptr q78 1) rfl (s.ld (x := f75) m78 rfl (hf75.at1 (i := 0) (by simp) fun y _ hy => ?_))
  obtain ⟨z, hz, hy⟩ := hy
  cases hz
  cases hy
  exact t_eql rfl (pk (s.finS (fun k => .bool _) rfl))
end Go.Proofs.YtlopgbdfdfijoaaGreatDoor
