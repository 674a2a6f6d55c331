/- Joined texts: UA. -/
import Derived.Test.YtiadfnedbbkojaaDoorTB
namespace Go.Proofs.YtiadfnedbbkojaaDoor.Kb
open Go Go.Proofs Go.Proofs.YtiadfnedbbkojaaDoor.X Go.Proofs.YtiadfnedbbkojaaDoor.Bv
set_option linter.unusedSimpArgs false
set_option linter.unusedVariables false
/-- A word that an element contains. -/
structure In (w : Nat) (z o x : BitVec 64) : Prop where
  zer : ∀ i, z.getLsbD i = true → x.getLsbD i = false
  one : ∀ i, o.getLsbD i = true → x.getLsbD i = true
  out : ∀ i, w ≤ i → x.getLsbD i = false
/-- The result is an element of the width, and contains the word. -/
structure Snd (w : Nat) (p q x : BitVec 64) : Prop where
  vd : Vd2 w p q
  mem : In w p q x
theorem Vd2.of {w : Nat} {z o : BitVec 64} (h1 : ∀ i, i < 64 → (z.getLsbD i && o.getLsbD i) = false) (h2 : ∀ i, w ≤ i → z.getLsbD i = false ∧ o.getLsbD i = false) : Vd2 w z o :=
  ⟨BitVec.eq_of_getLsbD_eq fun i hi => by rw [BitVec.getLsbD_and, h1 i hi, BitVec.getLsbD_zero], h2⟩
/-- By bits: below the width the two words are disjoint and right, and nothing lies above. -/
theorem Snd.of {w : Nat} (hw : w ≤ 64) {p q x : BitVec 64} (h : ∀ i, i < w → (p.getLsbD i = true → x.getLsbD i = false) ∧ (q.getLsbD i = true → x.getLsbD i = true)) (ho : ∀ i, w ≤ i → p.getLsbD i = false ∧ q.getLsbD i = false ∧ x.getLsbD i = false) : Snd w p q x := by
  refine ⟨Vd2.of (fun i hi => ?_) fun i hi => ⟨(ho i hi).1, (ho i hi).2.1⟩, ⟨fun i hp => ?_, fun i hq => ?_, fun i hi => (ho i hi).2.2⟩⟩
  · rcases Nat.lt_or_ge i w with hl | hl
    · cases hp : p.getLsbD i with
      | false => rfl
      | true =>
        cases hq : q.getLsbD i with
        | false => rfl
        | true =>
          have h1 := (h i hl).1 hp
          rw [(h i hl).2 hq] at h1
          cases h1
    · rw [(ho i hl).1]
      rfl
  · rcases Nat.lt_or_ge i w with hl | hl
    · exact (h i hl).1 hp
    · rw [(ho i hl).1] at hp
      cases hp
  · rcases Nat.lt_or_ge i w with hl | hl
    · exact (h i hl).2 hq
    · rw [(ho i hl).2.1] at hq
      cases hq
theorem out64 (x : BitVec 64) {i : Nat} (h : ¬ i < 64) : x.getLsbD i = false := BitVec.getLsbD_of_ge _ _ (by omega)
section
variable {w : Nat} (hw1 : 1 ≤ w) (hw : w ≤ 64) {az ao bz bo a b : BitVec 64} (A : Vd2 w az ao) (B : Vd2 w bz bo) (ha : In w az ao a) (hb : In w bz bo b)
 include hw A B ha hb
theorem snd_and : Snd w (az ||| bz) (ao &&& bo) (a &&& b) := Snd.of hw (fun i _ => by
  have h1 := ha.zer i
  have h2 := hb.zer i
  have h3 := ha.one i
  have h4 := hb.one i
  rw [BitVec.getLsbD_or, BitVec.getLsbD_and, BitVec.getLsbD_and]
  revert h1 h2 h3 h4
  cases az.getLsbD i <;> cases ao.getLsbD i <;> cases bz.getLsbD i <;> cases bo.getLsbD i <;> cases a.getLsbD i <;> cases b.getLsbD i <;> decide) fun i hi => by
  rw [BitVec.getLsbD_or, BitVec.getLsbD_and, BitVec.getLsbD_and, (A.inM i hi).1, (B.inM i hi).1, (A.inM i hi).2, ha.out i hi]
  exact ⟨rfl, rfl, rfl⟩
theorem snd_or : Snd w (az &&& bz) (ao ||| bo) (a ||| b) := Snd.of hw (fun i _ => by
  have h1 := ha.zer i
  have h2 := hb.zer i
  have h3 := ha.one i
  have h4 := hb.one i
  rw [BitVec.getLsbD_or, BitVec.getLsbD_and, BitVec.getLsbD_or]
  revert h1 h2 h3 h4
  cases az.getLsbD i <;> cases ao.getLsbD i <;> cases bz.getLsbD i <;> cases bo.getLsbD i <;> cases a.getLsbD i <;> cases b.getLsbD i <;> decide) fun i hi => by
  rw [BitVec.getLsbD_or, BitVec.getLsbD_and, BitVec.getLsbD_or, (A.inM i hi).1, (B.inM i hi).2, (A.inM i hi).2, ha.out i hi, hb.out i hi]
  exact ⟨rfl, rfl, rfl⟩
theorem snd_xor : Snd w ((az &&& bz) ||| (ao &&& bo)) ((az &&& bo) ||| (ao &&& bz)) (a ^^^ b) := by
 have _ := B
 exact Snd.of hw (fun i _ => by
  have h1 := ha.zer i
  have h2 := hb.zer i
  have h3 := ha.one i
  have h4 := hb.one i
  rw [BitVec.getLsbD_or, BitVec.getLsbD_and, BitVec.getLsbD_and, BitVec.getLsbD_or, BitVec.getLsbD_and, BitVec.getLsbD_and, BitVec.getLsbD_xor]
  revert h1 h2 h3 h4
  cases az.getLsbD i <;> cases ao.getLsbD i <;> cases bz.getLsbD i <;> cases bo.getLsbD i <;> cases a.getLsbD i <;> cases b.getLsbD i <;> decide) fun i hi => by
  rw [BitVec.getLsbD_or, BitVec.getLsbD_and, BitVec.getLsbD_and, BitVec.getLsbD_or, BitVec.getLsbD_and, BitVec.getLsbD_and, BitVec.getLsbD_xor, (A.inM i hi).1, (A.inM i hi).2, ha.out i hi, hb.out i hi]
  exact ⟨rfl, rfl, rfl⟩
end
/-- Nothing, or this bit. -/
def OrBit (x : Int) (b : Bool) : Prop := x = -1 ∨ x = boolI b
theorem nxt_ok {x y c : Int} {p q r : Bool} (hx : OrBit x p) (hy : OrBit y q) (hc : OrBit c r) : OrBit (nxt x y c) (Bool.atLeastTwo p q r) := by
  unfold OrBit at *
  rcases hx with rfl | rfl <;> rcases hy with rfl | rfl <;> rcases hc with rfl | rfl <;> cases p <;> cases q <;> cases r <;> decide
theorem ob_ok {x y c : Int} {p q r : Bool} (hx : OrBit x p) (hy : OrBit y q) (hc : OrBit c r) : OrBit (ob x y c) (p ^^ (q ^^ r)) := by
  unfold OrBit at *
  rcases hx with rfl | rfl <;> rcases hy with rfl | rfl <;> rcases hc with rfl | rfl <;> cases p <;> cases q <;> cases r <;> decide
theorem kn_ok {z o x : BitVec 64} {i : Nat} (hz : z.getLsbD i = true → x.getLsbD i = false) (ho : o.getLsbD i = true → x.getLsbD i = true) : OrBit (kn z o i) (x.getLsbD i) := by
  unfold OrBit kn
  revert hz ho
  cases z.getLsbD i <;> cases o.getLsbD i <;> cases x.getLsbD i <;> decide
theorem car_ok {az ao bz bo a b : BitVec 64} {c0 : Int} {c : Bool} (hc : OrBit c0 c) : ∀ i, i ≤ 64 → (∀ j, j < i → OrBit (kn az ao j) (a.getLsbD j) ∧ OrBit (kn bz bo j) (b.getLsbD j)) → OrBit (car az ao bz bo c0 i) (BitVec.carry i a b c)
  | 0, _, _ => by
    show OrBit c0 _
    rw [BitVec.carry_zero]
    exact hc
  | i + 1, hi, h => by
    show OrBit (nxt (kn az ao i) (kn bz bo i) (car az ao bz bo c0 i)) _
    rw [BitVec.carry_succ]
    exact nxt_ok (h i (by omega)).1 (h i (by omega)).2 (car_ok hc i (by omega) fun j hj => h j (by omega))
theorem orb0 {x : Int} {b : Bool} (h : OrBit x b) (e : iEq x 0 = true) : b = false := by
  have e := iEq_true e
  subst e
  rcases h with h | h
  · omega
  · cases b with
    | false => rfl
    | true => exact absurd h (by decide)
theorem orb1 {x : Int} {b : Bool} (h : OrBit x b) (e : iEq x 1 = true) : b = true := by
  have e := iEq_true e
  subst e
  rcases h with h | h
  · omega
  · cases b with
    | true => rfl
    | false => exact absurd h (by decide)
section
variable {w : Nat} (hw1 : 1 ≤ w) (hw : w ≤ 64) {az ao bz bo a b : BitVec 64} (ha : In w az ao a)
 include hw ha
/-- A sum of a word and y, whose bits below w the second element knows. -/
theorem snd_sum {y : BitVec 64} {c0 : Int} {c : Bool} (hc : OrBit c0 c) (hy : ∀ j, j < w → OrBit (kn bz bo j) (y.getLsbD j)) : Snd w (adZ az ao bz bo c0 w) (adO az ao bz bo c0 w) ((a + y + (BitVec.ofBool c).setWidth 64) &&& M w) := by
  have key : ∀ i, i < w → OrBit (adB az ao bz bo c0 i) ((a + y + (BitVec.ofBool c).setWidth 64).getLsbD i) := fun i hi => by
    rw [BitVec.getLsbD_add_add_bool (by omega)]
    exact ob_ok (kn_ok (ha.zer i) (ha.one i)) (hy i hi) (car_ok hc i (by omega) fun j hj => ⟨kn_ok (ha.zer j) (ha.one j), hy j (by omega)⟩)
  refine Snd.of hw (fun i hi => ?_) fun i hi => ?_
  · unfold adZ adO
    rw [bvN_bit _ w hw, bvN_bit _ w hw, decide_eq_true hi, Bool.true_and, Bool.true_and, BitVec.getLsbD_and, M_bit w hw, decide_eq_true hi, Bool.and_true]
    exact ⟨orb0 (key i hi), orb1 (key i hi)⟩
  · unfold adZ adO
    rw [bvN_bit _ w hw, bvN_bit _ w hw, decide_eq_false (show ¬ i < w by omega), BitVec.getLsbD_and, M_bit w hw, decide_eq_false (show ¬ i < w by omega), Bool.and_false]
    exact ⟨rfl, rfl, rfl⟩
theorem snd_add (hb : In w bz bo b) : Snd w (adZ az ao bz bo 0 w) (adO az ao bz bo 0 w) ((a + b) &&& M w) := by
  have := snd_sum (y := b) (c0 := 0) (c := false) hw ha (.inr rfl) fun j _ => kn_ok (hb.zer j) (hb.one j)
  rw [show (BitVec.ofBool false).setWidth 64 = 0#64 from rfl, BitVec.add_zero] at this
  exact this
theorem snd_sub (hb : In w bz bo b) : Snd w (adZ az ao bo bz 1 w) (adO az ao bo bz 1 w) ((a - b) &&& M w) := by
  have := snd_sum (bz := bo) (bo := bz) (y := ~~~ b) (c0 := 1) (c := true) hw ha (.inr rfl) fun j hj => kn_ok (fun h => by rw [BitVec.getLsbD_not, hb.one j h, Bool.not_true, Bool.and_false]) (fun h => by rw [BitVec.getLsbD_not, hb.zer j h, decide_eq_true (by omega)]; rfl)
  rw [show (BitVec.ofBool true).setWidth 64 = 1#64 from rfl, show a + ~~~ b + 1#64 = a - b by rw [BitVec.add_assoc, ← BitVec.neg_eq_not_add, BitVec.sub_eq_add_neg]] at this
  exact this
end
end Go.Proofs.YtiadfnedbbkojaaDoor.Kb
namespace Go.Proofs.YtiadfnedbbkojaaDoor.Kb
open Go Go.Proofs Go.Proofs.YtiadfnedbbkojaaDoor.X Go.Proofs.YtiadfnedbbkojaaDoor.Bv
set_option linter.unusedSimpArgs false
set_option linter.unusedVariables false
theorem and_M_nat (x : BitVec 64) (k : Nat) (hk : k ≤ 64) : (x &&& M k).toNat = x.toNat % 2 ^ k := by
  rw [BitVec.toNat_and, M_nat k hk, Nat.and_two_pow_sub_one_eq_mod]
theorem mul_mask (x y : BitVec 64) (k : Nat) (hk : k ≤ 64) (i : Nat) (hi : i < k) : ((x &&& M k) * (y &&& M k)).getLsbD i = (x * y).getLsbD i := by
  rw [BitVec.getLsbD, BitVec.getLsbD, BitVec.toNat_mul, BitVec.toNat_mul, Nat.testBit_mod_two_pow, Nat.testBit_mod_two_pow, and_M_nat x k hk, and_M_nat y k hk]
  congr 1
  have h1 : ∀ n : Nat, n.testBit i = (n % 2 ^ k).testBit i := fun n => by rw [Nat.testBit_mod_two_pow, decide_eq_true hi, Bool.true_and]
  rw [h1, h1 (x.toNat * y.toNat), Nat.mul_mod (x.toNat % 2 ^ k), Nat.mod_mod, Nat.mod_mod, ← Nat.mul_mod]
theorem known_low {w : Nat} {z o x : BitVec 64} (h : In w z o x) (k : Nat) (hk : k ≤ tz (~~~ (z ||| o))) (hk64 : k ≤ 64) : x &&& M k = o &&& M k := by
  apply BitVec.eq_of_getLsbD_eq
  intro i hi
  rw [BitVec.getLsbD_and, BitVec.getLsbD_and, M_bit k hk64]
  by_cases hik : i < k
  · have hb := (tz_not (z ||| o)).1 i (by omega)
    have h1 := h.zer i
    have h2 := h.one i
    rw [BitVec.getLsbD_or] at hb
    rw [decide_eq_true hik]
    revert hb h1 h2
    cases z.getLsbD i <;> cases o.getLsbD i <;> cases x.getLsbD i <;> decide
  · rw [decide_eq_false hik, Bool.and_false, Bool.and_false]
theorem zero_low {w : Nat} {z o x : BitVec 64} (h : In w z o x) (j : Nat) (hj : j < tz (~~~ z)) : x.getLsbD j = false := h.zer j ((tz_not z).1 j hj)
section
variable {w : Nat} (hw1 : 1 ≤ w) (hw : w ≤ 64) {az ao bz bo a b : BitVec 64} (ha : In w az ao a) (hb : In w bz bo b)
 include hw ha hb
theorem snd_mul : Snd w (prZ w az ao bz bo) (prO w az ao bz bo) ((a * b) &&& M w) := by
  have hkw : pk w az ao bz bo ≤ w := by unfold pk; omega
  have hka : pk w az ao bz bo ≤ tz (~~~ (az ||| ao)) := by unfold pk; omega
  have hkb : pk w az ao bz bo ≤ tz (~~~ (bz ||| bo)) := by unfold pk; omega
  have hn : ∀ i, i < pk w az ao bz bo → (pn w az ao bz bo).getLsbD i = (a * b).getLsbD i := fun i hi => by
    unfold pn
    rw [← known_low ha _ hka (by omega), ← known_low hb _ hkb (by omega), mul_mask a b _ (by omega) i hi]
  have hz : ∀ i, i < min (tz (~~~ az) + tz (~~~ bz)) w → (a * b).getLsbD i = false := fun i hi => mul_low a b _ _ (zero_low ha) (zero_low hb) i (by omega)
  have pzb : ∀ i, (pz w az bz).getLsbD i = decide (i < min (tz (~~~ az) + tz (~~~ bz)) w) := fun i => M_bit _ (by omega) i
  refine Snd.of hw (fun i hi => ?_) fun i hi => ?_
  · have mw : (M (w : Int)).getLsbD i = true := by rw [M_bit w hw, decide_eq_true hi]
    unfold prZ prO
    rw [BitVec.getLsbD_or, BitVec.getLsbD_and, BitVec.getLsbD_and, BitVec.getLsbD_and, BitVec.getLsbD_and, BitVec.getLsbD_not, BitVec.getLsbD_not, mw, M_bit _ (by omega), pzb, decide_eq_true (show i < 64 by omega), Bool.true_and, Bool.true_and, Bool.and_true]
    by_cases h1 : i < min (tz (~~~ az) + tz (~~~ bz)) w
    · rw [hz i h1, decide_eq_true h1]
      exact ⟨fun _ => rfl, fun h => by rw [Bool.not_true, Bool.and_false] at h; cases h⟩
    · rw [decide_eq_false h1]
      by_cases h2 : i < pk w az ao bz bo
      · rw [hn i h2, decide_eq_true h2]
        cases (a * b).getLsbD i <;> decide
      · rw [decide_eq_false h2, Bool.and_false, Bool.and_false]
        exact ⟨fun h => absurd h (by decide), fun h => absurd h (by decide)⟩
  · unfold prZ prO
    rw [BitVec.getLsbD_or, BitVec.getLsbD_and, BitVec.getLsbD_and, BitVec.getLsbD_and, BitVec.getLsbD_and, M_bit _ (by omega), M_bit w hw, pzb, decide_eq_false (show ¬ i < w by omega), decide_eq_false (show ¬ i < pk w az ao bz bo by omega), decide_eq_false (show ¬ i < min (tz (~~~ az) + tz (~~~ bz)) w by omega), Bool.and_false, Bool.and_false, Bool.and_false]
    exact ⟨rfl, rfl, rfl⟩
 omit hb
/-- The leading known zeros bound the word. -/
theorem lead_lt : a.toNat < 2 ^ (w - ld w az) := bits_lt (w - ld w az) (by omega) a fun i hi => by
  rcases Nat.lt_or_ge i w with h | h
  · have := (ld_spec w hw az).1 (w - 1 - i) (by omega)
    rw [show w - 1 - (w - 1 - i) = i by omega] at this
    exact ha.zer i this
  · exact ha.out i h
theorem snd_hi {x : BitVec 64} (hx : x.toNat ≤ a.toNat) : Snd w (hi w (ld w az)) 0#64 x := by
  have hl := lead_lt hw ha
  have hbit : ∀ i, w - ld w az ≤ i → x.getLsbD i = false := fun i hi => Nat.testBit_lt_two_pow (Nat.lt_of_lt_of_le (Nat.lt_of_le_of_lt hx hl) (Nat.pow_le_pow_right (by omega) hi))
  refine Snd.of hw (fun i hi' => ?_) fun i hi' => ?_
  · rw [hi_bit w _ hw, decide_eq_true hi', Bool.true_and, BitVec.getLsbD_zero]
    exact ⟨fun h => hbit i (of_decide_eq_true h), fun h => absurd h (by decide)⟩
  · rw [hi_bit w _ hw, decide_eq_false (by omega), BitVec.getLsbD_zero, hbit i (by omega)]
    exact ⟨rfl, rfl, rfl⟩
 omit ha
theorem snd_none {x : BitVec 64} (hx : ∀ i, w ≤ i → x.getLsbD i = false) : Snd w 0#64 0#64 x := Snd.of hw (fun i _ => by
  rw [BitVec.getLsbD_zero]
  exact ⟨fun h => absurd h (by decide), fun h => absurd h (by decide)⟩) fun i hi => ⟨BitVec.getLsbD_zero, BitVec.getLsbD_zero, hx i hi⟩
/-- What an exact element contains. -/
theorem exact_eq {z o x : BitVec 64} (he : exB w z o = true) (h : In w z o x) : x = o := by
  unfold exB at he
  rw [Bool.and_eq_true, beq_iff_eq] at he
  obtain ⟨_, V⟩ := valB_iff hw he.1
  apply BitVec.eq_of_getLsbD_eq
  intro i hi
  rcases Nat.lt_or_ge i w with hl | hl
  · have hb : (z ||| o).getLsbD i = true := by rw [he.2, M_bit w hw, decide_eq_true hl]
    have h1 := h.zer i
    have h2 := h.one i
    rw [BitVec.getLsbD_or] at hb
    revert hb h1 h2
    cases z.getLsbD i <;> cases o.getLsbD i <;> cases x.getLsbD i <;> decide
  · rw [h.out i hl, (V.inM i hl).2]
 include ha hb
theorem snd_div : Snd w (if bo = 0#64 then 0#64 else hi w (ld w az)) 0#64 (if b = 0#64 then M w else a / b) := by
  by_cases h : bo = 0#64
  · rw [if_pos h]
    refine snd_none hw fun i hi => ?_
    split
    · rw [M_bit w hw, decide_eq_false (by omega)]
    · have hl := bits_lt w hw a ha.out
      rw [BitVec.getLsbD, BitVec.toNat_udiv]
      exact Nat.testBit_lt_two_pow (Nat.lt_of_le_of_lt (Nat.div_le_self _ _) (Nat.lt_of_lt_of_le hl (Nat.pow_le_pow_right (by omega) hi)))
  · have hb0 : b ≠ 0#64 := fun e => h (BitVec.eq_of_getLsbD_eq fun i hi => by
      rw [BitVec.getLsbD_zero]
      cases ho : bo.getLsbD i with
      | false => rfl
      | true =>
        have := hb.one i ho
        rw [e, BitVec.getLsbD_zero] at this
        cases this)
    rw [if_neg h, if_neg hb0]
    exact snd_hi hw ha (by rw [BitVec.toNat_udiv]; exact Nat.div_le_self _ _)
theorem snd_rem : Snd w (rmZ pcI w az bz bo) (rmO pcI w ao bz bo) (if b = 0#64 then a else a % b) := by
  have hle : (if b = 0#64 then a else a % b).toNat ≤ a.toNat := by
    split
    · exact Nat.le_refl _
    · rw [BitVec.toNat_umod]
      exact Nat.mod_le _ _
  have hh := snd_hi hw ha hle
  unfold rmZ rmO
  by_cases hc : exB w bz bo = true ∧ pcI bo = 1
  · obtain ⟨he, hp⟩ := hc
    obtain ⟨k, hk, hbk⟩ := (pc_one bo).1 hp
    have hbo := exact_eq hw he hb
    rw [he, decide_eq_true hp, Bool.and_true, cond_true, cond_true]
    have hb0 : b ≠ 0#64 := fun e => by
      rw [hbo, hbk] at e
      have : (sgn (k + 1)).getLsbD k = true := by rw [sgn_bit _ (by omega) (by omega)]; simp
      rw [show sgn (k + 1) = 1#64 <<< k from rfl, e, BitVec.getLsbD_zero] at this
      cases this
    have hbn : b.toNat = 2 ^ k := by
      rw [hbo, hbk, BitVec.toNat_shiftLeft, Nat.shiftLeft_eq, show (1#64).toNat = 1 from rfl, Nat.one_mul, Nat.mod_eq_of_lt (Nat.pow_lt_pow_right (by omega) hk)]
    have hbit : ∀ i, (a % b).getLsbD i = (decide (i < k) && a.getLsbD i) := fun i => by
      rw [BitVec.getLsbD, BitVec.toNat_umod, hbn, Nat.testBit_mod_two_pow]
      rfl
    rw [if_neg hb0] at hh ⊢
    rw [hbk, pow_sub1 k hk]
    refine Snd.of hw (fun i hi' => ?_) fun i hi' => ?_
    · have h1 := hh.mem.zer i
      have h2 := ha.zer i
      have h3 := ha.one i
      have hb' := hbit i
      rw [BitVec.getLsbD_or, BitVec.getLsbD_or, BitVec.getLsbD_and, BitVec.getLsbD_and, BitVec.getLsbD_and, BitVec.getLsbD_not, M_bit w hw, M_bit k (by omega), decide_eq_true hi', decide_eq_true (show i < 64 by omega)]
      revert h1 h2 h3 hb'
      cases (hi w (ld w az)).getLsbD i <;> cases decide (i < k) <;> cases az.getLsbD i <;> cases ao.getLsbD i <;> cases a.getLsbD i <;> cases (a % b).getLsbD i <;> decide
    · have h1 := hh.vd.inM i hi'
      rw [BitVec.getLsbD_or, BitVec.getLsbD_or, BitVec.getLsbD_and, BitVec.getLsbD_and, BitVec.getLsbD_and, h1.1, M_bit w hw, M_bit k (by omega), decide_eq_false (show ¬ i < w by omega), hh.mem.out i hi']
      have hkw : ¬ i < k := fun hik => by
        have : b.getLsbD k = true := by rw [hbo, hbk, show 1#64 <<< k = sgn (k + 1) from rfl, sgn_bit _ (by omega) (by omega)]; simp
        rw [hb.out k (by omega)] at this
        cases this
      rw [decide_eq_false hkw]
      simp
  · have hf : (exB w bz bo && decide (pcI bo = 1)) = false := by
      cases h1 : exB w bz bo with
      | false => rfl
      | true => rw [decide_eq_false fun h2 => hc ⟨h1, h2⟩]; rfl
    rw [hf]
    exact hh
end
end Go.Proofs.YtiadfnedbbkojaaDoor.Kb
namespace Go.Proofs.YtiadfnedbbkojaaDoor.Kb
open Go Go.Proofs Go.Proofs.YtiadfnedbbkojaaDoor.X Go.Proofs.YtiadfnedbbkojaaDoor.Bv
set_option linter.unusedSimpArgs false
set_option linter.unusedVariables false
/-- A bit of a shifted word. -/
def shx (op : Int) (w : Nat) (a b : BitVec 64) (i : Nat) : Bool :=
  if op = 12 then (if i < b.toNat then false else a.getLsbD (i - b.toNat)) else if i + b.toNat < w then a.getLsbD (i + b.toNat) else if op = 13 then false else a.getLsbD (w - 1)
def shW (op : Int) (w : Nat) (a b : BitVec 64) : BitVec 64 :=
  if op = 12 then (if w ≤ b.toNat then 0#64 else (a <<< b.toNat) &&& M w) else if op = 13 then bvN (shf w a b false) w else bvN (shf w a b (a.getLsbD (w - 1))) w
theorem shW_bit (op : Int) (ho : op = 12 ∨ op = 13 ∨ op = 14) (w : Nat) (hw : w ≤ 64) (a b : BitVec 64) (i : Nat) (hi : i < w) : (shW op w a b).getLsbD i = shx op w a b i := by
  unfold shW shx
  rcases ho with rfl | rfl | rfl
  · rw [if_pos rfl, if_pos rfl]
    by_cases h : w ≤ b.toNat
    · rw [if_pos h, BitVec.getLsbD_zero, if_pos (by omega)]
    · rw [if_neg h, BitVec.getLsbD_and, M_bit w hw, decide_eq_true hi, Bool.and_true, BitVec.getLsbD_shiftLeft, decide_eq_true (show i < 64 by omega), Bool.true_and]
      by_cases h2 : i < b.toNat
      · rw [if_pos h2, decide_eq_true h2]
        rfl
      · rw [if_neg h2, decide_eq_false h2]
        rfl
  · simp only [show ¬ ((13 : Int) = 12) by decide, if_true, if_false]
    rw [bvN_bit _ w hw, decide_eq_true hi, Bool.true_and]
    unfold shf
    by_cases h : i + b.toNat < w
    · rw [if_pos h, decide_eq_true h, decide_eq_true (show b.toNat < w by omega)]
      rfl
    · rw [if_neg h, decide_eq_false h, Bool.and_false]
      rfl
  · simp only [show ¬ ((14 : Int) = 12) by decide, show ¬ ((14 : Int) = 13) by decide, if_false]
    rw [bvN_bit _ w hw, decide_eq_true hi, Bool.true_and]
    unfold shf
    by_cases h : i + b.toNat < w
    · rw [if_pos h, decide_eq_true h, decide_eq_true (show b.toNat < w by omega)]
      rfl
    · rw [if_neg h, decide_eq_false h, Bool.and_false]
      rfl
theorem shW_out (op : Int) (w : Nat) (hw : w ≤ 64) (a b : BitVec 64) (i : Nat) (hi : w ≤ i) : (shW op w a b).getLsbD i = false := by
  unfold shW
  split
  · split
    · exact BitVec.getLsbD_zero
    · rw [BitVec.getLsbD_and, M_bit w hw, decide_eq_false (by omega), Bool.and_false]
  · split
    · rw [bvN_bit _ w hw, decide_eq_false (by omega), Bool.false_and]
    · rw [bvN_bit _ w hw, decide_eq_false (by omega), Bool.false_and]
/-- A bit of what is known about it, by a known count. -/
def shk (op : Int) (w : Nat) (az ao : BitVec 64) (s : Nat) (v : Int) (i : Nat) : Bool :=
  if op = 12 then (if i < s then iEq 0 v else bt v az ao (i - s)) else if i + s < w then bt v az ao (i + s) else if op = 13 then iEq 0 v else bt v az ao (w - 1)
theorem rgV_bit (op : Int) (ho : op = 12 ∨ op = 13 ∨ op = 14) (w : Nat) (h1 : 1 ≤ w) (hw : w ≤ 64) (az ao bz bo : BitVec 64) (A : Vd2 w az ao) (he : exB w bz bo = true) (v : Int) (hv : v = 0 ∨ v = 1) (i : Nat) (hi : i < w) :
    (rgV op w az ao bz bo v).getLsbD i = shk op w az ao (amt w bo) v i := by
  have ha := amt_le w bo
  unfold rgV shk
  rw [if_pos he]
  rcases ho with rfl | rfl | rfl
  · rw [if_pos rfl, if_pos rfl, bvN_bit _ w hw, decide_eq_true hi, Bool.true_and, shv_left w h1 hw az ao A _ ha v hv i hi]
  · simp only [show ¬ ((13 : Int) = 12) by decide, if_true, if_false]
    rw [bvN_bit _ w hw, decide_eq_true hi, Bool.true_and, shv_right w h1 hw az ao A _ ha 0 v hv i hi]
  · simp only [show ¬ ((14 : Int) = 12) by decide, show ¬ ((14 : Int) = 13) by decide, if_false]
    rw [bvN_bit _ w hw, decide_eq_true hi, Bool.true_and, shv_right w h1 hw az ao A _ ha _ v hv i hi, knv A.dis hv]
theorem rgV_out (op : Int) (w : Nat) (hw : w ≤ 64) (az ao bz bo : BitVec 64) (v : Int) (i : Nat) (hi : w ≤ i) : (rgV op w az ao bz bo v).getLsbD i = false := by
  have key : ∀ f : Nat → Bool, (bvN f w).getLsbD i = false := fun f => by rw [bvN_bit _ w hw, decide_eq_false (by omega), Bool.false_and]
  unfold rgV
  repeat' split
  all_goals first | exact key _ | exact BitVec.getLsbD_zero
section
variable {w : Nat} (hw1 : 1 ≤ w) (hw : w ≤ 64) {az ao bz bo a b : BitVec 64} (A : Vd2 w az ao) (ha : In w az ao a) (hb : In w bz bo b)
theorem bt_in (h : In w az ao a) (v : Int) (hv : v = 0 ∨ v = 1) (i : Nat) (hbt : bt v az ao i = true) : a.getLsbD i = iEq 1 v := by
  unfold bt at hbt
  rcases hv with rfl | rfl
  · rw [if_pos rfl] at hbt
    exact h.zer i hbt
  · rw [if_neg (by decide)] at hbt
    exact h.one i hbt
 include hw1 hw A ha hb
theorem snd_shx (op : Int) (ho : op = 12 ∨ op = 13 ∨ op = 14) (he : exB w bz bo = true) (v : Int) (hv : v = 0 ∨ v = 1) (i : Nat) (hi : i < w) (hk : shk op w az ao (amt w bo) v i = true) : shx op w a b i = iEq 1 v := by
  have _ := hw1
  have _ := A
  have hbo := exact_eq hw he hb
  have ham : amt w bo = if b.toNat < w then b.toNat else w := by unfold amt; rw [hbo]
  have e0 : iEq 0 v = true → false = iEq 1 v := fun h => by
    rcases hv with rfl | rfl
    · rfl
    · exact absurd h (by decide)
  unfold shk at hk
  unfold shx
  by_cases h12 : op = 12
  · rw [if_pos h12] at hk ⊢
    by_cases hs : b.toNat < w
    · rw [ham, if_pos hs] at hk
      by_cases hib : i < b.toNat
      · rw [if_pos hib] at hk ⊢
        exact e0 hk
      · rw [if_neg hib] at hk ⊢
        exact bt_in ha v hv _ hk
    · rw [ham, if_neg hs, if_pos hi] at hk
      rw [if_pos (by omega)]
      exact e0 hk
  · rw [if_neg h12] at hk ⊢
    by_cases hs : i + b.toNat < w
    · rw [ham, if_pos (show b.toNat < w by omega), if_pos hs] at hk
      rw [if_pos hs]
      exact bt_in ha v hv _ hk
    · rw [if_neg hs]
      have hn : ¬ i + amt w bo < w := by rw [ham]; split <;> omega
      rw [if_neg hn] at hk
      by_cases h13 : op = 13
      · rw [if_pos h13] at hk ⊢
        exact e0 hk
      · rw [if_neg h13] at hk ⊢
        exact bt_in ha v hv _ hk
/-- A shift by an amount that is not known. -/
theorem snd_vague (op : Int) (ho : op = 12 ∨ op = 13 ∨ op = 14) (he : exB w bz bo = false) (v : Int) (hv : v = 0 ∨ v = 1) (i : Nat) (hi : i < w) (hk : (rgV op w az ao bz bo v).getLsbD i = true) : shx op w a b i = iEq 1 v := by
  have _ := hb
  have key := vg_eq w hw1 hw az ao bz bo A op ho he
  have lead : ∀ (k : BitVec 64) (j : Nat), w - ld w k ≤ j → j < w → k.getLsbD j = true := fun k j h1 h2 => by
    have := (ld_spec w hw k).1 (w - 1 - j) (by omega)
    rwa [show w - 1 - (w - 1 - j) = j by omega] at this
  rcases hv with rfl | rfl
  · rw [← key.1] at hk
    rcases ho with rfl | rfl | rfl
    · rw [if_pos rfl, M_bit _ (by omega), decide_eq_true_iff] at hk
      unfold shx
      rw [if_pos rfl]
      split
      · rfl
      · exact zero_low ha _ (by omega)
    · rw [if_neg (by decide), hi_bit w _ hw, Bool.and_eq_true, decide_eq_true_iff, decide_eq_true_iff] at hk
      unfold shx
      rw [if_neg (by decide)]
      split
      · exact ha.zer _ (lead az _ (by omega) (by omega))
      · rw [if_pos rfl]
        rfl
    · rw [if_neg (by decide), hi_bit w _ hw, Bool.and_eq_true, decide_eq_true_iff, decide_eq_true_iff] at hk
      unfold shx
      rw [if_neg (by decide)]
      split
      · exact ha.zer _ (lead az _ (by omega) (by omega))
      · rw [if_neg (by decide)]
        exact ha.zer _ (lead az _ (by omega) (by omega))
  · rw [← key.2] at hk
    rcases ho with rfl | rfl | rfl
    · rw [if_pos rfl, BitVec.getLsbD_zero] at hk
      cases hk
    · rw [if_neg (by decide), if_pos rfl, BitVec.getLsbD_zero] at hk
      cases hk
    · rw [if_neg (by decide), if_neg (by decide), hi_bit w _ hw, Bool.and_eq_true, decide_eq_true_iff, decide_eq_true_iff] at hk
      unfold shx
      rw [if_neg (by decide)]
      split
      · exact ha.one _ (lead ao _ (by omega) (by omega))
      · rw [if_neg (by decide)]
        exact ha.one _ (lead ao _ (by omega) (by omega))
theorem snd_shift (op : Int) (ho : op = 12 ∨ op = 13 ∨ op = 14) : Snd w (rgV op w az ao bz bo 0) (rgV op w az ao bz bo 1) (shW op w a b) := by
  have go : ∀ v, v = 0 ∨ v = 1 → ∀ i, i < w → (rgV op w az ao bz bo v).getLsbD i = true → (shW op w a b).getLsbD i = iEq 1 v := fun v hv i hi h => by
    rw [shW_bit op ho w hw a b i hi]
    cases he : exB w bz bo with
    | true =>
      rw [rgV_bit op ho w hw1 hw az ao bz bo A he v hv i hi] at h
      exact snd_shx hw1 hw A ha hb op ho he v hv i hi h
    | false => exact snd_vague hw1 hw A ha hb op ho he v hv i hi h
  exact Snd.of hw (fun i hi => ⟨fun h => go 0 (.inl rfl) i hi h, fun h => go 1 (.inr rfl) i hi h⟩) fun i hi => ⟨rgV_out op w hw az ao bz bo 0 i hi, rgV_out op w hw az ao bz bo 1 i hi, shW_out op w hw a b i hi⟩
end
end Go.Proofs.YtiadfnedbbkojaaDoor.Kb
namespace Go.Proofs.YtiadfnedbbkojaaDoor.Kb
open Go Go.Proofs Go.Proofs.YtiadfnedbbkojaaDoor.X Go.Proofs.YtiadfnedbbkojaaDoor.Bv
set_option linter.unusedSimpArgs false
set_option linter.unusedVariables false
theorem snd_dec {yes no b : Bool} (h1 : yes = true → b = true) (h2 : no = true → b = false) : Snd 1 (dZ yes no) (dO yes) (cond b 1#64 0#64) := by
  refine Snd.of (by omega) (fun i hi => ?_) fun i hi => ?_
  · obtain rfl : i = 0 := by omega
    revert h1 h2
    cases yes <;> cases no <;> cases b <;> decide
  · have k1 : (1#64).getLsbD i = false := by
      rw [BitVec.getLsbD_one]
      simp
      omega
    have k0 : (0#64).getLsbD i = false := BitVec.getLsbD_zero
    cases yes <;> cases no <;> cases b <;> exact ⟨by first | exact k0 | exact k1, by first | exact k0 | exact k1, by first | exact k0 | exact k1⟩
theorem in_most {w : Nat} (hw : w ≤ 64) {z o x : BitVec 64} (h : In w z o x) : x ≤ M w &&& ~~~ z := sub_le (by
  apply BitVec.eq_of_getLsbD_eq
  intro i hi
  rw [BitVec.getLsbD_and, BitVec.getLsbD_and, BitVec.getLsbD_not, M_bit w hw, decide_eq_true hi]
  have hz := h.zer i
  by_cases hiw : i < w
  · rw [decide_eq_true hiw]
    revert hz
    cases z.getLsbD i <;> cases x.getLsbD i <;> decide
  · rw [h.out i (by omega), Bool.false_and])
theorem in_least {w : Nat} {z o x : BitVec 64} (h : In w z o x) : o ≤ x := sub_le (by
  apply BitVec.eq_of_getLsbD_eq
  intro i hi
  have ho := h.one i
  rw [BitVec.getLsbD_and]
  revert ho
  cases o.getLsbD i <;> cases x.getLsbD i <;> decide)
theorem in_flip {w : Nat} (h1 : 1 ≤ w) (hw : w ≤ 64) {z o x : BitVec 64} (h : In w z o x) : In w (flz w z o) (flz w o z) (x ^^^ sgn w) := by
  have b1 : ∀ p q : BitVec 64, ∀ i, i < 64 → (flz w p q).getLsbD i = ((p.getLsbD i && !decide (i = w - 1)) || (q.getLsbD i && decide (i = w - 1))) := fun p q i hi => by
    unfold flz
    rw [BitVec.getLsbD_or, BitVec.getLsbD_and, BitVec.getLsbD_and, BitVec.getLsbD_not, sgn_bit w h1 hw, decide_eq_true hi, Bool.true_and]
  have bx : ∀ i, (x ^^^ sgn w).getLsbD i = (x.getLsbD i ^^ decide (i = w - 1)) := fun i => by rw [BitVec.getLsbD_xor, sgn_bit w h1 hw]
  refine ⟨fun i hf => ?_, fun i hf => ?_, fun i hi => ?_⟩
  · by_cases hi : i < 64
    · rw [b1 _ _ i hi] at hf
      rw [bx]
      have h2 := h.zer i
      have h3 := h.one i
      revert hf h2 h3
      cases z.getLsbD i <;> cases o.getLsbD i <;> cases x.getLsbD i <;> cases decide (i = w - 1) <;> decide
    · exact out64 _ hi
  · by_cases hi : i < 64
    · rw [b1 _ _ i hi] at hf
      rw [bx]
      have h2 := h.zer i
      have h3 := h.one i
      revert hf h2 h3
      cases z.getLsbD i <;> cases o.getLsbD i <;> cases x.getLsbD i <;> cases decide (i = w - 1) <;> decide
    · rw [out64 _ hi] at hf
      cases hf
  · rw [bx, h.out i hi, decide_eq_false (by omega)]
    rfl
def cmB (op : Int) (w0 : Nat) (a b : BitVec 64) : Bool :=
  if op = 15 then a == b else if op = 16 then !(a == b) else if op = 17 then decide (a < b) else if op = 18 then decide (a ≤ b) else if op = 19 then (rsg w0 a).slt (rsg w0 b) else (rsg w0 a).sle (rsg w0 b)
section
variable {w : Nat} (hw1 : 1 ≤ w) (hw : w ≤ 64) {az ao bz bo a b : BitVec 64} (A : Vd2 w az ao) (B : Vd2 w bz bo) (ha : In w az ao a) (hb : In w bz bo b)
 include hw1 hw A B ha hb
theorem differ_ne (h : (!(ao &&& bz == 0#64) || !(az &&& bo == 0#64)) = true) : (a == b) = false := by
  have _ := hw1
  have _ := hw
  have _ := A
  have _ := B
  refine beq_eq_false_iff_ne.2 fun e => ?_
  subst e
  have h1 : ao &&& bz = 0#64 := BitVec.eq_of_getLsbD_eq fun i hi => by
    have h2 := ha.one i
    have h3 := hb.zer i
    rw [BitVec.getLsbD_and, BitVec.getLsbD_zero]
    revert h2 h3
    cases ao.getLsbD i <;> cases bz.getLsbD i <;> cases a.getLsbD i <;> decide
  have h4 : az &&& bo = 0#64 := BitVec.eq_of_getLsbD_eq fun i hi => by
    have h2 := ha.zer i
    have h3 := hb.one i
    rw [BitVec.getLsbD_and, BitVec.getLsbD_zero]
    revert h2 h3
    cases az.getLsbD i <;> cases bo.getLsbD i <;> cases a.getLsbD i <;> decide
  rw [h1, h4] at h
  exact absurd h (by decide)
theorem cmp_dec (op : Int) (ho : 15 ≤ op ∧ op ≤ 20) : (cY op w az ao bz bo = true → cmB op w a b = true) ∧ (cN op w az ao bz bo = true → cmB op w a b = false) := by
  have u1 := in_most hw ha
  have u2 := in_most hw hb
  have l1 := in_least ha
  have l2 := in_least hb
  have fa := in_flip hw1 hw ha
  have fb := in_flip hw1 hw hb
  have v1 := in_most hw fa
  have v2 := in_most hw fb
  have m1 := in_least fa
  have m2 := in_least fb
  obtain ⟨c1, c2⟩ := rsg_cmp w hw1 hw (shi' w az ao) (slo w bz bo) (shi_in w hw1 hw az ao A) (slo_in w hw1 hw bz bo B)
  obtain ⟨d1, d2⟩ := rsg_cmp w hw1 hw (shi' w bz bo) (slo w az ao) (shi_in w hw1 hw bz bo B) (slo_in w hw1 hw az ao A)
  obtain ⟨e1, e2⟩ := rsg_cmp w hw1 hw a b ha.out hb.out
  rw [shi_flip w hw1 hw az ao A, slo_flip w hw1 hw bz bo B] at c1 c2
  rw [shi_flip w hw1 hw bz bo B, slo_flip w hw1 hw az ao A] at d1 d2
  rw [BitVec.le_def] at u1 u2 l1 l2 v1 v2 m1 m2
  have cases6 : op = 15 ∨ op = 16 ∨ op = 17 ∨ op = 18 ∨ op = 19 ∨ op = 20 := by omega
  rcases cases6 with rfl | rfl | rfl | rfl | rfl | rfl
  · refine ⟨fun h => absurd (show false = true from h) Bool.false_ne_true, fun h => ?_⟩
    exact differ_ne hw1 hw A B ha hb h
  · refine ⟨fun h => ?_, fun h => absurd (show false = true from h) Bool.false_ne_true⟩
    show (!(a == b)) = true
    rw [differ_ne hw1 hw A B ha hb h]
    rfl
  · refine ⟨fun h => ?_, fun h => ?_⟩
    · have h : M w &&& ~~~az < bo := of_decide_eq_true h
      rw [BitVec.lt_def] at h
      exact decide_eq_true (by rw [BitVec.lt_def]; omega)
    · have h : M w &&& ~~~bz ≤ ao := of_decide_eq_true h
      rw [BitVec.le_def] at h
      exact decide_eq_false (by rw [BitVec.lt_def]; omega)
  · refine ⟨fun h => ?_, fun h => ?_⟩
    · have h : M w &&& ~~~az ≤ bo := of_decide_eq_true h
      rw [BitVec.le_def] at h
      exact decide_eq_true (by rw [BitVec.le_def]; omega)
    · have h : M w &&& ~~~bz < ao := of_decide_eq_true h
      rw [BitVec.lt_def] at h
      exact decide_eq_false (by rw [BitVec.le_def]; omega)
  · refine ⟨fun h => ?_, fun h => ?_⟩
    · have h : (rsg w (shi' w az ao)).slt (rsg w (slo w bz bo)) = true := h
      rw [c1, decide_eq_true_iff, BitVec.lt_def] at h
      show (rsg w a).slt (rsg w b) = true
      rw [e1, decide_eq_true_iff, BitVec.lt_def]
      omega
    · have h : (rsg w (shi' w bz bo)).sle (rsg w (slo w az ao)) = true := h
      rw [d2, decide_eq_true_iff, BitVec.le_def] at h
      show (rsg w a).slt (rsg w b) = false
      rw [e1, decide_eq_false_iff_not, BitVec.lt_def]
      omega
  · refine ⟨fun h => ?_, fun h => ?_⟩
    · have h : (rsg w (shi' w az ao)).sle (rsg w (slo w bz bo)) = true := h
      rw [c2, decide_eq_true_iff, BitVec.le_def] at h
      show (rsg w a).sle (rsg w b) = true
      rw [e2, decide_eq_true_iff, BitVec.le_def]
      omega
    · have h : (rsg w (shi' w bz bo)).slt (rsg w (slo w az ao)) = true := h
      rw [d1, decide_eq_true_iff, BitVec.lt_def] at h
      show (rsg w a).sle (rsg w b) = false
      rw [e2, decide_eq_false_iff_not, BitVec.le_def]
      omega
theorem snd_cmp (op : Int) (ho : 15 ≤ op ∧ op ≤ 20) : Snd 1 (dZ (cY op w az ao bz bo) (cN op w az ao bz bo)) (dO (cY op w az ao bz bo)) (cond (cmB op w a b) 1#64 0#64) :=
  snd_dec (cmp_dec hw1 hw A B ha hb op ho).1 (cmp_dec hw1 hw A B ha hb op ho).2
end
section
variable {w w0 : Nat} (hw1 : 1 ≤ w) (hw : w ≤ 64) (h01 : 1 ≤ w0) {az ao a : BitVec 64} (A : Vd2 w0 az ao) (ha : In w0 az ao a)
 include hw1 hw h01 A ha
theorem snd_zx (h : w0 ≤ w) : Snd w (az ||| bvN (zrf w 0 (w - w0)) w) (ao ||| 0#64) (a &&& M w) := by
  have _ := hw1
  have _ := h01
  rw [BitVec.or_zero]
  refine Snd.of hw (fun i hi => ?_) fun i hi => ?_
  · rw [BitVec.getLsbD_or, bvN_bit _ w hw, BitVec.getLsbD_and, M_bit w hw, decide_eq_true hi, Bool.true_and, Bool.and_true]
    refine ⟨fun hp => ?_, fun hq => ha.one i hq⟩
    rw [Bool.or_eq_true] at hp
    rcases hp with hp | hp
    · exact ha.zer i hp
    · unfold zrf at hp
      rw [decide_eq_false (Nat.not_lt_zero i), Bool.false_or, decide_eq_true_iff] at hp
      exact ha.out i (by omega)
  · rw [BitVec.getLsbD_or, bvN_bit _ w hw, BitVec.getLsbD_and, M_bit w hw, decide_eq_false (show ¬ i < w by omega), (A.inM i (by omega)).1, (A.inM i (by omega)).2, Bool.and_false]
    exact ⟨rfl, rfl, rfl⟩
theorem snd_sx (h : w0 ≤ w) : Snd w (az ||| bvN (hiF w0 (kn az ao (w0 - 1)) 0) w) (ao ||| bvN (hiF w0 (kn az ao (w0 - 1)) 1) w) (rsg w0 a &&& M w) := by
  have hv : Vd w0 a := Vd.of (by omega) ha.out
  have bit : ∀ i, i < w → (rsg w0 a &&& M w).getLsbD i = if i < w0 then a.getLsbD i else a.getLsbD (w0 - 1) := fun i hi => by
    rw [BitVec.getLsbD_and, M_bit w hw, decide_eq_true hi, Bool.and_true, rsg_bit h01 (by omega) hv (by omega)]
  refine Snd.of hw (fun i hi => ?_) fun i hi => ?_
  · rw [BitVec.getLsbD_or, BitVec.getLsbD_or, bvN_bit _ w hw, bvN_bit _ w hw, bit i hi, decide_eq_true hi, Bool.true_and, Bool.true_and]
    unfold hiF
    rw [kn0 A.dis, kn1]
    by_cases hi0 : i < w0
    · rw [if_pos hi0, decide_eq_false (show ¬ w0 ≤ i by omega), Bool.false_and, Bool.false_and, Bool.or_false, Bool.or_false]
      exact ⟨ha.zer i, ha.one i⟩
    · rw [if_neg hi0, (A.inM i (by omega)).1, (A.inM i (by omega)).2, Bool.false_or, Bool.false_or, decide_eq_true (show w0 ≤ i by omega), Bool.true_and, Bool.true_and]
      exact ⟨ha.zer _, ha.one _⟩
  · rw [BitVec.getLsbD_or, BitVec.getLsbD_or, bvN_bit _ w hw, bvN_bit _ w hw, BitVec.getLsbD_and, M_bit w hw, decide_eq_false (show ¬ i < w by omega), (A.inM i (by omega)).1, (A.inM i (by omega)).2, Bool.and_false]
    exact ⟨rfl, rfl, rfl⟩
theorem snd_tr : Snd w (az &&& M w) (ao &&& M w) (a &&& M w) := by
 have _ := hw1
 have _ := h01
 have _ := A
 exact Snd.of hw (fun i hi => by
  rw [BitVec.getLsbD_and, BitVec.getLsbD_and, BitVec.getLsbD_and, M_bit w hw, decide_eq_true hi, Bool.and_true, Bool.and_true, Bool.and_true]
  exact ⟨ha.zer i, ha.one i⟩) fun i hi => by
  rw [BitVec.getLsbD_and, BitVec.getLsbD_and, BitVec.getLsbD_and, M_bit w hw, decide_eq_false (show ¬ i < w by omega), Bool.and_false, Bool.and_false, Bool.and_false]
  exact ⟨rfl, rfl, rfl⟩
end
theorem snd_sel {w : Nat} (hw : w ≤ 64) {az ao bz bo cz co a b c : BitVec 64} (B : Vd2 w bz bo) (C : Vd2 w cz co) (ha : In 1 az ao a) (hb : In w bz bo b) (hc : In w cz co c) :
    Snd w (if exB 1 az ao then (if ao = 1#64 then (bz, bo) else (cz, co)) else (bz &&& cz, bo &&& co)).1 (if exB 1 az ao then (if ao = 1#64 then (bz, bo) else (cz, co)) else (bz &&& cz, bo &&& co)).2 (if a = 1#64 then b else c) := by
  cases he : exB 1 az ao with
  | true =>
    have ea : a = ao := exact_eq (w := 1) (by omega) he ha
    rw [ea]
    by_cases h1 : ao = 1#64
    · rw [if_pos rfl, if_pos h1, if_pos h1]
      exact ⟨B, hb⟩
    · rw [if_pos rfl, if_neg h1, if_neg h1]
      exact ⟨C, hc⟩
  | false =>
    rw [if_neg (by decide)]
    have go : ∀ x : BitVec 64, (∀ i, (bz.getLsbD i && cz.getLsbD i) = true → x.getLsbD i = false) → (∀ i, (bo.getLsbD i && co.getLsbD i) = true → x.getLsbD i = true) → (∀ i, w ≤ i → x.getLsbD i = false) → Snd w (bz &&& cz) (bo &&& co) x := fun x h1 h2 h3 =>
      Snd.of hw (fun i hi => by
        rw [BitVec.getLsbD_and, BitVec.getLsbD_and]
        exact ⟨h1 i, h2 i⟩) fun i hi => by
        rw [BitVec.getLsbD_and, BitVec.getLsbD_and, (B.inM i hi).1, (B.inM i hi).2, h3 i hi]
        exact ⟨rfl, rfl, rfl⟩
    split
    · exact go b (fun i h => hb.zer i (Bool.and_eq_true _ _ ▸ h).1) (fun i h => hb.one i (Bool.and_eq_true _ _ ▸ h).1) hb.out
    · exact go c (fun i h => hc.zer i (Bool.and_eq_true _ _ ▸ h).2) (fun i h => hc.one i (Bool.and_eq_true _ _ ▸ h).2) hc.out
theorem vd_srem {w : Nat} (h1 : 1 ≤ w) (hw : w ≤ 64) {a b : BitVec 64} (ha : ∀ i, w ≤ i → a.getLsbD i = false) (op : Int) (i : Nat) (hi : w ≤ i) : (if op = 7 then dvq w a b else dvr w a b).getLsbD i = false := by
  have hm : ∀ x : BitVec 64, (x &&& M w).getLsbD i = false := fun x => by rw [BitVec.getLsbD_and, M_bit w hw, decide_eq_false (by omega), Bool.and_false]
  unfold dvq dvr
  repeat' split
  all_goals first | exact hm _ | exact ha i hi | exact BitVec.getLsbD_zero | (rw [M_bit w hw, decide_eq_false (by omega)])
/-- Two operands. -/
theorem snd_two (op : Int) (ho : 2 ≤ op ∧ op ≤ 20) {w w0 : Nat} (h1 : 1 ≤ w) (hw : w ≤ 64) (h01 : 1 ≤ w0) (hw0 : w0 ≤ 64) (hs : op ≤ 14 → w0 = w) (hc : 15 ≤ op → w = 1) {az ao bz bo a b : BitVec 64} (cz co : BitVec 64) (A : Vd2 w0 az ao) (B : Vd2 w0 bz bo) (ha : In w0 az ao a) (hb : In w0 bz bo b) :
    Snd w (apR op w w0 az ao bz bo cz co).1 (apR op w w0 az ao bz bo cz co).2 (ev2 op w w0 a b) := by
  by_cases h14 : op ≤ 14
  · obtain rfl := hs h14
    have c13 : op = 2 ∨ op = 3 ∨ op = 4 ∨ op = 5 ∨ op = 6 ∨ (op = 7 ∨ op = 8) ∨ op = 9 ∨ op = 10 ∨ op = 11 ∨ (op = 12 ∨ op = 13 ∨ op = 14) := by omega
    rcases c13 with rfl | rfl | rfl | rfl | rfl | c | rfl | rfl | rfl | c
    · exact snd_add hw ha hb
    · exact snd_sub hw ha hb
    · have := snd_mul hw ha hb
      rw [(pr_eq w0 hw az ao bz bo A.dis B.dis).1, (pr_eq w0 hw az ao bz bo A.dis B.dis).2] at this
      exact this
    · have := snd_div hw ha hb
      rw [hi_zrf w0 _ hw (ld_le w0 hw az), ← rld_0 A.dis w0 hw] at this
      exact this
    · have := snd_rem hw ha hb
      rw [(rm_eq w0 h1 hw az ao bz bo A.dis).1, (rm_eq w0 h1 hw az ao bz bo A.dis).2] at this
      exact this
    · have := snd_none hw (x := if op = 7 then dvq w0 a b else dvr w0 a b) (vd_srem h1 hw ha.out op)
      rcases c with rfl | rfl
      · exact this
      · exact this
    · exact snd_and hw A B ha hb
    · exact snd_or hw A B ha hb
    · exact snd_xor hw A B ha hb
    · have := snd_shift h1 hw A ha hb op c
      rcases c with rfl | rfl | rfl
      · exact this
      · exact this
      · exact this
  · obtain rfl := hc (by omega)
    have := snd_cmp h01 hw0 A B ha hb op (by omega)
    have c6 : op = 15 ∨ op = 16 ∨ op = 17 ∨ op = 18 ∨ op = 19 ∨ op = 20 := by omega
    rcases c6 with rfl | rfl | rfl | rfl | rfl | rfl
    · exact this
    · exact this
    · exact this
    · exact this
    · exact this
    · exact this
end Go.Proofs.YtiadfnedbbkojaaDoor.Kb
namespace Go.Proofs.YtiadfnedbbkojaaDoor.Kb
open Go Go.Proofs Go.Proofs.YtiadfnedbbkojaaDoor.X Go.Proofs.YtiadfnedbbkojaaDoor.Bv
set_option linter.unusedSimpArgs false
set_option linter.unusedVariables false
/-- The words of the operands: one each, which the element contains. -/
def AllIn : List Int → List El → List (BitVec 64) → Prop
  | x :: L, e :: E, a :: X => In x.toNat e.1 e.2 a ∧ AllIn L E X
  | [], [], [] => True
  | _, _, _ => False
/-- The value of an operator for words, by the reference. -/
def evO (op w : Int) (L : List Int) (X : List (BitVec 64)) (num : BitVec 64) : BitVec 64 :=
  if op = 1 then num &&& M w
  else if op = 21 then (if X.getD 0 0#64 = 1#64 then X.getD 1 0#64 else X.getD 2 0#64)
  else if op = 22 ∨ op = 23 ∨ op = 24 then (if op = 23 then rsg (w0O L) (X.getD 0 0#64) else X.getD 0 0#64) &&& M w
  else ev2 op w.toNat (w0O L) (X.getD 0 0#64) (X.getD 1 0#64)
theorem sound_apx {op w : Int} {L : List Int} {E : List El} (F : Fit op w L E) (hx : (L.zip E).all Opd.e = false) {X : List (BitVec 64)} (hX : AllIn L E X) (num : BitVec 64) :
    Snd w.toNat (apO apR op w L E).1 (apO apR op w L E).2 (evO op w L X num) := by
  obtain ⟨⟨hw1, hw64⟩, hc⟩ := F.cases
  obtain ⟨w, rfl⟩ : ∃ v : Nat, w = v := ⟨w.toNat, by omega⟩
  unfold apO evO
  rw [show ((w : Int)).toNat = w from Int.toNat_natCast w]
  rcases hc with ⟨rfl, rfl, rfl⟩ | ⟨ho, rfl, ea, eb, rfl, va, vb⟩ | ⟨ho, ew, x, ea, eb, rfl, hx1, rfl, va, vb⟩ | ⟨rfl, rfl, ea, eb, ec, rfl, va, vb, vc⟩ | ⟨ho, x, ea, hxw, hx1, rfl, rfl, va⟩ | ⟨rfl, x, ea, hxw, hx1, rfl, rfl, va⟩
  · cases hx
  · match X, hX with
    | [a, b], ⟨ha, hb, _⟩ =>
      rw [if_neg (by omega), if_neg (by omega), if_neg (by omega)]
      exact snd_two op (by omega) (by omega) (by omega) (by show 1 ≤ ((w : Int)).toNat; omega) (by show ((w : Int)).toNat ≤ 64; omega) (fun _ => Int.toNat_natCast w) (fun h => by omega) _ _ (vd2_of va) (vd2_of vb) ha hb
  · match X, hX with
    | [a, b], ⟨ha, hb, _⟩ =>
      rw [if_neg (by omega), if_neg (by omega), if_neg (by omega)]
      exact snd_two op (by omega) (by omega) (by omega) (by show 1 ≤ x.toNat; omega) (by show x.toNat ≤ 64; omega) (fun h => by omega) (fun h => by omega) _ _ (vd2_of va) (vd2_of vb) ha hb
  · match X, hX with
    | [a, b, c], ⟨ha, hb, hc, _⟩ =>
      rw [if_neg (by decide), if_pos rfl]
      exact snd_sel (w := w) (by omega) (by have := vd2_of vb; rwa [Int.toNat_natCast] at this) (by have := vd2_of vc; rwa [Int.toNat_natCast] at this) ha (by rwa [Int.toNat_natCast] at hb) (by rwa [Int.toNat_natCast] at hc)
  · match X, hX with
    | [a], ⟨ha, _⟩ =>
      have A := vd2_of va
      rw [if_neg (by omega), if_neg (by omega), if_pos (by omega)]
      rcases ho with rfl | rfl
      · exact snd_zx (w0 := x.toNat) (by omega) (by omega) (by omega) A ha (by omega)
      · exact snd_sx (w0 := x.toNat) (by omega) (by omega) (by omega) A ha (by omega)
  · match X, hX with
    | [a], ⟨ha, _⟩ =>
      have A := vd2_of va
      rw [if_neg (by decide), if_neg (by decide), if_pos (by decide), if_neg (by decide)]
      exact snd_tr (w0 := x.toNat) (by omega) (by omega) (by omega) A ha
/-- The reference's value, as it is computed. -/
theorem eval_run {op w : Int} {L : List Int} {E : List El} (F : Fit op w L E) {X : List (BitVec 64)} (hX : AllIn L E X) (num : BitVec 64) (N : Nat) (hN : 70 ≤ N) (g : AH) (wa na : Option Addr) (wn wc nn nc : Nat) (G : WF g)
    (SW : Sl g wa (L.map fun n => .int .i64 n)) (SA : Sl g na (row1 X)) (hwn : wn = L.length) (hnn : nn = X.length) :
    runS Tryd.prog N 16 [.int .i64 op, .int .i64 w, .slice wa wn wc, .slice na nn nc, .int .u64 (U num)] g = some (.int .u64 (U (evO op w L X num)), g) := by
  obtain ⟨n, rfl⟩ : ∃ n, N = n + 70 := ⟨N - 70, by omega⟩
  obtain ⟨⟨hw1, hw64⟩, hc⟩ := F.cases
  obtain ⟨w, rfl⟩ : ∃ v : Nat, w = v := ⟨w.toNat, by omega⟩
  have hw1' : 1 ≤ w := by omega
  have hw' : w ≤ 64 := by omega
  unfold evO
  rw [show ((w : Int)).toNat = w from Int.toNat_natCast w]
  rcases hc with ⟨rfl, rfl, rfl⟩ | ⟨ho, rfl, ea, eb, rfl, va, vb⟩ | ⟨ho, ew, x, ea, eb, rfl, hx1, rfl, va, vb⟩ | ⟨rfl, rfl, ea, eb, ec, rfl, va, vb, vc⟩ | ⟨ho, x, ea, hxw, hx1, rfl, rfl, va⟩ | ⟨rfl, x, ea, hxw, hx1, rfl, rfl, va⟩
  · match X, hX with
    | [], _ =>
      rw [if_pos rfl]
      exact eval0 n g G w 1 hw1' hw' (by decide) (by decide) wa wn wc [] SW hwn na nn nc [] SA (by rw [wds_len]; exact hnn) num
  · match X, hX with
    | [a, b], _ =>
      rw [if_neg (by omega), if_neg (by omega), if_neg (by omega)]
      have := eval2 n g G w w hw1' hw' hw1' hw' wa wn wc _ SW hwn na nn nc [a, b] SA (by rw [wds_len]; exact hnn) num op (by omega) a b rfl rfl rfl
      rw [show w0O [(w : Int), w] = w from Int.toNat_natCast w]
      exact this
  · obtain ⟨x, rfl⟩ : ∃ v : Nat, x = v := ⟨x.toNat, by omega⟩
    match X, hX with
    | [a, b], _ =>
      rw [if_neg (by omega), if_neg (by omega), if_neg (by omega)]
      have := eval2 n g G w x hw1' hw' (by omega) (by omega) wa wn wc _ SW hwn na nn nc [a, b] SA (by rw [wds_len]; exact hnn) num op (by omega) a b rfl rfl rfl
      rw [show w0O [(x : Int), x] = x from Int.toNat_natCast x]
      exact this
  · match X, hX with
    | [a, b, c], _ =>
      rw [if_neg (by decide), if_pos rfl]
      exact eval3 n g G w 1 hw1' hw' (by decide) (by decide) wa wn wc _ SW hwn na nn nc [a, b, c] SA (by rw [wds_len]; exact hnn) num a b c rfl
  · obtain ⟨x, rfl⟩ : ∃ v : Nat, x = v := ⟨x.toNat, by omega⟩
    match X, hX with
    | [a], _ =>
      rw [if_neg (by omega), if_neg (by omega), if_pos (by omega)]
      have := eval1 n g G w x hw1' hw' (by omega) (by omega) wa wn wc _ SW hwn na nn nc [a] SA (by rw [wds_len]; exact hnn) num op (by omega) a rfl rfl
      rw [show w0O [(x : Int)] = x from Int.toNat_natCast x]
      exact this
  · obtain ⟨x, rfl⟩ : ∃ v : Nat, x = v := ⟨x.toNat, by omega⟩
    match X, hX with
    | [a], _ =>
      rw [if_neg (by decide), if_neg (by decide), if_pos (by decide)]
      have := eval1 n g G w x hw1' hw' (by omega) (by omega) wa wn wc _ SW hwn na nn nc [a] SA (by rw [wds_len]; exact hnn) num 24 (by decide) a rfl rfl
      rw [show w0O [(x : Int)] = x from Int.toNat_natCast x]
      exact this
theorem val_of {w : Nat} (h1 : 1 ≤ w) (hw : w ≤ 64) {z o : BitVec 64} (V : Vd2 w z o) : valB w z o = true := by
  unfold valB
  rw [Bool.and_eq_true, Bool.and_eq_true, beq_iff_eq, beq_iff_eq]
  refine ⟨goodB_iff.2 ⟨by omega, by omega⟩, BitVec.eq_of_getLsbD_eq fun i hi => ?_, V.dis⟩
  rw [BitVec.getLsbD_and, BitVec.getLsbD_or, BitVec.getLsbD_not, M_bit w hw, BitVec.getLsbD_zero, decide_eq_true hi]
  by_cases hiw : i < w
  · rw [decide_eq_true hiw]
    simp
  · rw [(V.inM i (by omega)).1, (V.inM i (by omega)).2]
    rfl
theorem in_contains {w : Nat} {z o x : BitVec 64} (h : In w z o x) : ((x &&& z) == 0#64 && (x &&& o) == o) = true := by
  rw [Bool.and_eq_true, beq_iff_eq, beq_iff_eq]
  constructor
  · apply BitVec.eq_of_getLsbD_eq
    intro i hi
    have h1 := h.zer i
    rw [BitVec.getLsbD_and, BitVec.getLsbD_zero]
    revert h1
    cases z.getLsbD i <;> cases x.getLsbD i <;> decide
  · apply BitVec.eq_of_getLsbD_eq
    intro i hi
    have h1 := h.one i
    rw [BitVec.getLsbD_and]
    revert h1
    cases o.getLsbD i <;> cases x.getLsbD i <;> decide
/-- What exact operands contain. -/
theorem all_exact : ∀ {L : List Int} {E : List El} {X : List (BitVec 64)}, (L.zip E).all Opd.v = true → (L.zip E).all Opd.e = true → AllIn L E X → X = (L.zip E).map Opd.o
  | [], [], [], _, _, _ => rfl
  | x :: L, e :: E, a :: X, hv, he, ⟨h1, h2⟩ => by
    have hv : (valB x e.1 e.2 && (L.zip E).all Opd.v) = true := hv
    have he : (exB x e.1 e.2 && (L.zip E).all Opd.e) = true := he
    rw [Bool.and_eq_true] at hv he
    show a :: X = e.2 :: (L.zip E).map Opd.o
    have hg : goodB x = true := by
      have := hv.1
      unfold valB at this
      rw [Bool.and_eq_true] at this
      exact this.1
    have hx := goodB_iff.1 hg
    obtain ⟨x, rfl⟩ : ∃ v : Nat, x = v := ⟨x.toNat, by omega⟩
    rw [Int.toNat_natCast] at h1
    rw [exact_eq (by omega) he.1 h1, all_exact hv.2 he.2 h2]
  | [], _ :: _, _, _, _, h => by cases h
  | _ :: _, [], _, _, _, h => by cases h
  | [], [], _ :: _, _, _, h => by cases h
  | _ :: _, _ :: _, [], _, _, h => by cases h
end Go.Proofs.YtiadfnedbbkojaaDoor.Kb
namespace Go.Proofs.YtiadfnedbbkojaaDoor.Kb
open Go Go.Proofs Go.Proofs.YtiadfnedbbkojaaDoor.X Go.Proofs.YtiadfnedbbkojaaDoor.Bv
set_option linter.unusedSimpArgs false
set_option linter.unusedVariables false
abbrev caseV (op w num : Int) (wa ea : Option Addr) (wn wc en ec : Nat) : Value := .agg #[.int .i64 op, .int .i64 w, .slice wa wn wc, .slice ea en ec, .int .u64 num]
abbrev caseC (op w num : Int) (wa ea : Option Addr) (wn wc en ec : Nat) : List Value := [.int .i64 op, .int .i64 w, .slice wa wn wc, .slice ea en ec, .int .u64 num]
theorem CaseAt.kp {h g : AH} {wa ea : Option Addr} {wn en : Nat} {L : List Int} {E : List El} (C : CaseAt h wa wn ea en L E) (K : Kp h g) : CaseAt g wa wn ea en L E :=
  ⟨K.wf, C.tab.kp C.wf K, C.sw.kp C.wf K, C.hwn, C.se.kp C.wf K, C.hen⟩
theorem CaseAt.low {h : AH} {wa ea : Option Addr} {wn en : Nat} {L : List Int} {E : List El} (C : CaseAt h wa wn ea en L E) (x : Nat) : CaseAt (setLow h x) wa wn ea en L E :=
  ⟨C.wf.setLow x, C.tab, C.sw, C.hwn, C.se, C.hen⟩
theorem own_loc {h : AH} (H : WF h) (cs : List Value) : Own (loc h [cs]) h.next cs := by
  obtain ⟨g1, e1, K1, F1, O1, n1⟩ := (Kp.start H).new cs 0
  have : loc h [cs] = g1 := by
    have e := hNew_loc h [] cs
    rw [show loc h [] = setLow h h.next from rfl, e1] at e
    exact (congrArg Prod.snd (Option.some.inj e)).symm
  rw [this]
  exact O1
section
variable (N : Nat) (hN : 75 ≤ N) (h b : AH) (hbl : b.low = h.next) (hbn : h.next < b.next) (op w num : Int) (wa ea : Option Addr) (wn wc en ec : Nat) (L : List Int) (E : List El) (C : CaseAt b wa wn ea en L E) (hlen : L.length = E.length) (hL : L.length ≤ 20)
  (O : Own b h.next (caseC op w num wa ea wn wc en ec))
 include hN hbl hbn C hlen hL O
theorem rightL : ∀ (k i m0 : Nat) (g : AH), k < m0 → i + k = E.length → Kp b g →
    c12_1 N m0 h ⟨h.next, 0, none⟩ ea en ec (Int.ofNat en) i g = some (.bool ((L.zip E).drop i |>.all Opd.v), h) := by
  have B := C.wf
  have hz : (L.zip E).length = E.length := by rw [List.length_zip]; omega
  intro k
  induction k with
  | zero =>
    intro i m0 g hm hi K
    obtain ⟨m0, rfl⟩ : ∃ g, m0 = g + 1 := ⟨m0 - 1, by omega⟩
    have := C.hen
    refine c12_1_ok ?_
    rw [c12_1_eq, show iLt (i : Int) (Int.ofNat en) = false from iLt_false (by show ((en : Nat) : Int) ≤ i; omega), cond_false, List.drop_eq_nil_of_le (by omega), exit_low (K.low.trans hbl) rfl]
    rfl
  | succ k ih =>
    intro i m0 g hm hi K
    obtain ⟨m0, rfl⟩ : ∃ g, m0 = g + 1 := ⟨m0 - 1, by omega⟩
    have hen := C.hen
    have hil : i < (L.zip E).length := by omega
    have hq : (L.zip E)[i]? = some (L.zip E)[i] := List.getElem?_eq_getElem hil
    generalize hqe : (L.zip E)[i] = q at hq
    have hE : (pU E)[i]? = some (U q.2.1, U q.2.2) := by
      rw [← zip_els hlen]
      unfold els
      rw [List.getElem?_map, hq]
      rfl
    have hW : L[i]? = some q.1 := by
      have := (List.getElem?_zip_eq_some.1 hq).1
      exact this
    have hel : en = (pU E).length := by
      unfold pU
      rw [List.length_map, hen]
    have hdrop : (L.zip E).drop i = q :: (L.zip E).drop (i + 1) := by
      rw [List.drop_eq_getElem_cons hil, hqe]
    have hlow : b.low ≤ b.next := by omega
    obtain ⟨g1, e1, K1, F1, O1, n1⟩ := K.new [.int .u64 0, .int .u64 0] 0
    obtain ⟨g2, e2, K2, F2, O2, n2⟩ := K1.st hlow (o := 0) (vs := [.int .u64 (U q.2.1), .int .u64 (U q.2.2)]) O1 K.nxt (Nat.le_refl _)
    rw [putAt0] at O2
    simp only [List.length_cons, List.length_nil, List.drop_succ_cons, List.drop_nil, List.append_nil] at O2
    have Oc := O.kp B K2
    have Sg := C.se.kp B K
    have Sw := C.sw.kp B K2
    obtain ⟨n, rfl⟩ : ∃ n, N = n + 67 := ⟨N - 67, by omega⟩
    have hval := rvalid n g2 K2.wf q.1 q.2.1 q.2.2
    have ih := ih (i + 1) m0 g2 (by omega) (by omega) K2
    rw [show ((i + 1 : Nat) : Int) = (i : Int) + 1 by omega] at ih
    refine c12_1_ok ?_
    rw [c12_1_eq, show iLt (i : Int) (Int.ofNat en) = true from iLt_true (by show (i : Int) < ((en : Nat) : Int); omega), cond_true]
    simp only [Int.toNat_natCast]
    rw [rowp Sg hel i _ hE]
    simp only [e1, bindS, e2, add_lit, Oc.rd, Nat.zero_add, Nat.add_zero, List.getElem?_cons_zero, List.getElem?_cons_succ, gL_sl]
    rw [row_at' Sw C.hwn i q.1 hW]
    simp only [O2.rd, Nat.zero_add, List.getElem?_cons_zero, List.getElem?_cons_succ, gI_int, bindS, hval, gB_bool]
    rw [show valB q.1 q.2.1 q.2.2 = Opd.v q from rfl, hdrop, List.all_cons, iAdd_i64 (by omega) (by omega)]
    cases hv : Opd.v q with
    | false =>
      simp only [Bool.not_false, cond_true, Bool.false_and]
      rw [exit_low (K2.low.trans hbl) rfl]
    | true =>
      simp only [Bool.not_true, cond_false, Bool.true_and]
      exact ih
end
/-- The guard. -/
def rightB (op w : Int) (L : List Int) (E : List El) : Bool := (decide (L.length ≤ 8) && decide (E.length ≤ 8)) && (shp op w L && (decide (L.length = E.length) && (L.zip E).all Opd.v))
theorem right (N : Nat) (hN : 80 ≤ N) (h : AH) (op w num : Int) (wa ea : Option Addr) (wn wc en ec : Nat) (L : List Int) (E : List El) (C : CaseAt h wa wn ea en L E) :
    runS Tryd.prog N 12 [caseV op w num wa ea wn wc en ec] h = some (.bool (rightB op w L E), h) := by
  have H := C.wf
  have hwn := C.hwn
  have hen := C.hen
  obtain ⟨m, rfl, hm⟩ : ∃ m, N = m + 1 ∧ 79 ≤ m := ⟨N - 1, by omega, by omega⟩
  have hfw : ∀ g, WF g → runS Tryd.prog m 9 [caseV op w num wa ea wn wc en ec] g = some (.bool (decide (wn ≤ 8) && decide (en ≤ 8)), g) := fun g G => by
    obtain ⟨n, rfl⟩ : ∃ n, m = n + 1 := ⟨m - 1, by omega⟩
    exact few n g G op w _ wa ea wn wc en ec
  have C1 := C.loc' [caseC op w num wa ea wn wc en ec]
  unfold rightB
  rw [← hwn, ← hen]
  refine t12_ok ?_
  rw [t12]
  simp only [lrd H, lrd0 H, lst H, lst0 H, List.getElem?_cons_zero, List.getElem?_cons_succ, putAt0, putAt1, List.drop_succ_cons, List.drop_zero, List.drop_nil, List.set_cons_zero, List.set_cons_succ, List.append_nil, ble_self, ble12, gI_int, gB_bool, gS_str, gL_sl, gP_ptr, bindS, cond_true, cond_false, low_loc h, setLow_low, setLow_next, setLow_set, setLow_loc, setLow_self, hNew_loc, loc_next, loc_low, Nat.beq_refl, add_lit, List.nil_append, List.cons_append, List.length_cons, List.length_nil, Nat.zero_add, Nat.add_zero, Nat.reduceAdd, hfw _ (loc_wf H _), add_lit]
  by_cases h1 : wn ≤ 8
  · by_cases h2 : en ≤ 8
    · have hsh : runS Tryd.prog m 17 [.int .i64 op, .int .i64 w, .slice wa wn wc] (loc h [caseC op w num wa ea wn wc en ec]) = some (.bool (shp op w L), loc h [caseC op w num wa ea wn wc en ec]) := by
        obtain ⟨n, rfl⟩ : ∃ n, m = n + 30 := ⟨m - 30, by omega⟩
        exact rshape n _ C1.wf op w wa wn wc L C1.sw C1.hwn (by omega)
      rw [decide_eq_true h1, decide_eq_true h2]
      simp only [Bool.true_and, Bool.not_true, lrd H, lrd0 H, lst H, lst0 H, List.getElem?_cons_zero, List.getElem?_cons_succ, putAt0, putAt1, List.drop_succ_cons, List.drop_zero, List.drop_nil, List.set_cons_zero, List.set_cons_succ, List.append_nil, ble_self, ble12, gI_int, gB_bool, gS_str, gL_sl, gP_ptr, bindS, cond_true, cond_false, low_loc h, setLow_low, setLow_next, setLow_set, setLow_loc, setLow_self, hNew_loc, loc_next, loc_low, Nat.beq_refl, add_lit, List.nil_append, List.cons_append, List.length_cons, List.length_nil, Nat.zero_add, Nat.add_zero, Nat.reduceAdd, hsh]
      cases hs : shp op w L with
      | false => simp only [Bool.not_false, Bool.false_and, gI_int, gB_bool, gS_str, gL_sl, gP_ptr, bindS, cond_true, cond_false, exitR_bool, exitR_int, exitR_ints, exitR_ii, exitR_ib]
      | true =>
        simp only [Bool.not_true, Bool.true_and, lrd H, lrd0 H, lst H, lst0 H, List.getElem?_cons_zero, List.getElem?_cons_succ, putAt0, putAt1, List.drop_succ_cons, List.drop_zero, List.drop_nil, List.set_cons_zero, List.set_cons_succ, List.append_nil, ble_self, ble12, gI_int, gB_bool, gS_str, gL_sl, gP_ptr, bindS, cond_true, cond_false, low_loc h, setLow_low, setLow_next, setLow_set, setLow_loc, setLow_self, hNew_loc, loc_next, loc_low, Nat.beq_refl, add_lit, List.nil_append, List.cons_append, List.length_cons, List.length_nil, Nat.zero_add, Nat.add_zero, Nat.reduceAdd]
        by_cases hl : wn = en
        · rw [show iNe (Int.ofNat en) (Int.ofNat wn) = false from by rw [hl]; exact bne_self_eq_false _, cond_false, decide_eq_true hl, Bool.true_and]
          refine c12_0_ok ?_
          rw [c12_0_eq]
          simp only [lrd H, lrd0 H, lst H, lst0 H, List.getElem?_cons_zero, List.getElem?_cons_succ, putAt0, putAt1, List.drop_succ_cons, List.drop_zero, List.drop_nil, List.set_cons_zero, List.set_cons_succ, List.append_nil, ble_self, ble12, gI_int, gB_bool, gS_str, gL_sl, gP_ptr, bindS, cond_true, cond_false, low_loc h, setLow_low, setLow_next, setLow_set, setLow_loc, setLow_self, hNew_loc, loc_next, loc_low, Nat.beq_refl, add_lit, List.nil_append, List.cons_append, List.length_cons, List.length_nil, Nat.zero_add, Nat.add_zero, Nat.reduceAdd, add_lit]
          have := rightL m (by omega) h (loc h [caseC op w num wa ea wn wc en ec]) rfl (Nat.lt_succ_self _) op w num wa ea wn wc en ec L E C1 (by omega) (by omega) (own_loc H _) E.length 0 m _ (by omega) (by omega) (Kp.refl C1.wf)
          rw [List.drop_zero] at this
          exact this
        · rw [show iNe (Int.ofNat en) (Int.ofNat wn) = true from bne_iff_ne.2 (fun e => hl (Int.ofNat.inj e).symm), decide_eq_false hl, Bool.false_and]
          simp only [gI_int, gB_bool, gS_str, gL_sl, gP_ptr, bindS, cond_true, cond_false, exitR_bool, exitR_int, exitR_ints, exitR_ii, exitR_ib]
    · rw [decide_eq_false h2, Bool.and_false, Bool.false_and]
      simp only [Bool.not_false, gI_int, gB_bool, gS_str, gL_sl, gP_ptr, bindS, cond_true, cond_false, exitR_bool, exitR_int, exitR_ints, exitR_ii, exitR_ib]
  · rw [decide_eq_false h1, Bool.false_and, Bool.false_and]
    simp only [Bool.not_false, gI_int, gB_bool, gS_str, gL_sl, gP_ptr, bindS, cond_true, cond_false, exitR_bool, exitR_int, exitR_ints, exitR_ii, exitR_ib]
theorem right_fit {op w : Int} {L : List Int} {E : List El} (h : rightB op w L E = true) : Fit op w L E ∧ L.length ≤ 8 ∧ E.length ≤ 8 := by
  unfold rightB at h
  simp only [Bool.and_eq_true, decide_eq_true_iff] at h
  exact ⟨⟨h.2.1, h.2.2.1, h.2.2.2⟩, h.1.1, h.1.2⟩
end Go.Proofs.YtiadfnedbbkojaaDoor.Kb
namespace Go.Proofs.YtiadfnedbbkojaaDoor.Kb
open Go Go.Proofs Go.Proofs.YtiadfnedbbkojaaDoor.X Go.Proofs.YtiadfnedbbkojaaDoor.Bv
set_option linter.unusedSimpArgs false
set_option linter.unusedVariables false
/-- The word of an operand. -/
def wdO (q : Opd) (p : BitVec 64) : BitVec 64 := q.2.2 ||| (p &&& (M q.1 &&& ~~~ (q.2.1 ||| q.2.2)))
def wdsO (Z : List Opd) (P : List (BitVec 64)) (i : Nat) : BitVec 64 := wdO (Z.getD i (0, 0#64, 0#64)) (P.getD i 0#64)
theorem exit_sl {h g : AH} (e : g.low = h.next) (a : Option Addr) (n c : Nat) (hh : a = none → n = 0 ∧ c = 0) : exitR h g (.slice a n c) = (.slice a n c, match a with | none => h | some _ => setLow g h.low) := by
  unfold exitR
  cases a with
  | none =>
    obtain ⟨rfl, rfl⟩ := hh rfl
    rw [e, Nat.beq_refl]
    rfl
  | some a =>
    rw [show plainV (.slice (some a) n c) = false from rfl, Bool.and_false, cond_false, e]
    have : Nat.blt h.next h.next = false := by
      cases hb : Nat.blt h.next h.next with
      | false => rfl
      | true => exact absurd (Nat.le_of_ble_eq_true hb) (by omega)
    rw [this]
    rfl
section
variable (N : Nat) (hN : 75 ≤ N) (h b : AH) (hbl : b.low = h.next) (hbn : h.next < b.next) (op w num : Int) (wa ea pa : Option Addr) (wn wc en ec pn pc : Nat) (L : List Int) (E : List El) (P : List (BitVec 64)) (C : CaseAt b wa wn ea en L E) (hlen : L.length = E.length) (hL : L.length ≤ 20)
  (SP : Sl b pa (row1 P)) (hpn : pn = P.length) (hw : ∀ q ∈ L.zip E, 1 ≤ q.1 ∧ q.1 ≤ 64)
  (O : Own b h.next (caseC op w num wa ea wn wc en ec))
 include hN hbl hbn C hlen hL SP hpn hw O
theorem wordsL : ∀ (k i m0 : Nat) (g : AH) (a : Option Addr) (ac G : Nat), k < m0 → i + k = E.length → Kp b g → Row g a i ac 1 G (row1 ((List.range i).map (wdsO (L.zip E) P))) → b.next ≤ G → G ≤ g.next →
    ∃ (a' : Option Addr) (c' G' : Nat) (g' : AH), Kp b g' ∧ Row g' a' E.length c' 1 G' (row1 ((List.range E.length).map (wdsO (L.zip E) P))) ∧ c21_0 N m0 h pa pn pc ⟨h.next, 0, none⟩ a i ac ea en ec (Int.ofNat en) i g = some (exitR h g' (.slice a' E.length c')) := by
  have B := C.wf
  have hz : (L.zip E).length = E.length := by rw [List.length_zip]; omega
  intro k
  induction k with
  | zero =>
    intro i m0 g a ac G hm hi K R hG1 hG2
    obtain ⟨m0, rfl⟩ : ∃ g, m0 = g + 1 := ⟨m0 - 1, by omega⟩
    have := C.hen
    obtain rfl : i = E.length := by omega
    refine ⟨a, ac, G, g, K, R, ?_⟩
    refine c21_0_ok ?_
    rw [c21_0_eq, show iLt (E.length : Int) (Int.ofNat en) = false from iLt_false (by show ((en : Nat) : Int) ≤ _; omega), cond_false]
  | succ k ih =>
    intro i m0 g a ac G hm hi K R hG1 hG2
    obtain ⟨m0, rfl⟩ : ∃ g, m0 = g + 1 := ⟨m0 - 1, by omega⟩
    have hen := C.hen
    have hil : i < (L.zip E).length := by omega
    have hq : (L.zip E)[i]? = some (L.zip E)[i] := List.getElem?_eq_getElem hil
    generalize hqe : (L.zip E)[i] = q at hq
    have hqm : q ∈ L.zip E := List.mem_of_getElem? hq
    have hqw := hw q hqm
    have hE : (pU E)[i]? = some (U q.2.1, U q.2.2) := by
      rw [← zip_els hlen]
      unfold els
      rw [List.getElem?_map, hq]
      rfl
    have hW : L[i]? = some q.1 := (List.getElem?_zip_eq_some.1 hq).1
    have hel : en = (pU E).length := by
      unfold pU
      rw [List.length_map, hen]
    have hlow : b.low ≤ b.next := by omega
    obtain ⟨g1, e1, K1, F1, O1, n1⟩ := K.new [.int .u64 0, .int .u64 0] 0
    obtain ⟨g2, e2, K2, F2, O2, n2⟩ := K1.st hlow (o := 0) (vs := [.int .u64 (U q.2.1), .int .u64 (U q.2.2)]) O1 K.nxt (Nat.le_refl _)
    rw [putAt0] at O2
    simp only [List.length_cons, List.length_nil, List.drop_succ_cons, List.drop_nil, List.append_nil] at O2
    have Oc := O.kp B K2
    have Sg := C.se.kp B K
    have Sw := C.sw.kp B K2
    have Sp := SP.kp B K2
    have R2 : Row g2 a i ac 1 G (row1 ((List.range i).map (wdsO (L.zip E) P))) := by
      rcases R with R | ⟨β, e, r1, r2, r3, r4, r5, r6⟩
      · exact .inl R
      · exact Row.fr (.inr ⟨β, e, r1, r2, r3, r4, r5, r6⟩) (F1.trans F2) (fun hx => by simp only [List.mem_append, List.mem_singleton, or_self] at hx; omega) fun β' e' hx => by
          rw [e] at e'
          injection e' with e'
          injection e' with e'
          simp only [List.mem_append, List.mem_singleton, or_self] at hx
          omega
    -- the tail of a round, for the pick p
    have tailR : ∀ p : BitVec 64, p = P.getD i 0#64 → ∃ (a' : Option Addr) (c' G' : Nat) (g' : AH), Kp b g' ∧ Row g' a' E.length c' 1 G' (row1 ((List.range E.length).map (wdsO (L.zip E) P))) ∧
        c21_1 N m0 h pa pn pc ⟨h.next, 0, none⟩ a i ac i ⟨g.next, 0, none⟩ (U p) ea en ec (Int.ofNat en) i g2 = some (exitR h g' (.slice a' E.length c')) := fun p hp => by
      have hx : wdsO (L.zip E) P i = wdO q p := by
        unfold wdsO
        rw [List.getD_eq_getElem?_getD, hq, ← hp]
        rfl
      obtain ⟨g3, g4, a', G', e3, e4, R4, K4, hG', hG4, _, _, _⟩ := K2.app (by_ := 8) hlow R2 hG1 (by omega) (vs := [.int .u64 (U (wdO q p))]) rfl (by decide) (by omega)
      rw [← row1_snoc, ← hx, ← List.map_singleton (f := wdsO (L.zip E) P), ← List.map_append, ← List.range_succ] at R4
      obtain ⟨a2, c2, G2, g5, K5, R5, e5⟩ := ih (i + 1) m0 g4 a' OPEN G' (by omega) (by omega) K4 R4 hG' hG4
      rw [show ((i + 1 : Nat) : Int) = (i : Int) + 1 by omega] at e5
      refine ⟨a2, c2, G2, g5, K5, R5, ?_⟩
      obtain ⟨x, hx1⟩ : ∃ x : Nat, q.1 = x := ⟨q.1.toNat, by omega⟩
      have hmk := mkN (show 67 ≤ N by omega) (setLow g2 g2.next) x (by omega)
      have e3' : hNew g2 [.int .u64 (U (q.2.2 ||| (p &&& (M (x : Int) &&& ~~~(q.2.1 ||| q.2.2)))))] 1 = some (g2.next, g3) := by
        rw [← e3]
        unfold wdO
        rw [hx1]
      refine c21_1_ok ?_
      rw [c21_1_eq]
      simp only [add_lit, Oc.rd, Nat.zero_add, Nat.add_zero, List.getElem?_cons_zero, List.getElem?_cons_succ, gI_int, gB_bool, bindS, cond_true, cond_false, gL_sl, Int.toNat_natCast]
      rw [row_at' Sw C.hwn i q.1 hW, hx1]
      simp only [hmk, Nat.zero_add, Nat.add_zero, List.getElem?_cons_zero, List.getElem?_cons_succ, gI_int, gB_bool, bindS, cond_true, cond_false, setLow_low, Nat.beq_refl, setLow_set, setLow_self, setLow_next, add_lit, O2.rd, i_and, i_or, i_xor, i_andNot, i_not, i_add, i_sub, i_mulS, i_neg, i_eq, i_ne', i_lt, i_le, e3', e4]
      rw [iAdd_i64 (by omega) (by omega)]
      exact e5
    have hlp : (row1 P).length = P.length := by
      unfold row1 wds
      rw [List.length_map, List.length_map]
    by_cases hip : i < P.length
    · obtain ⟨a', c', G', g', t1, t2, t3⟩ := tailR (P.getD i 0#64) rfl
      refine ⟨a', c', G', g', t1, t2, ?_⟩
      have hPi : (wds P)[i]? = some (U (P.getD i 0#64)) := by
        unfold wds
        rw [List.getElem?_map, List.getD_eq_getElem?_getD, List.getElem?_eq_getElem hip]
        rfl
      refine c21_0_ok ?_
      rw [c21_0_eq, show iLt (i : Int) (Int.ofNat en) = true from iLt_true (by show (i : Int) < ((en : Nat) : Int); omega), cond_true]
      simp only [Int.toNat_natCast]
      rw [rowp Sg hel i _ hE]
      simp only [e1, bindS, e2]
      rw [show iLt (i : Int) (Int.ofNat pn) = true from iLt_true (by show (i : Int) < ((pn : Nat) : Int); omega), cond_true]
      have Sp' : Sl g2 pa ((wds P).map fun n => .int .u64 n) := Sp
      rw [row_at' Sp' (by rw [hpn, wds_len]) i _ hPi]
      exact t3
    · obtain ⟨a', c', G', g', t1, t2, t3⟩ := tailR 0#64 (by rw [List.getD_eq_getElem?_getD, List.getElem?_eq_none (by omega)]; rfl)
      refine ⟨a', c', G', g', t1, t2, ?_⟩
      refine c21_0_ok ?_
      rw [c21_0_eq, show iLt (i : Int) (Int.ofNat en) = true from iLt_true (by show (i : Int) < ((en : Nat) : Int); omega), cond_true]
      simp only [Int.toNat_natCast]
      rw [rowp Sg hel i _ hE]
      simp only [e1, bindS, e2]
      rw [show iLt (i : Int) (Int.ofNat pn) = false from iLt_false (by show ((pn : Nat) : Int) ≤ i; omega), cond_false]
      exact t3
end
def wordsO (L : List Int) (E : List El) (P : List (BitVec 64)) : List (BitVec 64) := (List.range E.length).map (wdsO (L.zip E) P)
theorem words (N : Nat) (hN : 80 ≤ N) (h : AH) (op w num : Int) (wa ea pa : Option Addr) (wn wc en ec pn pc : Nat) (L : List Int) (E : List El) (P : List (BitVec 64)) (C : CaseAt h wa wn ea en L E) (hlen : L.length = E.length) (hL : L.length ≤ 20)
    (SP : Sl h pa (row1 P)) (hpn : pn = P.length) (hw : ∀ q ∈ L.zip E, 1 ≤ q.1 ∧ q.1 ≤ 64) (hlo : h.low ≤ h.next) :
    ∃ (a : Option Addr) (c : Nat) (g : AH), runS Tryd.prog N 21 [caseV op w num wa ea wn wc en ec, .slice pa pn pc] h = some (.slice a E.length c, g) ∧ Kp h g ∧ Sl g a (row1 (wordsO L E P)) := by
  obtain ⟨m, rfl, hm⟩ : ∃ m, N = m + 1 ∧ 79 ≤ m := ⟨N - 1, by omega, by omega⟩
  have H := C.wf
  have C1 := C.loc' [caseC op w num wa ea wn wc en ec]
  have SP1 := SP.loc H [caseC op w num wa ea wn wc en ec]
  obtain ⟨a', c', G', g', K, R, e⟩ := wordsL m (by omega) h (loc h [caseC op w num wa ea wn wc en ec]) rfl (Nat.lt_succ_self _) op w num wa ea pa wn wc en ec pn pc L E P C1 hlen hL SP1 hpn hw (own_loc H _) E.length 0 m _ none 0 (h.next + 1) (by omega) (by omega) (Kp.refl C1.wf) (Row.nil _ _ _) (Nat.le_refl _) (Nat.le_refl _)
  have K0 : Kp h (setLow g' h.low) := ⟨K.wf.setLow _, rfl, Nat.le_trans (Nat.le_succ _) K.nxt, fun β hβ => by
    have := K.old β (Nat.lt_succ_of_lt hβ)
    have e2 := (loc_wk H [caseC op w num wa ea wn wc en ec]).old β hβ
    exact ⟨this.1.trans e2.1, this.2.trans e2.2⟩⟩
  have hx := exit_sl (h := h) (g := g') (K.low.trans rfl) a' E.length c' (fun ha => by
    rcases R with R | ⟨β, e, _⟩
    · exact ⟨R.2.1, R.2.2.1⟩
    · rw [ha] at e
      cases e)
  cases a' with
  | none =>
    refine ⟨none, c', h, ?_, Kp.refl H, ?_⟩
    · refine t21_ok ?_
      rw [t21]
      simp only [lrd H, lrd0 H, lst H, lst0 H, List.getElem?_cons_zero, List.getElem?_cons_succ, putAt0, putAt1, List.drop_succ_cons, List.drop_zero, List.drop_nil, List.set_cons_zero, List.set_cons_succ, List.append_nil, ble_self, ble12, gI_int, gB_bool, gS_str, gL_sl, gP_ptr, bindS, cond_true, cond_false, low_loc h, setLow_low, setLow_next, setLow_set, setLow_loc, setLow_self, hNew_loc, loc_next, loc_low, Nat.beq_refl, add_lit, List.nil_append, List.cons_append, List.length_cons, List.length_nil, Nat.zero_add, Nat.add_zero, Nat.reduceAdd, add_lit]
      rw [← hx]
      exact e
    · rcases R with R | ⟨β, e, _⟩
      · have : row1 (wordsO L E P) = [] := R.2.2.2
        rw [this]
        exact Sl.nil _ _
      · cases e
  | some a' =>
    refine ⟨some a', c', setLow g' h.low, ?_, K0, R.sl⟩
    refine t21_ok ?_
    rw [t21]
    simp only [lrd H, lrd0 H, lst H, lst0 H, List.getElem?_cons_zero, List.getElem?_cons_succ, putAt0, putAt1, List.drop_succ_cons, List.drop_zero, List.drop_nil, List.set_cons_zero, List.set_cons_succ, List.append_nil, ble_self, ble12, gI_int, gB_bool, gS_str, gL_sl, gP_ptr, bindS, cond_true, cond_false, low_loc h, setLow_low, setLow_next, setLow_set, setLow_loc, setLow_self, hNew_loc, loc_next, loc_low, Nat.beq_refl, add_lit, List.nil_append, List.cons_append, List.length_cons, List.length_nil, Nat.zero_add, Nat.add_zero, Nat.reduceAdd, add_lit]
    rw [← hx]
    exact e
end Go.Proofs.YtiadfnedbbkojaaDoor.Kb
namespace Go.Proofs.YtiadfnedbbkojaaDoor.Kb
open Go Go.Proofs Go.Proofs.YtiadfnedbbkojaaDoor.X Go.Proofs.YtiadfnedbbkojaaDoor.Bv
set_option linter.unusedSimpArgs false
set_option linter.unusedVariables false
/-- What Apply answers, and what the operator's value is: for all words that the operands contain. -/
theorem sound_run (N : Nat) (hN : 151 ≤ N) (op w : Int) (num : BitVec 64) (L : List Int) (E : List El) (hL : L.length ≤ 20) (F : Fit op w L E) : ∃ e : El,
    (∀ (h : AH) (wa ea : Option Addr) (wn wc en ec : Nat), CaseAt h wa wn ea en L E → runS Tryd.prog N 10 [.int .i64 op, .int .i64 w, .slice wa wn wc, .slice ea en ec, .int .u64 (U num)] h = some (.agg #[.int .u64 (U e.1), .int .u64 (U e.2)], h)) ∧
    ∀ (X : List (BitVec 64)), AllIn L E X → ∃ x : BitVec 64, Snd w.toNat e.1 e.2 x ∧ ∀ (g : AH) (wa na : Option Addr) (wn wc nn nc : Nat), WF g → Sl g wa (L.map fun n => .int .i64 n) → Sl g na (row1 X) → wn = L.length → nn = X.length →
      runS Tryd.prog N 16 [.int .i64 op, .int .i64 w, .slice wa wn wc, .slice na nn nc, .int .u64 (U num)] g = some (.int .u64 (U x), g) := by
  have hE : E.length ≤ 20 := by rw [← F.len]; exact hL
  obtain ⟨hw1, hw64⟩ := F.cases.1
  obtain ⟨N, rfl, hN'⟩ : ∃ m, N = m + 1 ∧ 150 ≤ m := ⟨N - 1, by omega, by omega⟩
  cases hx : (L.zip E).all Opd.e with
  | true =>
    have hlen := F.len
    obtain ⟨V, v1, v2⟩ := ops F.shp ((L.zip E).map Opd.o) (by rw [List.length_map, List.length_zip]; omega) (zip_vd F.val) num
    refine ⟨(~~~ V &&& M w, V &&& M w), fun h wa ea wn wc en ec C => code_exact N hN' h C.wf op w num L E hL hE wa ea wn wc en ec C.sw C.hwn C.se C.hen F hx V v1, fun X hX => ⟨V &&& M w, ?_, fun g wa na wn wc nn nc G SW SA hwn hnn => ?_⟩⟩
    · obtain ⟨w, rfl⟩ : ∃ v : Nat, w = v := ⟨w.toNat, by omega⟩
      rw [Int.toNat_natCast]
      refine Snd.of (by omega) (fun i hi => ?_) fun i hi => ?_
      · rw [BitVec.getLsbD_and, BitVec.getLsbD_and, BitVec.getLsbD_not, M_bit w (by omega), decide_eq_true hi, decide_eq_true (show i < 64 by omega)]
        cases V.getLsbD i <;> decide
      · rw [BitVec.getLsbD_and, BitVec.getLsbD_and, M_bit w (by omega), decide_eq_false (show ¬ i < w by omega), Bool.and_false, Bool.and_false]
        exact ⟨rfl, rfl, rfl⟩
    · have e := all_exact F.val hx hX
      obtain ⟨n, hn⟩ : ∃ n, N + 1 = n + 70 := ⟨N + 1 - 70, by omega⟩
      rw [hn]
      exact v2 n g wa na wn wc nn nc G SW (by rw [← e]; exact SA) hwn (by rw [← e]; exact hnn)
  | false =>
    refine ⟨apO apI op w L E, fun h wa ea wn wc en ec C => code_apx N (by omega) h C.wf C.tab op w num L E hL hE wa ea wn wc en ec C.sw C.hwn C.se C.hen F hx, fun X hX => ⟨evO op w L X num, ?_, fun g wa na wn wc nn nc G SW SA hwn hnn => ?_⟩⟩
    · rw [apO_eq F hx]
      exact sound_apx F hx hX num
    · exact eval_run F hX num (N + 1) (by omega) g wa na wn wc nn nc G SW SA hwn hnn
theorem zip_good {op w : Int} {L : List Int} {E : List El} (F : Fit op w L E) : ∀ q ∈ L.zip E, 1 ≤ q.1 ∧ q.1 ≤ 64 := fun q hq => by
  have h : valB q.1 q.2.1 q.2.2 = true := List.all_eq_true.1 F.val q hq
  unfold valB at h
  rw [Bool.and_eq_true] at h
  exact goodB_iff.1 h.1
theorem wd_in (q : Opd) (p : BitVec 64) (h : valB q.1 q.2.1 q.2.2 = true) : In q.1.toNat q.2.1 q.2.2 (wdO q p) := by
  have V := vd2_of h
  have hg : goodB q.1 = true := by
    unfold valB at h
    rw [Bool.and_eq_true] at h
    exact h.1
  have hx := goodB_iff.1 hg
  obtain ⟨x, z, o⟩ := q
  obtain ⟨x, rfl⟩ : ∃ v : Nat, x = v := ⟨x.toNat, by omega⟩
  have hx2 : 1 ≤ (x : Int) ∧ (x : Int) ≤ 64 := hx
  have bit : ∀ i, i < 64 → (wdO ((x : Int), z, o) p).getLsbD i = (o.getLsbD i || (p.getLsbD i && (decide (i < x) && !(z.getLsbD i || o.getLsbD i)))) := fun i hi => by
    unfold wdO
    rw [BitVec.getLsbD_or, BitVec.getLsbD_and, BitVec.getLsbD_and, BitVec.getLsbD_not, BitVec.getLsbD_or, M_bit x (by omega), decide_eq_true hi, Bool.true_and]
  have hd := and_zero_bit V.dis
  refine ⟨fun i hz => ?_, fun i ho => ?_, fun i hi => ?_⟩
  · by_cases hi : i < 64
    · have hd := hd i
      rw [bit i hi]
      have hz : z.getLsbD i = true := hz
      have hd : (z.getLsbD i && o.getLsbD i) = false := hd
      rw [hz] at hd ⊢
      rw [Bool.true_and] at hd
      rw [hd]
      simp
    · exact out64 _ hi
  · by_cases hi : i < 64
    · rw [bit i hi]
      have ho : o.getLsbD i = true := ho
      rw [ho]
      rfl
    · have ho : o.getLsbD i = true := ho
      rw [out64 _ hi] at ho
      cases ho
  · have hi : x ≤ i := by
      have : ((x : Int)).toNat ≤ i := hi
      omega
    by_cases h64 : i < 64
    · have hI := V.inM i (by show ((x : Int)).toNat ≤ i; omega)
      have hI : z.getLsbD i = false ∧ o.getLsbD i = false := hI
      rw [bit i h64, hI.2, decide_eq_false (by omega)]
      simp
    · exact out64 _ h64
theorem words_gen (P : List (BitVec 64)) : ∀ (L : List Int) (E : List El) (k : Nat), L.length = E.length → (L.zip E).all Opd.v = true → ∀ f : Nat → BitVec 64, (∀ i q, (L.zip E)[i]? = some q → f (k + i) = wdO q (P.getD (k + i) 0#64)) → AllIn L E ((List.range E.length).map fun i => f (k + i))
  | [], [], _, _, _, _, _ => trivial
  | x :: L, e :: E, k, hl, hv, f, hf => by
    have hv : (valB x e.1 e.2 && (L.zip E).all Opd.v) = true := hv
    rw [Bool.and_eq_true] at hv
    rw [List.length_cons, List.range_succ_eq_map, List.map_cons, List.map_map]
    refine ⟨?_, ?_⟩
    · rw [hf 0 (x, e) rfl]
      exact wd_in (x, e) _ hv.1
    · have := words_gen P L E (k + 1) (Nat.succ.inj hl) hv.2 f fun i q hq => by
        have := hf (i + 1) q hq
        rwa [show k + (i + 1) = k + 1 + i by omega] at this
      have e2 : ((fun i => f (k + i)) ∘ Nat.succ) = fun i => f (k + 1 + i) := funext fun i => by
        show f (k + (i + 1)) = f (k + 1 + i)
        rw [show k + (i + 1) = k + 1 + i by omega]
      rw [e2]
      exact this
  | [], _ :: _, _, h, _, _, _ => by cases h
  | _ :: _, [], _, h, _, _, _ => by cases h
theorem words_in {op w : Int} {L : List Int} {E : List El} (F : Fit op w L E) (P : List (BitVec 64)) : AllIn L E (wordsO L E P) := by
  have := words_gen P L E 0 F.len F.val (wdsO (L.zip E) P) fun i q hq => by
    rw [Nat.zero_add]
    unfold wdsO
    rw [List.getD_eq_getElem?_getD, hq]
    rfl
  simp only [Nat.zero_add] at this
  exact this
end Go.Proofs.YtiadfnedbbkojaaDoor.Kb
