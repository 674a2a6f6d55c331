/- Joined texts: TA. -/
import Derived.Test.YtiadfnedbbkojaaDoorSD
import Derived.Test.YtiadfnedbbkojaaDoorSB
namespace Go.Proofs.YtiadfnedbbkojaaDoor.Kb
open Go Go.Proofs Go.Proofs.YtiadfnedbbkojaaDoor.X Go.Proofs.YtiadfnedbbkojaaDoor.Bv
set_option linter.unusedSimpArgs false
set_option linter.unusedVariables false
theorem fin {h x : AH} (X : WF x) (hl : x.low = h.next) (Ot : Own x h.next [.int .u64 0, .int .u64 0]) (p q : Int) :
    ((stL x ⟨h.next, 0, none⟩ [.int .u64 p, .int .u64 q]).bind fun x' => (gI .u64 (rdC x' ⟨h.next, 0, none⟩ 0)).bind fun n => (gI .u64 (rdC x' ⟨h.next, 0, none⟩ 1)).bind fun m => some (exitR h x' (.agg #[.int .u64 n, .int .u64 m]))) =
      some (.agg #[.int .u64 p, .int .u64 q], h) := by
  obtain ⟨g3, e3, F3, O3, l3, n3⟩ := st_ok X (o := 0) (vs := [.int .u64 p, .int .u64 q]) Ot (by omega) (Nat.le_refl _)
  rw [putAt0] at O3
  simp only [List.length_cons, List.length_nil, List.drop_succ_cons, List.drop_nil, List.append_nil] at O3
  rw [e3, bindS, O3.rd, O3.rd]
  simp only [Nat.zero_add, List.getElem?_cons_zero, List.getElem?_cons_succ, gI_int, bindS]
  rw [exit_low (by rw [l3, hl]) rfl]
section
variable {N : Nat} (hN : 70 ≤ N) (g : AH)
 include hN
theorem adN (G : WF g) (w : Nat) (hw : w ≤ 64) (az ao bz bo : BitVec 64) (va : az &&& ao = 0#64) (vb : bz &&& bo = 0#64) (c0 : Int) (hc0 : tri c0) : runS Tryd.prog N 25 [.int .i64 w, .agg #[.int .u64 (U az), .int .u64 (U ao)], .agg #[.int .u64 (U bz), .int .u64 (U bo)], .int .i64 c0] g =
    some (.agg #[.int .u64 (U (adZ az ao bz bo c0 w)), .int .u64 (U (adO az ao bz bo c0 w))], g) := add N hN g G w hw az ao bz bo va vb c0 hc0
theorem leN (w : Nat) (hw : w ≤ 64) (k : BitVec 64) : runS Tryd.prog N 28 [.int .i64 w, .int .u64 (U k)] g = some (.int .i64 (ld w k : Int), g) := by
  obtain ⟨n, rfl⟩ : ∃ n, N = n + 3 := ⟨N - 3, by omega⟩
  exact lead n g w hw k
theorem hiN (w : Nat) (hw : w ≤ 64) (k : BitVec 64) : runS Tryd.prog N 27 [.int .i64 w, .int .i64 (ld w k : Int)] g = some (.int .u64 (U (hi w (ld w k))), g) := by
  obtain ⟨n, rfl⟩ : ∃ n, N = n + 2 := ⟨N - 2, by omega⟩
  exact high n g w _ hw (ld_le w hw k)
theorem rmN (G : WF g) (w : Nat) (hw : w ≤ 64) (az ao bz bo : BitVec 64) : runS Tryd.prog N 29 [.int .i64 w, .agg #[.int .u64 (U az), .int .u64 (U ao)], .agg #[.int .u64 (U bz), .int .u64 (U bo)]] g =
    some (.agg #[.int .u64 (U (rmZ pcI w az bz bo)), .int .u64 (U (rmO pcI w ao bz bo))], g) := by
  obtain ⟨m, rfl, hm⟩ : ∃ m, N = m + 1 ∧ 9 ≤ m := ⟨N - 1, by omega, by omega⟩
  exact remainder pcI m hm (fun g x => by
    obtain ⟨n, rfl⟩ : ∃ n, m = n + 1 := ⟨m - 1, by omega⟩
    exact ones n g x) g G w hw az ao bz bo
theorem xaN (G : WF g) (w : Int) (z o : BitVec 64) : runS Tryd.prog N 13 [.int .i64 w, .agg #[.int .u64 (U z), .int .u64 (U o)]] g = some (.tuple #[.int .u64 (U (cond (exB w z o) o 0#64)), .bool (exB w z o)], g) := by
  obtain ⟨n, rfl⟩ : ∃ n, N = n + 3 := ⟨N - 3, by omega⟩
  exact exact n g G w z o
theorem onN (b : Bool) : runS Tryd.prog N 32 [.bool b] g = some (.int .u64 (U (b1 b)), g) := by
  obtain ⟨n, rfl⟩ : ∃ n, N = n + 1 := ⟨N - 1, by omega⟩
  exact one n g b
theorem ofN (G : WF g) (w : Int) (x : BitVec 64) : runS Tryd.prog N 18 [.int .i64 w, .int .u64 (U x)] g = some (.agg #[.int .u64 (cond (goodB w) (U (~~~ x &&& M w)) 0), .int .u64 (cond (goodB w) (U (x &&& M w)) 0)], g) := by
  obtain ⟨n, rfl⟩ : ∃ n, N = n + 2 := ⟨N - 2, by omega⟩
  exact ofs n g G w x
theorem flN (G : WF g) (w : Nat) (h1 : 1 ≤ w) (hw : w ≤ 64) (z o : BitVec 64) : runS Tryd.prog N 34 [.int .i64 w, .agg #[.int .u64 (U z), .int .u64 (U o)]] g = some (.agg #[.int .u64 (U (flz w z o)), .int .u64 (U (flz w o z))], g) := by
  obtain ⟨n, rfl⟩ : ∃ n, N = n + 1 := ⟨N - 1, by omega⟩
  exact flip n g G w h1 hw z o
theorem joN (G : WF g) (z o z' o' : BitVec 64) : runS Tryd.prog N 35 [.agg #[.int .u64 (U z), .int .u64 (U o)], .agg #[.int .u64 (U z'), .int .u64 (U o')]] g = some (.agg #[.int .u64 (U (z &&& z')), .int .u64 (U (o &&& o'))], g) := by
  obtain ⟨n, rfl⟩ : ∃ n, N = n + 1 := ⟨N - 1, by omega⟩
  exact join n g G z o z' o'
theorem mN (w : Int) : runS Tryd.prog N 36 [.int .i64 w] g = some (.int .u64 (U (M w)), g) := by
  obtain ⟨n, rfl⟩ : ∃ n, N = n + 1 := ⟨N - 1, by omega⟩
  exact mask n g w
end
theorem rowp0 {h : AH} {a : Option Addr} {E : List (Int × Int)} {n : Nat} {ρ : Type} {K : Int → Int → Option ρ} (S : Sl h a (prs E)) (hn : n = E.length) {p q : Int} (hp : E[0]? = some (p, q)) :
    (a.bind fun a0 => cond (inB 0 n) ((gI .u64 (rdC h (Addr.add a0 0) 0)).bind fun x => (gI .u64 (rdC h (Addr.add a0 0) 1)).bind fun y => K x y) none) = K p q := rowp S hn 0 _ hp
theorem rowp2 {h : AH} {a : Option Addr} {E : List (Int × Int)} {n : Nat} {ρ : Type} {K : Int → Int → Option ρ} (S : Sl h a (prs E)) (hn : n = E.length) {p q : Int} (hp : E[2]? = some (p, q)) :
    (a.bind fun a0 => cond (inB 2 n) ((gI .u64 (rdC h (Addr.add a0 4) 0)).bind fun x => (gI .u64 (rdC h (Addr.add a0 4) 1)).bind fun y => K x y) none) = K p q := rowp S hn 2 _ hp
theorem oe9 (op : Int) (k : Int) (h : op ≠ k) : iEq op k = false := decide_eq_false h
/-- What stands behind the loop. -/
def sx1 (w w0 : Nat) (az o : BitVec 64) : BitVec 64 := cond (!(az &&& sgn w0 == 0#64)) (o ||| (M w &&& ~~~ M w0)) o
def apI (op : Int) (w w0 : Nat) (az ao bz bo cz co : BitVec 64) : BitVec 64 × BitVec 64 :=
  if op = 9 then (az ||| bz, ao &&& bo)
  else if op = 10 then (az &&& bz, ao ||| bo)
  else if op = 11 then ((az &&& bz) ||| (ao &&& bo), (az &&& bo) ||| (ao &&& bz))
  else if op = 2 then (adZ az ao bz bo 0 w, adO az ao bz bo 0 w)
  else if op = 3 then (adZ az ao bo bz 1 w, adO az ao bo bz 1 w)
  else if op = 4 then (prZ w az ao bz bo, prO w az ao bz bo)
  else if op = 5 then (if bo = 0#64 then 0#64 else hi w (ld w az), 0#64)
  else if op = 6 then (rmZ pcI w az bz bo, rmO pcI w ao bz bo)
  else if op = 12 ∨ op = 13 ∨ op = 14 then
    (if exB w bz bo then (shIZ op w az bo.toNat, shIO op w ao bo.toNat)
     else (if op = 12 then M ((min (tz (~~~ az)) w : Nat)) else hi w (ld w az), if op = 12 then 0#64 else if op = 13 then 0#64 else hi w (ld w ao)))
  else if op = 15 ∨ op = 16 then
    (if (az &&& bo) ||| (ao &&& bz) = 0#64 then (0#64, 0#64) else (~~~ b1 (iEq op 16) &&& M 1, b1 (iEq op 16) &&& M 1))
  else if op = 17 ∨ op = 18 then (b1 (lsZ w0 ao bz (iEq op 18)), b1 (lsO w0 az bo (iEq op 18)))
  else if op = 19 ∨ op = 20 then (b1 (lsZ w0 (flz w0 ao az) (flz w0 bz bo) (iEq op 20)), b1 (lsO w0 (flz w0 az ao) (flz w0 bo bz) (iEq op 20)))
  else if op = 21 then (if exB 1 az ao then (if ao = 1#64 then (bz, bo) else (cz, co)) else (bz &&& cz, bo &&& co))
  else if op = 22 then (az ||| (M w &&& ~~~ M w0), ao)
  else if op = 23 then (sx1 w w0 az az, sx1 w w0 ao ao)
  else if op = 24 then (az &&& M w, ao &&& M w)
  else (0#64, 0#64)
section
variable {N : Nat} (hN : 75 ≤ N) {h x : AH} (X : WF x) (hl : x.low = h.next) (T : Tab x) {op : Int} {w w0 : Nat} (hw1 : 1 ≤ w) (hw : w ≤ 64) (hw01 : 1 ≤ w0) (hw0 : w0 ≤ 64) {wa ea : Option Addr} {wn wc en ec : Nat}
  {L : List Int} (SW : Sl x wa (L.map fun n => .int .i64 n)) (hwn : wn = L.length) (hL0 : L[0]? = some (w0 : Int)) {E : List (Int × Int)} (SE : Sl x ea (prs E)) (hen : en = E.length) {az ao bz bo : BitVec 64} {α β : Nat}
  (Ot : Own x h.next [.int .u64 0, .int .u64 0]) (Oa : Own x α [.int .u64 (U az), .int .u64 (U ao)]) (Ob : Own x β [.int .u64 (U bz), .int .u64 (U bo)])
 include hN X hl Ot Oa Ob
theorem tail12 (hw1 : 1 ≤ w) (hw : w ≤ 64) (T : Tab x) : c10_2 N h op w wa wn wc ea en ec ⟨h.next, 0, none⟩ ⟨α, 0, none⟩ ⟨β, 0, none⟩ op true x =
    some (.agg #[.int .u64 (U (if exB w bz bo then shIZ op w az bo.toNat else if op = 12 then M ((min (tz (~~~ az)) w : Nat)) else hi w (ld w az))),
      .int .u64 (U (if exB w bz bo then shIO op w ao bo.toNat else if op = 12 then 0#64 else if op = 13 then 0#64 else hi w (ld w ao)))], h) := by
  refine c10_2_ok ?_
  rw [c10_2_eq]
  simp only [add_lit, Oa.rd, Ob.rd, Nat.zero_add, Nat.add_zero, List.getElem?_cons_zero, List.getElem?_cons_succ, gI_int, gB_bool, bindS, cond_true, cond_false, xaN (show 70 ≤ N by omega) _ X, tupIs2, tupC20, tupC21, aggIs2, aggC20, aggC21]
  cases he : exB w bz bo with
  | true =>
    have := shifted N (by omega) x X op w bo.toNat hw1 hw az ao
    rw [← U_nat bo] at this
    simp only [add_lit, Oa.rd, Ob.rd, Nat.zero_add, Nat.add_zero, List.getElem?_cons_zero, List.getElem?_cons_succ, gI_int, gB_bool, bindS, cond_true, cond_false, this, aggIs2, aggC20, aggC21, fin X hl Ot, if_true]
  | false =>
    have := vague N (by omega) x X T op w hw az ao
    simp only [add_lit, Oa.rd, Ob.rd, Nat.zero_add, Nat.add_zero, List.getElem?_cons_zero, List.getElem?_cons_succ, gI_int, gB_bool, bindS, cond_true, cond_false, this, aggIs2, aggC20, aggC21, fin X hl Ot, Bool.false_eq_true, if_false]
theorem tail15 (t : Int) : c10_3 N h op w wa wn wc ea en ec ⟨h.next, 0, none⟩ ⟨α, 0, none⟩ ⟨β, 0, none⟩ t true x =
    some (.agg #[.int .u64 (U (if (az &&& bo) ||| (ao &&& bz) = 0#64 then 0#64 else ~~~ b1 (iEq op 16) &&& M 1)), .int .u64 (U (if (az &&& bo) ||| (ao &&& bz) = 0#64 then 0#64 else b1 (iEq op 16) &&& M 1))], h) := by
  refine c10_3_ok ?_
  rw [c10_3_eq]
  simp only [add_lit, Oa.rd, Ob.rd, Nat.zero_add, Nat.add_zero, List.getElem?_cons_zero, List.getElem?_cons_succ, gI_int, gB_bool, bindS, cond_true, cond_false, i_and, i_or, i_xor, i_andNot, i_not, i_add, i_sub, i_mulS, i_neg, i_eq, i_ne', i_lt, i_le, i_ne0]
  by_cases hz : (az &&& bo) ||| (ao &&& bz) = 0#64
  · rw [if_pos hz, if_pos hz, show ((az &&& bo) ||| (ao &&& bz) == 0#64) = true from beq_iff_eq.2 hz]
    simp only [Bool.not_true, cond_false, fin X hl Ot]
    rfl
  · rw [if_neg hz, if_neg hz, show ((az &&& bo) ||| (ao &&& bz) == 0#64) = false from beq_eq_false_iff_ne.2 hz]
    simp only [Bool.not_false, cond_true, onN (show 70 ≤ N by omega), ofN (show 70 ≤ N by omega) _ X, show goodB 1 = true from rfl, add_lit, Oa.rd, Ob.rd, Nat.zero_add, Nat.add_zero, List.getElem?_cons_zero, List.getElem?_cons_succ, gI_int, gB_bool, bindS, cond_true, cond_false, aggIs2, aggC20, aggC21, fin X hl Ot]
 include SW hwn hL0
theorem tail17 (t : Int) : c10_4 N h op w wa wn wc ea en ec ⟨h.next, 0, none⟩ ⟨α, 0, none⟩ ⟨β, 0, none⟩ t true x =
    some (.agg #[.int .u64 (U (b1 (lsZ w0 ao bz (iEq op 18)))), .int .u64 (U (b1 (lsO w0 az bo (iEq op 18))))], h) := by
  refine c10_4_ok ?_
  rw [c10_4_eq, cond_true, row0 SW hwn hL0]
  simp only [add_lit, Oa.rd, Ob.rd, Nat.zero_add, Nat.add_zero, List.getElem?_cons_zero, List.getElem?_cons_succ, gI_int, gB_bool, bindS, cond_true, cond_false, less N (show 12 ≤ N by omega) x X w0, aggIs2, aggC20, aggC21, fin X hl Ot]
theorem tail19 (t : Int) (hw01 : 1 ≤ w0) (hw0 : w0 ≤ 64) : c10_5 N h op w wa wn wc ea en ec ⟨h.next, 0, none⟩ ⟨α, 0, none⟩ ⟨β, 0, none⟩ t true x =
    some (.agg #[.int .u64 (U (b1 (lsZ w0 (flz w0 ao az) (flz w0 bz bo) (iEq op 20)))), .int .u64 (U (b1 (lsO w0 (flz w0 az ao) (flz w0 bo bz) (iEq op 20))))], h) := by
  refine c10_5_ok ?_
  rw [c10_5_eq, cond_true, row0 SW hwn hL0, row0 SW hwn hL0]
  simp only [add_lit, Oa.rd, Ob.rd, Nat.zero_add, Nat.add_zero, List.getElem?_cons_zero, List.getElem?_cons_succ, gI_int, gB_bool, bindS, cond_true, cond_false, flN (show 70 ≤ N by omega) _ (wf_low X _) w0 hw01 hw0, aggIs2, aggC20, aggC21, setLow_low, Nat.beq_refl, setLow_set, setLow_self]
  rw [row0 SW hwn hL0]
  simp only [add_lit, Oa.rd, Ob.rd, Nat.zero_add, Nat.add_zero, List.getElem?_cons_zero, List.getElem?_cons_succ, gI_int, gB_bool, bindS, cond_true, cond_false, flN (show 70 ≤ N by omega) _ (wf_low X _) w0 hw01 hw0, aggIs2, aggC20, aggC21, setLow_low, Nat.beq_refl, setLow_set, setLow_self]
  simp only [add_lit, Oa.rd, Ob.rd, Nat.zero_add, Nat.add_zero, List.getElem?_cons_zero, List.getElem?_cons_succ, gI_int, gB_bool, bindS, cond_true, cond_false, less N (show 12 ≤ N by omega) x X w0, aggIs2, aggC20, aggC21, fin X hl Ot]
end
end Go.Proofs.YtiadfnedbbkojaaDoor.Kb
namespace Go.Proofs.YtiadfnedbbkojaaDoor.Kb
open Go Go.Proofs Go.Proofs.YtiadfnedbbkojaaDoor.X Go.Proofs.YtiadfnedbbkojaaDoor.Bv
set_option linter.unusedSimpArgs false
set_option linter.unusedVariables false
theorem rowpj {h : AH} {a : Option Addr} {E : List (Int × Int)} {n : Nat} {ρ : Type} {K : Int → Int → Option ρ} (S : Sl h a (prs E)) (hn : n = E.length) (j : Nat) {p q : Int} (hp : E[j]? = some (p, q)) :
    (a.bind fun a0 => cond (inB (j : Int) n) ((gI .u64 (rdC h (Addr.add a0 (Int.toNat (j : Int) * 2)) 0)).bind fun x => (gI .u64 (rdC h (Addr.add a0 (Int.toNat (j : Int) * 2)) 1)).bind fun y => K x y) none) = K p q := rowp S hn j _ hp
section
variable {N : Nat} (hN : 75 ≤ N) {h x : AH} (X : WF x) (hl : x.low = h.next) {op : Int} {w w0 : Nat} {wa ea : Option Addr} {wn wc en ec : Nat}
  {L : List Int} (SW : Sl x wa (L.map fun n => .int .i64 n)) (hwn : wn = L.length) (hL0 : L[0]? = some (w0 : Int)) {E : List (Int × Int)} (SE : Sl x ea (prs E)) (hen : en = E.length) {az ao bz bo cz co : BitVec 64} {α β : Nat}
  (Ot : Own x h.next [.int .u64 0, .int .u64 0]) (Oa : Own x α [.int .u64 (U az), .int .u64 (U ao)]) (Ob : Own x β [.int .u64 (U bz), .int .u64 (U bo)])
 include hN X hl Ot Oa Ob
theorem tail21 (hE1 : E[1]? = some (U bz, U bo)) (hE2 : E[2]? = some (U cz, U co)) (SE : Sl x ea (prs E)) (hen : en = E.length) : c10_5 N h op w wa wn wc ea en ec ⟨h.next, 0, none⟩ ⟨α, 0, none⟩ ⟨β, 0, none⟩ 21 false x =
    some (.agg #[.int .u64 (U (if exB 1 az ao then (if ao = 1#64 then bz else cz) else bz &&& cz)), .int .u64 (U (if exB 1 az ao then (if ao = 1#64 then bo else co) else bo &&& co))], h) := by
  refine c10_5_ok ?_
  rw [c10_5_eq, cond_false, show iEq 21 21 = true from rfl]
  simp only [add_lit, Oa.rd, Ob.rd, Nat.zero_add, Nat.add_zero, List.getElem?_cons_zero, List.getElem?_cons_succ, gI_int, gB_bool, bindS, cond_true, cond_false, xaN (show 70 ≤ N by omega) _ X, tupIs2, tupC20, tupC21, aggIs2, aggC20, aggC21]
  cases he : exB 1 az ao with
  | true =>
    have hb : ao = 0#64 ∨ ao = 1#64 := by
      unfold exB at he
      rw [Bool.and_eq_true] at he
      obtain ⟨_, V⟩ := valB_iff (w := 1) (by omega) he.1
      have : ao.toNat < 2 := by
        rcases Nat.lt_or_ge ao.toNat (2 ^ 1) with h | h
        · exact h
        · obtain ⟨i, hi, hb⟩ := Nat.exists_ge_and_testBit_of_ge_two_pow h
          have := (V.inM i hi).2
          rw [BitVec.getLsbD, hb] at this
          cases this
      rcases (show ao.toNat = 0 ∨ ao.toNat = 1 by omega) with h | h
      · exact .inl (BitVec.eq_of_toNat_eq h)
      · exact .inr (BitVec.eq_of_toNat_eq h)
    simp only [if_true, cond_true]
    rcases hb with rfl | rfl
    · rw [show iSub .u64 2 (U 0#64) = ((2 : Nat) : Int) from rfl, rowpj SE hen 2 hE2, if_neg (by decide), if_neg (by decide), fin X hl Ot]
    · rw [show iSub .u64 2 (U 1#64) = ((1 : Nat) : Int) from rfl, rowpj SE hen 1 hE1, if_pos rfl, if_pos rfl, fin X hl Ot]
  | false =>
    simp only [add_lit, Oa.rd, Ob.rd, Nat.zero_add, Nat.add_zero, List.getElem?_cons_zero, List.getElem?_cons_succ, gI_int, gB_bool, bindS, cond_true, cond_false]
    rw [rowp2 SE hen hE2]
    simp only [joN (show 70 ≤ N by omega) _ X, aggIs2, aggC20, aggC21, Nat.zero_add, Nat.add_zero, List.getElem?_cons_zero, List.getElem?_cons_succ, gI_int, gB_bool, bindS, cond_true, cond_false, fin X hl Ot, Bool.false_eq_true, if_false]
 include SW hwn hL0
theorem tail22 : c10_5 N h op w wa wn wc ea en ec ⟨h.next, 0, none⟩ ⟨α, 0, none⟩ ⟨β, 0, none⟩ 22 false x =
    some (.agg #[.int .u64 (U (az ||| (M w &&& ~~~ M w0))), .int .u64 (U ao)], h) := by
  have _ := Ob
  refine c10_5_ok ?_
  rw [c10_5_eq, cond_false, show iEq 22 21 = false from rfl, show iEq 22 22 = true from rfl, cond_false]
  simp only [add_lit, Oa.rd, Ob.rd, Nat.zero_add, Nat.add_zero, List.getElem?_cons_zero, List.getElem?_cons_succ, gI_int, gB_bool, bindS, cond_true, cond_false, mN (show 70 ≤ N by omega), setLow_low, Nat.beq_refl, setLow_set, setLow_self, setLow_next]
  rw [row0 SW hwn hL0]
  simp only [add_lit, Oa.rd, Ob.rd, Nat.zero_add, Nat.add_zero, List.getElem?_cons_zero, List.getElem?_cons_succ, gI_int, gB_bool, bindS, cond_true, cond_false, mN (show 70 ≤ N by omega), setLow_low, Nat.beq_refl, setLow_set, setLow_self, setLow_next, i_and, i_or, i_xor, i_andNot, i_not, i_add, i_sub, i_mulS, i_neg, i_eq, i_ne', i_lt, i_le, fin X hl Ot]
theorem tail23 (hw01 : 1 ≤ w0) (hw0 : w0 ≤ 64) : c10_5 N h op w wa wn wc ea en ec ⟨h.next, 0, none⟩ ⟨α, 0, none⟩ ⟨β, 0, none⟩ 23 false x =
    some (.agg #[.int .u64 (U (sx1 w w0 az az)), .int .u64 (U (sx1 w w0 ao ao))], h) := by
  have _ := Ob
  refine c10_5_ok ?_
  rw [c10_5_eq, cond_false, show iEq 23 21 = false from rfl, show iEq 23 22 = false from rfl, show iEq 23 23 = true from rfl, cond_false, cond_false, cond_true, row0 SW hwn hL0]
  rw [iSub_i64 (by omega) (by omega), show (w0 : Int) - 1 = ((w0 - 1 : Nat) : Int) by omega, iLt_false (x := ((w0 - 1 : Nat) : Int)) (y := 0) (by omega), shl_one, show 1#64 <<< (w0 - 1) = sgn w0 from rfl]
  simp only [add_lit, Oa.rd, Ob.rd, Nat.zero_add, Nat.add_zero, List.getElem?_cons_zero, List.getElem?_cons_succ, gI_int, gB_bool, bindS, cond_true, cond_false, mN (show 70 ≤ N by omega), setLow_low, Nat.beq_refl, setLow_set, setLow_self, setLow_next]
  rw [row0 SW hwn hL0]
  simp only [add_lit, Oa.rd, Ob.rd, Nat.zero_add, Nat.add_zero, List.getElem?_cons_zero, List.getElem?_cons_succ, gI_int, gB_bool, bindS, cond_true, cond_false, mN (show 70 ≤ N by omega), setLow_low, Nat.beq_refl, setLow_set, setLow_self, setLow_next, i_and, i_or, i_xor, i_andNot, i_not, i_add, i_sub, i_mulS, i_neg, i_eq, i_ne', i_lt, i_le]
  obtain ⟨g1, e1, K1, F1, O1, n1⟩ := (Kp.refl X).new [.int .u64 0, .int .u64 0] 0
  have tn := Ot.lt X
  obtain ⟨g2, e2, K2, F2, O2, n2⟩ := K1.st (by omega) (o := 0) (vs := [.int .u64 (U az), .int .u64 (U ao)]) O1 (Nat.le_refl _) (Nat.le_refl _)
  rw [putAt0] at O2
  simp only [List.length_cons, List.length_nil, List.drop_succ_cons, List.drop_nil, List.append_nil] at O2
  have Oa2 := Oa.kp X K2
  simp only [e1, bindS, e2, Oa2.rd, Nat.zero_add, Nat.add_zero, List.getElem?_cons_zero, List.getElem?_cons_succ, gI_int, gB_bool, bindS, cond_true, cond_false, i_ne0, i_and, sgn]
  generalize hT : M w &&& ~~~ M w0 = T
  -- the second half, in any heap that keeps x
  have half : ∀ (g : AH) (z : BitVec 64), Kp x g → Own g x.next [.int .u64 (U z), .int .u64 (U ao)] → c10_6 N h ⟨h.next, 0, none⟩ ⟨α, 0, none⟩ (U (1#64 <<< (w0 - 1))) ⟨x.next, 0, none⟩ (U T) g =
      some (.agg #[.int .u64 (U z), .int .u64 (U (sx1 w w0 ao ao))], h) := fun g z K O => by
    have Oa3 := Oa.kp X K
    have Ot3 := Ot.kp X K
    refine c10_6_ok ?_
    rw [c10_6_eq]
    simp only [add_lit, Oa3.rd, Nat.zero_add, Nat.add_zero, List.getElem?_cons_zero, List.getElem?_cons_succ, gI_int, gB_bool, bindS, cond_true, cond_false, i_ne0, i_and]
    unfold sx1
    rw [show sgn w0 = 1#64 <<< (w0 - 1) from rfl, hT]
    cases hc : (!(ao &&& 1#64 <<< (w0 - 1) == 0#64)) with
    | true =>
      obtain ⟨g3, e3, K3, F3, O3, n3⟩ := K.st (by omega) (o := 1) (vs := [.int .u64 (U (ao ||| T))]) O (Nat.le_refl _) (Nat.le_refl _)
      rw [putAt1, putAt0] at O3
      simp only [List.length_cons, List.length_nil, List.drop_succ_cons, List.drop_nil, List.append_nil, List.cons_append, List.nil_append, List.drop_zero] at O3
      simp only [add_lit, O.rd, Nat.zero_add, Nat.add_zero, List.getElem?_cons_zero, List.getElem?_cons_succ, gI_int, gB_bool, bindS, cond_true, cond_false, i_or, e3, O3.rd]
      rw [fin K3.wf (K3.low.trans hl) (Ot.kp X K3)]
    | false =>
      simp only [add_lit, O.rd, Nat.zero_add, Nat.add_zero, List.getElem?_cons_zero, List.getElem?_cons_succ, gI_int, gB_bool, bindS, cond_true, cond_false]
      rw [fin K.wf (K.low.trans hl) Ot3]
  rw [show sx1 w w0 az az = cond (!(az &&& 1#64 <<< (w0 - 1) == 0#64)) (az ||| T) az by unfold sx1; rw [hT]; rfl]
  cases hc : (!(az &&& 1#64 <<< (w0 - 1) == 0#64)) with
  | true =>
    obtain ⟨g3, e3, K3, F3, O3, n3⟩ := K2.st (by omega) (o := 0) (vs := [.int .u64 (U (az ||| T))]) O2 (Nat.le_refl _) (show 0 + 1 ≤ 2 by omega)
    rw [putAt0] at O3
    simp only [List.length_cons, List.length_nil, List.drop_succ_cons, List.drop_nil, List.append_nil, List.cons_append, List.nil_append, List.drop_zero] at O3
    simp only [add_lit, O2.rd, Nat.zero_add, Nat.add_zero, List.getElem?_cons_zero, List.getElem?_cons_succ, gI_int, gB_bool, bindS, cond_true, cond_false, i_or, e3]
    exact half g3 _ K3 O3
  | false =>
    simp only [Nat.zero_add, Nat.add_zero, List.getElem?_cons_zero, List.getElem?_cons_succ, gI_int, gB_bool, bindS, cond_true, cond_false]
    exact half g2 _ K2 O2
 omit SW hwn hL0
theorem tail24 : c10_5 N h op w wa wn wc ea en ec ⟨h.next, 0, none⟩ ⟨α, 0, none⟩ ⟨β, 0, none⟩ 24 false x =
    some (.agg #[.int .u64 (U (az &&& M w)), .int .u64 (U (ao &&& M w))], h) := by
  have _ := Ob
  refine c10_5_ok ?_
  rw [c10_5_eq, cond_false, show iEq 24 21 = false from rfl, show iEq 24 22 = false from rfl, show iEq 24 23 = false from rfl, show iEq 24 24 = true from rfl]
  simp only [add_lit, Oa.rd, Ob.rd, Nat.zero_add, Nat.add_zero, List.getElem?_cons_zero, List.getElem?_cons_succ, gI_int, gB_bool, bindS, cond_true, cond_false, mN (show 70 ≤ N by omega), setLow_low, Nat.beq_refl, setLow_set, setLow_self, setLow_next, i_and, i_or, i_xor, i_andNot, i_not, i_add, i_sub, i_mulS, i_neg, i_eq, i_ne', i_lt, i_le, fin X hl Ot]
theorem tailE (t : Int) (h1 : t ≠ 21) (h2 : t ≠ 22) (h3 : t ≠ 23) (h4 : t ≠ 24) : c10_5 N h op w wa wn wc ea en ec ⟨h.next, 0, none⟩ ⟨α, 0, none⟩ ⟨β, 0, none⟩ t false x =
    some (.agg #[.int .u64 (U 0#64), .int .u64 (U 0#64)], h) := by
  have _ := hN
  have _ := Oa
  have _ := Ob
  refine c10_5_ok ?_
  rw [c10_5_eq, cond_false, oe9 _ _ h1, oe9 _ _ h2, oe9 _ _ h3, oe9 _ _ h4, cond_false, cond_false, cond_false, cond_false, fin X hl Ot]
  rfl
end
end Go.Proofs.YtiadfnedbbkojaaDoor.Kb
namespace Go.Proofs.YtiadfnedbbkojaaDoor.Kb
open Go Go.Proofs Go.Proofs.YtiadfnedbbkojaaDoor.X Go.Proofs.YtiadfnedbbkojaaDoor.Bv
set_option linter.unusedSimpArgs false
set_option linter.unusedVariables false
theorem tail_all {N : Nat} (hN : 75 ≤ N) {h g : AH} (G : WF g) (hl : g.low = h.next) (T : Tab g) {op : Int} {w w0 : Nat} (hop : 2 ≤ op ∧ op ≤ 24) (hw1 : 1 ≤ w) (hw : w ≤ 64) (hw01 : 1 ≤ w0) (hw0 : w0 ≤ 64) {wa ea a' : Option Addr} {wn wc en ec n ac' m0 : Nat} {num : Int}
    {L : List Int} (SW : Sl g wa (L.map fun n => .int .i64 n)) (hwn : wn = L.length) (hL0 : L[0]? = some (w0 : Int)) {E : List (Int × Int)} (SE : Sl g ea (prs E)) (hen : en = E.length) (hn : n = en) {az ao bz bo cz co : BitVec 64}
    (va : az &&& ao = 0#64) (vb : bz &&& bo = 0#64) (Ot : Own g h.next [.int .u64 0, .int .u64 0]) (hE0 : E[0]? = some (U az, U ao)) (j : Nat) (hj : iMin 1 (iSub .i64 (Int.ofNat en) 1) = (j : Int)) (hEj : E[j]? = some (U bz, U bo))
    (hE2 : op = 21 → E[1]? = some (U bz, U bo) ∧ E[2]? = some (U cz, U co)) :
    c10_1 N (m0 + 1) h op w wa wn wc ea en ec num ⟨h.next, 0, none⟩ false a' n ac' ea en ec (Int.ofNat en) n g =
      some (.agg #[.int .u64 (U (apI op w w0 az ao bz bo cz co).1), .int .u64 (U (apI op w w0 az ao bz bo cz co).2)], h) := by
  subst hn
  have tn := Ot.lt G
  obtain ⟨g1, e1, K1, F1, O1, n1⟩ := (Kp.refl G).new [.int .u64 0, .int .u64 0] 0
  obtain ⟨g2, e2, K2, F2, O2, n2⟩ := K1.st (by omega) (o := 0) (vs := [.int .u64 (U az), .int .u64 (U ao)]) O1 (Nat.le_refl _) (Nat.le_refl _)
  rw [putAt0] at O2
  simp only [List.length_cons, List.length_nil, List.drop_succ_cons, List.drop_nil, List.append_nil] at O2
  obtain ⟨g3, e3, K3, F3, O3, n3⟩ := (Kp.refl K2.wf).new [.int .u64 0, .int .u64 0] 0
  obtain ⟨x, e4, K4, F4, Ob, n4⟩ := K3.st (by have := K2.low; have := K2.nxt; omega) (o := 0) (vs := [.int .u64 (U bz), .int .u64 (U bo)]) O3 (Nat.le_refl _) (Nat.le_refl _)
  rw [putAt0] at Ob
  simp only [List.length_cons, List.length_nil, List.drop_succ_cons, List.drop_nil, List.append_nil] at Ob
  have Oa := O2.kp K2.wf K4
  have KX : Kp g x := K2.trans K4
  have X := KX.wf
  have hlx : x.low = h.next := KX.low.trans hl
  have Ox := Ot.kp G KX
  have TX : Tab x := T.kp G KX
  have SWx := SW.kp G KX
  have SEx := SE.kp G KX
  refine c10_1_ok ?_
  rw [c10_1_eq, show iLt (n : Int) (Int.ofNat n) = false from iLt_false (Int.le_refl _), cond_false, cond_false, rowp0 SE hen hE0]
  simp only [e1, bindS, e2]
  rw [hj, rowpj (SE.kp G K2) hen j hEj]
  simp only [e3, bindS, e4]
  have hN70 : 70 ≤ N := by omega
  have i12 : iEq 12 12 = true := rfl
  by_cases c9 : op = 9
  · subst c9
    simp only [show iEq 9 9 = true from rfl, add_lit, Oa.rd, Ob.rd, Nat.zero_add, Nat.add_zero, List.getElem?_cons_zero, List.getElem?_cons_succ, gI_int, gB_bool, bindS, cond_true, cond_false, i_and, i_or, i_xor, i_andNot, i_not, i_add, i_sub, i_mulS, i_neg, i_eq, i_ne', i_lt, i_le]
    rw [fin X hlx Ox]
    rfl
  by_cases c10 : op = 10
  · subst c10
    simp only [show iEq 10 9 = false from rfl, show iEq 10 10 = true from rfl, add_lit, Oa.rd, Ob.rd, Nat.zero_add, Nat.add_zero, List.getElem?_cons_zero, List.getElem?_cons_succ, gI_int, gB_bool, bindS, cond_true, cond_false, i_and, i_or, i_xor, i_andNot, i_not, i_add, i_sub, i_mulS, i_neg, i_eq, i_ne', i_lt, i_le]
    rw [fin X hlx Ox]
    rfl
  by_cases c11 : op = 11
  · subst c11
    simp only [show iEq 11 9 = false from rfl, show iEq 11 10 = false from rfl, show iEq 11 11 = true from rfl, add_lit, Oa.rd, Ob.rd, Nat.zero_add, Nat.add_zero, List.getElem?_cons_zero, List.getElem?_cons_succ, gI_int, gB_bool, bindS, cond_true, cond_false, i_and, i_or, i_xor, i_andNot, i_not, i_add, i_sub, i_mulS, i_neg, i_eq, i_ne', i_lt, i_le]
    rw [fin X hlx Ox]
    rfl
  unfold apI
  rw [if_neg c9, if_neg c10, if_neg c11, oe9 _ _ c9, oe9 _ _ c10, oe9 _ _ c11, cond_false, cond_false, cond_false]
  by_cases c2 : op = 2
  · rw [if_pos c2]
    subst c2
    simp only [show iEq 2 2 = true from rfl, add_lit, Oa.rd, Ob.rd, Nat.zero_add, Nat.add_zero, List.getElem?_cons_zero, List.getElem?_cons_succ, gI_int, gB_bool, bindS, cond_true, cond_false, adN hN70 _ X w hw az ao bz bo va vb 0 (.inr (.inl rfl)), aggIs2, aggC20, aggC21]
    rw [fin X hlx Ox]
  rw [if_neg c2, oe9 _ _ c2, cond_false]
  by_cases c3 : op = 3
  · rw [if_pos c3]
    subst c3
    simp only [show iEq 3 3 = true from rfl, add_lit, Oa.rd, Ob.rd, Nat.zero_add, Nat.add_zero, List.getElem?_cons_zero, List.getElem?_cons_succ, gI_int, gB_bool, bindS, cond_true, cond_false, adN hN70 _ X w hw az ao bo bz va ((BitVec.and_comm ..).trans vb) 1 (.inr (.inr rfl)), aggIs2, aggC20, aggC21]
    rw [fin X hlx Ox]
  rw [if_neg c3, oe9 _ _ c3, cond_false]
  by_cases c4 : op = 4
  · rw [if_pos c4]
    subst c4
    simp only [show iEq 4 4 = true from rfl, add_lit, Oa.rd, Ob.rd, Nat.zero_add, Nat.add_zero, List.getElem?_cons_zero, List.getElem?_cons_succ, gI_int, gB_bool, bindS, cond_true, cond_false, product N (by omega) x X TX w hw az ao bz bo, aggIs2, aggC20, aggC21]
    rw [fin X hlx Ox]
  rw [if_neg c4, oe9 _ _ c4, cond_false]
  by_cases c5 : op = 5
  · rw [if_pos c5]
    subst c5
    simp only [show iEq 5 5 = true from rfl, add_lit, Oa.rd, Ob.rd, Nat.zero_add, Nat.add_zero, List.getElem?_cons_zero, List.getElem?_cons_succ, gI_int, gB_bool, bindS, cond_true, cond_false, i_ne0]
    by_cases hb : bo = 0#64
    · rw [if_pos hb, show (bo == 0#64) = true from beq_iff_eq.2 hb]
      simp only [Bool.not_true, cond_false]
      rw [fin X hlx Ox]
      rfl
    · rw [if_neg hb, show (bo == 0#64) = false from beq_eq_false_iff_ne.2 hb]
      simp only [Bool.not_false, cond_true, leN hN70 _ w hw, hiN hN70 _ w hw, Nat.zero_add, Nat.add_zero, List.getElem?_cons_zero, List.getElem?_cons_succ, gI_int, gB_bool, bindS, cond_true, cond_false]
      rw [fin X hlx Ox]
      rfl
  rw [if_neg c5, oe9 _ _ c5, cond_false]
  by_cases c6 : op = 6
  · rw [if_pos c6]
    subst c6
    simp only [show iEq 6 6 = true from rfl, add_lit, Oa.rd, Ob.rd, Nat.zero_add, Nat.add_zero, List.getElem?_cons_zero, List.getElem?_cons_succ, gI_int, gB_bool, bindS, cond_true, cond_false, rmN hN70 _ X w hw az ao bz bo, aggIs2, aggC20, aggC21]
    rw [fin X hlx Ox]
  rw [if_neg c6, oe9 _ _ c6, cond_false]
  have tl := fun (t : Int) => @tail12 N hN h x X hlx op w wa ea wn wc n ec az ao bz bo _ _ Ox Oa Ob hw1 hw TX
  by_cases c12 : op = 12
  · rw [if_pos (.inl c12)]
    rw [show iEq op 12 = true from by rw [c12]; rfl, cond_true, tl 0]
    split <;> rfl
  rw [oe9 _ _ c12, cond_false]
  by_cases c13 : op = 13
  · rw [if_pos (.inr (.inl c13))]
    rw [show iEq op 13 = true from by rw [c13]; rfl, cond_true, tl 0]
    split <;> rfl
  rw [oe9 _ _ c13, cond_false]
  by_cases c14 : op = 14
  · rw [if_pos (.inr (.inr c14))]
    rw [show iEq op 14 = true from by rw [c14]; rfl, tl 0]
    split <;> rfl
  rw [oe9 _ _ c14, if_neg (by omega)]
  refine c10_2_ok ?_
  rw [c10_2_eq, cond_false]
  by_cases c15 : op = 15 ∨ op = 16
  · rw [if_pos c15]
    have t15 := @tail15 N hN h x X hlx op w wa ea wn wc n ec az ao bz bo _ _ Ox Oa Ob op
    rcases c15 with c | c
    · rw [show iEq op 15 = true from by rw [c]; rfl, cond_true, t15]
      split <;> rfl
    · rw [show iEq op 15 = false from by rw [c]; rfl, show iEq op 16 = true from by rw [c]; rfl, cond_false]
      rw [show iEq op 16 = true from by rw [c]; rfl] at t15
      rw [t15]
      split <;> rfl
  rw [if_neg c15, oe9 _ _ (fun c => c15 (.inl c)), oe9 _ _ (fun c => c15 (.inr c)), cond_false]
  refine c10_3_ok ?_
  rw [c10_3_eq, cond_false]
  by_cases c17 : op = 17 ∨ op = 18
  · rw [if_pos c17]
    have t17 := @tail17 N hN h x X hlx op w w0 wa ea wn wc n ec L SWx hwn hL0 az ao bz bo _ _ Ox Oa Ob op
    rcases c17 with c | c
    · rw [show iEq op 17 = true from by rw [c]; rfl, cond_true, t17]
    · rw [show iEq op 17 = false from by rw [c]; rfl, show iEq op 18 = true from by rw [c]; rfl, cond_false]
      rw [show iEq op 18 = true from by rw [c]; rfl] at t17
      rw [t17]
  rw [if_neg c17, oe9 _ _ (fun c => c17 (.inl c)), oe9 _ _ (fun c => c17 (.inr c)), cond_false]
  refine c10_4_ok ?_
  rw [c10_4_eq, cond_false]
  by_cases c19 : op = 19 ∨ op = 20
  · rw [if_pos c19]
    have t19 := @tail19 N hN h x X hlx op w w0 wa ea wn wc n ec L SWx hwn hL0 az ao bz bo _ _ Ox Oa Ob op hw01 hw0
    rcases c19 with c | c
    · rw [show iEq op 19 = true from by rw [c]; rfl, cond_true, t19]
    · rw [show iEq op 19 = false from by rw [c]; rfl, show iEq op 20 = true from by rw [c]; rfl, cond_false]
      rw [show iEq op 20 = true from by rw [c]; rfl] at t19
      rw [t19]
  rw [if_neg c19, oe9 _ _ (fun c => c19 (.inl c)), oe9 _ _ (fun c => c19 (.inr c)), cond_false]
  by_cases c21 : op = 21
  · rw [if_pos c21]
    obtain ⟨q1, q2⟩ := hE2 c21
    subst c21
    rw [@tail21 N hN h x X hlx 21 w wa ea wn wc n ec E az ao bz bo cz co _ _ Ox Oa Ob q1 q2 SEx hen]
    split
    · split <;> rfl
    · rfl
  rw [if_neg c21]
  by_cases c22 : op = 22
  · rw [if_pos c22]
    subst c22
    rw [@tail22 N hN h x X hlx 22 w w0 wa ea wn wc n ec L SWx hwn hL0 az ao bz bo _ _ Ox Oa Ob]
  rw [if_neg c22]
  by_cases c23 : op = 23
  · rw [if_pos c23]
    subst c23
    rw [@tail23 N hN h x X hlx 23 w w0 wa ea wn wc n ec L SWx hwn hL0 az ao bz bo _ _ Ox Oa Ob hw01 hw0]
  rw [if_neg c23]
  by_cases c24 : op = 24
  · rw [if_pos c24]
    subst c24
    rw [@tail24 N hN h x X hlx 24 w wa ea wn wc n ec az ao bz bo _ _ Ox Oa Ob]
  rw [if_neg c24, @tailE N hN h x X hlx op w wa ea wn wc n ec az ao bz bo _ _ Ox Oa Ob op c21 c22 c23 c24]
end Go.Proofs.YtiadfnedbbkojaaDoor.Kb
namespace Go.Proofs.YtiadfnedbbkojaaDoor.Kb
open Go Go.Proofs Go.Proofs.YtiadfnedbbkojaaDoor.X Go.Proofs.YtiadfnedbbkojaaDoor.Bv
set_option linter.unusedSimpArgs false
set_option linter.unusedVariables false
def apR (op : Int) (w w0 : Nat) (az ao bz bo cz co : BitVec 64) : BitVec 64 × BitVec 64 :=
  if op = 9 then (az ||| bz, ao &&& bo)
  else if op = 10 then (az &&& bz, ao ||| bo)
  else if op = 11 then ((az &&& bz) ||| (ao &&& bo), (az &&& bo) ||| (ao &&& bz))
  else if op = 2 then (adZ az ao bz bo 0 w, adO az ao bz bo 0 w)
  else if op = 3 then (adZ az ao bo bz 1 w, adO az ao bo bz 1 w)
  else if op = 4 then (rprZ w az ao bz bo, rprO w az ao bz bo)
  else if op = 5 then (if bo = 0#64 then 0#64 else bvN (zrf w 0 (rld w az ao 0)) w, 0#64)
  else if op = 6 then (rrV w az ao bz bo 0, rrV w az ao bz bo 1)
  else if op = 7 ∨ op = 8 then (0#64, 0#64)
  else if op = 12 ∨ op = 13 ∨ op = 14 then (rgV op w az ao bz bo 0, rgV op w az ao bz bo 1)
  else if op = 21 then (if exB 1 az ao then (if ao = 1#64 then (bz, bo) else (cz, co)) else (bz &&& cz, bo &&& co))
  else if op = 22 then (az ||| bvN (zrf w 0 (w - w0)) w, ao ||| 0#64)
  else if op = 23 then (az ||| bvN (hiF w0 (kn az ao (w0 - 1)) 0) w, ao ||| bvN (hiF w0 (kn az ao (w0 - 1)) 1) w)
  else if op = 24 then (az &&& M w, ao &&& M w)
  else (dZ (cY op w0 az ao bz bo) (cN op w0 az ao bz bo), dO (cY op w0 az ao bz bo))
end Go.Proofs.YtiadfnedbbkojaaDoor.Kb
namespace Go.Proofs.YtiadfnedbbkojaaDoor.Kb
open Go Go.Proofs Go.Proofs.YtiadfnedbbkojaaDoor.X Go.Proofs.YtiadfnedbbkojaaDoor.Bv
set_option linter.unusedSimpArgs false
set_option linter.unusedVariables false
def pU (E : List (BitVec 64 × BitVec 64)) : List (Int × Int) := E.map fun e => (U e.1, U e.2)
theorem zip_wid {L : List Int} {E : List (BitVec 64 × BitVec 64)} (h : L.length = E.length) : wid (L.zip E) = L := by
  unfold wid
  exact List.map_fst_zip (Nat.le_of_eq h)
theorem zip_els {L : List Int} {E : List (BitVec 64 × BitVec 64)} (h : L.length = E.length) : els (L.zip E) = pU E := by
  unfold els pU
  have : (L.zip E).map (fun q : Opd => q.2) = E := List.map_snd_zip (Nat.le_of_eq h.symm)
  conv => rhs; rw [← this, List.map_map]
  rfl
def Opd.o (q : Opd) : BitVec 64 := q.2.2
theorem Opd.x_o {q : Opd} (h : q.e = true) : q.x = q.o := by
  unfold Opd.x
  rw [h]
  rfl
theorem x_o {Z : List Opd} (h : Z.all Opd.e = true) : Z.map Opd.x = Z.map Opd.o := List.map_congr_left fun q hq => Opd.x_o (List.all_eq_true.1 h q hq)
end Go.Proofs.YtiadfnedbbkojaaDoor.Kb
namespace Go.Proofs.YtiadfnedbbkojaaDoor.Kb
open Go Go.Proofs Go.Proofs.YtiadfnedbbkojaaDoor.X Go.Proofs.YtiadfnedbbkojaaDoor.Bv
set_option linter.unusedSimpArgs false
set_option linter.unusedVariables false
abbrev El := BitVec 64 × BitVec 64
def eA (E : List El) : El := E.getD 0 (0#64, 0#64)
def eB (E : List El) : El := E.getD (min 1 (E.length - 1)) (0#64, 0#64)
def eC (E : List El) : El := E.getD 2 (0#64, 0#64)
def w0O (L : List Int) : Nat := (L.getD 0 0).toNat
def apO (f : Int → Nat → Nat → BitVec 64 → BitVec 64 → BitVec 64 → BitVec 64 → BitVec 64 → BitVec 64 → El) (op w : Int) (L : List Int) (E : List El) : El :=
  f op w.toNat (w0O L) (eA E).1 (eA E).2 (eB E).1 (eB E).2 (eC E).1 (eC E).2
/-- The operands fit the operator. -/
structure Fit (op w : Int) (L : List Int) (E : List El) : Prop where
  shp : shp op w L = true
  len : L.length = E.length
  val : (L.zip E).all Opd.v = true
theorem Fit.cases {op w : Int} {L : List Int} {E : List El} (F : Fit op w L E) : (1 ≤ w ∧ w ≤ 64) ∧
    ((op = 1 ∧ L = [] ∧ E = []) ∨ ((2 ≤ op ∧ op ≤ 14) ∧ L = [w, w] ∧ ∃ a b, E = [a, b] ∧ valB w a.1 a.2 = true ∧ valB w b.1 b.2 = true) ∨
     ((15 ≤ op ∧ op ≤ 20) ∧ w = 1 ∧ ∃ x a b, L = [x, x] ∧ (1 ≤ x ∧ x ≤ 64) ∧ E = [a, b] ∧ valB x a.1 a.2 = true ∧ valB x b.1 b.2 = true) ∨
     (op = 21 ∧ L = [1, w, w] ∧ ∃ a b c, E = [a, b, c] ∧ valB 1 a.1 a.2 = true ∧ valB w b.1 b.2 = true ∧ valB w c.1 c.2 = true) ∨
     ((op = 22 ∨ op = 23) ∧ ∃ x a, x ≤ w ∧ (1 ≤ x ∧ x ≤ 64) ∧ L = [x] ∧ E = [a] ∧ valB x a.1 a.2 = true) ∨
     (op = 24 ∧ ∃ x a, w ≤ x ∧ (1 ≤ x ∧ x ≤ 64) ∧ L = [x] ∧ E = [a] ∧ valB x a.1 a.2 = true)) := by
  obtain ⟨hs, hl, hv⟩ := F
  obtain ⟨hw, hL, hc⟩ := shp_cases hs
  refine ⟨hw, ?_⟩
  rcases hc with ⟨rfl, rfl⟩ | ⟨ho, rfl⟩ | ⟨ho, e1, x, rfl⟩ | ⟨rfl, rfl⟩ | ⟨ho, x, hx, rfl⟩ | ⟨rfl, x, hx, rfl⟩
  · match E, hl with
    | [], _ => exact .inl ⟨rfl, rfl, rfl⟩
  · match E, hl, hv with
    | [a, b], _, hv =>
      have hv : (valB w a.1 a.2 && (valB w b.1 b.2 && true)) = true := hv
      rw [Bool.and_true, Bool.and_eq_true] at hv
      exact .inr (.inl ⟨ho, rfl, a, b, rfl, hv.1, hv.2⟩)
  · match E, hl, hv with
    | [a, b], _, hv =>
      have hv : (valB x a.1 a.2 && (valB x b.1 b.2 && true)) = true := hv
      rw [Bool.and_true, Bool.and_eq_true] at hv
      exact .inr (.inr (.inl ⟨ho, e1, x, a, b, rfl, hL x (List.mem_cons_self ..), rfl, hv.1, hv.2⟩))
  · match E, hl, hv with
    | [a, b, c], _, hv =>
      have hv : (valB 1 a.1 a.2 && (valB w b.1 b.2 && (valB w c.1 c.2 && true))) = true := hv
      rw [Bool.and_true, Bool.and_eq_true, Bool.and_eq_true] at hv
      exact .inr (.inr (.inr (.inl ⟨rfl, rfl, a, b, c, rfl, hv.1, hv.2.1, hv.2.2⟩)))
  · match E, hl, hv with
    | [a], _, hv =>
      have hv : (valB x a.1 a.2 && true) = true := hv
      rw [Bool.and_true] at hv
      exact .inr (.inr (.inr (.inr (.inl ⟨ho, x, a, hx, hL x (List.mem_cons_self ..), rfl, rfl, hv⟩))))
  · match E, hl, hv with
    | [a], _, hv =>
      have hv : (valB x a.1 a.2 && true) = true := hv
      rw [Bool.and_true] at hv
      exact .inr (.inr (.inr (.inr (.inr ⟨rfl, x, a, hx, hL x (List.mem_cons_self ..), rfl, rfl, hv⟩))))
theorem val_dis {x : Int} {z o : BitVec 64} (h : valB x z o = true) : z &&& o = 0#64 := by
  unfold valB at h
  rw [Bool.and_eq_true, Bool.and_eq_true, beq_iff_eq, beq_iff_eq] at h
  exact h.2.2
section
variable (N : Nat) (hN : 75 ≤ N) (h : AH) (H : WF h) (T : Tab h) (op w : Int) (num : BitVec 64) (L : List Int) (E : List El) (hL : L.length ≤ 20) (hE : E.length ≤ 20) (wa ea : Option Addr) (wn wc en ec : Nat)
  (SW : Sl h wa (L.map fun n => .int .i64 n)) (hwn : wn = L.length) (SE : Sl h ea (prs (pU E))) (hen : en = E.length)
 include hN H SW hwn SE hen hL hE
 include T
theorem code_apx (F : Fit op w L E) (hx : (L.zip E).all Opd.e = false) : runS Tryd.prog (N + 1) 10 [.int .i64 op, .int .i64 w, .slice wa wn wc, .slice ea en ec, .int .u64 (U num)] h =
    some (.agg #[.int .u64 (U (apO apI op w L E).1), .int .u64 (U (apO apI op w L E).2)], h) := by
  obtain ⟨g1, e1, K1, F1, O1, n1⟩ := (Kp.start H).new [.int .u64 0, .int .u64 0] 0
  have S0W : Sl (setLow h h.next) wa (L.map fun n => .int .i64 n) := SW
  have S0E : Sl (setLow h h.next) ea (prs (pU E)) := SE
  have T0 : Tab (setLow h h.next) := T
  have SW1 := S0W.kp (H.setLow _) K1
  have SE1 := S0E.kp (H.setLow _) K1
  have T1 : Tab g1 := T0.kp (H.setLow _) K1
  have hl : g1.low = h.next := K1.low
  have hnn : g1.next = h.next + 1 := n1
  have hlen := F.len
  have hz : (L.zip E).length = L.length := by rw [List.length_zip]; omega
  obtain ⟨n, rfl⟩ : ∃ n, N = n + 30 := ⟨N - 30, by omega⟩
  have hsh := shaped n g1 K1.wf op w wa wn wc L SW1 hwn (by omega)
  have hfin : ∀ (m' : Nat) (g' : AH) (a' : Option Addr) (ac' G' : Nat), Kp g1 g' → Row g' a' (L.zip E).length ac' 1 G' (row1 ((L.zip E).map Opd.x)) →
      c10_1 (n + 27 + 3) (m' + 1) h op w wa wn wc ea en ec (U num) ⟨h.next, 0, none⟩ false a' (L.zip E).length ac' ea en ec (Int.ofNat en) (L.zip E).length g' =
        some (.agg #[.int .u64 (U (apO apI op w L E).1), .int .u64 (U (apO apI op w L E).2)], h) := fun m' g' a' ac' G' K R => by
    have hO := O1.kp K1.wf K
    have hSW := SW1.kp K1.wf K
    have hSE := SE1.kp K1.wf K
    have hT : Tab g' := T1.kp K1.wf K
    have hlow : g'.low = h.next := K.low.trans hl
    obtain ⟨⟨hw1, hw64⟩, hc⟩ := F.cases
    obtain ⟨w, rfl⟩ : ∃ v : Nat, w = v := ⟨w.toNat, by omega⟩
    have hel : en = (pU E).length := by
      unfold pU
      rw [List.length_map, hen]
    unfold apO
    rw [show ((w : Int)).toNat = w from Int.toNat_natCast w]
    rcases hc with ⟨rfl, rfl, rfl⟩ | ⟨ho, rfl, a, b, rfl, va, vb⟩ | ⟨ho, ew, x, a, b, rfl, hx1, rfl, va, vb⟩ | ⟨rfl, rfl, a, b, c, rfl, va, vb, vc⟩ | ⟨ho, x, a, hxw, hx1, rfl, rfl, va⟩ | ⟨rfl, x, a, hxw, hx1, rfl, rfl, va⟩
    · cases hx
    · exact tail_all (by omega) K.wf hlow hT (by omega) (by omega) (by omega) (by show 1 ≤ ((w : Int)).toNat; omega) (by show ((w : Int)).toNat ≤ 64; omega) hSW hwn (by show some (w : Int) = some (((w : Int).toNat : Nat) : Int); rw [Int.toNat_natCast]) hSE hel (by omega) (val_dis va) (val_dis vb) hO rfl 1 (by rw [hen]; rfl) rfl (fun h => by omega)
    · obtain ⟨x, rfl⟩ : ∃ v : Nat, x = v := ⟨x.toNat, by omega⟩
      exact tail_all (by omega) K.wf hlow hT (by omega) (by omega) (by omega) (by show 1 ≤ ((x : Int)).toNat; omega) (by show ((x : Int)).toNat ≤ 64; omega) hSW hwn (by show some (x : Int) = some (((x : Int).toNat : Nat) : Int); rw [Int.toNat_natCast]) hSE hel (by omega) (val_dis va) (val_dis vb) hO rfl 1 (by rw [hen]; rfl) rfl (fun h => by omega)
    · exact tail_all (by omega) K.wf hlow hT (by omega) (by omega) (by omega) (by decide) (by decide) hSW hwn rfl hSE hel (by omega) (val_dis va) (val_dis vb) hO rfl 1 (by rw [hen]; rfl) rfl (fun h => ⟨rfl, rfl⟩)
    · obtain ⟨x, rfl⟩ : ∃ v : Nat, x = v := ⟨x.toNat, by omega⟩
      exact tail_all (by omega) K.wf hlow hT (by omega) (by omega) (by omega) (by show 1 ≤ ((x : Int)).toNat; omega) (by show ((x : Int)).toNat ≤ 64; omega) hSW hwn (by show some (x : Int) = some (((x : Int).toNat : Nat) : Int); rw [Int.toNat_natCast]) hSE hel (by omega) (val_dis va) (val_dis va) hO rfl 0 (by rw [hen]; rfl) rfl (fun h => by omega)
    · obtain ⟨x, rfl⟩ : ∃ v : Nat, x = v := ⟨x.toNat, by omega⟩
      exact tail_all (by omega) K.wf hlow hT (by omega) (by omega) (by omega) (by show 1 ≤ ((x : Int)).toNat; omega) (by show ((x : Int)).toNat ≤ 64; omega) hSW hwn (by show some (x : Int) = some (((x : Int).toNat : Nat) : Int); rw [Int.toNat_natCast]) hSE hel (by omega) (val_dis va) (val_dis va) hO rfl 0 (by rw [hen]; rfl) rfl (fun h => by omega)
  have hloop := apL (n + 27) h g1 K1.wf hl hnn O1 op w (U num) (L.zip E) (by omega) wa ea wn wc en ec (by rw [zip_wid hlen]; exact SW1) (by omega) (by rw [zip_els hlen]; exact SE1) (by omega) false _ (fun _ => hfin) (L.zip E).length 0 (n + 30) g1 none 0 g1.next true (by omega) (by omega) rfl (Kp.refl K1.wf) (Row.nil _ _ _) (Nat.le_refl _) (Nat.le_refl _) (by rw [List.drop_zero, hx]; rfl)
  rw [List.drop_zero, F.val, if_pos rfl] at hloop
  refine t10_ok ?_
  rw [t10]
  simp only [e1, bindS, hsh, gB_bool, F.shp, Bool.not_true, cond_false]
  rw [show iNe (Int.ofNat en) (Int.ofNat wn) = false from by rw [hen, hwn, hlen]; exact bne_self_eq_false _, cond_false]
  refine c10_0_ok ?_
  rw [c10_0_eq]
  exact hloop
end
end Go.Proofs.YtiadfnedbbkojaaDoor.Kb
namespace Go.Proofs.YtiadfnedbbkojaaDoor.Kb
open Go Go.Proofs Go.Proofs.YtiadfnedbbkojaaDoor.X Go.Proofs.YtiadfnedbbkojaaDoor.Bv
set_option linter.unusedSimpArgs false
set_option linter.unusedVariables false
theorem vd_of_val {x : Int} {z o : BitVec 64} (h : valB x z o = true) : Vd x.toNat o := by
  have hg : goodB x = true := by
    unfold valB at h
    rw [Bool.and_eq_true] at h
    exact h.1
  obtain ⟨g1, g2⟩ := goodB_iff.1 hg
  obtain ⟨x, rfl⟩ : ∃ v : Nat, x = v := ⟨x.toNat, by omega⟩
  obtain ⟨_, V⟩ := valB_iff (by omega) h
  unfold Vd
  apply BitVec.eq_of_getLsbD_eq
  intro i hi
  rw [Int.toNat_natCast, BitVec.getLsbD_and, M_bit x (by omega)]
  by_cases hlt : i < x
  · rw [decide_eq_true hlt, Bool.and_true]
  · rw [(V.inM i (by omega)).2, Bool.false_and]
theorem zip_vd {L : List Int} {E : List El} (h : (L.zip E).all Opd.v = true) (i : Nat) (x : Int) (a : BitVec 64) (h1 : L[i]? = some x) (h2 : ((L.zip E).map Opd.o)[i]? = some a) : Vd x.toNat a := by
  rw [List.getElem?_map] at h2
  cases e : (L.zip E)[i]? with
  | none => rw [e] at h2; cases h2
  | some q =>
    rw [e] at h2
    injection h2 with h2
    subst h2
    have hq := List.all_eq_true.1 h q (List.mem_of_getElem? e)
    have h1' : q.1 = x := by
      have := List.getElem?_zip_eq_some.1 e
      rw [h1] at this
      injection this.1 with this
      exact this.symm
    have := vd_of_val (show valB q.1 q.2.1 q.2.2 = true from hq)
    rw [h1'] at this
    exact this
section
variable (N : Nat) (hN : 150 ≤ N) (h : AH) (H : WF h) (T : Tab h) (op w : Int) (num : BitVec 64) (L : List Int) (E : List El) (hL : L.length ≤ 20) (hE : E.length ≤ 20) (wa ea : Option Addr) (wn wc en ec : Nat)
  (SW : Sl h wa (L.map fun n => .int .i64 n)) (hwn : wn = L.length) (SE : Sl h ea (prs (pU E))) (hen : en = E.length)
 include hN H SW hwn SE hen hL hE
theorem code_exact (F : Fit op w L E) (hx : (L.zip E).all Opd.e = true) (V : BitVec 64)
    (hV : ∀ (n : Nat) (g : AH) (wa na : Option Addr) (wn wc nn nc : Nat), WF g → Sl g wa (L.map fun n => .int .i64 n) → Sl g na (row1 ((L.zip E).map Opd.o)) → wn = L.length → nn = ((L.zip E).map Opd.o).length →
        runS Tryd.prog (n + 3) 24 [.int .i64 op, .int .i64 w, .slice wa wn wc, .slice na nn nc, .int .u64 (U num)] g = some (.int .u64 (U V), g)) :
    runS Tryd.prog (N + 1) 10 [.int .i64 op, .int .i64 w, .slice wa wn wc, .slice ea en ec, .int .u64 (U num)] h = some (.agg #[.int .u64 (U (~~~ V &&& M w)), .int .u64 (U (V &&& M w))], h) := by
  have _ := hL
  have hlen := F.len
  have hz : (L.zip E).length = L.length := by rw [List.length_zip]; omega
  obtain ⟨n, rfl⟩ : ∃ n, N = n + 30 := ⟨N - 30, by omega⟩
  refine apply_exact n h H op w num (L.zip E) (by omega) wa ea wn wc en ec (by rw [zip_wid hlen]; exact SW) (by omega) (by rw [zip_els hlen]; exact SE) (by omega) (by rw [zip_wid hlen]; exact F.shp) F.val hx V fun g na nc G S1 S2 => ?_
  rw [zip_wid hlen] at S1
  rw [x_o hx] at S2
  exact hV (n + 27) g wa na wn wc (L.zip E).length nc G S1 S2 hwn (List.length_map _).symm
end
end Go.Proofs.YtiadfnedbbkojaaDoor.Kb
namespace Go.Proofs.YtiadfnedbbkojaaDoor.Kb
open Go Go.Proofs Go.Proofs.YtiadfnedbbkojaaDoor.X Go.Proofs.YtiadfnedbbkojaaDoor.Bv
set_option linter.unusedSimpArgs false
set_option linter.unusedVariables false
end Go.Proofs.YtiadfnedbbkojaaDoor.Kb
