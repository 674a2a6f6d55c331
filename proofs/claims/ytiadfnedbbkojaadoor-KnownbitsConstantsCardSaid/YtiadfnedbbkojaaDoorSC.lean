/- The law KnownbitsConstants answers true, whatever its arguments. -/
import Derived.Test.YtiadfnedbbkojaaDoorSB
import Derived.Test.YtiadfnedbbkojaaDoorRD
namespace Go.Proofs.YtiadfnedbbkojaaDoor.Kb
open Go Go.Proofs Go.Proofs.YtiadfnedbbkojaaDoor.X Go.Proofs.YtiadfnedbbkojaaDoor.Bv Go.Proofs.YtiadfnedbbkojaaDoor
set_option linter.unusedSimpArgs false
set_option linter.unusedVariables false
theorem newk {b g : AH} (K : Kp b g) (cs : List Value) (z : Nat) : ∃ g', hNew g cs z = some (g.next, g') ∧ Kp b g' ∧ (∀ β cs', Own g β cs' → Own g' β cs') ∧ Own g' g.next cs ∧ g'.next = g.next + 1 := by
  obtain ⟨g', h1, h2, h3, h4, h5⟩ := K.new cs z
  exact ⟨g', h1, h2, fun β cs' O => O.fr h3 fun hx => by
    have := O.lt K.wf
    rw [List.mem_singleton.1 hx] at this
    omega, h4, h5⟩
theorem constants (N : Nat) (hN : 71 ≤ N) (h : AH) (H : WF h) (op w : Int) (x0 x1 x2 x3 : BitVec 64) :
    run Tryd.prog N 5 [.int .i64 op, .int .i64 w, .agg #[.int .u64 (U x0), .int .u64 (U x1), .int .u64 (U x2), .int .u64 (U x3)]] h = some (.bool true, h) := by
  obtain ⟨m, rfl, hm⟩ : ∃ m, N = m + 1 ∧ 70 ≤ m := ⟨N - 1, by omega, by omega⟩
  obtain ⟨g0, e0, K0, F0, O0, n0⟩ := newk (Kp.start H) [.int .u64 (U x0), .int .u64 (U x1), .int .u64 (U x2), .int .u64 (U x3)] 0
  simp only [setLow_next] at e0 O0 n0
  have haw : run Tryd.prog m 8 [] g0 = some (.bool true, g0) := by
    obtain ⟨k, rfl⟩ : ∃ k, m = k + 3 := ⟨m - 3, by omega⟩
    exact awake k g0 K0.wf
  obtain ⟨g1, e1, K1, F1, O1, n1⟩ := newk K0 [] 1
  obtain ⟨g2, e2, K2, F2, O2, n2⟩ := newk K1 [.int .i64 w] 1
  obtain ⟨g3, e3, K3, F3, O3, n3⟩ := newk K2 [.int .i64 w, .int .i64 w] 1
  obtain ⟨g4, e4, K4, F4, O4, n4⟩ := newk K3 [.int .i64 1, .int .i64 w, .int .i64 w] 1
  generalize hkk : iAdd .i64 (iConv .i64 (iRem .u64 (U x3) 64)) 1 = kk
  obtain ⟨g5, e5, K5, F5, O5, n5⟩ := newk K4 [.int .i64 kk] 1
  obtain ⟨g6, e6, K6, F6, O6, n6⟩ := newk K5 [.int .i64 kk, .int .i64 kk] 1
  obtain ⟨g7, e7, K7, F7, O7, n7⟩ := newk K6 [.slice (some ⟨g0.next, 0, none⟩) 0 0, .slice (some ⟨g1.next, 0, none⟩) 1 1, .slice (some ⟨g2.next, 0, none⟩) 2 2, .slice (some ⟨g3.next, 0, none⟩) 3 3, .slice (some ⟨g4.next, 0, none⟩) 1 1, .slice (some ⟨g5.next, 0, none⟩) 2 2] 1
  have A0 := F7 _ _ (F6 _ _ (F5 _ _ (F4 _ _ (F3 _ _ (F2 _ _ (F1 _ _ O0))))))
  have A1 := F7 _ _ (F6 _ _ (F5 _ _ (F4 _ _ (F3 _ _ (F2 _ _ O1)))))
  have A2 := F7 _ _ (F6 _ _ (F5 _ _ (F4 _ _ (F3 _ _ O2))))
  have A3 := F7 _ _ (F6 _ _ (F5 _ _ (F4 _ _ O3)))
  have A4 := F7 _ _ (F6 _ _ (F5 _ _ O4))
  have A5 := F7 _ _ (F6 _ _ O5)
  have A6 := F7 _ _ O6
  have B4 := F4 _ _ (F3 _ _ (F2 _ _ (F1 _ _ O0)))
  have B5 := F5 _ _ B4
  have r4 : gI .u64 (rdC g4 ⟨h.next, 0 + 3, none⟩ 0) = some (U x3) := by
    rw [B4.rd]
    exact gI_int _ _
  have r5 : gI .u64 (rdC g5 ⟨h.next, 0 + 3, none⟩ 0) = some (U x3) := by
    rw [B5.rd]
    exact gI_int _ _
  have loop := c50 m hm h g7 K7.wf K7.low (by rw [K7.low]; exact K7.nxt) op w h.next g6.next [x0, x1, x2, x3] rfl A0 [(g0.next, []), (g1.next, [w]), (g2.next, [w, w]), (g3.next, [1, w, w]), (g4.next, [kk]), (g5.next, [kk, kk])] (by simp) O7 (by
    intro t ht
    simp only [List.mem_cons, List.not_mem_nil, or_false] at ht
    rcases ht with rfl | rfl | rfl | rfl | rfl | rfl
    · exact ⟨by simp, A1.sl⟩
    · exact ⟨by simp, A2.sl⟩
    · exact ⟨by simp, A3.sl⟩
    · exact ⟨by simp, A4.sl⟩
    · exact ⟨by simp, A5.sl⟩
    · exact ⟨by simp, A6.sl⟩) 6 6 0 m g7 (by omega) rfl (Kp.refl K7.wf)
  refine t5_ok ?_
  rw [t5]
  rw [e0, Option.bind_some]
  simp only [haw, Option.bind_some, gB_bool, Bool.not_true, cond_false, e1, e2, e3, e4, add_lit, r4, hkk, e5, r5, e6, e7]
  exact loop
theorem hTab_wf : WF hTab := by
  constructor
  · intro β b hb
    unfold hTab at hb
    simp only at hb
    rw [Tr.get_set] at hb
    split at hb
    · injection hb with hb
      subst hb
      exact Nat.zero_le _
    · rw [Tr.get_nil] at hb
      cases hb
  · intro β hβ
    unfold hTab at hβ ⊢
    simp only at hβ ⊢
    rw [Tr.get_set, if_neg (by omega), Tr.get_nil, Tr.get_nil]
    exact ⟨rfl, rfl⟩
theorem pure_constants {H : Type} (ds : List (DataW H)) (hd : AllT (typD Tryd.prog 4) Tryd.f5.params.toList ds) : ∃ avs h1 h2, layArgs Tryd.prog 4 Tryd.f5.params.toList ds hTab = some (avs, h1) ∧ run Tryd.prog 100 5 avs h1 = some (.bool true, h2) := by
  obtain ⟨d1, r1, rfl, t1, hd⟩ := hd
  obtain ⟨d2, r2, rfl, t2, hd⟩ := hd
  obtain ⟨d3, r3, rfl, t3, hd⟩ := hd
  have hd : r3 = [] := hd
  subst hd
  have t1 : ∃ n, d1 = .lit (.int .i64 n) ∧ (Lit.int .i64 n).wf = true := t1
  have t2 : ∃ n, d2 = .lit (.int .i64 n) ∧ (Lit.int .i64 n).wf = true := t2
  have t3 : ∃ xs, d3 = .agg xs ∧ xs.length = 4 ∧ ∀ x ∈ xs, ∃ n, x = .lit (.int .u64 n) ∧ (Lit.int .u64 n).wf = true := t3
  obtain ⟨op, rfl, _⟩ := t1
  obtain ⟨w, rfl, _⟩ := t2
  obtain ⟨xs, rfl, hl, hx⟩ := t3
  match xs, hl with
  | [y0, y1, y2, y3], _ =>
    obtain ⟨n0, rfl, w0⟩ := hx y0 (by simp)
    obtain ⟨n1, rfl, w1⟩ := hx y1 (by simp)
    obtain ⟨n2, rfl, w2⟩ := hx y2 (by simp)
    obtain ⟨n3, rfl, w3⟩ := hx y3 (by simp)
    obtain ⟨x0, rfl⟩ := of_wf w0
    obtain ⟨x1, rfl⟩ := of_wf w1
    obtain ⟨x2, rfl⟩ := of_wf w2
    obtain ⟨x3, rfl⟩ := of_wf w3
    exact ⟨_, _, _, rfl, constants 100 (by decide) hTab hTab_wf op w x0 x1 x2 x3⟩
end Go.Proofs.YtiadfnedbbkojaaDoor.Kb
