-- Lines by a program of this session.
import Derived.Test.YtiadfnedbbkojaaRKnownbitsLatticex0
import Derived.Test.YtiadfnedbbkojaaRKnownbitsLatticex1
import Derived.Test.YtiadfnedbbkojaaRKnownbitsLatticex2
namespace Go.Proofs.Ytiadfnedbbkojaa.RKnownbitsLattice
open Go.RowKit Go.Proofs.YtiadfnedbbkojaaW.PrintWords Go.Proofs.YtiadfnedbbkojaaW.PrintLast Go.Proofs.YtiadfnedbbkojaaW.PrintMore
attribute [local go_sem] max2_int min2_int max_two min_two max_three min_three max_four min_four   -- for this text's walks alone
set_option linter.unusedVariables false
set_option linter.unusedSimpArgs false

attribute [local go_sem high] eqA24
/-! ### jacquardlaw12_KnownbitsLattice: function 4 -/
mutual
def jacquardlaw12_KnownbitsLattice.j0 : Nat → Int → Bool → Bool → Int → Int → Int → Int → Int → Int → Int → Int → Option (Bool)
  | 0, _, _, _, _, _, _, _, _, _, _, _ => none
  | k + 1, x2, x9, x36, x129000, x129001, x130000, x130001, x134000, x134001, x138000, x138001 => if x36 = true then (some false) else (if (x9 != ((Go.bits .and .u64 (Go.bits .or .u64 x129000 x130000) (Go.bits .or .u64 x129001 x130001)) == 0)) = true then (jacquardlaw12_KnownbitsLattice.j1 k x2 x9 true x129000 x129001 x130000 x130001 x134000 x134001 x138000 x138001) else (if x9 = true then (if (!(x138000 == (Go.bits .or .u64 x129000 x130000)) || (!(x138001 == (Go.bits .or .u64 x129001 x130001)))) = true then (jacquardlaw12_KnownbitsLattice.j1 k x2 x9 true x129000 x129001 x130000 x130001 x134000 x134001 x138000 x138001) else (jacquardlaw12_KnownbitsLattice.j1 k x2 x9 false x129000 x129001 x130000 x130001 x134000 x134001 x138000 x138001)) else (jacquardlaw12_KnownbitsLattice.j1 k x2 x9 (!(x138000 == 0) || (!(x138001 == 0))) x129000 x129001 x130000 x130001 x134000 x134001 x138000 x138001)))
def jacquardlaw12_KnownbitsLattice.j1 : Nat → Int → Bool → Bool → Int → Int → Int → Int → Int → Int → Int → Int → Option (Bool)
  | 0, _, _, _, _, _, _, _, _, _, _, _ => none
  | k + 1, x2, x9, x71, x129000, x129001, x130000, x130001, x134000, x134001, x138000, x138001 => if x71 = true then (some false) else ((knownbits_Leq.f x129000 x129001 x134000 x134001).bind fun t142 => (if t142 = true then ((knownbits_Leq.f x130000 x130001 x134000 x134001).bind fun t143 => (jacquardlaw12_KnownbitsLattice.j2 k x2 x9 (!t143) x129000 x129001 x130000 x130001 x134000 x134001 x138000 x138001)) else (jacquardlaw12_KnownbitsLattice.j2 k x2 x9 true x129000 x129001 x130000 x130001 x134000 x134001 x138000 x138001)))
def jacquardlaw12_KnownbitsLattice.j2 : Nat → Int → Bool → Bool → Int → Int → Int → Int → Int → Int → Int → Int → Option (Bool)
  | 0, _, _, _, _, _, _, _, _, _, _, _ => none
  | k + 1, x2, x9, x81, x129000, x129001, x130000, x130001, x134000, x134001, x138000, x138001 => if x81 = true then (some false) else ((knownbits_Contains.f x129000 x129001 x2).bind fun t144 => (if t144 = true then ((knownbits_Contains.f x130000 x130001 x2).bind fun t145 => (jacquardlaw12_KnownbitsLattice.j3 k x2 x9 t145 x134000 x134001 x138000 x138001)) else (jacquardlaw12_KnownbitsLattice.j3 k x2 x9 false x134000 x134001 x138000 x138001)))
def jacquardlaw12_KnownbitsLattice.j3 : Nat → Int → Bool → Bool → Int → Int → Int → Int → Option (Bool)
  | 0, _, _, _, _, _, _, _ => none
  | k + 1, x2, x9, x89, x134000, x134001, x138000, x138001 => if x89 = true then (if x9 = true then ((knownbits_Contains.f x138000 x138001 x2).bind fun t146 => (if t146 = true then ((knownbits_Contains.f x134000 x134001 x2).bind fun t147 => (some t147)) else (some false))) else (some false)) else (if x9 = true then ((knownbits_Contains.f x138000 x138001 x2).bind fun t148 => (some (!t148))) else (some true))
end
def jacquardlaw12_KnownbitsLattice.f (k : Nat) (a0_0 : Int) (a0_1 : Int) (a1_0 : Int) (a1_1 : Int) (a2 : Int) : Option (Bool) := (jacquardlaw12_awake.f).bind fun t130 => (if t130 = true then ((knownbits_Join.f a0_0 a0_1 a1_0 a1_1).bind fun bt131 => ((knownbits_Meet.f a0_0 a0_1 a1_0 a1_1).bind fun bt134 => ((knownbits_Leq.f a0_0 a0_1 a1_0 a1_1).bind fun t138 => ((jacquardref12_Leq.f a0_0 a0_1 a1_0 a1_1).bind fun t139 => (if (t138 != t139) = true then (jacquardlaw12_KnownbitsLattice.j0 k a2 bt134.2.2 true a0_0 a0_1 a1_0 a1_1 bt131.1 bt131.2 bt134.1 bt134.2.1) else ((jacquardref12_Join.f a0_0 a0_1 a1_0 a1_1).bind fun bt140 => (jacquardlaw12_KnownbitsLattice.j0 k a2 bt134.2.2 (!(bt131.1 == bt140.1) || (!(bt131.2 == bt140.2))) a0_0 a0_1 a1_0 a1_1 bt131.1 bt131.2 bt134.1 bt134.2.1))))))) else (some false))
theorem jacquardlaw12_KnownbitsLattice.mono_l : ∀ k, (∀ y0 y1 y2 y3 y4 y5 y6 y7 y8 y9 y10, LeO (jacquardlaw12_KnownbitsLattice.j0 k y0 y1 y2 y3 y4 y5 y6 y7 y8 y9 y10) (jacquardlaw12_KnownbitsLattice.j0 (k + 1) y0 y1 y2 y3 y4 y5 y6 y7 y8 y9 y10)) ∧ (∀ y0 y1 y2 y3 y4 y5 y6 y7 y8 y9 y10, LeO (jacquardlaw12_KnownbitsLattice.j1 k y0 y1 y2 y3 y4 y5 y6 y7 y8 y9 y10) (jacquardlaw12_KnownbitsLattice.j1 (k + 1) y0 y1 y2 y3 y4 y5 y6 y7 y8 y9 y10)) ∧ (∀ y0 y1 y2 y3 y4 y5 y6 y7 y8 y9 y10, LeO (jacquardlaw12_KnownbitsLattice.j2 k y0 y1 y2 y3 y4 y5 y6 y7 y8 y9 y10) (jacquardlaw12_KnownbitsLattice.j2 (k + 1) y0 y1 y2 y3 y4 y5 y6 y7 y8 y9 y10)) ∧ (∀ y0 y1 y2 y3 y4 y5 y6, LeO (jacquardlaw12_KnownbitsLattice.j3 k y0 y1 y2 y3 y4 y5 y6) (jacquardlaw12_KnownbitsLattice.j3 (k + 1) y0 y1 y2 y3 y4 y5 y6))
  | 0 => ⟨fun _ _ _ _ _ _ _ _ _ _ _ r h => by simp [jacquardlaw12_KnownbitsLattice.j0] at h, fun _ _ _ _ _ _ _ _ _ _ _ r h => by simp [jacquardlaw12_KnownbitsLattice.j1] at h, fun _ _ _ _ _ _ _ _ _ _ _ r h => by simp [jacquardlaw12_KnownbitsLattice.j2] at h, fun _ _ _ _ _ _ _ r h => by simp [jacquardlaw12_KnownbitsLattice.j3] at h⟩
  | k + 1 => by
    obtain ⟨ih0, ih1, ih2, ih3⟩ := jacquardlaw12_KnownbitsLattice.mono_l k
    refine ⟨?_, ?_, ?_, ?_⟩
    · intro y0 y1 y2 y3 y4 y5 y6 y7 y8 y9 y10
      unfold jacquardlaw12_KnownbitsLattice.j0
      repeat' first
      | (with_reducible exact ih0 _ _ _ _ _ _ _ _ _ _ _)
      | (with_reducible exact ih1 _ _ _ _ _ _ _ _ _ _ _)
      | (with_reducible exact ih2 _ _ _ _ _ _ _ _ _ _ _)
      | (with_reducible exact ih3 _ _ _ _ _ _ _)
      | (with_reducible exact LeO.refl _)
      | (with_reducible exact LeO.none _)
      | (with_reducible refine LeO.ite ?_ ?_)
      | (with_reducible refine LeO.bind ?_ (fun _ => ?_))
      | exact ih0 _ _ _ _ _ _ _ _ _ _ _
      | exact ih1 _ _ _ _ _ _ _ _ _ _ _
      | exact ih2 _ _ _ _ _ _ _ _ _ _ _
      | exact ih3 _ _ _ _ _ _ _
      | exact LeO.none _
      | refine LeO.ite ?_ ?_
      | refine LeO.bind ?_ (fun _ => ?_)
    · intro y0 y1 y2 y3 y4 y5 y6 y7 y8 y9 y10
      unfold jacquardlaw12_KnownbitsLattice.j1
      repeat' first
      | (with_reducible exact ih0 _ _ _ _ _ _ _ _ _ _ _)
      | (with_reducible exact ih1 _ _ _ _ _ _ _ _ _ _ _)
      | (with_reducible exact ih2 _ _ _ _ _ _ _ _ _ _ _)
      | (with_reducible exact ih3 _ _ _ _ _ _ _)
      | (with_reducible exact LeO.refl _)
      | (with_reducible exact LeO.none _)
      | (with_reducible refine LeO.ite ?_ ?_)
      | (with_reducible refine LeO.bind ?_ (fun _ => ?_))
      | exact ih0 _ _ _ _ _ _ _ _ _ _ _
      | exact ih1 _ _ _ _ _ _ _ _ _ _ _
      | exact ih2 _ _ _ _ _ _ _ _ _ _ _
      | exact ih3 _ _ _ _ _ _ _
      | exact LeO.none _
      | refine LeO.ite ?_ ?_
      | refine LeO.bind ?_ (fun _ => ?_)
    · intro y0 y1 y2 y3 y4 y5 y6 y7 y8 y9 y10
      unfold jacquardlaw12_KnownbitsLattice.j2
      repeat' first
      | (with_reducible exact ih0 _ _ _ _ _ _ _ _ _ _ _)
      | (with_reducible exact ih1 _ _ _ _ _ _ _ _ _ _ _)
      | (with_reducible exact ih2 _ _ _ _ _ _ _ _ _ _ _)
      | (with_reducible exact ih3 _ _ _ _ _ _ _)
      | (with_reducible exact LeO.refl _)
      | (with_reducible exact LeO.none _)
      | (with_reducible refine LeO.ite ?_ ?_)
      | (with_reducible refine LeO.bind ?_ (fun _ => ?_))
      | exact ih0 _ _ _ _ _ _ _ _ _ _ _
      | exact ih1 _ _ _ _ _ _ _ _ _ _ _
      | exact ih2 _ _ _ _ _ _ _ _ _ _ _
      | exact ih3 _ _ _ _ _ _ _
      | exact LeO.none _
      | refine LeO.ite ?_ ?_
      | refine LeO.bind ?_ (fun _ => ?_)
    · intro y0 y1 y2 y3 y4 y5 y6
      unfold jacquardlaw12_KnownbitsLattice.j3
      repeat' first
      | (with_reducible exact ih0 _ _ _ _ _ _ _ _ _ _ _)
      | (with_reducible exact ih1 _ _ _ _ _ _ _ _ _ _ _)
      | (with_reducible exact ih2 _ _ _ _ _ _ _ _ _ _ _)
      | (with_reducible exact ih3 _ _ _ _ _ _ _)
      | (with_reducible exact LeO.refl _)
      | (with_reducible exact LeO.none _)
      | (with_reducible refine LeO.ite ?_ ?_)
      | (with_reducible refine LeO.bind ?_ (fun _ => ?_))
      | exact ih0 _ _ _ _ _ _ _ _ _ _ _
      | exact ih1 _ _ _ _ _ _ _ _ _ _ _
      | exact ih2 _ _ _ _ _ _ _ _ _ _ _
      | exact ih3 _ _ _ _ _ _ _
      | exact LeO.none _
      | refine LeO.ite ?_ ?_
      | refine LeO.bind ?_ (fun _ => ?_)
theorem jacquardlaw12_KnownbitsLattice.mono : ∀ a0 a1 a2 a3 a4 k, LeO (jacquardlaw12_KnownbitsLattice.f k a0 a1 a2 a3 a4) (jacquardlaw12_KnownbitsLattice.f (k + 1) a0 a1 a2 a3 a4) := by
  intro a0 a1 a2 a3 a4 k
  obtain ⟨ih0, ih1, ih2, ih3⟩ := jacquardlaw12_KnownbitsLattice.mono_l k
  unfold jacquardlaw12_KnownbitsLattice.f
  repeat' first
      | (with_reducible exact ih0 _ _ _ _ _ _ _ _ _ _ _)
      | (with_reducible exact ih1 _ _ _ _ _ _ _ _ _ _ _)
      | (with_reducible exact ih2 _ _ _ _ _ _ _ _ _ _ _)
      | (with_reducible exact ih3 _ _ _ _ _ _ _)
      | (with_reducible exact LeO.refl _)
      | (with_reducible exact LeO.none _)
      | (with_reducible refine LeO.ite ?_ ?_)
      | (with_reducible refine LeO.bind ?_ (fun _ => ?_))
      | exact ih0 _ _ _ _ _ _ _ _ _ _ _
      | exact ih1 _ _ _ _ _ _ _ _ _ _ _
      | exact ih2 _ _ _ _ _ _ _ _ _ _ _
      | exact ih3 _ _ _ _ _ _ _
      | exact LeO.none _
      | refine LeO.ite ?_ ?_
      | refine LeO.bind ?_ (fun _ => ?_)
def jacquardlaw12_KnownbitsLattice.T5 : Bool × List (List Nat × List Nat) := (true, [([], []), ([], []), ([0, 1], [0, 1]), ([], []), ([], []), ([3, 4, 2], [3, 4]), ([2, 5], [2, 5]), ([6, 5], [6]), ([7], [7]), ([7], [7]), ([7], [7]), ([9, 10, 7, 7], [7, 9, 10]), ([8, 11, 7], [7, 8, 11]), ([7, 12], [7, 12])])
def jacquardlaw12_KnownbitsLattice.B5 : List Nat := [0, 0, 3, 0, 0, 31, 63, 127, 255, 255, 255, 1791, 4095, 8191]
theorem jacquardlaw12_KnownbitsLattice.tab5 : rtab .any (opsOf Try.f4 5) = jacquardlaw12_KnownbitsLattice.T5 := by kernel_rfl
theorem jacquardlaw12_KnownbitsLattice.bits5 : waitsOk jacquardlaw12_KnownbitsLattice.T5.2 jacquardlaw12_KnownbitsLattice.B5 = true := by kernel_rfl
def jacquardlaw12_KnownbitsLattice.T7 : Bool × List (List Nat × List Nat) := (true, [([], []), ([0], [0]), ([], []), ([2], [2]), ([1, 3], [1, 3]), ([], []), ([5], [5]), ([], []), ([7], [7]), ([6, 8], [6, 8]), ([4, 0, 1, 2, 3, 4], [4]), ([9, 10, 0, 1, 2, 3, 4, 5, 6, 7, 8, 9, 10], [9])])
def jacquardlaw12_KnownbitsLattice.B7 : List Nat := [0, 1, 0, 4, 15, 0, 32, 0, 128, 480, 31, 2047]
theorem jacquardlaw12_KnownbitsLattice.tab7 : rtab .any (opsOf Try.f4 7) = jacquardlaw12_KnownbitsLattice.T7 := by kernel_rfl
theorem jacquardlaw12_KnownbitsLattice.bits7 : waitsOk jacquardlaw12_KnownbitsLattice.T7.2 jacquardlaw12_KnownbitsLattice.B7 = true := by kernel_rfl
set_option maxHeartbeats 8000000 in
set_option maxRecDepth 100000 in
theorem jacquardlaw12_KnownbitsLattice.calls (k : Nat) (a0_0 : Int) (a0_1 : Int) (a1_0 : Int) (a1_1 : Int) (a2 : Int) (r : Bool) (w : World) (h : jacquardlaw12_KnownbitsLattice.f k a0_0 a0_1 a1_0 a1_1 a2 = some r) :
    Calls Try.prog 4 #[.agg #[.int .u64 a0_0, .int .u64 a0_1], .agg #[.int .u64 a1_0, .int .u64 a1_1], .int .u64 a2] w fun e w' => e = .returned (.bool r) ∧ Below w.heap.size w w' := by
  have hu24 := Try.underlying24
  have HB := Aside0.mk (Below.refl w.heap.size w)
  have H : ((jacquardlaw12_awake.f).bind fun t130 => (if t130 = true then ((knownbits_Join.f a0_0 a0_1 a1_0 a1_1).bind fun bt131 => ((knownbits_Meet.f a0_0 a0_1 a1_0 a1_1).bind fun bt134 => ((knownbits_Leq.f a0_0 a0_1 a1_0 a1_1).bind fun t138 => ((jacquardref12_Leq.f a0_0 a0_1 a1_0 a1_1).bind fun t139 => (if (t138 != t139) = true then (jacquardlaw12_KnownbitsLattice.j0 k a2 bt134.2.2 true a0_0 a0_1 a1_0 a1_1 bt131.1 bt131.2 bt134.1 bt134.2.1) else ((jacquardref12_Join.f a0_0 a0_1 a1_0 a1_1).bind fun bt140 => (jacquardlaw12_KnownbitsLattice.j0 k a2 bt134.2.2 (!(bt131.1 == bt140.1) || (!(bt131.2 == bt140.2))) a0_0 a0_1 a1_0 a1_1 bt131.1 bt131.2 bt134.1 bt134.2.1))))))) else (some false))) = some r := h
  clear h
  replace H := Option.bind_eq_some_iff.mp H
  obtain ⟨t130, A40, H⟩ := H
  replace H : (if t130 = true then ((knownbits_Join.f a0_0 a0_1 a1_0 a1_1).bind fun bt131 => ((knownbits_Meet.f a0_0 a0_1 a1_0 a1_1).bind fun bt134 => ((knownbits_Leq.f a0_0 a0_1 a1_0 a1_1).bind fun t138 => ((jacquardref12_Leq.f a0_0 a0_1 a1_0 a1_1).bind fun t139 => (if (t138 != t139) = true then (jacquardlaw12_KnownbitsLattice.j0 k a2 bt134.2.2 true a0_0 a0_1 a1_0 a1_1 bt131.1 bt131.2 bt134.1 bt134.2.1) else ((jacquardref12_Join.f a0_0 a0_1 a1_0 a1_1).bind fun bt140 => (jacquardlaw12_KnownbitsLattice.j0 k a2 bt134.2.2 (!(bt131.1 == bt140.1) || (!(bt131.2 == bt140.2))) a0_0 a0_1 a1_0 a1_1 bt131.1 bt131.2 bt134.1 bt134.2.1))))))) else (some false)) = some r := H
  have A4 := Aside0.mk A40
  clear A40
  by_cases c5 : t130 = true
  · subst c5
    have H1 : ((knownbits_Join.f a0_0 a0_1 a1_0 a1_1).bind fun bt131 => ((knownbits_Meet.f a0_0 a0_1 a1_0 a1_1).bind fun bt134 => ((knownbits_Leq.f a0_0 a0_1 a1_0 a1_1).bind fun t138 => ((jacquardref12_Leq.f a0_0 a0_1 a1_0 a1_1).bind fun t139 => (if (t138 != t139) = true then (jacquardlaw12_KnownbitsLattice.j0 k a2 bt134.2.2 true a0_0 a0_1 a1_0 a1_1 bt131.1 bt131.2 bt134.1 bt134.2.1) else ((jacquardref12_Join.f a0_0 a0_1 a1_0 a1_1).bind fun bt140 => (jacquardlaw12_KnownbitsLattice.j0 k a2 bt134.2.2 (!(bt131.1 == bt140.1) || (!(bt131.2 == bt140.2))) a0_0 a0_1 a1_0 a1_1 bt131.1 bt131.2 bt134.1 bt134.2.1))))))) = some r := by rw [if_pos rfl] at H; exact H
    clear H
    have H := H1
    clear H1
    replace H := Option.bind_eq_some_iff.mp H
    obtain ⟨⟨t131, t132⟩, A60, H⟩ := H
    replace H : ((knownbits_Meet.f a0_0 a0_1 a1_0 a1_1).bind fun bt134 => ((knownbits_Leq.f a0_0 a0_1 a1_0 a1_1).bind fun t138 => ((jacquardref12_Leq.f a0_0 a0_1 a1_0 a1_1).bind fun t139 => (if (t138 != t139) = true then (jacquardlaw12_KnownbitsLattice.j0 k a2 bt134.2.2 true a0_0 a0_1 a1_0 a1_1 t131 t132 bt134.1 bt134.2.1) else ((jacquardref12_Join.f a0_0 a0_1 a1_0 a1_1).bind fun bt140 => (jacquardlaw12_KnownbitsLattice.j0 k a2 bt134.2.2 (!(t131 == bt140.1) || (!(t132 == bt140.2))) a0_0 a0_1 a1_0 a1_1 t131 t132 bt134.1 bt134.2.1)))))) = some r := H
    have A6 := Aside0.mk A60
    clear A60
    replace H := Option.bind_eq_some_iff.mp H
    obtain ⟨⟨t134, t135, t136⟩, A70, H⟩ := H
    replace H : ((knownbits_Leq.f a0_0 a0_1 a1_0 a1_1).bind fun t138 => ((jacquardref12_Leq.f a0_0 a0_1 a1_0 a1_1).bind fun t139 => (if (t138 != t139) = true then (jacquardlaw12_KnownbitsLattice.j0 k a2 t136 true a0_0 a0_1 a1_0 a1_1 t131 t132 t134 t135) else ((jacquardref12_Join.f a0_0 a0_1 a1_0 a1_1).bind fun bt140 => (jacquardlaw12_KnownbitsLattice.j0 k a2 t136 (!(t131 == bt140.1) || (!(t132 == bt140.2))) a0_0 a0_1 a1_0 a1_1 t131 t132 t134 t135))))) = some r := H
    have A7 := Aside0.mk A70
    clear A70
    have HC8 := Aside0.mk H
    clear H
    go_enter Try.func4, Try.ntmps4
    go_upto_region 5 with (first | ((with_reducible refine gate_dst (N := 3) rfl ?_); refine box_event ?hg (N := 3) ?hd (cs := #[.int .u64 a0_0, .int .u64 a0_1]) (t := 24) ?hr ?_; (case hd => rfl); (case hg => rfl); (case hr => first | (go_simp; done) | (go_simp; rfl)); intro gb128 hg w9 hbox hb; have n0_ := Aside0.mk (below_step (by repeat (first | (with_reducible first | exact HB.out | apply below_alloc | apply pw_below_drewN | apply below_drew1) | exact HB.out)) hb); have n1_ := Aside0.mk (hbox); have n2_ := Aside0.mk ((by rw [hg]; exact (below_size (by repeat (first | (with_reducible first | exact HB.out | apply below_alloc | apply pw_below_drewN | apply below_drew1) | exact HB.out))) : w.heap.size ≤ gb128)); have n3_ := Aside0.mk ((by rw [hg]; exact (below_size (by repeat (first | (with_reducible first | exact HB.out | apply below_alloc | apply pw_below_drewN | apply below_drew1) | exact HB.out))) : w.heap.size ≤ gb128)); clear HB; have HB := n0_; have BK128 := n1_; have GW128 := n2_; have GE128 := n3_; clear n0_ n1_ n2_ n3_; clear hb hbox hg) | ((with_reducible refine gate_dst (N := 4) rfl ?_); refine box_event ?hg (N := 4) ?hd (cs := #[.int .u64 a1_0, .int .u64 a1_1]) (t := 24) ?hr ?_; (case hd => rfl); (case hg => rfl); (case hr => first | (go_simp; done) | (go_simp; rfl)); intro gb129 hg w10 hbox hb; have n0_ := Aside0.mk (blk_below (g := gb128) (o := .cells #[.int .u64 a0_0, .int .u64 a0_1] 24 (0, 0)) (by (with_reducible repeat (first | refine blk_drewN ?_ _ | refine blk_drew ?_ | refine blk_alloc ?_ _)); exact BK128.out) hb); have n1_ := Aside0.mk (below_step (by repeat (first | (with_reducible first | exact HB.out | apply below_alloc | apply pw_below_drewN | apply below_drew1 | refine below_set ?_ GE128.out) | exact HB.out)) hb); have n2_ := Aside0.mk (hbox); have n3_ := Aside0.mk ((by rw [hg]; exact (below_size (by repeat (first | (with_reducible first | exact HB.out | apply below_alloc | apply pw_below_drewN | apply below_drew1 | refine below_set ?_ GE128.out) | exact HB.out))) : w.heap.size ≤ gb129)); have n4_ := Aside0.mk ((by rw [hg]; exact (below_size (by repeat (first | (with_reducible first | exact HB.out | apply below_alloc | apply pw_below_drewN | apply below_drew1 | refine below_set ?_ GE128.out) | exact HB.out))) : w.heap.size ≤ gb129)); have n5_ := Aside0.mk ((by rw [hg]; exact Nat.ne_of_lt (blk_lt (g := gb128) (o := .cells #[.int .u64 a0_0, .int .u64 a0_1] 24 (0, 0)) (by (with_reducible repeat (first | refine blk_drewN ?_ _ | refine blk_drew ?_ | refine blk_alloc ?_ _)); exact BK128.out)) : gb128 ≠ gb129)); have n6_ := Aside0.mk ((by rw [hg]; exact Nat.ne_of_gt (blk_lt (g := gb128) (o := .cells #[.int .u64 a0_0, .int .u64 a0_1] 24 (0, 0)) (by (with_reducible repeat (first | refine blk_drewN ?_ _ | refine blk_drew ?_ | refine blk_alloc ?_ _)); exact BK128.out)) : gb129 ≠ gb128)); clear BK128; clear HB; have BK128 := n0_; have HB := n1_; have BK129 := n2_; have GW129 := n3_; have GE129 := n4_; have NB128_129 := n5_; have NB129_128 := n6_; clear n0_ n1_ n2_ n3_ n4_ n5_ n6_; clear hb hbox hg) | ((with_reducible refine gate_callee (f := 6) rfl ?_); refine goesL_ (some 12) rfl rfl Try.func6 (by kernel_rfl) rfl #[] rfl (by (try simp only [List.map_toArray, List.map_cons, List.map_nil]); first | done | rfl | (simp only [List.length_drop, List.length_take]; rfl)) ?_; (with_reducible refine (jacquardlaw12_awake.calls  true _ A4.out).mono ?_); rintro e w11 ⟨rfl, hb⟩; refine ⟨_, rfl, ?_⟩; have n0_ := Aside0.mk (blk_below (g := gb128) (o := .cells #[.int .u64 a0_0, .int .u64 a0_1] 24 (0, 0)) (by (with_reducible repeat (first | refine blk_drewN ?_ _ | refine blk_drew ?_ | refine blk_alloc ?_ _)); exact BK128.out) hb); have n1_ := Aside0.mk (blk_below (g := gb129) (o := .cells #[.int .u64 a1_0, .int .u64 a1_1] 24 (0, 0)) (by (with_reducible repeat (first | refine blk_drewN ?_ _ | refine blk_drew ?_ | refine blk_alloc ?_ _)); exact BK129.out) hb); have n2_ := Aside0.mk (below_step (by repeat (first | (with_reducible first | exact HB.out | apply below_alloc | apply pw_below_drewN | apply below_drew1 | refine below_set ?_ GE128.out | refine below_set ?_ GE129.out) | exact HB.out)) hb); clear BK128; clear BK129; clear HB; have BK128 := n0_; have BK129 := n1_; have HB := n2_; clear n0_ n1_ n2_; (try clear hb); (try clear hb2); (try clear hk); (try clear hi); have hnb12 := NB128_129.out; have hnc12 := NB129_128.out; have hcz13_0 : w11.cell? ⟨gb128, 0, none⟩ = some (.int .u64 a0_0) := (blk_cell BK128.out 0).trans rfl; have hcz13_1 : w11.cell? ⟨gb128, 1, none⟩ = some (.int .u64 a0_1) := (blk_cell BK128.out 1).trans rfl; have hfz13_0 := blk_frozen BK128.out 0; have hfz13_1 := blk_frozen BK128.out 1; have hcz14_0 : w11.cell? ⟨gb129, 0, none⟩ = some (.int .u64 a1_0) := (blk_cell BK129.out 0).trans rfl; have hcz14_1 : w11.cell? ⟨gb129, 1, none⟩ = some (.int .u64 a1_1) := (blk_cell BK129.out 1).trans rfl; have hfz14_0 := blk_frozen BK129.out 0; have hfz14_1 := blk_frozen BK129.out 1) | ((with_reducible refine gate_callee (f := 15) rfl ?_); refine goesL_ (some 16) rfl rfl Try.func15 (by kernel_rfl) rfl #[.agg #[.int .u64 a0_0, .int .u64 a0_1], .agg #[.int .u64 a1_0, .int .u64 a1_1]] rfl (by (try simp only [List.map_toArray, List.map_cons, List.map_nil]); first | done | rfl | (simp only [List.length_drop, List.length_take]; rfl)) ?_; (with_reducible refine (knownbits_Join.calls a0_0 a0_1 a1_0 a1_1 t131 t132 _ A6.out).mono ?_); rintro e w15 ⟨rfl, hb⟩; refine ⟨_, rfl, ?_⟩; have n0_ := Aside0.mk (blk_below (g := gb128) (o := .cells #[.int .u64 a0_0, .int .u64 a0_1] 24 (0, 0)) (by (with_reducible repeat (first | refine blk_drewN ?_ _ | refine blk_drew ?_ | refine blk_alloc ?_ _)); exact BK128.out) hb); have n1_ := Aside0.mk (blk_below (g := gb129) (o := .cells #[.int .u64 a1_0, .int .u64 a1_1] 24 (0, 0)) (by (with_reducible repeat (first | refine blk_drewN ?_ _ | refine blk_drew ?_ | refine blk_alloc ?_ _)); exact BK129.out) hb); have n2_ := Aside0.mk (below_step (by repeat (first | (with_reducible first | exact HB.out | apply below_alloc | apply pw_below_drewN | apply below_drew1 | refine below_set ?_ GE128.out | refine below_set ?_ GE129.out) | exact HB.out)) hb); clear BK128; clear BK129; clear HB; have BK128 := n0_; have BK129 := n1_; have HB := n2_; clear n0_ n1_ n2_; (try clear hb); (try clear hb2); (try clear hk); (try clear hi)) | ((with_reducible refine gate_dst (N := 7) rfl ?_); refine box_event ?hg (N := 7) ?hd (cs := #[.int .u64 0, .int .u64 0]) (t := 24) ?hr ?_; (case hd => rfl); (case hg => rfl); (case hr => first | (go_simp; done) | (go_simp; rfl)); intro gb133 hg w16 hbox hb; have n0_ := Aside0.mk (blk_below (g := gb128) (o := .cells #[.int .u64 a0_0, .int .u64 a0_1] 24 (0, 0)) (by (with_reducible repeat (first | refine blk_drewN ?_ _ | refine blk_drew ?_ | refine blk_alloc ?_ _)); exact BK128.out) hb); have n1_ := Aside0.mk (blk_below (g := gb129) (o := .cells #[.int .u64 a1_0, .int .u64 a1_1] 24 (0, 0)) (by (with_reducible repeat (first | refine blk_drewN ?_ _ | refine blk_drew ?_ | refine blk_alloc ?_ _)); exact BK129.out) hb); have n2_ := Aside0.mk (below_step (by repeat (first | (with_reducible first | exact HB.out | apply below_alloc | apply pw_below_drewN | apply below_drew1 | refine below_set ?_ GE128.out | refine below_set ?_ GE129.out) | exact HB.out)) hb); have n3_ := Aside0.mk (hbox); have n4_ := Aside0.mk ((by rw [hg]; exact (below_size (by repeat (first | (with_reducible first | exact HB.out | apply below_alloc | apply pw_below_drewN | apply below_drew1 | refine below_set ?_ GE128.out | refine below_set ?_ GE129.out) | exact HB.out))) : w.heap.size ≤ gb133)); have n5_ := Aside0.mk ((by rw [hg]; exact (below_size (by repeat (first | (with_reducible first | exact HB.out | apply below_alloc | apply pw_below_drewN | apply below_drew1 | refine below_set ?_ GE128.out | refine below_set ?_ GE129.out) | exact HB.out))) : w.heap.size ≤ gb133)); have n6_ := Aside0.mk ((by rw [hg]; exact Nat.ne_of_lt (blk_lt (g := gb128) (o := .cells #[.int .u64 a0_0, .int .u64 a0_1] 24 (0, 0)) (by (with_reducible repeat (first | refine blk_drewN ?_ _ | refine blk_drew ?_ | refine blk_alloc ?_ _)); exact BK128.out)) : gb128 ≠ gb133)); have n7_ := Aside0.mk ((by rw [hg]; exact Nat.ne_of_gt (blk_lt (g := gb128) (o := .cells #[.int .u64 a0_0, .int .u64 a0_1] 24 (0, 0)) (by (with_reducible repeat (first | refine blk_drewN ?_ _ | refine blk_drew ?_ | refine blk_alloc ?_ _)); exact BK128.out)) : gb133 ≠ gb128)); have n8_ := Aside0.mk ((by rw [hg]; exact Nat.ne_of_lt (blk_lt (g := gb129) (o := .cells #[.int .u64 a1_0, .int .u64 a1_1] 24 (0, 0)) (by (with_reducible repeat (first | refine blk_drewN ?_ _ | refine blk_drew ?_ | refine blk_alloc ?_ _)); exact BK129.out)) : gb129 ≠ gb133)); have n9_ := Aside0.mk ((by rw [hg]; exact Nat.ne_of_gt (blk_lt (g := gb129) (o := .cells #[.int .u64 a1_0, .int .u64 a1_1] 24 (0, 0)) (by (with_reducible repeat (first | refine blk_drewN ?_ _ | refine blk_drew ?_ | refine blk_alloc ?_ _)); exact BK129.out)) : gb133 ≠ gb129)); clear BK128; clear BK129; clear HB; have BK128 := n0_; have BK129 := n1_; have HB := n2_; have BK133 := n3_; have GW133 := n4_; have GE133 := n5_; have NB128_133 := n6_; have NB133_128 := n7_; have NB129_133 := n8_; have NB133_129 := n9_; clear n0_ n1_ n2_ n3_ n4_ n5_ n6_ n7_ n8_ n9_; clear hb hbox hg; have hnb17 := NB133_128.out; have hnc17 := NB128_133.out; have hnb18 := NB133_129.out; have hnc18 := NB129_133.out; have hcz19_0 : w16.cell? ⟨gb133, 0, none⟩ = some (.int .u64 0) := (blk_cell BK133.out 0).trans rfl; have hcz19_1 : w16.cell? ⟨gb133, 1, none⟩ = some (.int .u64 0) := (blk_cell BK133.out 1).trans rfl; have hfz19_0 := blk_frozen BK133.out 0; have hfz19_1 := blk_frozen BK133.out 1; have hcz20_0 : w16.cell? ⟨gb128, 0, none⟩ = some (.int .u64 a0_0) := (blk_cell BK128.out 0).trans rfl; have hcz20_1 : w16.cell? ⟨gb128, 1, none⟩ = some (.int .u64 a0_1) := (blk_cell BK128.out 1).trans rfl; have hfz20_0 := blk_frozen BK128.out 0; have hfz20_1 := blk_frozen BK128.out 1; have hcz21_0 : w16.cell? ⟨gb129, 0, none⟩ = some (.int .u64 a1_0) := (blk_cell BK129.out 0).trans rfl; have hcz21_1 : w16.cell? ⟨gb129, 1, none⟩ = some (.int .u64 a1_1) := (blk_cell BK129.out 1).trans rfl; have hfz21_0 := blk_frozen BK129.out 0; have hfz21_1 := blk_frozen BK129.out 1) | ((with_reducible refine gate_callee (f := 16) rfl ?_); refine goesL_ (some 20) rfl rfl Try.func16 (by kernel_rfl) rfl #[.agg #[.int .u64 a0_0, .int .u64 a0_1], .agg #[.int .u64 a1_0, .int .u64 a1_1]] rfl (by (try simp only [List.map_toArray, List.map_cons, List.map_nil]); first | done | rfl | (simp only [List.length_drop, List.length_take]; rfl)) ?_; (with_reducible refine (knownbits_Meet.calls a0_0 a0_1 a1_0 a1_1 t134 t135 t136 _ A7.out).mono ?_); rintro e w22 ⟨rfl, hb⟩; refine ⟨_, rfl, ?_⟩; have n0_ := Aside0.mk (blk_below (g := gb128) (o := .cells #[.int .u64 a0_0, .int .u64 a0_1] 24 (0, 0)) (by (with_reducible repeat (first | refine blk_drewN ?_ _ | refine blk_drew ?_ | refine blk_alloc ?_ _)); refine blk_far ?_ NB128_133.out _; (with_reducible repeat (first | refine blk_drewN ?_ _ | refine blk_drew ?_ | refine blk_alloc ?_ _)); refine blk_far ?_ NB128_133.out _; (with_reducible repeat (first | refine blk_drewN ?_ _ | refine blk_drew ?_ | refine blk_alloc ?_ _)); exact BK128.out) hb); have n1_ := Aside0.mk (blk_below (g := gb129) (o := .cells #[.int .u64 a1_0, .int .u64 a1_1] 24 (0, 0)) (by (with_reducible repeat (first | refine blk_drewN ?_ _ | refine blk_drew ?_ | refine blk_alloc ?_ _)); refine blk_far ?_ NB129_133.out _; (with_reducible repeat (first | refine blk_drewN ?_ _ | refine blk_drew ?_ | refine blk_alloc ?_ _)); refine blk_far ?_ NB129_133.out _; (with_reducible repeat (first | refine blk_drewN ?_ _ | refine blk_drew ?_ | refine blk_alloc ?_ _)); exact BK129.out) hb); have n2_ := Aside0.mk (blk_below (g := gb133) (o := .cells #[.int .u64 t131, .int .u64 t132] 24 (0, 0)) (by (with_reducible repeat (first | refine blk_drewN ?_ _ | refine blk_drew ?_ | refine blk_alloc ?_ _)); refine blk_put (cs := #[.int .u64 t131, .int .u64 0]) ?_ 1 _ rfl; (with_reducible repeat (first | refine blk_drewN ?_ _ | refine blk_drew ?_ | refine blk_alloc ?_ _)); refine blk_put (cs := #[.int .u64 0, .int .u64 0]) ?_ 0 _ rfl; (with_reducible repeat (first | refine blk_drewN ?_ _ | refine blk_drew ?_ | refine blk_alloc ?_ _)); exact BK133.out) hb); have n3_ := Aside0.mk (below_step (by repeat (first | (with_reducible first | exact HB.out | apply below_alloc | apply pw_below_drewN | apply below_drew1 | refine below_set ?_ GE128.out | refine below_set ?_ GE129.out | refine below_set ?_ GE133.out) | exact HB.out)) hb); clear BK128; clear BK129; clear BK133; clear HB; have BK128 := n0_; have BK129 := n1_; have BK133 := n2_; have HB := n3_; clear n0_ n1_ n2_ n3_; (try clear hb); (try clear hb2); (try clear hk); (try clear hi)) | ((with_reducible refine gate_dst (N := 8) rfl ?_); refine box_event ?hg (N := 8) ?hd (cs := #[.int .u64 0, .int .u64 0]) (t := 24) ?hr ?_; (case hd => rfl); (case hg => rfl); (case hr => first | (go_simp; done) | (go_simp; rfl)); intro gb137 hg w23 hbox hb; have n0_ := Aside0.mk (blk_below (g := gb128) (o := .cells #[.int .u64 a0_0, .int .u64 a0_1] 24 (0, 0)) (by (with_reducible repeat (first | refine blk_drewN ?_ _ | refine blk_drew ?_ | refine blk_alloc ?_ _)); exact BK128.out) hb); have n1_ := Aside0.mk (blk_below (g := gb129) (o := .cells #[.int .u64 a1_0, .int .u64 a1_1] 24 (0, 0)) (by (with_reducible repeat (first | refine blk_drewN ?_ _ | refine blk_drew ?_ | refine blk_alloc ?_ _)); exact BK129.out) hb); have n2_ := Aside0.mk (blk_below (g := gb133) (o := .cells #[.int .u64 t131, .int .u64 t132] 24 (0, 0)) (by (with_reducible repeat (first | refine blk_drewN ?_ _ | refine blk_drew ?_ | refine blk_alloc ?_ _)); exact BK133.out) hb); have n3_ := Aside0.mk (below_step (by repeat (first | (with_reducible first | exact HB.out | apply below_alloc | apply pw_below_drewN | apply below_drew1 | refine below_set ?_ GE128.out | refine below_set ?_ GE129.out | refine below_set ?_ GE133.out) | exact HB.out)) hb); have n4_ := Aside0.mk (hbox); have n5_ := Aside0.mk ((by rw [hg]; exact (below_size (by repeat (first | (with_reducible first | exact HB.out | apply below_alloc | apply pw_below_drewN | apply below_drew1 | refine below_set ?_ GE128.out | refine below_set ?_ GE129.out | refine below_set ?_ GE133.out) | exact HB.out))) : w.heap.size ≤ gb137)); have n6_ := Aside0.mk ((by rw [hg]; exact (below_size (by repeat (first | (with_reducible first | exact HB.out | apply below_alloc | apply pw_below_drewN | apply below_drew1 | refine below_set ?_ GE128.out | refine below_set ?_ GE129.out | refine below_set ?_ GE133.out) | exact HB.out))) : w.heap.size ≤ gb137)); have n7_ := Aside0.mk ((by rw [hg]; exact Nat.ne_of_lt (blk_lt (g := gb128) (o := .cells #[.int .u64 a0_0, .int .u64 a0_1] 24 (0, 0)) (by (with_reducible repeat (first | refine blk_drewN ?_ _ | refine blk_drew ?_ | refine blk_alloc ?_ _)); exact BK128.out)) : gb128 ≠ gb137)); have n8_ := Aside0.mk ((by rw [hg]; exact Nat.ne_of_gt (blk_lt (g := gb128) (o := .cells #[.int .u64 a0_0, .int .u64 a0_1] 24 (0, 0)) (by (with_reducible repeat (first | refine blk_drewN ?_ _ | refine blk_drew ?_ | refine blk_alloc ?_ _)); exact BK128.out)) : gb137 ≠ gb128)); have n9_ := Aside0.mk ((by rw [hg]; exact Nat.ne_of_lt (blk_lt (g := gb129) (o := .cells #[.int .u64 a1_0, .int .u64 a1_1] 24 (0, 0)) (by (with_reducible repeat (first | refine blk_drewN ?_ _ | refine blk_drew ?_ | refine blk_alloc ?_ _)); exact BK129.out)) : gb129 ≠ gb137)); have n10_ := Aside0.mk ((by rw [hg]; exact Nat.ne_of_gt (blk_lt (g := gb129) (o := .cells #[.int .u64 a1_0, .int .u64 a1_1] 24 (0, 0)) (by (with_reducible repeat (first | refine blk_drewN ?_ _ | refine blk_drew ?_ | refine blk_alloc ?_ _)); exact BK129.out)) : gb137 ≠ gb129)); have n11_ := Aside0.mk ((by rw [hg]; exact Nat.ne_of_lt (blk_lt (g := gb133) (o := .cells #[.int .u64 t131, .int .u64 t132] 24 (0, 0)) (by (with_reducible repeat (first | refine blk_drewN ?_ _ | refine blk_drew ?_ | refine blk_alloc ?_ _)); exact BK133.out)) : gb133 ≠ gb137)); have n12_ := Aside0.mk ((by rw [hg]; exact Nat.ne_of_gt (blk_lt (g := gb133) (o := .cells #[.int .u64 t131, .int .u64 t132] 24 (0, 0)) (by (with_reducible repeat (first | refine blk_drewN ?_ _ | refine blk_drew ?_ | refine blk_alloc ?_ _)); exact BK133.out)) : gb137 ≠ gb133)); clear BK128; clear BK129; clear BK133; clear HB; have BK128 := n0_; have BK129 := n1_; have BK133 := n2_; have HB := n3_; have BK137 := n4_; have GW137 := n5_; have GE137 := n6_; have NB128_137 := n7_; have NB137_128 := n8_; have NB129_137 := n9_; have NB137_129 := n10_; have NB133_137 := n11_; have NB137_133 := n12_; clear n0_ n1_ n2_ n3_ n4_ n5_ n6_ n7_ n8_ n9_ n10_ n11_ n12_; clear hb hbox hg; have hnb24 := NB137_128.out; have hnc24 := NB128_137.out; have hnb25 := NB137_129.out; have hnc25 := NB129_137.out; have hnb26 := NB137_133.out; have hnc26 := NB133_137.out; have hcz27_0 : w23.cell? ⟨gb137, 0, none⟩ = some (.int .u64 0) := (blk_cell BK137.out 0).trans rfl; have hcz27_1 : w23.cell? ⟨gb137, 1, none⟩ = some (.int .u64 0) := (blk_cell BK137.out 1).trans rfl; have hfz27_0 := blk_frozen BK137.out 0; have hfz27_1 := blk_frozen BK137.out 1))
    (try simp only [Act.put, List.setIfInBounds_toArray, List.set_cons_zero, List.set_cons_succ])
    go_cut [36] (fun v36 wc => ∃ (kq : Nat) (x36_7 : Bool), v36 = .bool x36_7 ∧ Aside0 (jacquardlaw12_KnownbitsLattice.j0 kq a2 t136 x36_7 a0_0 a0_1 a1_0 a1_1 t131 t132 t134 t135 = some r) ∧ Aside0 (kq ≤ k) ∧ Aside0 (wc.heap[gb128]? = some (.cells #[.int .u64 a0_0, .int .u64 a0_1] 24 (0, 0))) ∧ Aside0 (wc.heap[gb129]? = some (.cells #[.int .u64 a1_0, .int .u64 a1_1] 24 (0, 0))) ∧ Aside0 (wc.heap[gb133]? = some (.cells #[.int .u64 t131, .int .u64 t132] 24 (0, 0))) ∧ Aside0 (wc.heap[gb137]? = some (.cells #[.int .u64 t134, .int .u64 t135] 24 (0, 0))) ∧ Aside0 (Below w.heap.size w wc))
    case first =>
      have H := HC8.out
      clear HC8
      replace H := Option.bind_eq_some_iff.mp H
      obtain ⟨t138, A280, H⟩ := H
      replace H : ((jacquardref12_Leq.f a0_0 a0_1 a1_0 a1_1).bind fun t139 => (if (t138 != t139) = true then (jacquardlaw12_KnownbitsLattice.j0 k a2 t136 true a0_0 a0_1 a1_0 a1_1 t131 t132 t134 t135) else ((jacquardref12_Join.f a0_0 a0_1 a1_0 a1_1).bind fun bt140 => (jacquardlaw12_KnownbitsLattice.j0 k a2 t136 (!(t131 == bt140.1) || (!(t132 == bt140.2))) a0_0 a0_1 a1_0 a1_1 t131 t132 t134 t135)))) = some r := H
      have A28 := Aside0.mk A280
      clear A280
      replace H := Option.bind_eq_some_iff.mp H
      obtain ⟨t139, A290, H⟩ := H
      replace H : (if (t138 != t139) = true then (jacquardlaw12_KnownbitsLattice.j0 k a2 t136 true a0_0 a0_1 a1_0 a1_1 t131 t132 t134 t135) else ((jacquardref12_Join.f a0_0 a0_1 a1_0 a1_1).bind fun bt140 => (jacquardlaw12_KnownbitsLattice.j0 k a2 t136 (!(t131 == bt140.1) || (!(t132 == bt140.2))) a0_0 a0_1 a1_0 a1_1 t131 t132 t134 t135))) = some r := H
      have A29 := Aside0.mk A290
      clear A290
      by_cases c30 : (t138 != t139) = true
      · rw [if_pos c30] at H
        have c30b0 : (t138 != t139) = true := c30
        (try (have c30b1 : decide (t138 = t139) = false := by simpa using c30))
        (try (have c30b2 : (t138 == t139) = false := by simpa using c30))
        (try (have c30b3 : ¬ (t138 = t139) := by simpa using c30))
        clear c30
        (first | rw [c30b0] | (simp only [i64_w, i32_w]; rw [c30b0]) | skip)
        have H' := Aside0.mk H
        clear H
        try go_wp2
        have n0_ : Aside0 (((w23.setCell ⟨gb137, 0, none⟩ (.int .u64 t134)).setCell ⟨gb137, 1, none⟩ (.int .u64 t135)).heap[gb128]? = some (.cells #[.int .u64 a0_0, .int .u64 a0_1] 24 (0, 0))) := ⟨by (with_reducible repeat (first | refine blk_drewN ?_ _ | refine blk_drew ?_ | refine blk_alloc ?_ _)); refine blk_far ?_ NB128_137.out _; (with_reducible repeat (first | refine blk_drewN ?_ _ | refine blk_drew ?_ | refine blk_alloc ?_ _)); refine blk_far ?_ NB128_137.out _; (with_reducible repeat (first | refine blk_drewN ?_ _ | refine blk_drew ?_ | refine blk_alloc ?_ _)); exact BK128.out⟩
        have n1_ : Aside0 (((w23.setCell ⟨gb137, 0, none⟩ (.int .u64 t134)).setCell ⟨gb137, 1, none⟩ (.int .u64 t135)).heap[gb129]? = some (.cells #[.int .u64 a1_0, .int .u64 a1_1] 24 (0, 0))) := ⟨by (with_reducible repeat (first | refine blk_drewN ?_ _ | refine blk_drew ?_ | refine blk_alloc ?_ _)); refine blk_far ?_ NB129_137.out _; (with_reducible repeat (first | refine blk_drewN ?_ _ | refine blk_drew ?_ | refine blk_alloc ?_ _)); refine blk_far ?_ NB129_137.out _; (with_reducible repeat (first | refine blk_drewN ?_ _ | refine blk_drew ?_ | refine blk_alloc ?_ _)); exact BK129.out⟩
        have n2_ : Aside0 (((w23.setCell ⟨gb137, 0, none⟩ (.int .u64 t134)).setCell ⟨gb137, 1, none⟩ (.int .u64 t135)).heap[gb133]? = some (.cells #[.int .u64 t131, .int .u64 t132] 24 (0, 0))) := ⟨by (with_reducible repeat (first | refine blk_drewN ?_ _ | refine blk_drew ?_ | refine blk_alloc ?_ _)); refine blk_far ?_ NB133_137.out _; (with_reducible repeat (first | refine blk_drewN ?_ _ | refine blk_drew ?_ | refine blk_alloc ?_ _)); refine blk_far ?_ NB133_137.out _; (with_reducible repeat (first | refine blk_drewN ?_ _ | refine blk_drew ?_ | refine blk_alloc ?_ _)); exact BK133.out⟩
        have n3_ : Aside0 (((w23.setCell ⟨gb137, 0, none⟩ (.int .u64 t134)).setCell ⟨gb137, 1, none⟩ (.int .u64 t135)).heap[gb137]? = some (.cells #[.int .u64 t134, .int .u64 t135] 24 (0, 0))) := ⟨by (with_reducible repeat (first | refine blk_drewN ?_ _ | refine blk_drew ?_ | refine blk_alloc ?_ _)); refine blk_put (cs := #[.int .u64 t134, .int .u64 0]) ?_ 1 _ rfl; (with_reducible repeat (first | refine blk_drewN ?_ _ | refine blk_drew ?_ | refine blk_alloc ?_ _)); refine blk_put (cs := #[.int .u64 0, .int .u64 0]) ?_ 0 _ rfl; (with_reducible repeat (first | refine blk_drewN ?_ _ | refine blk_drew ?_ | refine blk_alloc ?_ _)); exact BK137.out⟩
        have n4_ : Aside0 (Below w.heap.size w ((w23.setCell ⟨gb137, 0, none⟩ (.int .u64 t134)).setCell ⟨gb137, 1, none⟩ (.int .u64 t135))) := ⟨by repeat (first | (with_reducible first | exact HB.out | apply below_alloc | apply pw_below_drewN | apply below_drew1 | refine below_set ?_ GE128.out | refine below_set ?_ GE129.out | refine below_set ?_ GE133.out | refine below_set ?_ GE137.out) | exact HB.out)⟩
        (try clear BK128)
        (try clear BK129)
        (try clear BK133)
        (try clear BK137)
        (try clear HB)
        generalize ((w23.setCell ⟨gb137, 0, none⟩ (.int .u64 t134)).setCell ⟨gb137, 1, none⟩ (.int .u64 t135)) = w31 at n0_ n1_ n2_ n3_ n4_ ⊢
        have BK128 := n0_
        have BK129 := n1_
        have BK133 := n2_
        have BK137 := n3_
        have HB := n4_
        clear n0_ n1_ n2_ n3_ n4_
        have n0_ := Aside0.mk (blk_drew BK128.out)
        have n1_ := Aside0.mk (blk_drew BK129.out)
        have n2_ := Aside0.mk (blk_drew BK133.out)
        have n3_ := Aside0.mk (blk_drew BK137.out)
        have n4_ := Aside0.mk (below_drew1 HB.out)
        clear BK128
        clear BK129
        clear BK133
        clear BK137
        clear HB
        have BK128 := n0_
        have BK129 := n1_
        have BK133 := n2_
        have BK137 := n3_
        have HB := n4_
        clear n0_ n1_ n2_ n3_ n4_
        refine start_ (n := 14) (S := fun w' => w'.cell? ⟨gb128, 0, none⟩ = some (.int .u64 a0_0) ∧ w'.cell? ⟨gb128, 1, none⟩ = some (.int .u64 a0_1) ∧ w'.cell? ⟨gb129, 0, none⟩ = some (.int .u64 a1_0) ∧ w'.cell? ⟨gb129, 1, none⟩ = some (.int .u64 a1_1)) (ds := []) #[false, false, false, false, false, false, false, false, false, false, false, false, false, false] (by kernel_rfl) rfl rfl ⟨(blk_cell BK128.out 0).trans rfl, (blk_cell BK128.out 1).trans rfl, (blk_cell BK129.out 0).trans rfl, (blk_cell BK129.out 1).trans rfl⟩ (fun hHeld => ?_); refine with_tabW jacquardlaw12_KnownbitsLattice.tab5 jacquardlaw12_KnownbitsLattice.bits5 (fun HT_ HW_ => ?_)
        generalize w31.drew = w32 at BK128 BK129 BK133 BK137 HB hHeld ⊢
        refine take_ (i := 0) (N := some 23) (v := ?_) (a' := ?_) #[true, false, false, false, false, false, false, false, false, false, false, false, false, false] rfl rfl (take_ofW HT_.out HW_.out (by kernel_rfl)) (fun _ _ _ h => h) (Or.inl ⟨by rfl, ?_⟩) hHeld ?_ ?_
        rotate_left
        · rintro w' ⟨s0, s1, s2, s3⟩
          go_simp
          with_reducible rfl
        rotate_left
        · simp only [Act.put, List.setIfInBounds_toArray, List.set_cons_zero, List.set_cons_succ, i64_w, i32_w]
          rfl
        refine take_ (i := 1) (N := some 24) (v := ?_) (a' := ?_) #[true, true, false, false, false, false, false, false, false, false, false, false, false, false] rfl rfl (take_ofW HT_.out HW_.out (by kernel_rfl)) (fun _ _ _ h => h) (Or.inl ⟨by rfl, ?_⟩) hHeld ?_ ?_
        rotate_left
        · rintro w' ⟨s0, s1, s2, s3⟩
          go_simp
          with_reducible rfl
        rotate_left
        · simp only [Act.put, List.setIfInBounds_toArray, List.set_cons_zero, List.set_cons_succ, i64_w, i32_w]
          rfl
        refine take_ (i := 3) (N := some 26) (v := ?_) (a' := ?_) #[true, true, false, true, false, false, false, false, false, false, false, false, false, false] rfl rfl (take_ofW HT_.out HW_.out (by kernel_rfl)) (fun _ _ _ h => h) (Or.inl ⟨by rfl, ?_⟩) hHeld ?_ ?_
        rotate_left
        · rintro w' ⟨s0, s1, s2, s3⟩
          go_simp
          with_reducible rfl
        rotate_left
        · simp only [Act.put, List.setIfInBounds_toArray, List.set_cons_zero, List.set_cons_succ, i64_w, i32_w]
          rfl
        refine take_ (i := 4) (N := some 27) (v := ?_) (a' := ?_) #[true, true, false, true, true, false, false, false, false, false, false, false, false, false] rfl rfl (take_ofW HT_.out HW_.out (by kernel_rfl)) (fun _ _ _ h => h) (Or.inl ⟨by rfl, ?_⟩) hHeld ?_ ?_
        rotate_left
        · rintro w' ⟨s0, s1, s2, s3⟩
          go_simp
          with_reducible rfl
        rotate_left
        · simp only [Act.put, List.setIfInBounds_toArray, List.set_cons_zero, List.set_cons_succ, i64_w, i32_w]
          rfl
        refine one_ (i := 2) (N := some 25) #[true, true, true, true, true, false, false, false, false, false, false, false, false, false] rfl rfl (one_of HT_.out (by kernel_rfl)) (by decide) (fun K hK => ?_)
        refine goes_ Try.func17 (by kernel_rfl) rfl #[.agg #[.int .u64 a0_0, .int .u64 a0_1], .agg #[.int .u64 a1_0, .int .u64 a1_1]] (by rfl) rfl rfl (by (try simp only [List.map_toArray, List.map_cons, List.map_nil]); first | done | rfl | (simp only [List.length_drop, List.length_take]; rfl)) ?_
        with_reducible refine (knownbits_Leq.calls a0_0 a0_1 a1_0 a1_1 t138 _ A28.out).mono ?_
        rintro e w33 ⟨rfl, hb⟩
        refine ⟨_, rfl, ?_⟩
        have n0_ := Aside0.mk (blk_below (g := gb128) (o := .cells #[.int .u64 a0_0, .int .u64 a0_1] 24 (0, 0)) (by (with_reducible repeat (first | refine blk_drewN ?_ _ | refine blk_drew ?_ | refine blk_alloc ?_ _)); exact BK128.out) hb)
        have n1_ := Aside0.mk (blk_below (g := gb129) (o := .cells #[.int .u64 a1_0, .int .u64 a1_1] 24 (0, 0)) (by (with_reducible repeat (first | refine blk_drewN ?_ _ | refine blk_drew ?_ | refine blk_alloc ?_ _)); exact BK129.out) hb)
        have n2_ := Aside0.mk (blk_below (g := gb133) (o := .cells #[.int .u64 t131, .int .u64 t132] 24 (0, 0)) (by (with_reducible repeat (first | refine blk_drewN ?_ _ | refine blk_drew ?_ | refine blk_alloc ?_ _)); exact BK133.out) hb)
        have n3_ := Aside0.mk (blk_below (g := gb137) (o := .cells #[.int .u64 t134, .int .u64 t135] 24 (0, 0)) (by (with_reducible repeat (first | refine blk_drewN ?_ _ | refine blk_drew ?_ | refine blk_alloc ?_ _)); exact BK137.out) hb)
        have n4_ := Aside0.mk (below_step (by repeat (first | (with_reducible first | exact HB.out | apply below_alloc | apply pw_below_drewN | apply below_drew1 | refine below_set ?_ GE128.out | refine below_set ?_ GE129.out | refine below_set ?_ GE133.out | refine below_set ?_ GE137.out) | exact HB.out)) hb)
        clear BK128
        clear BK129
        clear BK133
        clear BK137
        clear HB
        have BK128 := n0_
        have BK129 := n1_
        have BK133 := n2_
        have BK137 := n3_
        have HB := n4_
        clear n0_ n1_ n2_ n3_ n4_
        (try clear hb)
        (try clear hb2)
        (try clear hk)
        (try clear hi)
        refine hK.out _ _ ⟨(blk_cell BK128.out 0).trans rfl, (blk_cell BK128.out 1).trans rfl, (blk_cell BK129.out 0).trans rfl, (blk_cell BK129.out 1).trans rfl⟩ (fun hHeld => ?_)
        clear hK K
        refine norm_ (a' := ?_) ?_ ?_
        rotate_left
        · show Act.put _ (some 25) _ = _
          simp only [Act.put, List.setIfInBounds_toArray, List.set_cons_zero, List.set_cons_succ, i64_w, i32_w]
          rfl
        refine one_ (i := 5) (N := some 28) #[true, true, true, true, true, true, false, false, false, false, false, false, false, false] rfl rfl (one_of HT_.out (by kernel_rfl)) (by decide) (fun K hK => ?_)
        refine goes_ Try.func18 (by kernel_rfl) rfl #[.agg #[.int .u64 a0_0, .int .u64 a0_1], .agg #[.int .u64 a1_0, .int .u64 a1_1]] (by rfl) rfl rfl (by (try simp only [List.map_toArray, List.map_cons, List.map_nil]); first | done | rfl | (simp only [List.length_drop, List.length_take]; rfl)) ?_
        with_reducible refine (jacquardref12_Leq.calls a0_0 a0_1 a1_0 a1_1 t139 _ A29.out).mono ?_
        rintro e w34 ⟨rfl, hb⟩
        refine ⟨_, rfl, ?_⟩
        have n0_ := Aside0.mk (blk_below (g := gb128) (o := .cells #[.int .u64 a0_0, .int .u64 a0_1] 24 (0, 0)) (by (with_reducible repeat (first | refine blk_drewN ?_ _ | refine blk_drew ?_ | refine blk_alloc ?_ _)); exact BK128.out) hb)
        have n1_ := Aside0.mk (blk_below (g := gb129) (o := .cells #[.int .u64 a1_0, .int .u64 a1_1] 24 (0, 0)) (by (with_reducible repeat (first | refine blk_drewN ?_ _ | refine blk_drew ?_ | refine blk_alloc ?_ _)); exact BK129.out) hb)
        have n2_ := Aside0.mk (blk_below (g := gb133) (o := .cells #[.int .u64 t131, .int .u64 t132] 24 (0, 0)) (by (with_reducible repeat (first | refine blk_drewN ?_ _ | refine blk_drew ?_ | refine blk_alloc ?_ _)); exact BK133.out) hb)
        have n3_ := Aside0.mk (blk_below (g := gb137) (o := .cells #[.int .u64 t134, .int .u64 t135] 24 (0, 0)) (by (with_reducible repeat (first | refine blk_drewN ?_ _ | refine blk_drew ?_ | refine blk_alloc ?_ _)); exact BK137.out) hb)
        have n4_ := Aside0.mk (below_step (by repeat (first | (with_reducible first | exact HB.out | apply below_alloc | apply pw_below_drewN | apply below_drew1 | refine below_set ?_ GE128.out | refine below_set ?_ GE129.out | refine below_set ?_ GE133.out | refine below_set ?_ GE137.out) | exact HB.out)) hb)
        clear BK128
        clear BK129
        clear BK133
        clear BK137
        clear HB
        have BK128 := n0_
        have BK129 := n1_
        have BK133 := n2_
        have BK137 := n3_
        have HB := n4_
        clear n0_ n1_ n2_ n3_ n4_
        (try clear hb)
        (try clear hb2)
        (try clear hk)
        (try clear hi)
        refine hK.out _ _ ⟨(blk_cell BK128.out 0).trans rfl, (blk_cell BK128.out 1).trans rfl, (blk_cell BK129.out 0).trans rfl, (blk_cell BK129.out 1).trans rfl⟩ (fun hHeld => ?_)
        clear hK K
        refine norm_ (a' := ?_) ?_ ?_
        rotate_left
        · show Act.put _ (some 28) _ = _
          simp only [Act.put, List.setIfInBounds_toArray, List.set_cons_zero, List.set_cons_succ, i64_w, i32_w]
          rfl
        refine pure_ (i := 6) (N := some 29) (v := ?_) (a' := ?_) #[true, true, true, true, true, true, true, false, false, false, false, false, false, false] rfl rfl (any_of HT_.out (by kernel_rfl)) (fun _ _ _ h => h) (Or.inl ⟨by rfl, ?_⟩) ?_ ?_
        rotate_left
        · intro w'
          go_simp
          with_reducible rfl
        rotate_left
        · simp only [Act.put, List.setIfInBounds_toArray, List.set_cons_zero, List.set_cons_succ, i64_w, i32_w]
          rfl
        refine pure_ (i := 7) (N := some 30) (v := ?_) (a' := ?_) #[true, true, true, true, true, true, true, true, false, false, false, false, false, false] rfl rfl (any_of HT_.out (by kernel_rfl)) (fun _ _ _ h => h) (Or.inl ⟨by rfl, ?_⟩) ?_ ?_
        rotate_left
        · intro w'
          go_simp
          with_reducible rfl
        rotate_left
        · simp only [Act.put, List.setIfInBounds_toArray, List.set_cons_zero, List.set_cons_succ, i64_w, i32_w]
          rfl
        refine pure_ (i := 8) (N := some 31) (v := undef) (a' := ?_) #[true, true, true, true, true, true, true, true, true, false, false, false, false, false] rfl rfl (any_of HT_.out (by kernel_rfl)) (fun _ _ _ h => h) (Or.inr ⟨by rfl, rfl⟩) ?_ ?_
        rotate_left
        · simp only [Act.put, List.setIfInBounds_toArray, List.set_cons_zero, List.set_cons_succ, i64_w, i32_w]
          rfl
        refine pure_ (i := 9) (N := some 32) (v := undef) (a' := ?_) #[true, true, true, true, true, true, true, true, true, true, false, false, false, false] rfl rfl (any_of HT_.out (by kernel_rfl)) (fun _ _ _ h => h) (Or.inr ⟨by rfl, rfl⟩) ?_ ?_
        rotate_left
        · simp only [Act.put, List.setIfInBounds_toArray, List.set_cons_zero, List.set_cons_succ, i64_w, i32_w]
          rfl
        refine pure_ (i := 10) (N := some 33) (v := undef) (a' := ?_) #[true, true, true, true, true, true, true, true, true, true, true, false, false, false] rfl rfl (any_of HT_.out (by kernel_rfl)) (fun _ _ _ h => h) (Or.inr ⟨by rfl, rfl⟩) ?_ ?_
        rotate_left
        · simp only [Act.put, List.setIfInBounds_toArray, List.set_cons_zero, List.set_cons_succ, i64_w, i32_w]
          rfl
        refine pure_ (i := 11) (N := some 34) (v := undef) (a' := ?_) #[true, true, true, true, true, true, true, true, true, true, true, true, false, false] rfl rfl (any_of HT_.out (by kernel_rfl)) (fun _ _ _ h => h) (Or.inr ⟨by rfl, rfl⟩) ?_ ?_
        rotate_left
        · simp only [Act.put, List.setIfInBounds_toArray, List.set_cons_zero, List.set_cons_succ, i64_w, i32_w]
          rfl
        refine pure_ (i := 12) (N := some 35) (v := undef) (a' := ?_) #[true, true, true, true, true, true, true, true, true, true, true, true, true, false] rfl rfl (any_of HT_.out (by kernel_rfl)) (fun _ _ _ h => h) (Or.inr ⟨by rfl, rfl⟩) ?_ ?_
        rotate_left
        · simp only [Act.put, List.setIfInBounds_toArray, List.set_cons_zero, List.set_cons_succ, i64_w, i32_w]
          rfl
        refine pure_ (i := 13) (N := some 36) (v := ?_) (a' := ?_) #[true, true, true, true, true, true, true, true, true, true, true, true, true, true] rfl rfl (any_of HT_.out (by kernel_rfl)) (fun _ _ _ h => h) (Or.inl ⟨by rfl, ?_⟩) ?_ ?_
        rotate_left
        · intro w'
          go_simp
          with_reducible rfl
        rotate_left
        · simp only [Act.put, List.setIfInBounds_toArray, List.set_cons_zero, List.set_cons_succ, i64_w, i32_w]
          rfl
        refine done_ (done_of HT_.out (by kernel_rfl)) ?_
        try go_wp2
        go_meet
        case rel => exact ⟨_, (true), (by first | rfl | (simp; done) | (simp [*]; done)), H', ⟨by first | omega | exact Nat.le_refl _⟩, ⟨by (with_reducible repeat (first | refine blk_drewN ?_ _ | refine blk_drew ?_ | refine blk_alloc ?_ _)); exact BK128.out⟩, ⟨by (with_reducible repeat (first | refine blk_drewN ?_ _ | refine blk_drew ?_ | refine blk_alloc ?_ _)); exact BK129.out⟩, ⟨by (with_reducible repeat (first | refine blk_drewN ?_ _ | refine blk_drew ?_ | refine blk_alloc ?_ _)); exact BK133.out⟩, ⟨by (with_reducible repeat (first | refine blk_drewN ?_ _ | refine blk_drew ?_ | refine blk_alloc ?_ _)); exact BK137.out⟩, ⟨by repeat (first | (with_reducible first | exact HB.out | apply below_alloc | apply pw_below_drewN | apply below_drew1 | refine below_set ?_ GE128.out | refine below_set ?_ GE129.out | refine below_set ?_ GE133.out | refine below_set ?_ GE137.out) | exact HB.out)⟩⟩
      · rw [if_neg c30] at H
        have c30b0 : (t138 != t139) = false := by simpa using c30
        (try (have c30b1 : decide (t138 = t139) = true := by simpa using c30))
        (try (have c30b2 : (t138 == t139) = true := by simpa using c30))
        clear c30
        (first | rw [c30b0] | (simp only [i64_w, i32_w]; rw [c30b0]) | skip)
        replace H := Option.bind_eq_some_iff.mp H
        obtain ⟨⟨t140, t141⟩, A350, H⟩ := H
        replace H : (jacquardlaw12_KnownbitsLattice.j0 k a2 t136 (!(t131 == t140) || (!(t132 == t141))) a0_0 a0_1 a1_0 a1_1 t131 t132 t134 t135) = some r := H
        have A35 := Aside0.mk A350
        clear A350
        have H' := Aside0.mk H
        clear H
        try go_wp2
        have n0_ : Aside0 (((w23.setCell ⟨gb137, 0, none⟩ (.int .u64 t134)).setCell ⟨gb137, 1, none⟩ (.int .u64 t135)).heap[gb128]? = some (.cells #[.int .u64 a0_0, .int .u64 a0_1] 24 (0, 0))) := ⟨by (with_reducible repeat (first | refine blk_drewN ?_ _ | refine blk_drew ?_ | refine blk_alloc ?_ _)); refine blk_far ?_ NB128_137.out _; (with_reducible repeat (first | refine blk_drewN ?_ _ | refine blk_drew ?_ | refine blk_alloc ?_ _)); refine blk_far ?_ NB128_137.out _; (with_reducible repeat (first | refine blk_drewN ?_ _ | refine blk_drew ?_ | refine blk_alloc ?_ _)); exact BK128.out⟩
        have n1_ : Aside0 (((w23.setCell ⟨gb137, 0, none⟩ (.int .u64 t134)).setCell ⟨gb137, 1, none⟩ (.int .u64 t135)).heap[gb129]? = some (.cells #[.int .u64 a1_0, .int .u64 a1_1] 24 (0, 0))) := ⟨by (with_reducible repeat (first | refine blk_drewN ?_ _ | refine blk_drew ?_ | refine blk_alloc ?_ _)); refine blk_far ?_ NB129_137.out _; (with_reducible repeat (first | refine blk_drewN ?_ _ | refine blk_drew ?_ | refine blk_alloc ?_ _)); refine blk_far ?_ NB129_137.out _; (with_reducible repeat (first | refine blk_drewN ?_ _ | refine blk_drew ?_ | refine blk_alloc ?_ _)); exact BK129.out⟩
        have n2_ : Aside0 (((w23.setCell ⟨gb137, 0, none⟩ (.int .u64 t134)).setCell ⟨gb137, 1, none⟩ (.int .u64 t135)).heap[gb133]? = some (.cells #[.int .u64 t131, .int .u64 t132] 24 (0, 0))) := ⟨by (with_reducible repeat (first | refine blk_drewN ?_ _ | refine blk_drew ?_ | refine blk_alloc ?_ _)); refine blk_far ?_ NB133_137.out _; (with_reducible repeat (first | refine blk_drewN ?_ _ | refine blk_drew ?_ | refine blk_alloc ?_ _)); refine blk_far ?_ NB133_137.out _; (with_reducible repeat (first | refine blk_drewN ?_ _ | refine blk_drew ?_ | refine blk_alloc ?_ _)); exact BK133.out⟩
        have n3_ : Aside0 (((w23.setCell ⟨gb137, 0, none⟩ (.int .u64 t134)).setCell ⟨gb137, 1, none⟩ (.int .u64 t135)).heap[gb137]? = some (.cells #[.int .u64 t134, .int .u64 t135] 24 (0, 0))) := ⟨by (with_reducible repeat (first | refine blk_drewN ?_ _ | refine blk_drew ?_ | refine blk_alloc ?_ _)); refine blk_put (cs := #[.int .u64 t134, .int .u64 0]) ?_ 1 _ rfl; (with_reducible repeat (first | refine blk_drewN ?_ _ | refine blk_drew ?_ | refine blk_alloc ?_ _)); refine blk_put (cs := #[.int .u64 0, .int .u64 0]) ?_ 0 _ rfl; (with_reducible repeat (first | refine blk_drewN ?_ _ | refine blk_drew ?_ | refine blk_alloc ?_ _)); exact BK137.out⟩
        have n4_ : Aside0 (Below w.heap.size w ((w23.setCell ⟨gb137, 0, none⟩ (.int .u64 t134)).setCell ⟨gb137, 1, none⟩ (.int .u64 t135))) := ⟨by repeat (first | (with_reducible first | exact HB.out | apply below_alloc | apply pw_below_drewN | apply below_drew1 | refine below_set ?_ GE128.out | refine below_set ?_ GE129.out | refine below_set ?_ GE133.out | refine below_set ?_ GE137.out) | exact HB.out)⟩
        (try clear BK128)
        (try clear BK129)
        (try clear BK133)
        (try clear BK137)
        (try clear HB)
        generalize ((w23.setCell ⟨gb137, 0, none⟩ (.int .u64 t134)).setCell ⟨gb137, 1, none⟩ (.int .u64 t135)) = w36 at n0_ n1_ n2_ n3_ n4_ ⊢
        have BK128 := n0_
        have BK129 := n1_
        have BK133 := n2_
        have BK137 := n3_
        have HB := n4_
        clear n0_ n1_ n2_ n3_ n4_
        have n0_ := Aside0.mk (blk_drew BK128.out)
        have n1_ := Aside0.mk (blk_drew BK129.out)
        have n2_ := Aside0.mk (blk_drew BK133.out)
        have n3_ := Aside0.mk (blk_drew BK137.out)
        have n4_ := Aside0.mk (below_drew1 HB.out)
        clear BK128
        clear BK129
        clear BK133
        clear BK137
        clear HB
        have BK128 := n0_
        have BK129 := n1_
        have BK133 := n2_
        have BK137 := n3_
        have HB := n4_
        clear n0_ n1_ n2_ n3_ n4_
        refine start_ (n := 14) (S := fun w' => w'.cell? ⟨gb128, 0, none⟩ = some (.int .u64 a0_0) ∧ w'.cell? ⟨gb128, 1, none⟩ = some (.int .u64 a0_1) ∧ w'.cell? ⟨gb129, 0, none⟩ = some (.int .u64 a1_0) ∧ w'.cell? ⟨gb129, 1, none⟩ = some (.int .u64 a1_1) ∧ w'.cell? ⟨gb133, 0, none⟩ = some (.int .u64 t131) ∧ w'.cell? ⟨gb133, 1, none⟩ = some (.int .u64 t132)) (ds := []) #[false, false, false, false, false, false, false, false, false, false, false, false, false, false] (by kernel_rfl) rfl rfl ⟨(blk_cell BK128.out 0).trans rfl, (blk_cell BK128.out 1).trans rfl, (blk_cell BK129.out 0).trans rfl, (blk_cell BK129.out 1).trans rfl, (blk_cell BK133.out 0).trans rfl, (blk_cell BK133.out 1).trans rfl⟩ (fun hHeld => ?_); refine with_tabW jacquardlaw12_KnownbitsLattice.tab5 jacquardlaw12_KnownbitsLattice.bits5 (fun HT_ HW_ => ?_)
        generalize w36.drew = w37 at BK128 BK129 BK133 BK137 HB hHeld ⊢
        refine take_ (i := 0) (N := some 23) (v := ?_) (a' := ?_) #[true, false, false, false, false, false, false, false, false, false, false, false, false, false] rfl rfl (take_ofW HT_.out HW_.out (by kernel_rfl)) (fun _ _ _ h => h) (Or.inl ⟨by rfl, ?_⟩) hHeld ?_ ?_
        rotate_left
        · rintro w' ⟨s0, s1, s2, s3, s4, s5⟩
          go_simp
          with_reducible rfl
        rotate_left
        · simp only [Act.put, List.setIfInBounds_toArray, List.set_cons_zero, List.set_cons_succ, i64_w, i32_w]
          rfl
        refine take_ (i := 1) (N := some 24) (v := ?_) (a' := ?_) #[true, true, false, false, false, false, false, false, false, false, false, false, false, false] rfl rfl (take_ofW HT_.out HW_.out (by kernel_rfl)) (fun _ _ _ h => h) (Or.inl ⟨by rfl, ?_⟩) hHeld ?_ ?_
        rotate_left
        · rintro w' ⟨s0, s1, s2, s3, s4, s5⟩
          go_simp
          with_reducible rfl
        rotate_left
        · simp only [Act.put, List.setIfInBounds_toArray, List.set_cons_zero, List.set_cons_succ, i64_w, i32_w]
          rfl
        refine take_ (i := 3) (N := some 26) (v := ?_) (a' := ?_) #[true, true, false, true, false, false, false, false, false, false, false, false, false, false] rfl rfl (take_ofW HT_.out HW_.out (by kernel_rfl)) (fun _ _ _ h => h) (Or.inl ⟨by rfl, ?_⟩) hHeld ?_ ?_
        rotate_left
        · rintro w' ⟨s0, s1, s2, s3, s4, s5⟩
          go_simp
          with_reducible rfl
        rotate_left
        · simp only [Act.put, List.setIfInBounds_toArray, List.set_cons_zero, List.set_cons_succ, i64_w, i32_w]
          rfl
        refine take_ (i := 4) (N := some 27) (v := ?_) (a' := ?_) #[true, true, false, true, true, false, false, false, false, false, false, false, false, false] rfl rfl (take_ofW HT_.out HW_.out (by kernel_rfl)) (fun _ _ _ h => h) (Or.inl ⟨by rfl, ?_⟩) hHeld ?_ ?_
        rotate_left
        · rintro w' ⟨s0, s1, s2, s3, s4, s5⟩
          go_simp
          with_reducible rfl
        rotate_left
        · simp only [Act.put, List.setIfInBounds_toArray, List.set_cons_zero, List.set_cons_succ, i64_w, i32_w]
          rfl
        refine one_ (i := 2) (N := some 25) #[true, true, true, true, true, false, false, false, false, false, false, false, false, false] rfl rfl (one_of HT_.out (by kernel_rfl)) (by decide) (fun K hK => ?_)
        refine goes_ Try.func17 (by kernel_rfl) rfl #[.agg #[.int .u64 a0_0, .int .u64 a0_1], .agg #[.int .u64 a1_0, .int .u64 a1_1]] (by rfl) rfl rfl (by (try simp only [List.map_toArray, List.map_cons, List.map_nil]); first | done | rfl | (simp only [List.length_drop, List.length_take]; rfl)) ?_
        with_reducible refine (knownbits_Leq.calls a0_0 a0_1 a1_0 a1_1 t138 _ A28.out).mono ?_
        rintro e w38 ⟨rfl, hb⟩
        refine ⟨_, rfl, ?_⟩
        have n0_ := Aside0.mk (blk_below (g := gb128) (o := .cells #[.int .u64 a0_0, .int .u64 a0_1] 24 (0, 0)) (by (with_reducible repeat (first | refine blk_drewN ?_ _ | refine blk_drew ?_ | refine blk_alloc ?_ _)); exact BK128.out) hb)
        have n1_ := Aside0.mk (blk_below (g := gb129) (o := .cells #[.int .u64 a1_0, .int .u64 a1_1] 24 (0, 0)) (by (with_reducible repeat (first | refine blk_drewN ?_ _ | refine blk_drew ?_ | refine blk_alloc ?_ _)); exact BK129.out) hb)
        have n2_ := Aside0.mk (blk_below (g := gb133) (o := .cells #[.int .u64 t131, .int .u64 t132] 24 (0, 0)) (by (with_reducible repeat (first | refine blk_drewN ?_ _ | refine blk_drew ?_ | refine blk_alloc ?_ _)); exact BK133.out) hb)
        have n3_ := Aside0.mk (blk_below (g := gb137) (o := .cells #[.int .u64 t134, .int .u64 t135] 24 (0, 0)) (by (with_reducible repeat (first | refine blk_drewN ?_ _ | refine blk_drew ?_ | refine blk_alloc ?_ _)); exact BK137.out) hb)
        have n4_ := Aside0.mk (below_step (by repeat (first | (with_reducible first | exact HB.out | apply below_alloc | apply pw_below_drewN | apply below_drew1 | refine below_set ?_ GE128.out | refine below_set ?_ GE129.out | refine below_set ?_ GE133.out | refine below_set ?_ GE137.out) | exact HB.out)) hb)
        clear BK128
        clear BK129
        clear BK133
        clear BK137
        clear HB
        have BK128 := n0_
        have BK129 := n1_
        have BK133 := n2_
        have BK137 := n3_
        have HB := n4_
        clear n0_ n1_ n2_ n3_ n4_
        (try clear hb)
        (try clear hb2)
        (try clear hk)
        (try clear hi)
        refine hK.out _ _ ⟨(blk_cell BK128.out 0).trans rfl, (blk_cell BK128.out 1).trans rfl, (blk_cell BK129.out 0).trans rfl, (blk_cell BK129.out 1).trans rfl, (blk_cell BK133.out 0).trans rfl, (blk_cell BK133.out 1).trans rfl⟩ (fun hHeld => ?_)
        clear hK K
        refine norm_ (a' := ?_) ?_ ?_
        rotate_left
        · show Act.put _ (some 25) _ = _
          simp only [Act.put, List.setIfInBounds_toArray, List.set_cons_zero, List.set_cons_succ, i64_w, i32_w]
          rfl
        refine one_ (i := 5) (N := some 28) #[true, true, true, true, true, true, false, false, false, false, false, false, false, false] rfl rfl (one_of HT_.out (by kernel_rfl)) (by decide) (fun K hK => ?_)
        refine goes_ Try.func18 (by kernel_rfl) rfl #[.agg #[.int .u64 a0_0, .int .u64 a0_1], .agg #[.int .u64 a1_0, .int .u64 a1_1]] (by rfl) rfl rfl (by (try simp only [List.map_toArray, List.map_cons, List.map_nil]); first | done | rfl | (simp only [List.length_drop, List.length_take]; rfl)) ?_
        with_reducible refine (jacquardref12_Leq.calls a0_0 a0_1 a1_0 a1_1 t139 _ A29.out).mono ?_
        rintro e w39 ⟨rfl, hb⟩
        refine ⟨_, rfl, ?_⟩
        have n0_ := Aside0.mk (blk_below (g := gb128) (o := .cells #[.int .u64 a0_0, .int .u64 a0_1] 24 (0, 0)) (by (with_reducible repeat (first | refine blk_drewN ?_ _ | refine blk_drew ?_ | refine blk_alloc ?_ _)); exact BK128.out) hb)
        have n1_ := Aside0.mk (blk_below (g := gb129) (o := .cells #[.int .u64 a1_0, .int .u64 a1_1] 24 (0, 0)) (by (with_reducible repeat (first | refine blk_drewN ?_ _ | refine blk_drew ?_ | refine blk_alloc ?_ _)); exact BK129.out) hb)
        have n2_ := Aside0.mk (blk_below (g := gb133) (o := .cells #[.int .u64 t131, .int .u64 t132] 24 (0, 0)) (by (with_reducible repeat (first | refine blk_drewN ?_ _ | refine blk_drew ?_ | refine blk_alloc ?_ _)); exact BK133.out) hb)
        have n3_ := Aside0.mk (blk_below (g := gb137) (o := .cells #[.int .u64 t134, .int .u64 t135] 24 (0, 0)) (by (with_reducible repeat (first | refine blk_drewN ?_ _ | refine blk_drew ?_ | refine blk_alloc ?_ _)); exact BK137.out) hb)
        have n4_ := Aside0.mk (below_step (by repeat (first | (with_reducible first | exact HB.out | apply below_alloc | apply pw_below_drewN | apply below_drew1 | refine below_set ?_ GE128.out | refine below_set ?_ GE129.out | refine below_set ?_ GE133.out | refine below_set ?_ GE137.out) | exact HB.out)) hb)
        clear BK128
        clear BK129
        clear BK133
        clear BK137
        clear HB
        have BK128 := n0_
        have BK129 := n1_
        have BK133 := n2_
        have BK137 := n3_
        have HB := n4_
        clear n0_ n1_ n2_ n3_ n4_
        (try clear hb)
        (try clear hb2)
        (try clear hk)
        (try clear hi)
        refine hK.out _ _ ⟨(blk_cell BK128.out 0).trans rfl, (blk_cell BK128.out 1).trans rfl, (blk_cell BK129.out 0).trans rfl, (blk_cell BK129.out 1).trans rfl, (blk_cell BK133.out 0).trans rfl, (blk_cell BK133.out 1).trans rfl⟩ (fun hHeld => ?_)
        clear hK K
        refine norm_ (a' := ?_) ?_ ?_
        rotate_left
        · show Act.put _ (some 28) _ = _
          simp only [Act.put, List.setIfInBounds_toArray, List.set_cons_zero, List.set_cons_succ, i64_w, i32_w]
          rfl
        refine pure_ (i := 6) (N := some 29) (v := ?_) (a' := ?_) #[true, true, true, true, true, true, true, false, false, false, false, false, false, false] rfl rfl (any_of HT_.out (by kernel_rfl)) (fun _ _ _ h => h) (Or.inl ⟨by rfl, ?_⟩) ?_ ?_
        rotate_left
        · intro w'
          go_simp
          with_reducible rfl
        rotate_left
        · simp only [Act.put, List.setIfInBounds_toArray, List.set_cons_zero, List.set_cons_succ, i64_w, i32_w]
          rfl
        refine pure_ (i := 7) (N := some 30) (v := ?_) (a' := ?_) #[true, true, true, true, true, true, true, true, false, false, false, false, false, false] rfl rfl (any_of HT_.out (by kernel_rfl)) (fun _ _ _ h => h) (Or.inl ⟨by rfl, ?_⟩) ?_ ?_
        rotate_left
        · intro w'
          go_simp
          with_reducible rfl
        rotate_left
        · simp only [Act.put, List.setIfInBounds_toArray, List.set_cons_zero, List.set_cons_succ, i64_w, i32_w]
          rfl
        refine take_ (i := 8) (N := some 31) (v := ?_) (a' := ?_) #[true, true, true, true, true, true, true, true, true, false, false, false, false, false] rfl rfl (take_ofW HT_.out HW_.out (by kernel_rfl)) (fun _ _ _ h => h) (Or.inl ⟨by rfl, ?_⟩) hHeld ?_ ?_
        rotate_left
        · rintro w' ⟨s0, s1, s2, s3, s4, s5⟩
          go_simp
          with_reducible rfl
        rotate_left
        · simp only [Act.put, List.setIfInBounds_toArray, List.set_cons_zero, List.set_cons_succ, i64_w, i32_w]
          rfl
        refine take_ (i := 9) (N := some 32) (v := ?_) (a' := ?_) #[true, true, true, true, true, true, true, true, true, true, false, false, false, false] rfl rfl (take_ofW HT_.out HW_.out (by kernel_rfl)) (fun _ _ _ h => h) (Or.inl ⟨by rfl, ?_⟩) hHeld ?_ ?_
        rotate_left
        · rintro w' ⟨s0, s1, s2, s3, s4, s5⟩
          go_simp
          with_reducible rfl
        rotate_left
        · simp only [Act.put, List.setIfInBounds_toArray, List.set_cons_zero, List.set_cons_succ, i64_w, i32_w]
          rfl
        refine take_ (i := 10) (N := some 33) (v := ?_) (a' := ?_) #[true, true, true, true, true, true, true, true, true, true, true, false, false, false] rfl rfl (take_ofW HT_.out HW_.out (by kernel_rfl)) (fun _ _ _ h => h) (Or.inl ⟨by rfl, ?_⟩) hHeld ?_ ?_
        rotate_left
        · rintro w' ⟨s0, s1, s2, s3, s4, s5⟩
          go_simp
          with_reducible rfl
        rotate_left
        · simp only [Act.put, List.setIfInBounds_toArray, List.set_cons_zero, List.set_cons_succ, i64_w, i32_w]
          rfl
        refine one_ (i := 11) (N := some 34) #[true, true, true, true, true, true, true, true, true, true, true, true, false, false] rfl rfl (one_of HT_.out (by kernel_rfl)) (by decide) (fun K hK => ?_)
        refine goes_ Try.func19 (by kernel_rfl) rfl #[.agg #[.int .u64 a0_0, .int .u64 a0_1], .agg #[.int .u64 a1_0, .int .u64 a1_1]] (by rfl) rfl rfl (by (try simp only [List.map_toArray, List.map_cons, List.map_nil]); first | done | rfl | (simp only [List.length_drop, List.length_take]; rfl)) ?_
        with_reducible refine (jacquardref12_Join.calls a0_0 a0_1 a1_0 a1_1 t140 t141 _ A35.out).mono ?_
        rintro e w40 ⟨rfl, hb⟩
        refine ⟨_, rfl, ?_⟩
        have n0_ := Aside0.mk (blk_below (g := gb128) (o := .cells #[.int .u64 a0_0, .int .u64 a0_1] 24 (0, 0)) (by (with_reducible repeat (first | refine blk_drewN ?_ _ | refine blk_drew ?_ | refine blk_alloc ?_ _)); exact BK128.out) hb)
        have n1_ := Aside0.mk (blk_below (g := gb129) (o := .cells #[.int .u64 a1_0, .int .u64 a1_1] 24 (0, 0)) (by (with_reducible repeat (first | refine blk_drewN ?_ _ | refine blk_drew ?_ | refine blk_alloc ?_ _)); exact BK129.out) hb)
        have n2_ := Aside0.mk (blk_below (g := gb133) (o := .cells #[.int .u64 t131, .int .u64 t132] 24 (0, 0)) (by (with_reducible repeat (first | refine blk_drewN ?_ _ | refine blk_drew ?_ | refine blk_alloc ?_ _)); exact BK133.out) hb)
        have n3_ := Aside0.mk (blk_below (g := gb137) (o := .cells #[.int .u64 t134, .int .u64 t135] 24 (0, 0)) (by (with_reducible repeat (first | refine blk_drewN ?_ _ | refine blk_drew ?_ | refine blk_alloc ?_ _)); exact BK137.out) hb)
        have n4_ := Aside0.mk (below_step (by repeat (first | (with_reducible first | exact HB.out | apply below_alloc | apply pw_below_drewN | apply below_drew1 | refine below_set ?_ GE128.out | refine below_set ?_ GE129.out | refine below_set ?_ GE133.out | refine below_set ?_ GE137.out) | exact HB.out)) hb)
        clear BK128
        clear BK129
        clear BK133
        clear BK137
        clear HB
        have BK128 := n0_
        have BK129 := n1_
        have BK133 := n2_
        have BK137 := n3_
        have HB := n4_
        clear n0_ n1_ n2_ n3_ n4_
        (try clear hb)
        (try clear hb2)
        (try clear hk)
        (try clear hi)
        refine hK.out _ _ ⟨(blk_cell BK128.out 0).trans rfl, (blk_cell BK128.out 1).trans rfl, (blk_cell BK129.out 0).trans rfl, (blk_cell BK129.out 1).trans rfl, (blk_cell BK133.out 0).trans rfl, (blk_cell BK133.out 1).trans rfl⟩ (fun hHeld => ?_)
        clear hK K
        refine norm_ (a' := ?_) ?_ ?_
        rotate_left
        · show Act.put _ (some 34) _ = _
          simp only [Act.put, List.setIfInBounds_toArray, List.set_cons_zero, List.set_cons_succ, i64_w, i32_w]
          rfl
        refine pure_ (i := 12) (N := some 35) (v := ?_) (a' := ?_) #[true, true, true, true, true, true, true, true, true, true, true, true, true, false] rfl rfl (any_of HT_.out (by kernel_rfl)) (fun _ _ _ h => h) (Or.inl ⟨by rfl, ?_⟩) ?_ ?_
        rotate_left
        · intro w'
          go_simp
          with_reducible rfl
        rotate_left
        · simp only [Act.put, List.setIfInBounds_toArray, List.set_cons_zero, List.set_cons_succ, i64_w, i32_w]
          rfl
        refine pure_ (i := 13) (N := some 36) (v := ?_) (a' := ?_) #[true, true, true, true, true, true, true, true, true, true, true, true, true, true] rfl rfl (any_of HT_.out (by kernel_rfl)) (fun _ _ _ h => h) (Or.inl ⟨by rfl, ?_⟩) ?_ ?_
        rotate_left
        · intro w'
          go_simp
          with_reducible rfl
        rotate_left
        · simp only [Act.put, List.setIfInBounds_toArray, List.set_cons_zero, List.set_cons_succ, i64_w, i32_w]
          rfl
        refine done_ (done_of HT_.out (by kernel_rfl)) ?_
        try go_wp2
        go_meet
        case rel => exact ⟨_, ((!(t131 == t140) || (!(t132 == t141)))), (by first | rfl | (simp; done) | (simp [*]; done)), H', ⟨by first | omega | exact Nat.le_refl _⟩, ⟨by (with_reducible repeat (first | refine blk_drewN ?_ _ | refine blk_drew ?_ | refine blk_alloc ?_ _)); exact BK128.out⟩, ⟨by (with_reducible repeat (first | refine blk_drewN ?_ _ | refine blk_drew ?_ | refine blk_alloc ?_ _)); exact BK129.out⟩, ⟨by (with_reducible repeat (first | refine blk_drewN ?_ _ | refine blk_drew ?_ | refine blk_alloc ?_ _)); exact BK133.out⟩, ⟨by (with_reducible repeat (first | refine blk_drewN ?_ _ | refine blk_drew ?_ | refine blk_alloc ?_ _)); exact BK137.out⟩, ⟨by repeat (first | (with_reducible first | exact HB.out | apply below_alloc | apply pw_below_drewN | apply below_drew1 | refine below_set ?_ GE128.out | refine below_set ?_ GE129.out | refine below_set ?_ GE133.out | refine below_set ?_ GE137.out) | exact HB.out)⟩⟩
    case rest =>
      clear HC8
      try clear c1
      try clear c2
      try clear p2
      try clear c3
      try clear c4
      try clear c5
      try clear c6
      try clear c12
      try clear c15
      try clear c16
      try clear c17
      try clear c18
      try clear c19
      try clear c24
      try clear c25
      try clear c26
      try clear c30
      try clear c30b0
      try clear c30b1
      try clear c30b2
      try clear hcz13_0
      try clear hcz13_1
      try clear hcz14_0
      try clear hcz14_1
      try clear hcz19_0
      try clear hcz19_1
      try clear hcz20_0
      try clear hcz20_1
      try clear hcz21_0
      try clear hcz21_1
      try clear hcz27_0
      try clear hcz27_1
      try clear hfz13_0
      try clear hfz13_1
      try clear hfz14_0
      try clear hfz14_1
      try clear hfz19_0
      try clear hfz19_1
      try clear hfz20_0
      try clear hfz20_1
      try clear hfz21_0
      try clear hfz21_1
      try clear hfz27_0
      try clear hfz27_1
      obtain ⟨kq, x36_7, rfl, HA, HJ7, BK128, BK129, BK133, BK137, HB⟩ := hcut
      cases kq with
      | zero => exact absurd HA.out (by simp [jacquardlaw12_KnownbitsLattice.j0])
      | succ kj7 =>
        have H := HA.out
        clear HA
        simp only [jacquardlaw12_KnownbitsLattice.j0] at H
        by_cases c41 : x36_7 = true
        · subst c41
          have H1 : (some false) = some r := by rw [if_pos rfl] at H; exact H
          clear H
          have H := H1
          clear H1
          obtain rfl := Option.some.inj H
          go_wp2
          go_ret
          exact ⟨by first | rfl | (simp [errW_none, errW_some] <;> rfl) | (simp [*, errW_none, errW_some] <;> rfl), by repeat (first | (with_reducible first | exact HB.out | apply below_alloc | apply pw_below_drewN | apply below_drew1 | refine below_set ?_ GE128.out | refine below_set ?_ GE129.out | refine below_set ?_ GE133.out | refine below_set ?_ GE137.out) | exact HB.out)⟩
        · replace c41 := Bool.eq_false_iff.mpr c41
          subst c41
          have H1 : (if (t136 != ((Go.bits .and .u64 (Go.bits .or .u64 a0_0 a1_0) (Go.bits .or .u64 a0_1 a1_1)) == 0)) = true then (jacquardlaw12_KnownbitsLattice.j1 kj7 a2 t136 true a0_0 a0_1 a1_0 a1_1 t131 t132 t134 t135) else (if t136 = true then (if (!(t134 == (Go.bits .or .u64 a0_0 a1_0)) || (!(t135 == (Go.bits .or .u64 a0_1 a1_1)))) = true then (jacquardlaw12_KnownbitsLattice.j1 kj7 a2 t136 true a0_0 a0_1 a1_0 a1_1 t131 t132 t134 t135) else (jacquardlaw12_KnownbitsLattice.j1 kj7 a2 t136 false a0_0 a0_1 a1_0 a1_1 t131 t132 t134 t135)) else (jacquardlaw12_KnownbitsLattice.j1 kj7 a2 t136 (!(t134 == 0) || (!(t135 == 0))) a0_0 a0_1 a1_0 a1_1 t131 t132 t134 t135))) = some r := by rw [if_neg (show ¬ (false = true) by decide)] at H; exact H
          clear H
          have H := H1
          clear H1
          have HC42 := Aside0.mk H
          clear H
          try go_wp2
          have n0_ := Aside0.mk (blk_drew BK128.out)
          have n1_ := Aside0.mk (blk_drew BK129.out)
          have n2_ := Aside0.mk (blk_drew BK133.out)
          have n3_ := Aside0.mk (blk_drew BK137.out)
          have n4_ := Aside0.mk (below_drew1 HB.out)
          clear BK128
          clear BK129
          clear BK133
          clear BK137
          clear HB
          have BK128 := n0_
          have BK129 := n1_
          have BK133 := n2_
          have BK137 := n3_
          have HB := n4_
          clear n0_ n1_ n2_ n3_ n4_
          refine start_ (n := 12) (S := fun w' => w'.cell? ⟨gb128, 0, none⟩ = some (.int .u64 a0_0) ∧ w'.cell? ⟨gb128, 1, none⟩ = some (.int .u64 a0_1) ∧ w'.cell? ⟨gb129, 0, none⟩ = some (.int .u64 a1_0) ∧ w'.cell? ⟨gb129, 1, none⟩ = some (.int .u64 a1_1)) (ds := []) #[false, false, false, false, false, false, false, false, false, false, false, false] (by kernel_rfl) rfl rfl ⟨(blk_cell BK128.out 0).trans rfl, (blk_cell BK128.out 1).trans rfl, (blk_cell BK129.out 0).trans rfl, (blk_cell BK129.out 1).trans rfl⟩ (fun hHeld => ?_); refine with_tabW jacquardlaw12_KnownbitsLattice.tab7 jacquardlaw12_KnownbitsLattice.bits7 (fun HT_ HW_ => ?_)
          generalize wc.drew = w43 at BK128 BK129 BK133 BK137 HB hHeld ⊢
          refine pure_ (i := 0) (N := some 37) (v := ?_) (a' := ?_) #[true, false, false, false, false, false, false, false, false, false, false, false] rfl rfl (any_of HT_.out (by kernel_rfl)) (fun _ _ _ h => h) (Or.inl ⟨by rfl, ?_⟩) ?_ ?_
          rotate_left
          · intro w'
            go_simp
            with_reducible rfl
          rotate_left
          · simp only [Act.put, List.setIfInBounds_toArray, List.set_cons_zero, List.set_cons_succ, i64_w, i32_w]
            rfl
          refine pure_ (i := 2) (N := some 39) (v := ?_) (a' := ?_) #[true, false, true, false, false, false, false, false, false, false, false, false] rfl rfl (any_of HT_.out (by kernel_rfl)) (fun _ _ _ h => h) (Or.inl ⟨by rfl, ?_⟩) ?_ ?_
          rotate_left
          · intro w'
            go_simp
            with_reducible rfl
          rotate_left
          · simp only [Act.put, List.setIfInBounds_toArray, List.set_cons_zero, List.set_cons_succ, i64_w, i32_w]
            rfl
          refine pure_ (i := 5) (N := some 42) (v := ?_) (a' := ?_) #[true, false, true, false, false, true, false, false, false, false, false, false] rfl rfl (any_of HT_.out (by kernel_rfl)) (fun _ _ _ h => h) (Or.inl ⟨by rfl, ?_⟩) ?_ ?_
          rotate_left
          · intro w'
            go_simp
            with_reducible rfl
          rotate_left
          · simp only [Act.put, List.setIfInBounds_toArray, List.set_cons_zero, List.set_cons_succ, i64_w, i32_w]
            rfl
          refine pure_ (i := 7) (N := some 44) (v := ?_) (a' := ?_) #[true, false, true, false, false, true, false, true, false, false, false, false] rfl rfl (any_of HT_.out (by kernel_rfl)) (fun _ _ _ h => h) (Or.inl ⟨by rfl, ?_⟩) ?_ ?_
          rotate_left
          · intro w'
            go_simp
            with_reducible rfl
          rotate_left
          · simp only [Act.put, List.setIfInBounds_toArray, List.set_cons_zero, List.set_cons_succ, i64_w, i32_w]
            rfl
          refine take_ (i := 1) (N := some 38) (v := ?_) (a' := ?_) #[true, true, true, false, false, true, false, true, false, false, false, false] rfl rfl (take_ofW HT_.out HW_.out (by kernel_rfl)) (fun _ _ _ h => h) (Or.inl ⟨by rfl, ?_⟩) hHeld ?_ ?_
          rotate_left
          · rintro w' ⟨s0, s1, s2, s3⟩
            go_simp
            with_reducible rfl
          rotate_left
          · simp only [Act.put, List.setIfInBounds_toArray, List.set_cons_zero, List.set_cons_succ, i64_w, i32_w]
            rfl
          refine take_ (i := 3) (N := some 40) (v := ?_) (a' := ?_) #[true, true, true, true, false, true, false, true, false, false, false, false] rfl rfl (take_ofW HT_.out HW_.out (by kernel_rfl)) (fun _ _ _ h => h) (Or.inl ⟨by rfl, ?_⟩) hHeld ?_ ?_
          rotate_left
          · rintro w' ⟨s0, s1, s2, s3⟩
            go_simp
            with_reducible rfl
          rotate_left
          · simp only [Act.put, List.setIfInBounds_toArray, List.set_cons_zero, List.set_cons_succ, i64_w, i32_w]
            rfl
          refine pure_ (i := 4) (N := some 41) (v := ?_) (a' := ?_) #[true, true, true, true, true, true, false, true, false, false, false, false] rfl rfl (any_of HT_.out (by kernel_rfl)) (fun _ _ _ h => h) (Or.inl ⟨by rfl, ?_⟩) ?_ ?_
          rotate_left
          · intro w'
            go_simp
            with_reducible rfl
          rotate_left
          · simp only [Act.put, List.setIfInBounds_toArray, List.set_cons_zero, List.set_cons_succ, i64_w, i32_w]
            rfl
          refine pure_ (i := 10) (N := some 10) (v := ?_) (a' := ?_) #[true, true, true, true, true, true, false, true, false, false, true, false] rfl rfl (any_of HT_.out (by kernel_rfl)) (fun _ _ _ h => h) (Or.inl ⟨by rfl, ?_⟩) ?_ ?_
          rotate_left
          · intro w'
            go_simp
            with_reducible rfl
          rotate_left
          · simp only [Act.put, List.setIfInBounds_toArray, List.set_cons_zero, List.set_cons_succ, i64_w, i32_w]
            rfl
          refine take_ (i := 6) (N := some 43) (v := ?_) (a' := ?_) #[true, true, true, true, true, true, true, true, false, false, true, false] rfl rfl (take_ofW HT_.out HW_.out (by kernel_rfl)) (fun _ _ _ h => h) (Or.inl ⟨by rfl, ?_⟩) hHeld ?_ ?_
          rotate_left
          · rintro w' ⟨s0, s1, s2, s3⟩
            go_simp
            with_reducible rfl
          rotate_left
          · simp only [Act.put, List.setIfInBounds_toArray, List.set_cons_zero, List.set_cons_succ, i64_w, i32_w]
            rfl
          refine take_ (i := 8) (N := some 45) (v := ?_) (a' := ?_) #[true, true, true, true, true, true, true, true, true, false, true, false] rfl rfl (take_ofW HT_.out HW_.out (by kernel_rfl)) (fun _ _ _ h => h) (Or.inl ⟨by rfl, ?_⟩) hHeld ?_ ?_
          rotate_left
          · rintro w' ⟨s0, s1, s2, s3⟩
            go_simp
            with_reducible rfl
          rotate_left
          · simp only [Act.put, List.setIfInBounds_toArray, List.set_cons_zero, List.set_cons_succ, i64_w, i32_w]
            rfl
          refine pure_ (i := 9) (N := some 46) (v := ?_) (a' := ?_) #[true, true, true, true, true, true, true, true, true, true, true, false] rfl rfl (any_of HT_.out (by kernel_rfl)) (fun _ _ _ h => h) (Or.inl ⟨by rfl, ?_⟩) ?_ ?_
          rotate_left
          · intro w'
            go_simp
            with_reducible rfl
          rotate_left
          · simp only [Act.put, List.setIfInBounds_toArray, List.set_cons_zero, List.set_cons_succ, i64_w, i32_w]
            rfl
          refine pure_ (i := 11) (N := some 11) (v := ?_) (a' := ?_) #[true, true, true, true, true, true, true, true, true, true, true, true] rfl rfl (any_of HT_.out (by kernel_rfl)) (fun _ _ _ h => h) (Or.inl ⟨by rfl, ?_⟩) ?_ ?_
          rotate_left
          · intro w'
            go_simp
            with_reducible rfl
          rotate_left
          · simp only [Act.put, List.setIfInBounds_toArray, List.set_cons_zero, List.set_cons_succ, i64_w, i32_w]
            rfl
          refine done_ (done_of HT_.out (by kernel_rfl)) ?_
          go_upto_region 8 with (fail)
          go_cut [71] (fun v71 wc => ∃ (kq : Nat) (x71_41 : Bool), v71 = .bool x71_41 ∧ Aside0 (jacquardlaw12_KnownbitsLattice.j1 kq a2 t136 x71_41 a0_0 a0_1 a1_0 a1_1 t131 t132 t134 t135 = some r) ∧ Aside0 (kq ≤ kj7) ∧ Aside0 (wc.heap[gb128]? = some (.cells #[.int .u64 a0_0, .int .u64 a0_1] 24 (0, 0))) ∧ Aside0 (wc.heap[gb129]? = some (.cells #[.int .u64 a1_0, .int .u64 a1_1] 24 (0, 0))) ∧ Aside0 (wc.heap[gb133]? = some (.cells #[.int .u64 t131, .int .u64 t132] 24 (0, 0))) ∧ Aside0 (wc.heap[gb137]? = some (.cells #[.int .u64 t134, .int .u64 t135] 24 (0, 0))) ∧ Aside0 (Below w.heap.size w wc))
          case first =>
            have H := HC42.out
            clear HC42
            by_cases c44 : (t136 != ((Go.bits .and .u64 (Go.bits .or .u64 a0_0 a1_0) (Go.bits .or .u64 a0_1 a1_1)) == 0)) = true
            · rw [if_pos c44] at H
              have c44b0 : (t136 != ((Go.bits .and .u64 (Go.bits .or .u64 a0_0 a1_0) (Go.bits .or .u64 a0_1 a1_1)) == 0)) = true := c44
              (try (have c44b1 : decide (t136 = ((Go.bits .and .u64 (Go.bits .or .u64 a0_0 a1_0) (Go.bits .or .u64 a0_1 a1_1)) == 0)) = false := by simpa using c44))
              (try (have c44b2 : (t136 == ((Go.bits .and .u64 (Go.bits .or .u64 a0_0 a1_0) (Go.bits .or .u64 a0_1 a1_1)) == 0)) = false := by simpa using c44))
              (try (have c44b3 : ¬ (t136 = ((Go.bits .and .u64 (Go.bits .or .u64 a0_0 a1_0) (Go.bits .or .u64 a0_1 a1_1)) == 0)) := by simpa using c44))
              clear c44
              (first | rw [c44b0] | (simp only [i64_w, i32_w]; rw [c44b0]) | skip)
              have H' := Aside0.mk H
              clear H
              go_wp2
              go_meet
              case rel => exact ⟨_, (true), (by first | rfl | (simp; done) | (simp [*]; done)), H', ⟨by have := HJ7.out; first | omega | exact Nat.le_refl _⟩, ⟨by (with_reducible repeat (first | refine blk_drewN ?_ _ | refine blk_drew ?_ | refine blk_alloc ?_ _)); exact BK128.out⟩, ⟨by (with_reducible repeat (first | refine blk_drewN ?_ _ | refine blk_drew ?_ | refine blk_alloc ?_ _)); exact BK129.out⟩, ⟨by (with_reducible repeat (first | refine blk_drewN ?_ _ | refine blk_drew ?_ | refine blk_alloc ?_ _)); exact BK133.out⟩, ⟨by (with_reducible repeat (first | refine blk_drewN ?_ _ | refine blk_drew ?_ | refine blk_alloc ?_ _)); exact BK137.out⟩, ⟨by repeat (first | (with_reducible first | exact HB.out | apply below_alloc | apply pw_below_drewN | apply below_drew1 | refine below_set ?_ GE128.out | refine below_set ?_ GE129.out | refine below_set ?_ GE133.out | refine below_set ?_ GE137.out) | exact HB.out)⟩⟩
            · rw [if_neg c44] at H
              have c44b0 : (t136 != ((Go.bits .and .u64 (Go.bits .or .u64 a0_0 a1_0) (Go.bits .or .u64 a0_1 a1_1)) == 0)) = false := by simpa using c44
              (try (have c44b1 : decide (t136 = ((Go.bits .and .u64 (Go.bits .or .u64 a0_0 a1_0) (Go.bits .or .u64 a0_1 a1_1)) == 0)) = true := by simpa using c44))
              (try (have c44b2 : (t136 == ((Go.bits .and .u64 (Go.bits .or .u64 a0_0 a1_0) (Go.bits .or .u64 a0_1 a1_1)) == 0)) = true := by simpa using c44))
              clear c44
              (first | rw [c44b0] | (simp only [i64_w, i32_w]; rw [c44b0]) | skip)
              by_cases c45 : t136 = true
              · subst c45
                have H1 : (if (!(t134 == (Go.bits .or .u64 a0_0 a1_0)) || (!(t135 == (Go.bits .or .u64 a0_1 a1_1)))) = true then (jacquardlaw12_KnownbitsLattice.j1 kj7 a2 true true a0_0 a0_1 a1_0 a1_1 t131 t132 t134 t135) else (jacquardlaw12_KnownbitsLattice.j1 kj7 a2 true false a0_0 a0_1 a1_0 a1_1 t131 t132 t134 t135)) = some r := by rw [if_pos rfl] at H; exact H
                clear H
                have H := H1
                clear H1
                by_cases c46 : (!(t134 == (Go.bits .or .u64 a0_0 a1_0)) || (!(t135 == (Go.bits .or .u64 a0_1 a1_1)))) = true
                · rw [if_pos c46] at H
                  have c46b0 : (!(t134 == (Go.bits .or .u64 a0_0 a1_0)) || (!(t135 == (Go.bits .or .u64 a0_1 a1_1)))) = true := c46
                  clear c46
                  have H' := Aside0.mk H
                  clear H
                  have hnb47 := NB137_128.out
                  have hnc47 := NB128_137.out
                  have hnb48 := NB137_129.out
                  have hnc48 := NB129_137.out
                  have hnb49 := NB137_133.out
                  have hnc49 := NB133_137.out
                  have hcz50_0 : w43.cell? ⟨gb137, 0, none⟩ = some (.int .u64 t134) := (blk_cell BK137.out 0).trans rfl
                  have hcz50_1 : w43.cell? ⟨gb137, 1, none⟩ = some (.int .u64 t135) := (blk_cell BK137.out 1).trans rfl
                  have hfz50_0 := blk_frozen BK137.out 0
                  have hfz50_1 := blk_frozen BK137.out 1
                  go_wp2
                  go_meet
                  case rel => exact ⟨_, (true), (by first | rfl | (simp; done) | (simp [*]; done)), H', ⟨by have := HJ7.out; first | omega | exact Nat.le_refl _⟩, ⟨by (with_reducible repeat (first | refine blk_drewN ?_ _ | refine blk_drew ?_ | refine blk_alloc ?_ _)); exact BK128.out⟩, ⟨by (with_reducible repeat (first | refine blk_drewN ?_ _ | refine blk_drew ?_ | refine blk_alloc ?_ _)); exact BK129.out⟩, ⟨by (with_reducible repeat (first | refine blk_drewN ?_ _ | refine blk_drew ?_ | refine blk_alloc ?_ _)); exact BK133.out⟩, ⟨by (with_reducible repeat (first | refine blk_drewN ?_ _ | refine blk_drew ?_ | refine blk_alloc ?_ _)); exact BK137.out⟩, ⟨by repeat (first | (with_reducible first | exact HB.out | apply below_alloc | apply pw_below_drewN | apply below_drew1 | refine below_set ?_ GE128.out | refine below_set ?_ GE129.out | refine below_set ?_ GE133.out | refine below_set ?_ GE137.out) | exact HB.out)⟩⟩
                · rw [if_neg c46] at H
                  have c46b0 : (!(t134 == (Go.bits .or .u64 a0_0 a1_0)) || (!(t135 == (Go.bits .or .u64 a0_1 a1_1)))) = false := by simpa using c46
                  clear c46
                  have H' := Aside0.mk H
                  clear H
                  have hnb51 := NB137_128.out
                  have hnc51 := NB128_137.out
                  have hnb52 := NB137_129.out
                  have hnc52 := NB129_137.out
                  have hnb53 := NB137_133.out
                  have hnc53 := NB133_137.out
                  have hcz54_0 : w43.cell? ⟨gb137, 0, none⟩ = some (.int .u64 t134) := (blk_cell BK137.out 0).trans rfl
                  have hcz54_1 : w43.cell? ⟨gb137, 1, none⟩ = some (.int .u64 t135) := (blk_cell BK137.out 1).trans rfl
                  have hfz54_0 := blk_frozen BK137.out 0
                  have hfz54_1 := blk_frozen BK137.out 1
                  go_wp2
                  go_meet
                  case rel => exact ⟨_, (false), (by first | rfl | (simp; done) | (simp [*]; done)), H', ⟨by have := HJ7.out; first | omega | exact Nat.le_refl _⟩, ⟨by (with_reducible repeat (first | refine blk_drewN ?_ _ | refine blk_drew ?_ | refine blk_alloc ?_ _)); exact BK128.out⟩, ⟨by (with_reducible repeat (first | refine blk_drewN ?_ _ | refine blk_drew ?_ | refine blk_alloc ?_ _)); exact BK129.out⟩, ⟨by (with_reducible repeat (first | refine blk_drewN ?_ _ | refine blk_drew ?_ | refine blk_alloc ?_ _)); exact BK133.out⟩, ⟨by (with_reducible repeat (first | refine blk_drewN ?_ _ | refine blk_drew ?_ | refine blk_alloc ?_ _)); exact BK137.out⟩, ⟨by repeat (first | (with_reducible first | exact HB.out | apply below_alloc | apply pw_below_drewN | apply below_drew1 | refine below_set ?_ GE128.out | refine below_set ?_ GE129.out | refine below_set ?_ GE133.out | refine below_set ?_ GE137.out) | exact HB.out)⟩⟩
              · replace c45 := Bool.eq_false_iff.mpr c45
                subst c45
                have H1 : (jacquardlaw12_KnownbitsLattice.j1 kj7 a2 false (!(t134 == 0) || (!(t135 == 0))) a0_0 a0_1 a1_0 a1_1 t131 t132 t134 t135) = some r := by rw [if_neg (show ¬ (false = true) by decide)] at H; exact H
                clear H
                have H := H1
                clear H1
                have H' := Aside0.mk H
                clear H
                have hnb55 := NB137_128.out
                have hnc55 := NB128_137.out
                have hnb56 := NB137_129.out
                have hnc56 := NB129_137.out
                have hnb57 := NB137_133.out
                have hnc57 := NB133_137.out
                have hcz58_0 : w43.cell? ⟨gb137, 0, none⟩ = some (.int .u64 t134) := (blk_cell BK137.out 0).trans rfl
                have hcz58_1 : w43.cell? ⟨gb137, 1, none⟩ = some (.int .u64 t135) := (blk_cell BK137.out 1).trans rfl
                have hfz58_0 := blk_frozen BK137.out 0
                have hfz58_1 := blk_frozen BK137.out 1
                go_wp2
                go_meet
                case rel => exact ⟨_, ((!(t134 == 0) || (!(t135 == 0)))), (by first | rfl | (simp; done) | (simp [*]; done)), H', ⟨by have := HJ7.out; first | omega | exact Nat.le_refl _⟩, ⟨by (with_reducible repeat (first | refine blk_drewN ?_ _ | refine blk_drew ?_ | refine blk_alloc ?_ _)); exact BK128.out⟩, ⟨by (with_reducible repeat (first | refine blk_drewN ?_ _ | refine blk_drew ?_ | refine blk_alloc ?_ _)); exact BK129.out⟩, ⟨by (with_reducible repeat (first | refine blk_drewN ?_ _ | refine blk_drew ?_ | refine blk_alloc ?_ _)); exact BK133.out⟩, ⟨by (with_reducible repeat (first | refine blk_drewN ?_ _ | refine blk_drew ?_ | refine blk_alloc ?_ _)); exact BK137.out⟩, ⟨by repeat (first | (with_reducible first | exact HB.out | apply below_alloc | apply pw_below_drewN | apply below_drew1 | refine below_set ?_ GE128.out | refine below_set ?_ GE129.out | refine below_set ?_ GE133.out | refine below_set ?_ GE137.out) | exact HB.out)⟩⟩
          case rest =>
            clear HC42
            try clear c1
            try clear c2
            try clear p2
            try clear c3
            try clear c4
            try clear c5
            try clear c6
            try clear c12
            try clear c15
            try clear c16
            try clear c17
            try clear c18
            try clear c19
            try clear c24
            try clear c25
            try clear c26
            try clear c30
            try clear c30b0
            try clear c30b1
            try clear c30b2
            try clear c41
            try clear c44
            try clear c44b0
            try clear c44b1
            try clear c44b2
            try clear c45
            try clear c46
            try clear c46b0
            try clear c47
            try clear c48
            try clear c49
            try clear c51
            try clear c52
            try clear c53
            try clear c55
            try clear c56
            try clear c57
            try clear hcz13_0
            try clear hcz13_1
            try clear hcz14_0
            try clear hcz14_1
            try clear hcz19_0
            try clear hcz19_1
            try clear hcz20_0
            try clear hcz20_1
            try clear hcz21_0
            try clear hcz21_1
            try clear hcz27_0
            try clear hcz27_1
            try clear hcz50_0
            try clear hcz50_1
            try clear hcz54_0
            try clear hcz54_1
            try clear hcz58_0
            try clear hcz58_1
            try clear hfz13_0
            try clear hfz13_1
            try clear hfz14_0
            try clear hfz14_1
            try clear hfz19_0
            try clear hfz19_1
            try clear hfz20_0
            try clear hfz20_1
            try clear hfz21_0
            try clear hfz21_1
            try clear hfz27_0
            try clear hfz27_1
            try clear hfz50_0
            try clear hfz50_1
            try clear hfz54_0
            try clear hfz54_1
            try clear hfz58_0
            try clear hfz58_1
            try clear p2
            obtain ⟨kq, x71_41, rfl, HA, HJ41, BK128, BK129, BK133, BK137, HB⟩ := hcut
            cases kq with
            | zero => exact absurd HA.out (by simp [jacquardlaw12_KnownbitsLattice.j1])
            | succ kj41 =>
              have H := HA.out
              clear HA
              simp only [jacquardlaw12_KnownbitsLattice.j1] at H
              by_cases c59 : x71_41 = true
              · subst c59
                have H1 : (some false) = some r := by rw [if_pos rfl] at H; exact H
                clear H
                have H := H1
                clear H1
                obtain rfl := Option.some.inj H
                go_wp2
                go_ret
                exact ⟨by first | rfl | (simp [errW_none, errW_some] <;> rfl) | (simp [*, errW_none, errW_some] <;> rfl), by repeat (first | (with_reducible first | exact HB.out | apply below_alloc | apply pw_below_drewN | apply below_drew1 | refine below_set ?_ GE128.out | refine below_set ?_ GE129.out | refine below_set ?_ GE133.out | refine below_set ?_ GE137.out) | exact HB.out)⟩
              · replace c59 := Bool.eq_false_iff.mpr c59
                subst c59
                have H1 : ((knownbits_Leq.f a0_0 a0_1 t131 t132).bind fun t142 => (if t142 = true then ((knownbits_Leq.f a1_0 a1_1 t131 t132).bind fun t143 => (jacquardlaw12_KnownbitsLattice.j2 kj41 a2 t136 (!t143) a0_0 a0_1 a1_0 a1_1 t131 t132 t134 t135)) else (jacquardlaw12_KnownbitsLattice.j2 kj41 a2 t136 true a0_0 a0_1 a1_0 a1_1 t131 t132 t134 t135))) = some r := by rw [if_neg (show ¬ (false = true) by decide)] at H; exact H
                clear H
                have H := H1
                clear H1
                have HC60 := Aside0.mk H
                clear H
                go_upto_region 10 with (fail)
                go_cut [81] (fun v81 wc => ∃ (kq : Nat) (x81_59 : Bool), v81 = .bool x81_59 ∧ Aside0 (jacquardlaw12_KnownbitsLattice.j2 kq a2 t136 x81_59 a0_0 a0_1 a1_0 a1_1 t131 t132 t134 t135 = some r) ∧ Aside0 (kq ≤ kj41) ∧ Aside0 (wc.heap[gb128]? = some (.cells #[.int .u64 a0_0, .int .u64 a0_1] 24 (0, 0))) ∧ Aside0 (wc.heap[gb129]? = some (.cells #[.int .u64 a1_0, .int .u64 a1_1] 24 (0, 0))) ∧ Aside0 (wc.heap[gb133]? = some (.cells #[.int .u64 t131, .int .u64 t132] 24 (0, 0))) ∧ Aside0 (wc.heap[gb137]? = some (.cells #[.int .u64 t134, .int .u64 t135] 24 (0, 0))) ∧ Aside0 (Below w.heap.size w wc))
                case first =>
                  have H := HC60.out
                  clear HC60
                  replace H := Option.bind_eq_some_iff.mp H
                  obtain ⟨t142, A610, H⟩ := H
                  replace H : (if t142 = true then ((knownbits_Leq.f a1_0 a1_1 t131 t132).bind fun t143 => (jacquardlaw12_KnownbitsLattice.j2 kj41 a2 t136 (!t143) a0_0 a0_1 a1_0 a1_1 t131 t132 t134 t135)) else (jacquardlaw12_KnownbitsLattice.j2 kj41 a2 t136 true a0_0 a0_1 a1_0 a1_1 t131 t132 t134 t135)) = some r := H
                  have A61 := Aside0.mk A610
                  clear A610
                  by_cases c62 : t142 = true
                  · subst c62
                    have H1 : ((knownbits_Leq.f a1_0 a1_1 t131 t132).bind fun t143 => (jacquardlaw12_KnownbitsLattice.j2 kj41 a2 t136 (!t143) a0_0 a0_1 a1_0 a1_1 t131 t132 t134 t135)) = some r := by rw [if_pos rfl] at H; exact H
                    clear H
                    have H := H1
                    clear H1
                    replace H := Option.bind_eq_some_iff.mp H
                    obtain ⟨t143, A630, H⟩ := H
                    replace H : (jacquardlaw12_KnownbitsLattice.j2 kj41 a2 t136 (!t143) a0_0 a0_1 a1_0 a1_1 t131 t132 t134 t135) = some r := H
                    have A63 := Aside0.mk A630
                    clear A630
                    have H' := Aside0.mk H
                    clear H
                    have hnb64 := NB128_129.out
                    have hnc64 := NB129_128.out
                    have hnb65 := NB128_133.out
                    have hnc65 := NB133_128.out
                    have hnb66 := NB128_137.out
                    have hnc66 := NB137_128.out
                    have hcz67_0 : wc.cell? ⟨gb128, 0, none⟩ = some (.int .u64 a0_0) := (blk_cell BK128.out 0).trans rfl
                    have hcz67_1 : wc.cell? ⟨gb128, 1, none⟩ = some (.int .u64 a0_1) := (blk_cell BK128.out 1).trans rfl
                    have hfz67_0 := blk_frozen BK128.out 0
                    have hfz67_1 := blk_frozen BK128.out 1
                    have hnb68 := NB133_129.out
                    have hnc68 := NB129_133.out
                    have hnb69 := NB133_137.out
                    have hnc69 := NB137_133.out
                    have hcz70_0 : wc.cell? ⟨gb133, 0, none⟩ = some (.int .u64 t131) := (blk_cell BK133.out 0).trans rfl
                    have hcz70_1 : wc.cell? ⟨gb133, 1, none⟩ = some (.int .u64 t132) := (blk_cell BK133.out 1).trans rfl
                    have hfz70_0 := blk_frozen BK133.out 0
                    have hfz70_1 := blk_frozen BK133.out 1
                    go_wp2_with (first | ((with_reducible refine gate_callee (f := 17) rfl ?_); refine goesL_ (some 74) rfl rfl Try.func17 (by kernel_rfl) rfl #[.agg #[.int .u64 a0_0, .int .u64 a0_1], .agg #[.int .u64 t131, .int .u64 t132]] rfl (by (try simp only [List.map_toArray, List.map_cons, List.map_nil]); first | done | rfl | (simp only [List.length_drop, List.length_take]; rfl)) ?_; (with_reducible refine (knownbits_Leq.calls a0_0 a0_1 t131 t132 true _ A61.out).mono ?_); rintro e w71 ⟨rfl, hb⟩; refine ⟨_, rfl, ?_⟩; have n0_ := Aside0.mk (blk_below (g := gb128) (o := .cells #[.int .u64 a0_0, .int .u64 a0_1] 24 (0, 0)) (by (with_reducible repeat (first | refine blk_drewN ?_ _ | refine blk_drew ?_ | refine blk_alloc ?_ _)); exact BK128.out) hb); have n1_ := Aside0.mk (blk_below (g := gb129) (o := .cells #[.int .u64 a1_0, .int .u64 a1_1] 24 (0, 0)) (by (with_reducible repeat (first | refine blk_drewN ?_ _ | refine blk_drew ?_ | refine blk_alloc ?_ _)); exact BK129.out) hb); have n2_ := Aside0.mk (blk_below (g := gb133) (o := .cells #[.int .u64 t131, .int .u64 t132] 24 (0, 0)) (by (with_reducible repeat (first | refine blk_drewN ?_ _ | refine blk_drew ?_ | refine blk_alloc ?_ _)); exact BK133.out) hb); have n3_ := Aside0.mk (blk_below (g := gb137) (o := .cells #[.int .u64 t134, .int .u64 t135] 24 (0, 0)) (by (with_reducible repeat (first | refine blk_drewN ?_ _ | refine blk_drew ?_ | refine blk_alloc ?_ _)); exact BK137.out) hb); have n4_ := Aside0.mk (below_step (by repeat (first | (with_reducible first | exact HB.out | apply below_alloc | apply pw_below_drewN | apply below_drew1 | refine below_set ?_ GE128.out | refine below_set ?_ GE129.out | refine below_set ?_ GE133.out | refine below_set ?_ GE137.out) | exact HB.out)) hb); clear BK128; clear BK129; clear BK133; clear BK137; clear HB; have BK128 := n0_; have BK129 := n1_; have BK133 := n2_; have BK137 := n3_; have HB := n4_; clear n0_ n1_ n2_ n3_ n4_; (try clear hb); (try clear hb2); (try clear hk); (try clear hi); have hnb72 := NB129_137.out; have hnc72 := NB137_129.out; have hcz73_0 : w71.cell? ⟨gb129, 0, none⟩ = some (.int .u64 a1_0) := (blk_cell BK129.out 0).trans rfl; have hcz73_1 : w71.cell? ⟨gb129, 1, none⟩ = some (.int .u64 a1_1) := (blk_cell BK129.out 1).trans rfl; have hfz73_0 := blk_frozen BK129.out 0; have hfz73_1 := blk_frozen BK129.out 1; have hcz74_0 : w71.cell? ⟨gb133, 0, none⟩ = some (.int .u64 t131) := (blk_cell BK133.out 0).trans rfl; have hcz74_1 : w71.cell? ⟨gb133, 1, none⟩ = some (.int .u64 t132) := (blk_cell BK133.out 1).trans rfl; have hfz74_0 := blk_frozen BK133.out 0; have hfz74_1 := blk_frozen BK133.out 1) | (go_at_call 17; (with_reducible refine (knownbits_Leq.calls a1_0 a1_1 t131 t132 t143 _ A63.out).mono ?_); rintro e w75 ⟨rfl, hb⟩; have n0_ := Aside0.mk (blk_below (g := gb128) (o := .cells #[.int .u64 a0_0, .int .u64 a0_1] 24 (0, 0)) (by (with_reducible repeat (first | refine blk_drewN ?_ _ | refine blk_drew ?_ | refine blk_alloc ?_ _)); exact BK128.out) hb); have n1_ := Aside0.mk (blk_below (g := gb129) (o := .cells #[.int .u64 a1_0, .int .u64 a1_1] 24 (0, 0)) (by (with_reducible repeat (first | refine blk_drewN ?_ _ | refine blk_drew ?_ | refine blk_alloc ?_ _)); exact BK129.out) hb); have n2_ := Aside0.mk (blk_below (g := gb133) (o := .cells #[.int .u64 t131, .int .u64 t132] 24 (0, 0)) (by (with_reducible repeat (first | refine blk_drewN ?_ _ | refine blk_drew ?_ | refine blk_alloc ?_ _)); exact BK133.out) hb); have n3_ := Aside0.mk (blk_below (g := gb137) (o := .cells #[.int .u64 t134, .int .u64 t135] 24 (0, 0)) (by (with_reducible repeat (first | refine blk_drewN ?_ _ | refine blk_drew ?_ | refine blk_alloc ?_ _)); exact BK137.out) hb); have n4_ := Aside0.mk (below_step (by repeat (first | (with_reducible first | exact HB.out | apply below_alloc | apply pw_below_drewN | apply below_drew1 | refine below_set ?_ GE128.out | refine below_set ?_ GE129.out | refine below_set ?_ GE133.out | refine below_set ?_ GE137.out) | exact HB.out)) hb); clear BK128; clear BK129; clear BK133; clear BK137; clear HB; have BK128 := n0_; have BK129 := n1_; have BK133 := n2_; have BK137 := n3_; have HB := n4_; clear n0_ n1_ n2_ n3_ n4_; (try clear hb); (try clear hb2); (try clear hk); (try clear hi)))
                    go_meet
                    case rel => exact ⟨_, (!t143), (by first | rfl | (simp; done) | (simp [*]; done)), H', ⟨by have := HJ7.out; have := HJ41.out; first | omega | exact Nat.le_refl _⟩, ⟨by (with_reducible repeat (first | refine blk_drewN ?_ _ | refine blk_drew ?_ | refine blk_alloc ?_ _)); exact BK128.out⟩, ⟨by (with_reducible repeat (first | refine blk_drewN ?_ _ | refine blk_drew ?_ | refine blk_alloc ?_ _)); exact BK129.out⟩, ⟨by (with_reducible repeat (first | refine blk_drewN ?_ _ | refine blk_drew ?_ | refine blk_alloc ?_ _)); exact BK133.out⟩, ⟨by (with_reducible repeat (first | refine blk_drewN ?_ _ | refine blk_drew ?_ | refine blk_alloc ?_ _)); exact BK137.out⟩, ⟨by repeat (first | (with_reducible first | exact HB.out | apply below_alloc | apply pw_below_drewN | apply below_drew1 | refine below_set ?_ GE128.out | refine below_set ?_ GE129.out | refine below_set ?_ GE133.out | refine below_set ?_ GE137.out) | exact HB.out)⟩⟩
                  · replace c62 := Bool.eq_false_iff.mpr c62
                    subst c62
                    have H1 : (jacquardlaw12_KnownbitsLattice.j2 kj41 a2 t136 true a0_0 a0_1 a1_0 a1_1 t131 t132 t134 t135) = some r := by rw [if_neg (show ¬ (false = true) by decide)] at H; exact H
                    clear H
                    have H := H1
                    clear H1
                    have H' := Aside0.mk H
                    clear H
                    have hnb76 := NB128_129.out
                    have hnc76 := NB129_128.out
                    have hnb77 := NB128_133.out
                    have hnc77 := NB133_128.out
                    have hnb78 := NB128_137.out
                    have hnc78 := NB137_128.out
                    have hcz79_0 : wc.cell? ⟨gb128, 0, none⟩ = some (.int .u64 a0_0) := (blk_cell BK128.out 0).trans rfl
                    have hcz79_1 : wc.cell? ⟨gb128, 1, none⟩ = some (.int .u64 a0_1) := (blk_cell BK128.out 1).trans rfl
                    have hfz79_0 := blk_frozen BK128.out 0
                    have hfz79_1 := blk_frozen BK128.out 1
                    have hnb80 := NB133_129.out
                    have hnc80 := NB129_133.out
                    have hnb81 := NB133_137.out
                    have hnc81 := NB137_133.out
                    have hcz82_0 : wc.cell? ⟨gb133, 0, none⟩ = some (.int .u64 t131) := (blk_cell BK133.out 0).trans rfl
                    have hcz82_1 : wc.cell? ⟨gb133, 1, none⟩ = some (.int .u64 t132) := (blk_cell BK133.out 1).trans rfl
                    have hfz82_0 := blk_frozen BK133.out 0
                    have hfz82_1 := blk_frozen BK133.out 1
                    go_wp2_with (first | ((with_reducible refine gate_callee (f := 17) rfl ?_); refine goesL_ (some 74) rfl rfl Try.func17 (by kernel_rfl) rfl #[.agg #[.int .u64 a0_0, .int .u64 a0_1], .agg #[.int .u64 t131, .int .u64 t132]] rfl (by (try simp only [List.map_toArray, List.map_cons, List.map_nil]); first | done | rfl | (simp only [List.length_drop, List.length_take]; rfl)) ?_; (with_reducible refine (knownbits_Leq.calls a0_0 a0_1 t131 t132 false _ A61.out).mono ?_); rintro e w83 ⟨rfl, hb⟩; refine ⟨_, rfl, ?_⟩; have n0_ := Aside0.mk (blk_below (g := gb128) (o := .cells #[.int .u64 a0_0, .int .u64 a0_1] 24 (0, 0)) (by (with_reducible repeat (first | refine blk_drewN ?_ _ | refine blk_drew ?_ | refine blk_alloc ?_ _)); exact BK128.out) hb); have n1_ := Aside0.mk (blk_below (g := gb129) (o := .cells #[.int .u64 a1_0, .int .u64 a1_1] 24 (0, 0)) (by (with_reducible repeat (first | refine blk_drewN ?_ _ | refine blk_drew ?_ | refine blk_alloc ?_ _)); exact BK129.out) hb); have n2_ := Aside0.mk (blk_below (g := gb133) (o := .cells #[.int .u64 t131, .int .u64 t132] 24 (0, 0)) (by (with_reducible repeat (first | refine blk_drewN ?_ _ | refine blk_drew ?_ | refine blk_alloc ?_ _)); exact BK133.out) hb); have n3_ := Aside0.mk (blk_below (g := gb137) (o := .cells #[.int .u64 t134, .int .u64 t135] 24 (0, 0)) (by (with_reducible repeat (first | refine blk_drewN ?_ _ | refine blk_drew ?_ | refine blk_alloc ?_ _)); exact BK137.out) hb); have n4_ := Aside0.mk (below_step (by repeat (first | (with_reducible first | exact HB.out | apply below_alloc | apply pw_below_drewN | apply below_drew1 | refine below_set ?_ GE128.out | refine below_set ?_ GE129.out | refine below_set ?_ GE133.out | refine below_set ?_ GE137.out) | exact HB.out)) hb); clear BK128; clear BK129; clear BK133; clear BK137; clear HB; have BK128 := n0_; have BK129 := n1_; have BK133 := n2_; have BK137 := n3_; have HB := n4_; clear n0_ n1_ n2_ n3_ n4_; (try clear hb); (try clear hb2); (try clear hk); (try clear hi)))
                    go_meet
                    case rel => exact ⟨_, (true), (by first | rfl | (simp; done) | (simp [*]; done)), H', ⟨by have := HJ7.out; have := HJ41.out; first | omega | exact Nat.le_refl _⟩, ⟨by (with_reducible repeat (first | refine blk_drewN ?_ _ | refine blk_drew ?_ | refine blk_alloc ?_ _)); exact BK128.out⟩, ⟨by (with_reducible repeat (first | refine blk_drewN ?_ _ | refine blk_drew ?_ | refine blk_alloc ?_ _)); exact BK129.out⟩, ⟨by (with_reducible repeat (first | refine blk_drewN ?_ _ | refine blk_drew ?_ | refine blk_alloc ?_ _)); exact BK133.out⟩, ⟨by (with_reducible repeat (first | refine blk_drewN ?_ _ | refine blk_drew ?_ | refine blk_alloc ?_ _)); exact BK137.out⟩, ⟨by repeat (first | (with_reducible first | exact HB.out | apply below_alloc | apply pw_below_drewN | apply below_drew1 | refine below_set ?_ GE128.out | refine below_set ?_ GE129.out | refine below_set ?_ GE133.out | refine below_set ?_ GE137.out) | exact HB.out)⟩⟩
                case rest =>
                  clear HC60
                  try clear c1
                  try clear c2
                  try clear p2
                  try clear c3
                  try clear c4
                  try clear c5
                  try clear c6
                  try clear c7
                  try clear c8
                  try clear c12
                  try clear c15
                  try clear c16
                  try clear c17
                  try clear c18
                  try clear c19
                  try clear c24
                  try clear c25
                  try clear c26
                  try clear c30
                  try clear c30b0
                  try clear c30b1
                  try clear c30b2
                  try clear c41
                  try clear c44
                  try clear c44b0
                  try clear c44b1
                  try clear c44b2
                  try clear c45
                  try clear c46
                  try clear c46b0
                  try clear c47
                  try clear c48
                  try clear c49
                  try clear c51
                  try clear c52
                  try clear c53
                  try clear c55
                  try clear c56
                  try clear c57
                  try clear c59
                  try clear c62
                  try clear c64
                  try clear c65
                  try clear c66
                  try clear c68
                  try clear c69
                  try clear c72
                  try clear c76
                  try clear c77
                  try clear c78
                  try clear c80
                  try clear c81
                  try clear hcz13_0
                  try clear hcz13_1
                  try clear hcz14_0
                  try clear hcz14_1
                  try clear hcz19_0
                  try clear hcz19_1
                  try clear hcz20_0
                  try clear hcz20_1
                  try clear hcz21_0
                  try clear hcz21_1
                  try clear hcz27_0
                  try clear hcz27_1
                  try clear hcz50_0
                  try clear hcz50_1
                  try clear hcz54_0
                  try clear hcz54_1
                  try clear hcz58_0
                  try clear hcz58_1
                  try clear hcz67_0
                  try clear hcz67_1
                  try clear hcz70_0
                  try clear hcz70_1
                  try clear hcz73_0
                  try clear hcz73_1
                  try clear hcz74_0
                  try clear hcz74_1
                  try clear hcz79_0
                  try clear hcz79_1
                  try clear hcz82_0
                  try clear hcz82_1
                  try clear hfz13_0
                  try clear hfz13_1
                  try clear hfz14_0
                  try clear hfz14_1
                  try clear hfz19_0
                  try clear hfz19_1
                  try clear hfz20_0
                  try clear hfz20_1
                  try clear hfz21_0
                  try clear hfz21_1
                  try clear hfz27_0
                  try clear hfz27_1
                  try clear hfz50_0
                  try clear hfz50_1
                  try clear hfz54_0
                  try clear hfz54_1
                  try clear hfz58_0
                  try clear hfz58_1
                  try clear hfz67_0
                  try clear hfz67_1
                  try clear hfz70_0
                  try clear hfz70_1
                  try clear hfz73_0
                  try clear hfz73_1
                  try clear hfz74_0
                  try clear hfz74_1
                  try clear hfz79_0
                  try clear hfz79_1
                  try clear hfz82_0
                  try clear hfz82_1
                  try clear p2
                  obtain ⟨kq, x81_59, rfl, HA, HJ59, BK128, BK129, BK133, BK137, HB⟩ := hcut
                  cases kq with
                  | zero => exact absurd HA.out (by simp [jacquardlaw12_KnownbitsLattice.j2])
                  | succ kj59 =>
                    have H := HA.out
                    clear HA
                    simp only [jacquardlaw12_KnownbitsLattice.j2] at H
                    by_cases c84 : x81_59 = true
                    · subst c84
                      have H1 : (some false) = some r := by rw [if_pos rfl] at H; exact H
                      clear H
                      have H := H1
                      clear H1
                      obtain rfl := Option.some.inj H
                      go_wp2
                      go_ret
                      exact ⟨by first | rfl | (simp [errW_none, errW_some] <;> rfl) | (simp [*, errW_none, errW_some] <;> rfl), by repeat (first | (with_reducible first | exact HB.out | apply below_alloc | apply pw_below_drewN | apply below_drew1 | refine below_set ?_ GE128.out | refine below_set ?_ GE129.out | refine below_set ?_ GE133.out | refine below_set ?_ GE137.out) | exact HB.out)⟩
                    · replace c84 := Bool.eq_false_iff.mpr c84
                      subst c84
                      have H1 : ((knownbits_Contains.f a0_0 a0_1 a2).bind fun t144 => (if t144 = true then ((knownbits_Contains.f a1_0 a1_1 a2).bind fun t145 => (jacquardlaw12_KnownbitsLattice.j3 kj59 a2 t136 t145 t131 t132 t134 t135)) else (jacquardlaw12_KnownbitsLattice.j3 kj59 a2 t136 false t131 t132 t134 t135))) = some r := by rw [if_neg (show ¬ (false = true) by decide)] at H; exact H
                      clear H
                      have H := H1
                      clear H1
                      have HC85 := Aside0.mk H
                      clear H
                      go_upto_region 12 with (fail)
                      go_cut [89] (fun v89 wc => ∃ (kq : Nat) (x89_84 : Bool), v89 = .bool x89_84 ∧ Aside0 (jacquardlaw12_KnownbitsLattice.j3 kq a2 t136 x89_84 t131 t132 t134 t135 = some r) ∧ Aside0 (kq ≤ kj59) ∧ Aside0 (wc.heap[gb128]? = some (.cells #[.int .u64 a0_0, .int .u64 a0_1] 24 (0, 0))) ∧ Aside0 (wc.heap[gb129]? = some (.cells #[.int .u64 a1_0, .int .u64 a1_1] 24 (0, 0))) ∧ Aside0 (wc.heap[gb133]? = some (.cells #[.int .u64 t131, .int .u64 t132] 24 (0, 0))) ∧ Aside0 (wc.heap[gb137]? = some (.cells #[.int .u64 t134, .int .u64 t135] 24 (0, 0))) ∧ Aside0 (Below w.heap.size w wc))
                      case first =>
                        have H := HC85.out
                        clear HC85
                        replace H := Option.bind_eq_some_iff.mp H
                        obtain ⟨t144, A860, H⟩ := H
                        replace H : (if t144 = true then ((knownbits_Contains.f a1_0 a1_1 a2).bind fun t145 => (jacquardlaw12_KnownbitsLattice.j3 kj59 a2 t136 t145 t131 t132 t134 t135)) else (jacquardlaw12_KnownbitsLattice.j3 kj59 a2 t136 false t131 t132 t134 t135)) = some r := H
                        have A86 := Aside0.mk A860
                        clear A860
                        by_cases c87 : t144 = true
                        · subst c87
                          have H1 : ((knownbits_Contains.f a1_0 a1_1 a2).bind fun t145 => (jacquardlaw12_KnownbitsLattice.j3 kj59 a2 t136 t145 t131 t132 t134 t135)) = some r := by rw [if_pos rfl] at H; exact H
                          clear H
                          have H := H1
                          clear H1
                          replace H := Option.bind_eq_some_iff.mp H
                          obtain ⟨t145, A880, H⟩ := H
                          replace H : (jacquardlaw12_KnownbitsLattice.j3 kj59 a2 t136 t145 t131 t132 t134 t135) = some r := H
                          have A88 := Aside0.mk A880
                          clear A880
                          have H' := Aside0.mk H
                          clear H
                          have hnb89 := NB128_129.out
                          have hnc89 := NB129_128.out
                          have hnb90 := NB128_133.out
                          have hnc90 := NB133_128.out
                          have hnb91 := NB128_137.out
                          have hnc91 := NB137_128.out
                          have hcz92_0 : wc.cell? ⟨gb128, 0, none⟩ = some (.int .u64 a0_0) := (blk_cell BK128.out 0).trans rfl
                          have hcz92_1 : wc.cell? ⟨gb128, 1, none⟩ = some (.int .u64 a0_1) := (blk_cell BK128.out 1).trans rfl
                          have hfz92_0 := blk_frozen BK128.out 0
                          have hfz92_1 := blk_frozen BK128.out 1
                          go_wp2_with (first | ((with_reducible refine gate_callee (f := 9) rfl ?_); refine goesL_ (some 84) rfl rfl Try.func9 (by kernel_rfl) rfl #[.agg #[.int .u64 a0_0, .int .u64 a0_1], .int .u64 a2] rfl (by (try simp only [List.map_toArray, List.map_cons, List.map_nil]); first | done | rfl | (simp only [List.length_drop, List.length_take]; rfl)) ?_; (with_reducible refine (knownbits_Contains.calls a0_0 a0_1 a2 true _ A86.out).mono ?_); rintro e w93 ⟨rfl, hb⟩; refine ⟨_, rfl, ?_⟩; have n0_ := Aside0.mk (blk_below (g := gb128) (o := .cells #[.int .u64 a0_0, .int .u64 a0_1] 24 (0, 0)) (by (with_reducible repeat (first | refine blk_drewN ?_ _ | refine blk_drew ?_ | refine blk_alloc ?_ _)); exact BK128.out) hb); have n1_ := Aside0.mk (blk_below (g := gb129) (o := .cells #[.int .u64 a1_0, .int .u64 a1_1] 24 (0, 0)) (by (with_reducible repeat (first | refine blk_drewN ?_ _ | refine blk_drew ?_ | refine blk_alloc ?_ _)); exact BK129.out) hb); have n2_ := Aside0.mk (blk_below (g := gb133) (o := .cells #[.int .u64 t131, .int .u64 t132] 24 (0, 0)) (by (with_reducible repeat (first | refine blk_drewN ?_ _ | refine blk_drew ?_ | refine blk_alloc ?_ _)); exact BK133.out) hb); have n3_ := Aside0.mk (blk_below (g := gb137) (o := .cells #[.int .u64 t134, .int .u64 t135] 24 (0, 0)) (by (with_reducible repeat (first | refine blk_drewN ?_ _ | refine blk_drew ?_ | refine blk_alloc ?_ _)); exact BK137.out) hb); have n4_ := Aside0.mk (below_step (by repeat (first | (with_reducible first | exact HB.out | apply below_alloc | apply pw_below_drewN | apply below_drew1 | refine below_set ?_ GE128.out | refine below_set ?_ GE129.out | refine below_set ?_ GE133.out | refine below_set ?_ GE137.out) | exact HB.out)) hb); clear BK128; clear BK129; clear BK133; clear BK137; clear HB; have BK128 := n0_; have BK129 := n1_; have BK133 := n2_; have BK137 := n3_; have HB := n4_; clear n0_ n1_ n2_ n3_ n4_; (try clear hb); (try clear hb2); (try clear hk); (try clear hi); have hnb94 := NB129_133.out; have hnc94 := NB133_129.out; have hnb95 := NB129_137.out; have hnc95 := NB137_129.out; have hcz96_0 : w93.cell? ⟨gb129, 0, none⟩ = some (.int .u64 a1_0) := (blk_cell BK129.out 0).trans rfl; have hcz96_1 : w93.cell? ⟨gb129, 1, none⟩ = some (.int .u64 a1_1) := (blk_cell BK129.out 1).trans rfl; have hfz96_0 := blk_frozen BK129.out 0; have hfz96_1 := blk_frozen BK129.out 1) | (go_at_call 9; (with_reducible refine (knownbits_Contains.calls a1_0 a1_1 a2 t145 _ A88.out).mono ?_); rintro e w97 ⟨rfl, hb⟩; have n0_ := Aside0.mk (blk_below (g := gb128) (o := .cells #[.int .u64 a0_0, .int .u64 a0_1] 24 (0, 0)) (by (with_reducible repeat (first | refine blk_drewN ?_ _ | refine blk_drew ?_ | refine blk_alloc ?_ _)); exact BK128.out) hb); have n1_ := Aside0.mk (blk_below (g := gb129) (o := .cells #[.int .u64 a1_0, .int .u64 a1_1] 24 (0, 0)) (by (with_reducible repeat (first | refine blk_drewN ?_ _ | refine blk_drew ?_ | refine blk_alloc ?_ _)); exact BK129.out) hb); have n2_ := Aside0.mk (blk_below (g := gb133) (o := .cells #[.int .u64 t131, .int .u64 t132] 24 (0, 0)) (by (with_reducible repeat (first | refine blk_drewN ?_ _ | refine blk_drew ?_ | refine blk_alloc ?_ _)); exact BK133.out) hb); have n3_ := Aside0.mk (blk_below (g := gb137) (o := .cells #[.int .u64 t134, .int .u64 t135] 24 (0, 0)) (by (with_reducible repeat (first | refine blk_drewN ?_ _ | refine blk_drew ?_ | refine blk_alloc ?_ _)); exact BK137.out) hb); have n4_ := Aside0.mk (below_step (by repeat (first | (with_reducible first | exact HB.out | apply below_alloc | apply pw_below_drewN | apply below_drew1 | refine below_set ?_ GE128.out | refine below_set ?_ GE129.out | refine below_set ?_ GE133.out | refine below_set ?_ GE137.out) | exact HB.out)) hb); clear BK128; clear BK129; clear BK133; clear BK137; clear HB; have BK128 := n0_; have BK129 := n1_; have BK133 := n2_; have BK137 := n3_; have HB := n4_; clear n0_ n1_ n2_ n3_ n4_; (try clear hb); (try clear hb2); (try clear hk); (try clear hi)))
                          go_meet
                          case rel => exact ⟨_, (t145), (by first | rfl | (simp; done) | (simp [*]; done)), H', ⟨by have := HJ7.out; have := HJ41.out; have := HJ59.out; first | omega | exact Nat.le_refl _⟩, ⟨by (with_reducible repeat (first | refine blk_drewN ?_ _ | refine blk_drew ?_ | refine blk_alloc ?_ _)); exact BK128.out⟩, ⟨by (with_reducible repeat (first | refine blk_drewN ?_ _ | refine blk_drew ?_ | refine blk_alloc ?_ _)); exact BK129.out⟩, ⟨by (with_reducible repeat (first | refine blk_drewN ?_ _ | refine blk_drew ?_ | refine blk_alloc ?_ _)); exact BK133.out⟩, ⟨by (with_reducible repeat (first | refine blk_drewN ?_ _ | refine blk_drew ?_ | refine blk_alloc ?_ _)); exact BK137.out⟩, ⟨by repeat (first | (with_reducible first | exact HB.out | apply below_alloc | apply pw_below_drewN | apply below_drew1 | refine below_set ?_ GE128.out | refine below_set ?_ GE129.out | refine below_set ?_ GE133.out | refine below_set ?_ GE137.out) | exact HB.out)⟩⟩
                        · replace c87 := Bool.eq_false_iff.mpr c87
                          subst c87
                          have H1 : (jacquardlaw12_KnownbitsLattice.j3 kj59 a2 t136 false t131 t132 t134 t135) = some r := by rw [if_neg (show ¬ (false = true) by decide)] at H; exact H
                          clear H
                          have H := H1
                          clear H1
                          have H' := Aside0.mk H
                          clear H
                          have hnb98 := NB128_129.out
                          have hnc98 := NB129_128.out
                          have hnb99 := NB128_133.out
                          have hnc99 := NB133_128.out
                          have hnb100 := NB128_137.out
                          have hnc100 := NB137_128.out
                          have hcz101_0 : wc.cell? ⟨gb128, 0, none⟩ = some (.int .u64 a0_0) := (blk_cell BK128.out 0).trans rfl
                          have hcz101_1 : wc.cell? ⟨gb128, 1, none⟩ = some (.int .u64 a0_1) := (blk_cell BK128.out 1).trans rfl
                          have hfz101_0 := blk_frozen BK128.out 0
                          have hfz101_1 := blk_frozen BK128.out 1
                          go_wp2_with (first | ((with_reducible refine gate_callee (f := 9) rfl ?_); refine goesL_ (some 84) rfl rfl Try.func9 (by kernel_rfl) rfl #[.agg #[.int .u64 a0_0, .int .u64 a0_1], .int .u64 a2] rfl (by (try simp only [List.map_toArray, List.map_cons, List.map_nil]); first | done | rfl | (simp only [List.length_drop, List.length_take]; rfl)) ?_; (with_reducible refine (knownbits_Contains.calls a0_0 a0_1 a2 false _ A86.out).mono ?_); rintro e w102 ⟨rfl, hb⟩; refine ⟨_, rfl, ?_⟩; have n0_ := Aside0.mk (blk_below (g := gb128) (o := .cells #[.int .u64 a0_0, .int .u64 a0_1] 24 (0, 0)) (by (with_reducible repeat (first | refine blk_drewN ?_ _ | refine blk_drew ?_ | refine blk_alloc ?_ _)); exact BK128.out) hb); have n1_ := Aside0.mk (blk_below (g := gb129) (o := .cells #[.int .u64 a1_0, .int .u64 a1_1] 24 (0, 0)) (by (with_reducible repeat (first | refine blk_drewN ?_ _ | refine blk_drew ?_ | refine blk_alloc ?_ _)); exact BK129.out) hb); have n2_ := Aside0.mk (blk_below (g := gb133) (o := .cells #[.int .u64 t131, .int .u64 t132] 24 (0, 0)) (by (with_reducible repeat (first | refine blk_drewN ?_ _ | refine blk_drew ?_ | refine blk_alloc ?_ _)); exact BK133.out) hb); have n3_ := Aside0.mk (blk_below (g := gb137) (o := .cells #[.int .u64 t134, .int .u64 t135] 24 (0, 0)) (by (with_reducible repeat (first | refine blk_drewN ?_ _ | refine blk_drew ?_ | refine blk_alloc ?_ _)); exact BK137.out) hb); have n4_ := Aside0.mk (below_step (by repeat (first | (with_reducible first | exact HB.out | apply below_alloc | apply pw_below_drewN | apply below_drew1 | refine below_set ?_ GE128.out | refine below_set ?_ GE129.out | refine below_set ?_ GE133.out | refine below_set ?_ GE137.out) | exact HB.out)) hb); clear BK128; clear BK129; clear BK133; clear BK137; clear HB; have BK128 := n0_; have BK129 := n1_; have BK133 := n2_; have BK137 := n3_; have HB := n4_; clear n0_ n1_ n2_ n3_ n4_; (try clear hb); (try clear hb2); (try clear hk); (try clear hi)))
                          go_meet
                          case rel => exact ⟨_, (false), (by first | rfl | (simp; done) | (simp [*]; done)), H', ⟨by have := HJ7.out; have := HJ41.out; have := HJ59.out; first | omega | exact Nat.le_refl _⟩, ⟨by (with_reducible repeat (first | refine blk_drewN ?_ _ | refine blk_drew ?_ | refine blk_alloc ?_ _)); exact BK128.out⟩, ⟨by (with_reducible repeat (first | refine blk_drewN ?_ _ | refine blk_drew ?_ | refine blk_alloc ?_ _)); exact BK129.out⟩, ⟨by (with_reducible repeat (first | refine blk_drewN ?_ _ | refine blk_drew ?_ | refine blk_alloc ?_ _)); exact BK133.out⟩, ⟨by (with_reducible repeat (first | refine blk_drewN ?_ _ | refine blk_drew ?_ | refine blk_alloc ?_ _)); exact BK137.out⟩, ⟨by repeat (first | (with_reducible first | exact HB.out | apply below_alloc | apply pw_below_drewN | apply below_drew1 | refine below_set ?_ GE128.out | refine below_set ?_ GE129.out | refine below_set ?_ GE133.out | refine below_set ?_ GE137.out) | exact HB.out)⟩⟩
                      case rest =>
                        clear HC85
                        try clear c1
                        try clear c2
                        try clear p2
                        try clear c3
                        try clear c4
                        try clear c5
                        try clear c6
                        try clear c7
                        try clear c8
                        try clear c9
                        try clear c10
                        try clear c12
                        try clear c15
                        try clear c16
                        try clear c17
                        try clear c18
                        try clear c19
                        try clear c24
                        try clear c25
                        try clear c26
                        try clear c30
                        try clear c30b0
                        try clear c30b1
                        try clear c30b2
                        try clear c41
                        try clear c44
                        try clear c44b0
                        try clear c44b1
                        try clear c44b2
                        try clear c45
                        try clear c46
                        try clear c46b0
                        try clear c47
                        try clear c48
                        try clear c49
                        try clear c51
                        try clear c52
                        try clear c53
                        try clear c55
                        try clear c56
                        try clear c57
                        try clear c59
                        try clear c62
                        try clear c64
                        try clear c65
                        try clear c66
                        try clear c68
                        try clear c69
                        try clear c72
                        try clear c76
                        try clear c77
                        try clear c78
                        try clear c80
                        try clear c81
                        try clear c84
                        try clear c87
                        try clear c89
                        try clear c90
                        try clear c91
                        try clear c94
                        try clear c95
                        try clear c98
                        try clear c99
                        try clear c100
                        try clear hcz101_0
                        try clear hcz101_1
                        try clear hcz13_0
                        try clear hcz13_1
                        try clear hcz14_0
                        try clear hcz14_1
                        try clear hcz19_0
                        try clear hcz19_1
                        try clear hcz20_0
                        try clear hcz20_1
                        try clear hcz21_0
                        try clear hcz21_1
                        try clear hcz27_0
                        try clear hcz27_1
                        try clear hcz50_0
                        try clear hcz50_1
                        try clear hcz54_0
                        try clear hcz54_1
                        try clear hcz58_0
                        try clear hcz58_1
                        try clear hcz67_0
                        try clear hcz67_1
                        try clear hcz70_0
                        try clear hcz70_1
                        try clear hcz73_0
                        try clear hcz73_1
                        try clear hcz74_0
                        try clear hcz74_1
                        try clear hcz79_0
                        try clear hcz79_1
                        try clear hcz82_0
                        try clear hcz82_1
                        try clear hcz92_0
                        try clear hcz92_1
                        try clear hcz96_0
                        try clear hcz96_1
                        try clear hfz101_0
                        try clear hfz101_1
                        try clear hfz13_0
                        try clear hfz13_1
                        try clear hfz14_0
                        try clear hfz14_1
                        try clear hfz19_0
                        try clear hfz19_1
                        try clear hfz20_0
                        try clear hfz20_1
                        try clear hfz21_0
                        try clear hfz21_1
                        try clear hfz27_0
                        try clear hfz27_1
                        try clear hfz50_0
                        try clear hfz50_1
                        try clear hfz54_0
                        try clear hfz54_1
                        try clear hfz58_0
                        try clear hfz58_1
                        try clear hfz67_0
                        try clear hfz67_1
                        try clear hfz70_0
                        try clear hfz70_1
                        try clear hfz73_0
                        try clear hfz73_1
                        try clear hfz74_0
                        try clear hfz74_1
                        try clear hfz79_0
                        try clear hfz79_1
                        try clear hfz82_0
                        try clear hfz82_1
                        try clear hfz92_0
                        try clear hfz92_1
                        try clear hfz96_0
                        try clear hfz96_1
                        try clear p2
                        obtain ⟨kq, x89_84, rfl, HA, HJ84, BK128, BK129, BK133, BK137, HB⟩ := hcut
                        cases kq with
                        | zero => exact absurd HA.out (by simp [jacquardlaw12_KnownbitsLattice.j3])
                        | succ kj84 =>
                          have H := HA.out
                          clear HA
                          simp only [jacquardlaw12_KnownbitsLattice.j3] at H
                          by_cases c103 : x89_84 = true
                          · subst c103
                            have H1 : (if t136 = true then ((knownbits_Contains.f t134 t135 a2).bind fun t146 => (if t146 = true then ((knownbits_Contains.f t131 t132 a2).bind fun t147 => (some t147)) else (some false))) else (some false)) = some r := by rw [if_pos rfl] at H; exact H
                            clear H
                            have H := H1
                            clear H1
                            by_cases c104 : t136 = true
                            · subst c104
                              have H1 : ((knownbits_Contains.f t134 t135 a2).bind fun t146 => (if t146 = true then ((knownbits_Contains.f t131 t132 a2).bind fun t147 => (some t147)) else (some false))) = some r := by rw [if_pos rfl] at H; exact H
                              clear H
                              have H := H1
                              clear H1
                              replace H := Option.bind_eq_some_iff.mp H
                              obtain ⟨t146, A1050, H⟩ := H
                              replace H : (if t146 = true then ((knownbits_Contains.f t131 t132 a2).bind fun t147 => (some t147)) else (some false)) = some r := H
                              have A105 := Aside0.mk A1050
                              clear A1050
                              by_cases c106 : t146 = true
                              · subst c106
                                have H1 : ((knownbits_Contains.f t131 t132 a2).bind fun t147 => (some t147)) = some r := by rw [if_pos rfl] at H; exact H
                                clear H
                                have H := H1
                                clear H1
                                replace H := Option.bind_eq_some_iff.mp H
                                obtain ⟨t147, A1070, H⟩ := H
                                replace H : (some t147) = some r := H
                                have A107 := Aside0.mk A1070
                                clear A1070
                                obtain rfl := Option.some.inj H
                                have hnb108 := NB137_128.out
                                have hnc108 := NB128_137.out
                                have hnb109 := NB137_129.out
                                have hnc109 := NB129_137.out
                                have hnb110 := NB137_133.out
                                have hnc110 := NB133_137.out
                                have hcz111_0 : wc.cell? ⟨gb137, 0, none⟩ = some (.int .u64 t134) := (blk_cell BK137.out 0).trans rfl
                                have hcz111_1 : wc.cell? ⟨gb137, 1, none⟩ = some (.int .u64 t135) := (blk_cell BK137.out 1).trans rfl
                                have hfz111_0 := blk_frozen BK137.out 0
                                have hfz111_1 := blk_frozen BK137.out 1
                                go_wp2_with (first | (go_at_call 9; (with_reducible refine (knownbits_Contains.calls t134 t135 a2 true _ A105.out).mono ?_); rintro e w112 ⟨rfl, hb⟩; have n0_ := Aside0.mk (blk_below (g := gb128) (o := .cells #[.int .u64 a0_0, .int .u64 a0_1] 24 (0, 0)) (by (with_reducible repeat (first | refine blk_drewN ?_ _ | refine blk_drew ?_ | refine blk_alloc ?_ _)); exact BK128.out) hb); have n1_ := Aside0.mk (blk_below (g := gb129) (o := .cells #[.int .u64 a1_0, .int .u64 a1_1] 24 (0, 0)) (by (with_reducible repeat (first | refine blk_drewN ?_ _ | refine blk_drew ?_ | refine blk_alloc ?_ _)); exact BK129.out) hb); have n2_ := Aside0.mk (blk_below (g := gb133) (o := .cells #[.int .u64 t131, .int .u64 t132] 24 (0, 0)) (by (with_reducible repeat (first | refine blk_drewN ?_ _ | refine blk_drew ?_ | refine blk_alloc ?_ _)); exact BK133.out) hb); have n3_ := Aside0.mk (blk_below (g := gb137) (o := .cells #[.int .u64 t134, .int .u64 t135] 24 (0, 0)) (by (with_reducible repeat (first | refine blk_drewN ?_ _ | refine blk_drew ?_ | refine blk_alloc ?_ _)); exact BK137.out) hb); have n4_ := Aside0.mk (below_step (by repeat (first | (with_reducible first | exact HB.out | apply below_alloc | apply pw_below_drewN | apply below_drew1 | refine below_set ?_ GE128.out | refine below_set ?_ GE129.out | refine below_set ?_ GE133.out | refine below_set ?_ GE137.out) | exact HB.out)) hb); clear BK128; clear BK129; clear BK133; clear BK137; clear HB; have BK128 := n0_; have BK129 := n1_; have BK133 := n2_; have BK137 := n3_; have HB := n4_; clear n0_ n1_ n2_ n3_ n4_; (try clear hb); (try clear hb2); (try clear hk); (try clear hi); have hnb113 := NB133_128.out; have hnc113 := NB128_133.out; have hnb114 := NB133_129.out; have hnc114 := NB129_133.out; have hcz115_0 : w112.cell? ⟨gb133, 0, none⟩ = some (.int .u64 t131) := (blk_cell BK133.out 0).trans rfl; have hcz115_1 : w112.cell? ⟨gb133, 1, none⟩ = some (.int .u64 t132) := (blk_cell BK133.out 1).trans rfl; have hfz115_0 := blk_frozen BK133.out 0; have hfz115_1 := blk_frozen BK133.out 1) | (go_at_call 9; (with_reducible refine (knownbits_Contains.calls t131 t132 a2 t147 _ A107.out).mono ?_); rintro e w116 ⟨rfl, hb⟩; have n0_ := Aside0.mk (blk_below (g := gb128) (o := .cells #[.int .u64 a0_0, .int .u64 a0_1] 24 (0, 0)) (by (with_reducible repeat (first | refine blk_drewN ?_ _ | refine blk_drew ?_ | refine blk_alloc ?_ _)); exact BK128.out) hb); have n1_ := Aside0.mk (blk_below (g := gb129) (o := .cells #[.int .u64 a1_0, .int .u64 a1_1] 24 (0, 0)) (by (with_reducible repeat (first | refine blk_drewN ?_ _ | refine blk_drew ?_ | refine blk_alloc ?_ _)); exact BK129.out) hb); have n2_ := Aside0.mk (blk_below (g := gb133) (o := .cells #[.int .u64 t131, .int .u64 t132] 24 (0, 0)) (by (with_reducible repeat (first | refine blk_drewN ?_ _ | refine blk_drew ?_ | refine blk_alloc ?_ _)); exact BK133.out) hb); have n3_ := Aside0.mk (blk_below (g := gb137) (o := .cells #[.int .u64 t134, .int .u64 t135] 24 (0, 0)) (by (with_reducible repeat (first | refine blk_drewN ?_ _ | refine blk_drew ?_ | refine blk_alloc ?_ _)); exact BK137.out) hb); have n4_ := Aside0.mk (below_step (by repeat (first | (with_reducible first | exact HB.out | apply below_alloc | apply pw_below_drewN | apply below_drew1 | refine below_set ?_ GE128.out | refine below_set ?_ GE129.out | refine below_set ?_ GE133.out | refine below_set ?_ GE137.out) | exact HB.out)) hb); clear BK128; clear BK129; clear BK133; clear BK137; clear HB; have BK128 := n0_; have BK129 := n1_; have BK133 := n2_; have BK137 := n3_; have HB := n4_; clear n0_ n1_ n2_ n3_ n4_; (try clear hb); (try clear hb2); (try clear hk); (try clear hi)))
                                go_ret
                                exact ⟨by first | rfl | (simp [errW_none, errW_some] <;> rfl) | (simp [*, errW_none, errW_some] <;> rfl), by repeat (first | (with_reducible first | exact HB.out | apply below_alloc | apply pw_below_drewN | apply below_drew1 | refine below_set ?_ GE128.out | refine below_set ?_ GE129.out | refine below_set ?_ GE133.out | refine below_set ?_ GE137.out) | exact HB.out)⟩
                              · replace c106 := Bool.eq_false_iff.mpr c106
                                subst c106
                                have H1 : (some false) = some r := by rw [if_neg (show ¬ (false = true) by decide)] at H; exact H
                                clear H
                                have H := H1
                                clear H1
                                obtain rfl := Option.some.inj H
                                have hnb117 := NB137_128.out
                                have hnc117 := NB128_137.out
                                have hnb118 := NB137_129.out
                                have hnc118 := NB129_137.out
                                have hnb119 := NB137_133.out
                                have hnc119 := NB133_137.out
                                have hcz120_0 : wc.cell? ⟨gb137, 0, none⟩ = some (.int .u64 t134) := (blk_cell BK137.out 0).trans rfl
                                have hcz120_1 : wc.cell? ⟨gb137, 1, none⟩ = some (.int .u64 t135) := (blk_cell BK137.out 1).trans rfl
                                have hfz120_0 := blk_frozen BK137.out 0
                                have hfz120_1 := blk_frozen BK137.out 1
                                go_wp2_with (first | (go_at_call 9; (with_reducible refine (knownbits_Contains.calls t134 t135 a2 false _ A105.out).mono ?_); rintro e w121 ⟨rfl, hb⟩; have n0_ := Aside0.mk (blk_below (g := gb128) (o := .cells #[.int .u64 a0_0, .int .u64 a0_1] 24 (0, 0)) (by (with_reducible repeat (first | refine blk_drewN ?_ _ | refine blk_drew ?_ | refine blk_alloc ?_ _)); exact BK128.out) hb); have n1_ := Aside0.mk (blk_below (g := gb129) (o := .cells #[.int .u64 a1_0, .int .u64 a1_1] 24 (0, 0)) (by (with_reducible repeat (first | refine blk_drewN ?_ _ | refine blk_drew ?_ | refine blk_alloc ?_ _)); exact BK129.out) hb); have n2_ := Aside0.mk (blk_below (g := gb133) (o := .cells #[.int .u64 t131, .int .u64 t132] 24 (0, 0)) (by (with_reducible repeat (first | refine blk_drewN ?_ _ | refine blk_drew ?_ | refine blk_alloc ?_ _)); exact BK133.out) hb); have n3_ := Aside0.mk (blk_below (g := gb137) (o := .cells #[.int .u64 t134, .int .u64 t135] 24 (0, 0)) (by (with_reducible repeat (first | refine blk_drewN ?_ _ | refine blk_drew ?_ | refine blk_alloc ?_ _)); exact BK137.out) hb); have n4_ := Aside0.mk (below_step (by repeat (first | (with_reducible first | exact HB.out | apply below_alloc | apply pw_below_drewN | apply below_drew1 | refine below_set ?_ GE128.out | refine below_set ?_ GE129.out | refine below_set ?_ GE133.out | refine below_set ?_ GE137.out) | exact HB.out)) hb); clear BK128; clear BK129; clear BK133; clear BK137; clear HB; have BK128 := n0_; have BK129 := n1_; have BK133 := n2_; have BK137 := n3_; have HB := n4_; clear n0_ n1_ n2_ n3_ n4_; (try clear hb); (try clear hb2); (try clear hk); (try clear hi)))
                                go_ret
                                exact ⟨by first | rfl | (simp [errW_none, errW_some] <;> rfl) | (simp [*, errW_none, errW_some] <;> rfl), by repeat (first | (with_reducible first | exact HB.out | apply below_alloc | apply pw_below_drewN | apply below_drew1 | refine below_set ?_ GE128.out | refine below_set ?_ GE129.out | refine below_set ?_ GE133.out | refine below_set ?_ GE137.out) | exact HB.out)⟩
                            · replace c104 := Bool.eq_false_iff.mpr c104
                              subst c104
                              have H1 : (some false) = some r := by rw [if_neg (show ¬ (false = true) by decide)] at H; exact H
                              clear H
                              have H := H1
                              clear H1
                              obtain rfl := Option.some.inj H
                              go_wp2
                              go_ret
                              exact ⟨by first | rfl | (simp [errW_none, errW_some] <;> rfl) | (simp [*, errW_none, errW_some] <;> rfl), by repeat (first | (with_reducible first | exact HB.out | apply below_alloc | apply pw_below_drewN | apply below_drew1 | refine below_set ?_ GE128.out | refine below_set ?_ GE129.out | refine below_set ?_ GE133.out | refine below_set ?_ GE137.out) | exact HB.out)⟩
                          · replace c103 := Bool.eq_false_iff.mpr c103
                            subst c103
                            have H1 : (if t136 = true then ((knownbits_Contains.f t134 t135 a2).bind fun t148 => (some (!t148))) else (some true)) = some r := by rw [if_neg (show ¬ (false = true) by decide)] at H; exact H
                            clear H
                            have H := H1
                            clear H1
                            by_cases c122 : t136 = true
                            · subst c122
                              have H1 : ((knownbits_Contains.f t134 t135 a2).bind fun t148 => (some (!t148))) = some r := by rw [if_pos rfl] at H; exact H
                              clear H
                              have H := H1
                              clear H1
                              replace H := Option.bind_eq_some_iff.mp H
                              obtain ⟨t148, A1230, H⟩ := H
                              replace H : (some (!t148)) = some r := H
                              have A123 := Aside0.mk A1230
                              clear A1230
                              obtain rfl := Option.some.inj H
                              have hnb124 := NB137_128.out
                              have hnc124 := NB128_137.out
                              have hnb125 := NB137_129.out
                              have hnc125 := NB129_137.out
                              have hnb126 := NB137_133.out
                              have hnc126 := NB133_137.out
                              have hcz127_0 : wc.cell? ⟨gb137, 0, none⟩ = some (.int .u64 t134) := (blk_cell BK137.out 0).trans rfl
                              have hcz127_1 : wc.cell? ⟨gb137, 1, none⟩ = some (.int .u64 t135) := (blk_cell BK137.out 1).trans rfl
                              have hfz127_0 := blk_frozen BK137.out 0
                              have hfz127_1 := blk_frozen BK137.out 1
                              go_wp2_with (first | (go_at_call 9; (with_reducible refine (knownbits_Contains.calls t134 t135 a2 t148 _ A123.out).mono ?_); rintro e w128 ⟨rfl, hb⟩; have n0_ := Aside0.mk (blk_below (g := gb128) (o := .cells #[.int .u64 a0_0, .int .u64 a0_1] 24 (0, 0)) (by (with_reducible repeat (first | refine blk_drewN ?_ _ | refine blk_drew ?_ | refine blk_alloc ?_ _)); exact BK128.out) hb); have n1_ := Aside0.mk (blk_below (g := gb129) (o := .cells #[.int .u64 a1_0, .int .u64 a1_1] 24 (0, 0)) (by (with_reducible repeat (first | refine blk_drewN ?_ _ | refine blk_drew ?_ | refine blk_alloc ?_ _)); exact BK129.out) hb); have n2_ := Aside0.mk (blk_below (g := gb133) (o := .cells #[.int .u64 t131, .int .u64 t132] 24 (0, 0)) (by (with_reducible repeat (first | refine blk_drewN ?_ _ | refine blk_drew ?_ | refine blk_alloc ?_ _)); exact BK133.out) hb); have n3_ := Aside0.mk (blk_below (g := gb137) (o := .cells #[.int .u64 t134, .int .u64 t135] 24 (0, 0)) (by (with_reducible repeat (first | refine blk_drewN ?_ _ | refine blk_drew ?_ | refine blk_alloc ?_ _)); exact BK137.out) hb); have n4_ := Aside0.mk (below_step (by repeat (first | (with_reducible first | exact HB.out | apply below_alloc | apply pw_below_drewN | apply below_drew1 | refine below_set ?_ GE128.out | refine below_set ?_ GE129.out | refine below_set ?_ GE133.out | refine below_set ?_ GE137.out) | exact HB.out)) hb); clear BK128; clear BK129; clear BK133; clear BK137; clear HB; have BK128 := n0_; have BK129 := n1_; have BK133 := n2_; have BK137 := n3_; have HB := n4_; clear n0_ n1_ n2_ n3_ n4_; (try clear hb); (try clear hb2); (try clear hk); (try clear hi)))
                              go_ret
                              exact ⟨by first | rfl | (simp [errW_none, errW_some] <;> rfl) | (simp [*, errW_none, errW_some] <;> rfl), by repeat (first | (with_reducible first | exact HB.out | apply below_alloc | apply pw_below_drewN | apply below_drew1 | refine below_set ?_ GE128.out | refine below_set ?_ GE129.out | refine below_set ?_ GE133.out | refine below_set ?_ GE137.out) | exact HB.out)⟩
                            · replace c122 := Bool.eq_false_iff.mpr c122
                              subst c122
                              have H1 : (some true) = some r := by rw [if_neg (show ¬ (false = true) by decide)] at H; exact H
                              clear H
                              have H := H1
                              clear H1
                              obtain rfl := Option.some.inj H
                              go_wp2
                              go_ret
                              exact ⟨by first | rfl | (simp [errW_none, errW_some] <;> rfl) | (simp [*, errW_none, errW_some] <;> rfl), by repeat (first | (with_reducible first | exact HB.out | apply below_alloc | apply pw_below_drewN | apply below_drew1 | refine below_set ?_ GE128.out | refine below_set ?_ GE129.out | refine below_set ?_ GE133.out | refine below_set ?_ GE137.out) | exact HB.out)⟩
  · replace c5 := Bool.eq_false_iff.mpr c5
    subst c5
    have H1 : (some false) = some r := by rw [if_neg (show ¬ (false = true) by decide)] at H; exact H
    clear H
    have H := H1
    clear H1
    obtain rfl := Option.some.inj H
    go_enter Try.func4, Try.ntmps4
    go_wp2_with (first | ((with_reducible refine gate_dst (N := 3) rfl ?_); refine box_event ?hg (N := 3) ?hd (cs := #[.int .u64 a0_0, .int .u64 a0_1]) (t := 24) ?hr ?_; (case hd => rfl); (case hg => rfl); (case hr => first | (go_simp; done) | (go_simp; rfl)); intro gb128 hg w129 hbox hb; have n0_ := Aside0.mk (below_step (by repeat (first | (with_reducible first | exact HB.out | apply below_alloc | apply pw_below_drewN | apply below_drew1) | exact HB.out)) hb); have n1_ := Aside0.mk (hbox); have n2_ := Aside0.mk ((by rw [hg]; exact (below_size (by repeat (first | (with_reducible first | exact HB.out | apply below_alloc | apply pw_below_drewN | apply below_drew1) | exact HB.out))) : w.heap.size ≤ gb128)); have n3_ := Aside0.mk ((by rw [hg]; exact (below_size (by repeat (first | (with_reducible first | exact HB.out | apply below_alloc | apply pw_below_drewN | apply below_drew1) | exact HB.out))) : w.heap.size ≤ gb128)); clear HB; have HB := n0_; have BK128 := n1_; have GW128 := n2_; have GE128 := n3_; clear n0_ n1_ n2_ n3_; clear hb hbox hg) | ((with_reducible refine gate_dst (N := 4) rfl ?_); refine box_event ?hg (N := 4) ?hd (cs := #[.int .u64 a1_0, .int .u64 a1_1]) (t := 24) ?hr ?_; (case hd => rfl); (case hg => rfl); (case hr => first | (go_simp; done) | (go_simp; rfl)); intro gb129 hg w130 hbox hb; have n0_ := Aside0.mk (blk_below (g := gb128) (o := .cells #[.int .u64 a0_0, .int .u64 a0_1] 24 (0, 0)) (by (with_reducible repeat (first | refine blk_drewN ?_ _ | refine blk_drew ?_ | refine blk_alloc ?_ _)); exact BK128.out) hb); have n1_ := Aside0.mk (below_step (by repeat (first | (with_reducible first | exact HB.out | apply below_alloc | apply pw_below_drewN | apply below_drew1 | refine below_set ?_ GE128.out) | exact HB.out)) hb); have n2_ := Aside0.mk (hbox); have n3_ := Aside0.mk ((by rw [hg]; exact (below_size (by repeat (first | (with_reducible first | exact HB.out | apply below_alloc | apply pw_below_drewN | apply below_drew1 | refine below_set ?_ GE128.out) | exact HB.out))) : w.heap.size ≤ gb129)); have n4_ := Aside0.mk ((by rw [hg]; exact (below_size (by repeat (first | (with_reducible first | exact HB.out | apply below_alloc | apply pw_below_drewN | apply below_drew1 | refine below_set ?_ GE128.out) | exact HB.out))) : w.heap.size ≤ gb129)); have n5_ := Aside0.mk ((by rw [hg]; exact Nat.ne_of_lt (blk_lt (g := gb128) (o := .cells #[.int .u64 a0_0, .int .u64 a0_1] 24 (0, 0)) (by (with_reducible repeat (first | refine blk_drewN ?_ _ | refine blk_drew ?_ | refine blk_alloc ?_ _)); exact BK128.out)) : gb128 ≠ gb129)); have n6_ := Aside0.mk ((by rw [hg]; exact Nat.ne_of_gt (blk_lt (g := gb128) (o := .cells #[.int .u64 a0_0, .int .u64 a0_1] 24 (0, 0)) (by (with_reducible repeat (first | refine blk_drewN ?_ _ | refine blk_drew ?_ | refine blk_alloc ?_ _)); exact BK128.out)) : gb129 ≠ gb128)); clear BK128; clear HB; have BK128 := n0_; have HB := n1_; have BK129 := n2_; have GW129 := n3_; have GE129 := n4_; have NB128_129 := n5_; have NB129_128 := n6_; clear n0_ n1_ n2_ n3_ n4_ n5_ n6_; clear hb hbox hg) | ((with_reducible refine gate_callee (f := 6) rfl ?_); refine goesL_ (some 12) rfl rfl Try.func6 (by kernel_rfl) rfl #[] rfl (by (try simp only [List.map_toArray, List.map_cons, List.map_nil]); first | done | rfl | (simp only [List.length_drop, List.length_take]; rfl)) ?_; (with_reducible refine (jacquardlaw12_awake.calls  false _ A4.out).mono ?_); rintro e w131 ⟨rfl, hb⟩; refine ⟨_, rfl, ?_⟩; have n0_ := Aside0.mk (blk_below (g := gb128) (o := .cells #[.int .u64 a0_0, .int .u64 a0_1] 24 (0, 0)) (by (with_reducible repeat (first | refine blk_drewN ?_ _ | refine blk_drew ?_ | refine blk_alloc ?_ _)); exact BK128.out) hb); have n1_ := Aside0.mk (blk_below (g := gb129) (o := .cells #[.int .u64 a1_0, .int .u64 a1_1] 24 (0, 0)) (by (with_reducible repeat (first | refine blk_drewN ?_ _ | refine blk_drew ?_ | refine blk_alloc ?_ _)); exact BK129.out) hb); have n2_ := Aside0.mk (below_step (by repeat (first | (with_reducible first | exact HB.out | apply below_alloc | apply pw_below_drewN | apply below_drew1 | refine below_set ?_ GE128.out | refine below_set ?_ GE129.out) | exact HB.out)) hb); clear BK128; clear BK129; clear HB; have BK128 := n0_; have BK129 := n1_; have HB := n2_; clear n0_ n1_ n2_; (try clear hb); (try clear hb2); (try clear hk); (try clear hi)))
    go_ret
    exact ⟨by first | rfl | (simp [errW_none, errW_some] <;> rfl) | (simp [*, errW_none, errW_some] <;> rfl), by repeat (first | (with_reducible first | exact HB.out | apply below_alloc | apply pw_below_drewN | apply below_drew1 | refine below_set ?_ GE128.out | refine below_set ?_ GE129.out) | exact HB.out)⟩

end Go.Proofs.Ytiadfnedbbkojaa.RKnownbitsLattice
