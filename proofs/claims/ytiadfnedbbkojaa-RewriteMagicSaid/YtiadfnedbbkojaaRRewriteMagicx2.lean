-- Lines by a program of this session.
import Derived.Test.YtiadfnedbbkojaaRRewriteMagicx0
import Derived.Test.YtiadfnedbbkojaaRRewriteMagicx1
namespace Go.Proofs.Ytiadfnedbbkojaa.RRewriteMagic
open Go.RowKit Go.Proofs.YtiadfnedbbkojaaW.PrintWords Go.Proofs.YtiadfnedbbkojaaW.PrintLast Go.Proofs.YtiadfnedbbkojaaW.PrintMore
attribute [local go_sem] max2_int min2_int max_two min_two max_three min_three max_four min_four   -- for this text's walks alone
set_option linter.unusedVariables false
set_option linter.unusedSimpArgs false

/-! ### jacquardref15_fits: function 29 -/
def jacquardref15_fits.j0 : Nat → Int → Int → Int → Int → Bool → Option (Bool)
  | 0, _, _, _, _, _ => none
  | k + 1, x0, x1, x2, x3, x36 => if x36 = true then (some false) else ((jacquardref15_mask.f k (wrap64 (2 * x0))).bind fun t115 => ((jacquardref15_mask.f k x0).bind fun t116 => (if t116 = 0 then (none) else (if x2 > (IntKind.u64.wrap (Int.tdiv t115 t116)) then (some false) else (if 0 ≤ x3 then (if (IntKind.u64.wrap (x2 * x1)) ≥ (shl .u64 1 x3) then (if 0 ≤ (wrap64 (x3 - x0)) then (some (decide ((IntKind.u64.wrap ((IntKind.u64.wrap (x2 * x1)) - (shl .u64 1 x3))) ≤ (shl .u64 1 (wrap64 (x3 - x0)))))) else (none)) else (some false)) else (none))))))
def jacquardref15_fits.f (k : Nat) (a0 : Int) (a1 : Int) (a2 : Int) (a3 : Int) : Option (Bool) := if a0 < 1 then (jacquardref15_fits.j0 k a0 a1 a2 a3 true) else (if a0 > 32 then (jacquardref15_fits.j0 k a0 a1 a2 a3 true) else (if a1 < 1 then (jacquardref15_fits.j0 k a0 a1 a2 a3 true) else ((jacquardref15_mask.f k a0).bind fun t114 => (if a1 > t114 then (jacquardref15_fits.j0 k a0 a1 a2 a3 true) else (if a3 < a0 then (jacquardref15_fits.j0 k a0 a1 a2 a3 true) else (jacquardref15_fits.j0 k a0 a1 a2 a3 (decide (a3 ≥ (wrap64 (2 * a0))))))))))
theorem jacquardref15_fits.mono_l : ∀ k, (∀ y0 y1 y2 y3 y4, LeO (jacquardref15_fits.j0 k y0 y1 y2 y3 y4) (jacquardref15_fits.j0 (k + 1) y0 y1 y2 y3 y4))
  | 0 => fun _ _ _ _ _ r h => by simp [jacquardref15_fits.j0] at h
  | k + 1 => by
    have ih0 := jacquardref15_fits.mono_l k
    · intro y0 y1 y2 y3 y4
      unfold jacquardref15_fits.j0
      repeat' first
      | (with_reducible exact ih0 _ _ _ _ _)
      | (with_reducible exact jacquardref15_mask.mono _ _)
      | (with_reducible exact LeO.refl _)
      | (with_reducible exact LeO.none _)
      | (with_reducible refine LeO.ite ?_ ?_)
      | (with_reducible refine LeO.bind ?_ (fun _ => ?_))
      | exact ih0 _ _ _ _ _
      | exact jacquardref15_mask.mono _ _
      | exact LeO.none _
      | refine LeO.ite ?_ ?_
      | refine LeO.bind ?_ (fun _ => ?_)
theorem jacquardref15_fits.mono : ∀ a0 a1 a2 a3 k, LeO (jacquardref15_fits.f k a0 a1 a2 a3) (jacquardref15_fits.f (k + 1) a0 a1 a2 a3) := by
  intro a0 a1 a2 a3 k
  have ih0 := jacquardref15_fits.mono_l k
  unfold jacquardref15_fits.f
  repeat' first
      | (with_reducible exact ih0 _ _ _ _ _)
      | (with_reducible exact jacquardref15_mask.mono _ _)
      | (with_reducible exact LeO.refl _)
      | (with_reducible exact LeO.none _)
      | (with_reducible refine LeO.ite ?_ ?_)
      | (with_reducible refine LeO.bind ?_ (fun _ => ?_))
      | exact ih0 _ _ _ _ _
      | exact jacquardref15_mask.mono _ _
      | exact LeO.none _
      | refine LeO.ite ?_ ?_
      | refine LeO.bind ?_ (fun _ => ?_)
set_option maxHeartbeats 8000000 in
set_option maxRecDepth 100000 in
theorem jacquardref15_fits.calls (k : Nat) (a0 : Int) (a1 : Int) (a2 : Int) (a3 : Int) (r : Bool) (w : World) (h : jacquardref15_fits.f k a0 a1 a2 a3 = some r) :
    Calls Try.prog 29 #[.int .i64 a0, .int .u64 a1, .int .u64 a2, .int .i64 a3] w fun e w' => e = .returned (.bool r) ∧ Drawn0 w w' := by
  have H : (if a0 < 1 then (jacquardref15_fits.j0 k a0 a1 a2 a3 true) else (if a0 > 32 then (jacquardref15_fits.j0 k a0 a1 a2 a3 true) else (if a1 < 1 then (jacquardref15_fits.j0 k a0 a1 a2 a3 true) else ((jacquardref15_mask.f k a0).bind fun t114 => (if a1 > t114 then (jacquardref15_fits.j0 k a0 a1 a2 a3 true) else (if a3 < a0 then (jacquardref15_fits.j0 k a0 a1 a2 a3 true) else (jacquardref15_fits.j0 k a0 a1 a2 a3 (decide (a3 ≥ (wrap64 (2 * a0))))))))))) = some r := h
  clear h
  have HC5 := Aside0.mk H
  clear H
  go_enter Try.func29, Try.ntmps29
  go_upto_region 1 with (fail)
  go_cut [36] (fun v36 wc => ∃ (kq : Nat) (x36_4 : Bool), v36 = .bool x36_4 ∧ Aside0 (jacquardref15_fits.j0 kq a0 a1 a2 a3 x36_4 = some r) ∧ Aside0 (kq ≤ k) ∧ Drawn0 w wc)
  case first =>
    have H := HC5.out
    clear HC5
    by_cases c6 : a0 < 1
    · rw [if_pos c6] at H
      have c6b0 : decide (a0 < 1) = true := decide_eq_true c6
      clear c6
      (first | rw [c6b0] | (simp only [i64_w, i32_w]; rw [c6b0]) | skip)
      have H' := Aside0.mk H
      clear H
      go_wp2
      go_meet
      case rel => exact ⟨_, (true), (by first | rfl | (simp; done) | (simp [*]; done)), H', ⟨by first | omega | exact Nat.le_refl _⟩, by repeat (first | exact Drawn0.refl _ | apply Drawn0.step)⟩
    · rw [if_neg c6] at H
      have c6b0 : decide (a0 < 1) = false := decide_eq_false c6
      clear c6
      (first | rw [c6b0] | (simp only [i64_w, i32_w]; rw [c6b0]) | skip)
      by_cases c7 : a0 > 32
      · rw [if_pos c7] at H
        have c7b0 : decide (32 < a0) = true := decide_eq_true c7
        clear c7
        have H' := Aside0.mk H
        clear H
        go_wp2
        go_meet
        case rel => exact ⟨_, (true), (by first | rfl | (simp; done) | (simp [*]; done)), H', ⟨by first | omega | exact Nat.le_refl _⟩, by repeat (first | exact Drawn0.refl _ | apply Drawn0.step)⟩
      · rw [if_neg c7] at H
        have c7b0 : decide (32 < a0) = false := decide_eq_false c7
        clear c7
        by_cases c8 : a1 < 1
        · rw [if_pos c8] at H
          have c8b0 : decide (a1 < 1) = true := decide_eq_true c8
          clear c8
          have H' := Aside0.mk H
          clear H
          go_wp2
          go_meet
          case rel => exact ⟨_, (true), (by first | rfl | (simp; done) | (simp [*]; done)), H', ⟨by first | omega | exact Nat.le_refl _⟩, by repeat (first | exact Drawn0.refl _ | apply Drawn0.step)⟩
        · rw [if_neg c8] at H
          have c8b0 : decide (a1 < 1) = false := decide_eq_false c8
          clear c8
          replace H := Option.bind_eq_some_iff.mp H
          obtain ⟨t114, A90, H⟩ := H
          replace H : (if a1 > t114 then (jacquardref15_fits.j0 k a0 a1 a2 a3 true) else (if a3 < a0 then (jacquardref15_fits.j0 k a0 a1 a2 a3 true) else (jacquardref15_fits.j0 k a0 a1 a2 a3 (decide (a3 ≥ (wrap64 (2 * a0))))))) = some r := H
          have A9 := Aside0.mk A90
          clear A90
          by_cases c10 : a1 > t114
          · rw [if_pos c10] at H
            have c10b0 : decide (t114 < a1) = true := decide_eq_true c10
            clear c10
            have H' := Aside0.mk H
            clear H
            go_wp2_with (first | (go_at_call 28; (with_reducible refine (jacquardref15_mask.calls k a0 t114 _ A9.out).mono ?_); rintro e w' ⟨rfl, ⟨nd, rfl⟩⟩))
            go_meet
            case rel => exact ⟨_, (true), (by first | rfl | (simp; done) | (simp [*]; done)), H', ⟨by first | omega | exact Nat.le_refl _⟩, by repeat (first | exact Drawn0.refl _ | apply Drawn0.step)⟩
          · rw [if_neg c10] at H
            have c10b0 : decide (t114 < a1) = false := decide_eq_false c10
            clear c10
            by_cases c11 : a3 < a0
            · rw [if_pos c11] at H
              have c11b0 : decide (a3 < a0) = true := decide_eq_true c11
              clear c11
              have H' := Aside0.mk H
              clear H
              go_wp2_with (first | (go_at_call 28; (with_reducible refine (jacquardref15_mask.calls k a0 t114 _ A9.out).mono ?_); rintro e w' ⟨rfl, ⟨nd, rfl⟩⟩))
              go_meet
              case rel => exact ⟨_, (true), (by first | rfl | (simp; done) | (simp [*]; done)), H', ⟨by first | omega | exact Nat.le_refl _⟩, by repeat (first | exact Drawn0.refl _ | apply Drawn0.step)⟩
            · rw [if_neg c11] at H
              have c11b0 : decide (a3 < a0) = false := decide_eq_false c11
              clear c11
              have H' := Aside0.mk H
              clear H
              go_wp2_with (first | (go_at_call 28; (with_reducible refine (jacquardref15_mask.calls k a0 t114 _ A9.out).mono ?_); rintro e w' ⟨rfl, ⟨nd, rfl⟩⟩))
              go_meet
              case rel => exact ⟨_, (decide (a3 ≥ (wrap64 (2 * a0)))), (by first | rfl | (simp; done) | (simp [*]; done)), H', ⟨by first | omega | exact Nat.le_refl _⟩, by repeat (first | exact Drawn0.refl _ | apply Drawn0.step)⟩
  case rest =>
    clear HC5
    try clear c1
    try clear c2
    try clear p2
    try clear c6
    try clear c6b0
    try clear p6
    try clear c7
    try clear c7b0
    try clear c8
    try clear c8b0
    try clear c10
    try clear c10b0
    try clear c11
    try clear c11b0
    obtain ⟨kq, x36_4, rfl, HA, HJ4, ⟨mc4, rfl⟩⟩ := hcut
    cases kq with
    | zero => exact absurd HA.out (by simp [jacquardref15_fits.j0])
    | succ kj4 =>
      have H := HA.out
      clear HA
      simp only [jacquardref15_fits.j0] at H
      by_cases c12 : x36_4 = true
      · subst c12
        have H1 : (some false) = some r := by rw [if_pos rfl] at H; exact H
        clear H
        have H := H1
        clear H1
        obtain rfl := Option.some.inj H
        go_wp2
        go_ret
        exact ⟨by first | rfl | (simp; done) | (simp [*]; done), by repeat (first | exact Drawn0.refl _ | apply Drawn0.step)⟩
      · replace c12 := Bool.eq_false_iff.mpr c12
        subst c12
        have H1 : ((jacquardref15_mask.f kj4 (wrap64 (2 * a0))).bind fun t115 => ((jacquardref15_mask.f kj4 a0).bind fun t116 => (if t116 = 0 then (none) else (if a2 > (IntKind.u64.wrap (Int.tdiv t115 t116)) then (some false) else (if 0 ≤ a3 then (if (IntKind.u64.wrap (a2 * a1)) ≥ (shl .u64 1 a3) then (if 0 ≤ (wrap64 (a3 - a0)) then (some (decide ((IntKind.u64.wrap ((IntKind.u64.wrap (a2 * a1)) - (shl .u64 1 a3))) ≤ (shl .u64 1 (wrap64 (a3 - a0)))))) else (none)) else (some false)) else (none)))))) = some r := by rw [if_neg (show ¬ (false = true) by decide)] at H; exact H
        clear H
        have H := H1
        clear H1
        replace H := Option.bind_eq_some_iff.mp H
        obtain ⟨t115, A130, H⟩ := H
        replace H : ((jacquardref15_mask.f kj4 a0).bind fun t116 => (if t116 = 0 then (none) else (if a2 > (IntKind.u64.wrap (Int.tdiv t115 t116)) then (some false) else (if 0 ≤ a3 then (if (IntKind.u64.wrap (a2 * a1)) ≥ (shl .u64 1 a3) then (if 0 ≤ (wrap64 (a3 - a0)) then (some (decide ((IntKind.u64.wrap ((IntKind.u64.wrap (a2 * a1)) - (shl .u64 1 a3))) ≤ (shl .u64 1 (wrap64 (a3 - a0)))))) else (none)) else (some false)) else (none))))) = some r := H
        have A13 := Aside0.mk A130
        clear A130
        replace H := Option.bind_eq_some_iff.mp H
        obtain ⟨t116, A140, H⟩ := H
        replace H : (if t116 = 0 then (none) else (if a2 > (IntKind.u64.wrap (Int.tdiv t115 t116)) then (some false) else (if 0 ≤ a3 then (if (IntKind.u64.wrap (a2 * a1)) ≥ (shl .u64 1 a3) then (if 0 ≤ (wrap64 (a3 - a0)) then (some (decide ((IntKind.u64.wrap ((IntKind.u64.wrap (a2 * a1)) - (shl .u64 1 a3))) ≤ (shl .u64 1 (wrap64 (a3 - a0)))))) else (none)) else (some false)) else (none)))) = some r := H
        have A14 := Aside0.mk A140
        clear A140
        by_cases c15 : t116 = 0
        · rw [if_pos c15] at H
          exact absurd H (by simp)
        · rw [if_neg c15] at H
          have c15b0 : (t116 == 0) = false := beq_eq_false_iff_ne.mpr c15
          have c15b1 : (t116 != 0) = true := bne_iff_ne.mpr c15
          by_cases c16 : a2 > (IntKind.u64.wrap (Int.tdiv t115 t116))
          · rw [if_pos c16] at H
            have c16b0 : decide ((IntKind.u64.wrap (Int.tdiv t115 t116)) < a2) = true := decide_eq_true c16
            clear c16
            obtain rfl := Option.some.inj H
            go_wp2_with (first | ((with_reducible refine gate_callee (f := 28) rfl ?_); refine goesL_ (some 40) rfl rfl Try.func28 (by kernel_rfl) rfl #[.int .i64 (wrap64 (2 * a0))] rfl (by (try simp only [List.map_toArray, List.map_cons, List.map_nil]); first | done | rfl | (simp only [List.length_drop, List.length_take]; rfl)) ?_; (with_reducible refine (jacquardref15_mask.calls kj4 (wrap64 (2 * a0)) t115 _ A13.out).mono ?_); rintro e w' ⟨rfl, ⟨nd, rfl⟩⟩; refine ⟨_, rfl, ?_⟩) | ((with_reducible refine gate_callee (f := 28) rfl ?_); refine goesL_ (some 42) rfl rfl Try.func28 (by kernel_rfl) rfl #[.int .i64 a0] rfl (by (try simp only [List.map_toArray, List.map_cons, List.map_nil]); first | done | rfl | (simp only [List.length_drop, List.length_take]; rfl)) ?_; (with_reducible refine (jacquardref15_mask.calls kj4 a0 t116 _ A14.out).mono ?_); rintro e w' ⟨rfl, ⟨nd, rfl⟩⟩; refine ⟨_, rfl, ?_⟩))
            go_ret
            exact ⟨by first | rfl | (simp; done) | (simp [*]; done), by repeat (first | exact Drawn0.refl _ | apply Drawn0.step)⟩
          · rw [if_neg c16] at H
            have c16b0 : decide ((IntKind.u64.wrap (Int.tdiv t115 t116)) < a2) = false := decide_eq_false c16
            clear c16
            by_cases c17 : 0 ≤ a3
            · rw [if_pos c17] at H
              have c17b0 := eq_true c17
              have c17b1 : decide (0 ≤ a3) = true := decide_eq_true c17
              clear c17
              obtain ⟨ji18, hji18⟩ : ∃ j_ : Int, (shl .u64 1 a3) = j_ := ⟨_, rfl⟩
              replace H : (if (IntKind.u64.wrap (a2 * a1)) ≥ (ji18) then (if 0 ≤ (wrap64 (a3 - a0)) then (some (decide ((IntKind.u64.wrap ((IntKind.u64.wrap (a2 * a1)) - (ji18))) ≤ (shl .u64 1 (wrap64 (a3 - a0)))))) else (none)) else (some false)) = some r := by first | (rw [hji18] at H; exact H) | (simp only [hji18] at H ⊢; exact H)
              (try rw [hji18] at A13)
              (try rw [hji18] at A14)
              have hji18_ : (IntKind.u64.wrap (1 * 2 ^ min a3.toNat 64)) = ji18 := hji18
              have hji18z : a3 ≤ 64 → (IntKind.u64.wrap (1 * 2 ^ a3.toNat)) = ji18 := shl_small hji18
              have hji18u : (IntKind.u64.wrap (2 ^ min a3.toNat 64)) = ji18 := by have h_ := hji18_; rw [Int.one_mul] at h_; exact h_
              have hji18v : a3 ≤ 64 → (IntKind.u64.wrap (2 ^ a3.toNat)) = ji18 := fun hle_ => by have h_ := hji18z hle_; rw [Int.one_mul] at h_; exact h_
              by_cases c19 : (IntKind.u64.wrap (a2 * a1)) ≥ (ji18)
              · rw [if_pos c19] at H
                have c19b0 : decide ((ji18) ≤ (IntKind.u64.wrap (a2 * a1))) = true := decide_eq_true c19
                clear c19
                obtain ⟨ji20, hji20⟩ : ∃ j_ : Int, (wrap64 (a3 - a0)) = j_ := ⟨_, rfl⟩
                replace H : (if 0 ≤ (ji20) then (some (decide ((IntKind.u64.wrap ((IntKind.u64.wrap (a2 * a1)) - (ji18))) ≤ (shl .u64 1 (ji20))))) else (none)) = some r := by first | (rw [hji20] at H; exact H) | (simp only [hji20] at H ⊢; exact H)
                (try rw [hji20] at A13)
                (try rw [hji20] at A14)
                have hji20w : (IntKind.i64.wrap (a3 - a0)) = ji20 := (i64_w _).trans hji20
                by_cases c21 : 0 ≤ (ji20)
                · rw [if_pos c21] at H
                  have c21b0 := eq_true c21
                  have c21b1 : decide (0 ≤ (ji20)) = true := decide_eq_true c21
                  clear c21
                  obtain ⟨ji22, hji22⟩ : ∃ j_ : Int, (shl .u64 1 (ji20)) = j_ := ⟨_, rfl⟩
                  replace H : (some (decide ((IntKind.u64.wrap ((IntKind.u64.wrap (a2 * a1)) - (ji18))) ≤ (ji22)))) = some r := by first | (rw [hji22] at H; exact H) | (simp only [hji22] at H ⊢; exact H)
                  (try rw [hji22] at A13)
                  (try rw [hji22] at A14)
                  have hji22_ : (IntKind.u64.wrap (1 * 2 ^ min (ji20).toNat 64)) = ji22 := hji22
                  have hji22z : (ji20) ≤ 64 → (IntKind.u64.wrap (1 * 2 ^ (ji20).toNat)) = ji22 := shl_small hji22
                  have hji22u : (IntKind.u64.wrap (2 ^ min (ji20).toNat 64)) = ji22 := by have h_ := hji22_; rw [Int.one_mul] at h_; exact h_
                  have hji22v : (ji20) ≤ 64 → (IntKind.u64.wrap (2 ^ (ji20).toNat)) = ji22 := fun hle_ => by have h_ := hji22z hle_; rw [Int.one_mul] at h_; exact h_
                  obtain rfl := Option.some.inj H
                  go_wp2_with (first | ((with_reducible refine gate_callee (f := 28) rfl ?_); refine goesL_ (some 40) rfl rfl Try.func28 (by kernel_rfl) rfl #[.int .i64 (wrap64 (2 * a0))] rfl (by (try simp only [List.map_toArray, List.map_cons, List.map_nil]); first | done | rfl | (simp only [List.length_drop, List.length_take]; rfl)) ?_; (with_reducible refine (jacquardref15_mask.calls kj4 (wrap64 (2 * a0)) t115 _ A13.out).mono ?_); rintro e w' ⟨rfl, ⟨nd, rfl⟩⟩; refine ⟨_, rfl, ?_⟩) | ((with_reducible refine gate_callee (f := 28) rfl ?_); refine goesL_ (some 42) rfl rfl Try.func28 (by kernel_rfl) rfl #[.int .i64 a0] rfl (by (try simp only [List.map_toArray, List.map_cons, List.map_nil]); first | done | rfl | (simp only [List.length_drop, List.length_take]; rfl)) ?_; (with_reducible refine (jacquardref15_mask.calls kj4 a0 t116 _ A14.out).mono ?_); rintro e w' ⟨rfl, ⟨nd, rfl⟩⟩; refine ⟨_, rfl, ?_⟩))
                  go_ret
                  exact ⟨by first | rfl | (simp; done) | (simp only [← hji18, ← hji20, ← hji22] <;> (first | rfl | simp)) | (simp [*]; done), by repeat (first | exact Drawn0.refl _ | apply Drawn0.step)⟩
                · rw [if_neg c21] at H
                  exact absurd H (by simp)
              · rw [if_neg c19] at H
                have c19b0 : decide ((ji18) ≤ (IntKind.u64.wrap (a2 * a1))) = false := decide_eq_false c19
                clear c19
                obtain rfl := Option.some.inj H
                go_wp2_with (first | ((with_reducible refine gate_callee (f := 28) rfl ?_); refine goesL_ (some 40) rfl rfl Try.func28 (by kernel_rfl) rfl #[.int .i64 (wrap64 (2 * a0))] rfl (by (try simp only [List.map_toArray, List.map_cons, List.map_nil]); first | done | rfl | (simp only [List.length_drop, List.length_take]; rfl)) ?_; (with_reducible refine (jacquardref15_mask.calls kj4 (wrap64 (2 * a0)) t115 _ A13.out).mono ?_); rintro e w' ⟨rfl, ⟨nd, rfl⟩⟩; refine ⟨_, rfl, ?_⟩) | ((with_reducible refine gate_callee (f := 28) rfl ?_); refine goesL_ (some 42) rfl rfl Try.func28 (by kernel_rfl) rfl #[.int .i64 a0] rfl (by (try simp only [List.map_toArray, List.map_cons, List.map_nil]); first | done | rfl | (simp only [List.length_drop, List.length_take]; rfl)) ?_; (with_reducible refine (jacquardref15_mask.calls kj4 a0 t116 _ A14.out).mono ?_); rintro e w' ⟨rfl, ⟨nd, rfl⟩⟩; refine ⟨_, rfl, ?_⟩))
                go_ret
                exact ⟨by first | rfl | (simp; done) | (simp only [← hji18] <;> (first | rfl | simp)) | (simp [*]; done), by repeat (first | exact Drawn0.refl _ | apply Drawn0.step)⟩
            · rw [if_neg c17] at H
              exact absurd H (by simp)

/-! ### jacquardref15_Magic: function 22 -/
mutual
def jacquardref15_Magic.j0 : Nat → Int → Int → Bool → Option (Int × Int × Int)
  | 0, _, _, _ => none
  | k + 1, x0, x1, x25 => if x25 = true then (some (0, 0, 1)) else (jacquardref15_Magic.l0 k x0 x1 x0)
def jacquardref15_Magic.l0 : Nat → Int → Int → Int → Option (Int × Int × Int)
  | 0, _, _, _ => none
  | k + 1, x0, x1, x7 => if x7 < (wrap64 (2 * x0)) then (if 0 ≤ x7 then (if x1 = 0 then (none) else (if (Int.tmod (shl .u64 1 x7) x1) = 0 then ((jacquardref15_fits.f k x0 x1 (IntKind.u64.wrap (Int.tdiv (shl .u64 1 x7) x1)) x7).bind fun t118 => (if t118 = true then (some (IntKind.u64.wrap (Int.tdiv (shl .u64 1 x7) x1), x7, 0)) else (jacquardref15_Magic.l0 k x0 x1 (wrap64 (x7 + 1))))) else ((jacquardref15_fits.f k x0 x1 (IntKind.u64.wrap ((IntKind.u64.wrap (Int.tdiv (shl .u64 1 x7) x1)) + 1)) x7).bind fun t119 => (if t119 = true then (some (IntKind.u64.wrap ((IntKind.u64.wrap (Int.tdiv (shl .u64 1 x7) x1)) + 1), x7, 0)) else (jacquardref15_Magic.l0 k x0 x1 (wrap64 (x7 + 1))))))) else (none)) else (some (0, 0, 6))
end
def jacquardref15_Magic.f (k : Nat) (a0 : Int) (a1 : Int) : Option (Int × Int × Int) := if a0 < 1 then (jacquardref15_Magic.j0 k a0 a1 true) else (if a0 > 32 then (jacquardref15_Magic.j0 k a0 a1 true) else (if a1 < 1 then (jacquardref15_Magic.j0 k a0 a1 true) else ((jacquardref15_mask.f k a0).bind fun t117 => (jacquardref15_Magic.j0 k a0 a1 (decide (a1 > t117))))))
theorem jacquardref15_Magic.mono_l : ∀ k, (∀ y0 y1 y2, LeO (jacquardref15_Magic.j0 k y0 y1 y2) (jacquardref15_Magic.j0 (k + 1) y0 y1 y2)) ∧ (∀ y0 y1 y2, LeO (jacquardref15_Magic.l0 k y0 y1 y2) (jacquardref15_Magic.l0 (k + 1) y0 y1 y2))
  | 0 => ⟨fun _ _ _ r h => by simp [jacquardref15_Magic.j0] at h, fun _ _ _ r h => by simp [jacquardref15_Magic.l0] at h⟩
  | k + 1 => by
    obtain ⟨ih0, ih1⟩ := jacquardref15_Magic.mono_l k
    refine ⟨?_, ?_⟩
    · intro y0 y1 y2
      unfold jacquardref15_Magic.j0
      repeat' first
      | (with_reducible exact ih0 _ _ _)
      | (with_reducible exact ih1 _ _ _)
      | (with_reducible exact jacquardref15_fits.mono _ _ _ _ _)
      | (with_reducible exact jacquardref15_mask.mono _ _)
      | (with_reducible exact LeO.refl _)
      | (with_reducible exact LeO.none _)
      | (with_reducible refine LeO.ite ?_ ?_)
      | (with_reducible refine LeO.bind ?_ (fun _ => ?_))
      | exact ih0 _ _ _
      | exact ih1 _ _ _
      | exact jacquardref15_fits.mono _ _ _ _ _
      | exact jacquardref15_mask.mono _ _
      | exact LeO.none _
      | refine LeO.ite ?_ ?_
      | refine LeO.bind ?_ (fun _ => ?_)
    · intro y0 y1 y2
      unfold jacquardref15_Magic.l0
      repeat' first
      | (with_reducible exact ih0 _ _ _)
      | (with_reducible exact ih1 _ _ _)
      | (with_reducible exact jacquardref15_fits.mono _ _ _ _ _)
      | (with_reducible exact jacquardref15_mask.mono _ _)
      | (with_reducible exact LeO.refl _)
      | (with_reducible exact LeO.none _)
      | (with_reducible refine LeO.ite ?_ ?_)
      | (with_reducible refine LeO.bind ?_ (fun _ => ?_))
      | exact ih0 _ _ _
      | exact ih1 _ _ _
      | exact jacquardref15_fits.mono _ _ _ _ _
      | exact jacquardref15_mask.mono _ _
      | exact LeO.none _
      | refine LeO.ite ?_ ?_
      | refine LeO.bind ?_ (fun _ => ?_)
theorem jacquardref15_Magic.mono : ∀ a0 a1 k, LeO (jacquardref15_Magic.f k a0 a1) (jacquardref15_Magic.f (k + 1) a0 a1) := by
  intro a0 a1 k
  obtain ⟨ih0, ih1⟩ := jacquardref15_Magic.mono_l k
  unfold jacquardref15_Magic.f
  repeat' first
      | (with_reducible exact ih0 _ _ _)
      | (with_reducible exact ih1 _ _ _)
      | (with_reducible exact jacquardref15_fits.mono _ _ _ _ _)
      | (with_reducible exact jacquardref15_mask.mono _ _)
      | (with_reducible exact LeO.refl _)
      | (with_reducible exact LeO.none _)
      | (with_reducible refine LeO.ite ?_ ?_)
      | (with_reducible refine LeO.bind ?_ (fun _ => ?_))
      | exact ih0 _ _ _
      | exact ih1 _ _ _
      | exact jacquardref15_fits.mono _ _ _ _ _
      | exact jacquardref15_mask.mono _ _
      | exact LeO.none _
      | refine LeO.ite ?_ ?_
      | refine LeO.bind ?_ (fun _ => ?_)
set_option maxHeartbeats 8000000 in
set_option maxRecDepth 100000 in
theorem jacquardref15_Magic.calls (k : Nat) (a0 : Int) (a1 : Int) (r1 : Int) (r2 : Int) (r3 : Int) (w : World) (h : jacquardref15_Magic.f k a0 a1 = some (r1, r2, r3)) :
    Calls Try.prog 22 #[.int .i64 a0, .int .u64 a1] w fun e w' => e = .returned (.tuple #[.int .u64 r1, .int .i64 r2, .int .i64 r3]) ∧ Drawn0 w w' := by
  have H : (if a0 < 1 then (jacquardref15_Magic.j0 k a0 a1 true) else (if a0 > 32 then (jacquardref15_Magic.j0 k a0 a1 true) else (if a1 < 1 then (jacquardref15_Magic.j0 k a0 a1 true) else ((jacquardref15_mask.f k a0).bind fun t117 => (jacquardref15_Magic.j0 k a0 a1 (decide (a1 > t117))))))) = some (r1, r2, r3) := h
  clear h
  have HC3 := Aside0.mk H
  clear H
  go_enter Try.func22, Try.ntmps22
  go_upto_region 1 with (fail)
  go_cut [25] (fun v25 wc => ∃ (kq : Nat) (x25_2 : Bool), v25 = .bool x25_2 ∧ Aside0 (jacquardref15_Magic.j0 kq a0 a1 x25_2 = some (r1, r2, r3)) ∧ Aside0 (kq ≤ k) ∧ Drawn0 w wc)
  case first =>
    have H := HC3.out
    clear HC3
    by_cases c4 : a0 < 1
    · rw [if_pos c4] at H
      have c4b0 : decide (a0 < 1) = true := decide_eq_true c4
      clear c4
      (first | rw [c4b0] | (simp only [i64_w, i32_w]; rw [c4b0]) | skip)
      have H' := Aside0.mk H
      clear H
      go_wp2
      go_meet
      case rel => exact ⟨_, (true), (by first | rfl | (simp; done) | (simp [*]; done)), H', ⟨by first | omega | exact Nat.le_refl _⟩, by repeat (first | exact Drawn0.refl _ | apply Drawn0.step)⟩
    · rw [if_neg c4] at H
      have c4b0 : decide (a0 < 1) = false := decide_eq_false c4
      clear c4
      (first | rw [c4b0] | (simp only [i64_w, i32_w]; rw [c4b0]) | skip)
      by_cases c5 : a0 > 32
      · rw [if_pos c5] at H
        have c5b0 : decide (32 < a0) = true := decide_eq_true c5
        clear c5
        have H' := Aside0.mk H
        clear H
        go_wp2
        go_meet
        case rel => exact ⟨_, (true), (by first | rfl | (simp; done) | (simp [*]; done)), H', ⟨by first | omega | exact Nat.le_refl _⟩, by repeat (first | exact Drawn0.refl _ | apply Drawn0.step)⟩
      · rw [if_neg c5] at H
        have c5b0 : decide (32 < a0) = false := decide_eq_false c5
        clear c5
        by_cases c6 : a1 < 1
        · rw [if_pos c6] at H
          have c6b0 : decide (a1 < 1) = true := decide_eq_true c6
          clear c6
          have H' := Aside0.mk H
          clear H
          go_wp2
          go_meet
          case rel => exact ⟨_, (true), (by first | rfl | (simp; done) | (simp [*]; done)), H', ⟨by first | omega | exact Nat.le_refl _⟩, by repeat (first | exact Drawn0.refl _ | apply Drawn0.step)⟩
        · rw [if_neg c6] at H
          have c6b0 : decide (a1 < 1) = false := decide_eq_false c6
          clear c6
          replace H := Option.bind_eq_some_iff.mp H
          obtain ⟨t117, A70, H⟩ := H
          replace H : (jacquardref15_Magic.j0 k a0 a1 (decide (a1 > t117))) = some (r1, r2, r3) := H
          have A7 := Aside0.mk A70
          clear A70
          have H' := Aside0.mk H
          clear H
          go_wp2_with (first | (go_at_call 28; (with_reducible refine (jacquardref15_mask.calls k a0 t117 _ A7.out).mono ?_); rintro e w' ⟨rfl, ⟨nd, rfl⟩⟩))
          go_meet
          case rel => exact ⟨_, (decide (a1 > t117)), (by first | rfl | (simp; done) | (simp [*]; done)), H', ⟨by first | omega | exact Nat.le_refl _⟩, by repeat (first | exact Drawn0.refl _ | apply Drawn0.step)⟩
  case rest =>
    clear HC3
    try clear c2
    try clear p2
    try clear c4
    try clear c4b0
    try clear c5
    try clear c5b0
    try clear c6
    try clear c6b0
    obtain ⟨kq, x25_2, rfl, HA, HJ2, ⟨mc2, rfl⟩⟩ := hcut
    cases kq with
    | zero => exact absurd HA.out (by simp [jacquardref15_Magic.j0])
    | succ kj2 =>
      have H := HA.out
      clear HA
      simp only [jacquardref15_Magic.j0] at H
      by_cases c8 : x25_2 = true
      · subst c8
        have H1 : (some (0, 0, 1)) = some (r1, r2, r3) := by rw [if_pos rfl] at H; exact H
        clear H
        have H := H1
        clear H1
        simp only [Option.some.injEq, Prod.mk.injEq] at H
        obtain ⟨rfl, rfl, rfl⟩ := H
        go_wp2
        go_ret3
        exact ⟨by first | rfl | (simp; done) | (simp [*]; done), by repeat (first | exact Drawn0.refl _ | apply Drawn0.step)⟩
      · replace c8 := Bool.eq_false_iff.mpr c8
        subst c8
        have H1 : (jacquardref15_Magic.l0 kj2 a0 a1 a0) = some (r1, r2, r3) := by rw [if_neg (show ¬ (false = true) by decide)] at H; exact H
        clear H
        have H := H1
        clear H1
        have H' := Aside0.mk H
        clear H
        go_wp2
        go_loopg [7] kj2 (fun kq v7 w' => ∃ (x7_2 : Int), v7 = .int .i64 x7_2 ∧ Aside0 (jacquardref15_Magic.l0 kq a0 a1 x7_2 = some (r1, r2, r3)) ∧ Aside0 (kq ≤ kj2) ∧ Drawn0 w w')
        case atStart => exact ⟨(a0), (by first | rfl | (simp; done) | (simp [*]; done)), H', ⟨Nat.le_refl _⟩, by repeat (first | exact Drawn0.refl _ | apply Drawn0.step)⟩
        case round =>
          clear H'
          try clear c2
          try clear p2
          try clear c4
          try clear c4b0
          try clear c5
          try clear c5b0
          try clear c6
          try clear c6b0
          try clear c8
          try clear p2
          obtain ⟨x7_2, rfl, HA, HK2, ⟨m2, rfl⟩⟩ := hrel
          cases gk with
          | zero => exact absurd HA.out (by simp [jacquardref15_Magic.l0])
          | succ k2 =>
            have H := HA.out
            clear HA
            simp only [jacquardref15_Magic.l0] at H
            by_cases c9 : x7_2 < (wrap64 (2 * a0))
            · rw [if_pos c9] at H
              have c9b0 : decide (x7_2 < (wrap64 (2 * a0))) = true := decide_eq_true c9
              clear c9
              by_cases c10 : 0 ≤ x7_2
              · rw [if_pos c10] at H
                have c10b0 := eq_true c10
                have c10b1 : decide (0 ≤ x7_2) = true := decide_eq_true c10
                clear c10
                obtain ⟨ji11, hji11⟩ : ∃ j_ : Int, (shl .u64 1 x7_2) = j_ := ⟨_, rfl⟩
                replace H : (if a1 = 0 then (none) else (if (Int.tmod (ji11) a1) = 0 then ((jacquardref15_fits.f k2 a0 a1 (IntKind.u64.wrap (Int.tdiv (ji11) a1)) x7_2).bind fun t118 => (if t118 = true then (some (IntKind.u64.wrap (Int.tdiv (ji11) a1), x7_2, 0)) else (jacquardref15_Magic.l0 k2 a0 a1 (wrap64 (x7_2 + 1))))) else ((jacquardref15_fits.f k2 a0 a1 (IntKind.u64.wrap ((IntKind.u64.wrap (Int.tdiv (ji11) a1)) + 1)) x7_2).bind fun t119 => (if t119 = true then (some (IntKind.u64.wrap ((IntKind.u64.wrap (Int.tdiv (ji11) a1)) + 1), x7_2, 0)) else (jacquardref15_Magic.l0 k2 a0 a1 (wrap64 (x7_2 + 1))))))) = some (r1, r2, r3) := by first | (rw [hji11] at H; exact H) | (simp only [hji11] at H ⊢; exact H)
                have hji11_ : (IntKind.u64.wrap (1 * 2 ^ min x7_2.toNat 64)) = ji11 := hji11
                have hji11z : x7_2 ≤ 64 → (IntKind.u64.wrap (1 * 2 ^ x7_2.toNat)) = ji11 := shl_small hji11
                have hji11u : (IntKind.u64.wrap (2 ^ min x7_2.toNat 64)) = ji11 := by have h_ := hji11_; rw [Int.one_mul] at h_; exact h_
                have hji11v : x7_2 ≤ 64 → (IntKind.u64.wrap (2 ^ x7_2.toNat)) = ji11 := fun hle_ => by have h_ := hji11z hle_; rw [Int.one_mul] at h_; exact h_
                by_cases c12 : a1 = 0
                · rw [if_pos c12] at H
                  exact absurd H (by simp)
                · rw [if_neg c12] at H
                  have c12b0 : (a1 == 0) = false := beq_eq_false_iff_ne.mpr c12
                  have c12b1 : (a1 != 0) = true := bne_iff_ne.mpr c12
                  by_cases c13 : (Int.tmod (ji11) a1) = 0
                  · rw [if_pos c13] at H
                    have c13b0 : ((Int.tmod (ji11) a1) == 0) = true := beq_iff_eq.mpr c13
                    have c13b1 : ((Int.tmod (ji11) a1) != 0) = false := bne_eq_false_iff_eq.mpr c13
                    clear c13
                    replace H := Option.bind_eq_some_iff.mp H
                    obtain ⟨t118, A140, H⟩ := H
                    replace H : (if t118 = true then (some (IntKind.u64.wrap (Int.tdiv (ji11) a1), x7_2, 0)) else (jacquardref15_Magic.l0 k2 a0 a1 (wrap64 (x7_2 + 1)))) = some (r1, r2, r3) := H
                    have A14 := Aside0.mk A140
                    clear A140
                    by_cases c15 : t118 = true
                    · subst c15
                      have H1 : (some (IntKind.u64.wrap (Int.tdiv (ji11) a1), x7_2, 0)) = some (r1, r2, r3) := by rw [if_pos rfl] at H; exact H
                      clear H
                      have H := H1
                      clear H1
                      simp only [Option.some.injEq, Prod.mk.injEq] at H
                      obtain ⟨rfl, rfl, rfl⟩ := H
                      go_wp2_with (first | ((with_reducible refine gate_callee (f := 29) rfl ?_); refine goesL_ (some 48) rfl rfl Try.func29 (by kernel_rfl) rfl #[.int .i64 a0, .int .u64 a1, .int .u64 (IntKind.u64.wrap (Int.tdiv (ji11) a1)), .int .i64 x7_2] rfl (by (try simp only [List.map_toArray, List.map_cons, List.map_nil]); first | done | (simp only [hji11]; rfl) | rfl | (simp only [List.length_drop, List.length_take]; rfl)) ?_; (with_reducible refine (jacquardref15_fits.calls k2 a0 a1 (IntKind.u64.wrap (Int.tdiv (ji11) a1)) x7_2 true _ A14.out).mono ?_); rintro e w' ⟨rfl, ⟨nd, rfl⟩⟩; refine ⟨_, rfl, ?_⟩))
                      go_ret3
                      exact ⟨by first | rfl | (simp; done) | (simp only [← hji11] <;> (first | rfl | simp)) | (simp [*]; done), by repeat (first | exact Drawn0.refl _ | apply Drawn0.step)⟩
                    · replace c15 := Bool.eq_false_iff.mpr c15
                      subst c15
                      have H1 : (jacquardref15_Magic.l0 k2 a0 a1 (wrap64 (x7_2 + 1))) = some (r1, r2, r3) := by rw [if_neg (show ¬ (false = true) by decide)] at H; exact H
                      clear H
                      have H := H1
                      clear H1
                      have H' := Aside0.mk H
                      clear H
                      go_wp2_with (first | ((with_reducible refine gate_callee (f := 29) rfl ?_); refine goesL_ (some 48) rfl rfl Try.func29 (by kernel_rfl) rfl #[.int .i64 a0, .int .u64 a1, .int .u64 (IntKind.u64.wrap (Int.tdiv (ji11) a1)), .int .i64 x7_2] rfl (by (try simp only [List.map_toArray, List.map_cons, List.map_nil]); first | done | (simp only [hji11]; rfl) | rfl | (simp only [List.length_drop, List.length_take]; rfl)) ?_; (with_reducible refine (jacquardref15_fits.calls k2 a0 a1 (IntKind.u64.wrap (Int.tdiv (ji11) a1)) x7_2 false _ A14.out).mono ?_); rintro e w' ⟨rfl, ⟨nd, rfl⟩⟩; refine ⟨_, rfl, ?_⟩))
                      go_roundg k2
                      case measure => have := HJ2.out; have := HK2.out; omega
                      case rel => exact ⟨(wrap64 (x7_2 + 1)), (by first | rfl | (simp; done) | (simp [*]; done)), H', ⟨by have := HJ2.out; have := HK2.out; omega⟩, by repeat (first | exact Drawn0.refl _ | apply Drawn0.step)⟩
                  · rw [if_neg c13] at H
                    have c13b0 : ((Int.tmod (ji11) a1) == 0) = false := beq_eq_false_iff_ne.mpr c13
                    have c13b1 : ((Int.tmod (ji11) a1) != 0) = true := bne_iff_ne.mpr c13
                    replace H := Option.bind_eq_some_iff.mp H
                    obtain ⟨t119, A160, H⟩ := H
                    replace H : (if t119 = true then (some (IntKind.u64.wrap ((IntKind.u64.wrap (Int.tdiv (ji11) a1)) + 1), x7_2, 0)) else (jacquardref15_Magic.l0 k2 a0 a1 (wrap64 (x7_2 + 1)))) = some (r1, r2, r3) := H
                    have A16 := Aside0.mk A160
                    clear A160
                    by_cases c17 : t119 = true
                    · subst c17
                      have H1 : (some (IntKind.u64.wrap ((IntKind.u64.wrap (Int.tdiv (ji11) a1)) + 1), x7_2, 0)) = some (r1, r2, r3) := by rw [if_pos rfl] at H; exact H
                      clear H
                      have H := H1
                      clear H1
                      simp only [Option.some.injEq, Prod.mk.injEq] at H
                      obtain ⟨rfl, rfl, rfl⟩ := H
                      go_wp2_with (first | ((with_reducible refine gate_callee (f := 29) rfl ?_); refine goesL_ (some 48) rfl rfl Try.func29 (by kernel_rfl) rfl #[.int .i64 a0, .int .u64 a1, .int .u64 (IntKind.u64.wrap ((IntKind.u64.wrap (Int.tdiv (ji11) a1)) + 1)), .int .i64 x7_2] rfl (by (try simp only [List.map_toArray, List.map_cons, List.map_nil]); first | done | (simp only [hji11]; rfl) | rfl | (simp only [List.length_drop, List.length_take]; rfl)) ?_; (with_reducible refine (jacquardref15_fits.calls k2 a0 a1 (IntKind.u64.wrap ((IntKind.u64.wrap (Int.tdiv (ji11) a1)) + 1)) x7_2 true _ A16.out).mono ?_); rintro e w' ⟨rfl, ⟨nd, rfl⟩⟩; refine ⟨_, rfl, ?_⟩))
                      go_ret3
                      exact ⟨by first | rfl | (simp; done) | (simp only [← hji11] <;> (first | rfl | simp)) | (simp [*]; done), by repeat (first | exact Drawn0.refl _ | apply Drawn0.step)⟩
                    · replace c17 := Bool.eq_false_iff.mpr c17
                      subst c17
                      have H1 : (jacquardref15_Magic.l0 k2 a0 a1 (wrap64 (x7_2 + 1))) = some (r1, r2, r3) := by rw [if_neg (show ¬ (false = true) by decide)] at H; exact H
                      clear H
                      have H := H1
                      clear H1
                      have H' := Aside0.mk H
                      clear H
                      go_wp2_with (first | ((with_reducible refine gate_callee (f := 29) rfl ?_); refine goesL_ (some 48) rfl rfl Try.func29 (by kernel_rfl) rfl #[.int .i64 a0, .int .u64 a1, .int .u64 (IntKind.u64.wrap ((IntKind.u64.wrap (Int.tdiv (ji11) a1)) + 1)), .int .i64 x7_2] rfl (by (try simp only [List.map_toArray, List.map_cons, List.map_nil]); first | done | (simp only [hji11]; rfl) | rfl | (simp only [List.length_drop, List.length_take]; rfl)) ?_; (with_reducible refine (jacquardref15_fits.calls k2 a0 a1 (IntKind.u64.wrap ((IntKind.u64.wrap (Int.tdiv (ji11) a1)) + 1)) x7_2 false _ A16.out).mono ?_); rintro e w' ⟨rfl, ⟨nd, rfl⟩⟩; refine ⟨_, rfl, ?_⟩))
                      go_roundg k2
                      case measure => have := HJ2.out; have := HK2.out; omega
                      case rel => exact ⟨(wrap64 (x7_2 + 1)), (by first | rfl | (simp; done) | (simp [*]; done)), H', ⟨by have := HJ2.out; have := HK2.out; omega⟩, by repeat (first | exact Drawn0.refl _ | apply Drawn0.step)⟩
              · rw [if_neg c10] at H
                exact absurd H (by simp)
            · rw [if_neg c9] at H
              have c9b0 : decide (x7_2 < (wrap64 (2 * a0))) = false := decide_eq_false c9
              clear c9
              simp only [Option.some.injEq, Prod.mk.injEq] at H
              obtain ⟨rfl, rfl, rfl⟩ := H
              go_wp2
              go_ret3
              exact ⟨by first | rfl | (simp; done) | (simp [*]; done), by repeat (first | exact Drawn0.refl _ | apply Drawn0.step)⟩

/-! ### jacquardlaw15_RewriteMagic: function 5 -/
def jacquardlaw15_RewriteMagic.j0 : Nat → Int → Int → Int → Int → Int → Int → Bool → Option (Bool)
  | 0, _, _, _, _, _, _, _ => none
  | k + 1, x0, x1, x2, x7, x8, x9, x41 => if x41 = true then (some false) else (if x9 = 0 then ((jacquardref12_Mask.f k x0).bind fun t127 => (if 0 ≤ x8 then (if x1 = 0 then (none) else (if (shr .u64 (IntKind.u64.wrap ((Go.bits .and .u64 x2 t127) * x7)) x8) = (IntKind.u64.wrap (Int.tdiv (Go.bits .and .u64 x2 t127) x1)) then (if x7 = 0 then (some false) else ((jacquardref12_Mask.f k (wrap64 (2 * x0))).bind fun t128 => (some (decide ((Go.bits .and .u64 x2 t127) ≤ (IntKind.u64.wrap (Int.tdiv t128 x7))))))) else (some false))) else (none))) else (if x7 = 0 then (some (x8 == 0)) else (some false)))
def jacquardlaw15_RewriteMagic.f (k : Nat) (a0 : Int) (a1 : Int) (a2 : Int) : Option (Bool) := (jacquardlaw15_awake.f k).bind fun t120 => (if t120 = true then ((rewrite_Magic.f k a0 a1).bind fun bt121 => ((jacquardref15_Magic.f k a0 a1).bind fun bt124 => (if bt121.1 = bt124.1 then (if bt121.2.1 = bt124.2.1 then (jacquardlaw15_RewriteMagic.j0 k a0 a1 a2 bt121.1 bt121.2.1 bt121.2.2 (bt121.2.2 != bt124.2.2)) else (jacquardlaw15_RewriteMagic.j0 k a0 a1 a2 bt121.1 bt121.2.1 bt121.2.2 true)) else (jacquardlaw15_RewriteMagic.j0 k a0 a1 a2 bt121.1 bt121.2.1 bt121.2.2 true)))) else (some false))
theorem jacquardlaw15_RewriteMagic.mono_l : ∀ k, (∀ y0 y1 y2 y3 y4 y5 y6, LeO (jacquardlaw15_RewriteMagic.j0 k y0 y1 y2 y3 y4 y5 y6) (jacquardlaw15_RewriteMagic.j0 (k + 1) y0 y1 y2 y3 y4 y5 y6))
  | 0 => fun _ _ _ _ _ _ _ r h => by simp [jacquardlaw15_RewriteMagic.j0] at h
  | k + 1 => by
    have ih0 := jacquardlaw15_RewriteMagic.mono_l k
    · intro y0 y1 y2 y3 y4 y5 y6
      unfold jacquardlaw15_RewriteMagic.j0
      repeat' first
      | (with_reducible exact ih0 _ _ _ _ _ _ _)
      | (with_reducible exact jacquardlaw15_awake.mono _)
      | (with_reducible exact jacquardref12_Mask.mono _ _)
      | (with_reducible exact jacquardref15_Magic.mono _ _ _)
      | (with_reducible exact rewrite_Magic.mono _ _ _)
      | (with_reducible exact LeO.refl _)
      | (with_reducible exact LeO.none _)
      | (with_reducible refine LeO.ite ?_ ?_)
      | (with_reducible refine LeO.bind ?_ (fun _ => ?_))
      | exact ih0 _ _ _ _ _ _ _
      | exact jacquardlaw15_awake.mono _
      | exact jacquardref12_Mask.mono _ _
      | exact jacquardref15_Magic.mono _ _ _
      | exact rewrite_Magic.mono _ _ _
      | exact LeO.none _
      | refine LeO.ite ?_ ?_
      | refine LeO.bind ?_ (fun _ => ?_)
theorem jacquardlaw15_RewriteMagic.mono : ∀ a0 a1 a2 k, LeO (jacquardlaw15_RewriteMagic.f k a0 a1 a2) (jacquardlaw15_RewriteMagic.f (k + 1) a0 a1 a2) := by
  intro a0 a1 a2 k
  have ih0 := jacquardlaw15_RewriteMagic.mono_l k
  unfold jacquardlaw15_RewriteMagic.f
  repeat' first
      | (with_reducible exact ih0 _ _ _ _ _ _ _)
      | (with_reducible exact jacquardlaw15_awake.mono _)
      | (with_reducible exact jacquardref12_Mask.mono _ _)
      | (with_reducible exact jacquardref15_Magic.mono _ _ _)
      | (with_reducible exact rewrite_Magic.mono _ _ _)
      | (with_reducible exact LeO.refl _)
      | (with_reducible exact LeO.none _)
      | (with_reducible refine LeO.ite ?_ ?_)
      | (with_reducible refine LeO.bind ?_ (fun _ => ?_))
      | exact ih0 _ _ _ _ _ _ _
      | exact jacquardlaw15_awake.mono _
      | exact jacquardref12_Mask.mono _ _
      | exact jacquardref15_Magic.mono _ _ _
      | exact rewrite_Magic.mono _ _ _
      | exact LeO.none _
      | refine LeO.ite ?_ ?_
      | refine LeO.bind ?_ (fun _ => ?_)
set_option maxHeartbeats 8000000 in
set_option maxRecDepth 100000 in
theorem jacquardlaw15_RewriteMagic.calls (k : Nat) (a0 : Int) (a1 : Int) (a2 : Int) (r : Bool) (w : World) (h : jacquardlaw15_RewriteMagic.f k a0 a1 a2 = some r) :
    Calls Try.prog 5 #[.int .i64 a0, .int .u64 a1, .int .u64 a2] w fun e w' => e = .returned (.bool r) ∧ Below w.heap.size w w' := by
  have HB := Aside0.mk (Below.refl w.heap.size w)
  have H : ((jacquardlaw15_awake.f k).bind fun t120 => (if t120 = true then ((rewrite_Magic.f k a0 a1).bind fun bt121 => ((jacquardref15_Magic.f k a0 a1).bind fun bt124 => (if bt121.1 = bt124.1 then (if bt121.2.1 = bt124.2.1 then (jacquardlaw15_RewriteMagic.j0 k a0 a1 a2 bt121.1 bt121.2.1 bt121.2.2 (bt121.2.2 != bt124.2.2)) else (jacquardlaw15_RewriteMagic.j0 k a0 a1 a2 bt121.1 bt121.2.1 bt121.2.2 true)) else (jacquardlaw15_RewriteMagic.j0 k a0 a1 a2 bt121.1 bt121.2.1 bt121.2.2 true)))) else (some false))) = some r := h
  clear h
  replace H := Option.bind_eq_some_iff.mp H
  obtain ⟨t120, A40, H⟩ := H
  replace H : (if t120 = true then ((rewrite_Magic.f k a0 a1).bind fun bt121 => ((jacquardref15_Magic.f k a0 a1).bind fun bt124 => (if bt121.1 = bt124.1 then (if bt121.2.1 = bt124.2.1 then (jacquardlaw15_RewriteMagic.j0 k a0 a1 a2 bt121.1 bt121.2.1 bt121.2.2 (bt121.2.2 != bt124.2.2)) else (jacquardlaw15_RewriteMagic.j0 k a0 a1 a2 bt121.1 bt121.2.1 bt121.2.2 true)) else (jacquardlaw15_RewriteMagic.j0 k a0 a1 a2 bt121.1 bt121.2.1 bt121.2.2 true)))) else (some false)) = some r := H
  have A4 := Aside0.mk A40
  clear A40
  by_cases c5 : t120 = true
  · subst c5
    have H1 : ((rewrite_Magic.f k a0 a1).bind fun bt121 => ((jacquardref15_Magic.f k a0 a1).bind fun bt124 => (if bt121.1 = bt124.1 then (if bt121.2.1 = bt124.2.1 then (jacquardlaw15_RewriteMagic.j0 k a0 a1 a2 bt121.1 bt121.2.1 bt121.2.2 (bt121.2.2 != bt124.2.2)) else (jacquardlaw15_RewriteMagic.j0 k a0 a1 a2 bt121.1 bt121.2.1 bt121.2.2 true)) else (jacquardlaw15_RewriteMagic.j0 k a0 a1 a2 bt121.1 bt121.2.1 bt121.2.2 true)))) = some r := by rw [if_pos rfl] at H; exact H
    clear H
    have H := H1
    clear H1
    replace H := Option.bind_eq_some_iff.mp H
    obtain ⟨⟨t121, t122, t123⟩, A60, H⟩ := H
    replace H : ((jacquardref15_Magic.f k a0 a1).bind fun bt124 => (if t121 = bt124.1 then (if t122 = bt124.2.1 then (jacquardlaw15_RewriteMagic.j0 k a0 a1 a2 t121 t122 t123 (t123 != bt124.2.2)) else (jacquardlaw15_RewriteMagic.j0 k a0 a1 a2 t121 t122 t123 true)) else (jacquardlaw15_RewriteMagic.j0 k a0 a1 a2 t121 t122 t123 true))) = some r := H
    have A6 := Aside0.mk A60
    clear A60
    replace H := Option.bind_eq_some_iff.mp H
    obtain ⟨⟨t124, t125, t126⟩, A70, H⟩ := H
    replace H : (if t121 = t124 then (if t122 = t125 then (jacquardlaw15_RewriteMagic.j0 k a0 a1 a2 t121 t122 t123 (t123 != t126)) else (jacquardlaw15_RewriteMagic.j0 k a0 a1 a2 t121 t122 t123 true)) else (jacquardlaw15_RewriteMagic.j0 k a0 a1 a2 t121 t122 t123 true)) = some r := H
    have A7 := Aside0.mk A70
    clear A70
    have HC8 := Aside0.mk H
    clear H
    go_enter Try.func5, Try.ntmps5
    go_upto_region 5 with (first | (go_at_call 20; (with_reducible refine (jacquardlaw15_awake.calls k  true _ A4.out).mono ?_); rintro e w9 ⟨rfl, hb⟩; have n0_ := Aside0.mk (below_step (by repeat (first | (with_reducible first | exact HB.out | apply below_alloc | apply pw_below_drewN | apply below_drew1) | exact HB.out)) hb); clear HB; have HB := n0_; clear n0_; (try clear hb); (try clear hb2); (try clear hk); (try clear hi)) | (go_at_call 21; (with_reducible refine (rewrite_Magic.calls k a0 a1 t121 t122 t123 _ A6.out).mono ?_); rintro e w10 ⟨rfl, hb⟩; have n0_ := Aside0.mk (below_step (by repeat (first | (with_reducible first | exact HB.out | apply below_alloc | apply pw_below_drewN | apply below_drew1) | exact HB.out)) hb); clear HB; have HB := n0_; clear n0_; (try clear hb); (try clear hb2); (try clear hk); (try clear hi)) | (go_at_call 22; (with_reducible refine (jacquardref15_Magic.calls k a0 a1 t124 t125 t126 _ A7.out).mono ?_); rintro e w' ⟨rfl, ⟨nd, rfl⟩⟩; (try first | exact ⟨rfl, _, World.drewN_drewN _ _ _⟩ | exact ⟨rfl, _, Eq.trans (World.drewN_drewN _ _ _) (congrArg (World.drewN _) (Nat.add_assoc _ _ _))⟩)))
    repeat (go_quiet (first | (go_at_call 20; (with_reducible refine (jacquardlaw15_awake.calls k  true _ A4.out).mono ?_); rintro e w9 ⟨rfl, hb⟩; have n0_ := Aside0.mk (below_step (by repeat (first | (with_reducible first | exact HB.out | apply below_alloc | apply pw_below_drewN | apply below_drew1) | exact HB.out)) hb); clear HB; have HB := n0_; clear n0_; (try clear hb); (try clear hb2); (try clear hk); (try clear hi)) | (go_at_call 21; (with_reducible refine (rewrite_Magic.calls k a0 a1 t121 t122 t123 _ A6.out).mono ?_); rintro e w10 ⟨rfl, hb⟩; have n0_ := Aside0.mk (below_step (by repeat (first | (with_reducible first | exact HB.out | apply below_alloc | apply pw_below_drewN | apply below_drew1) | exact HB.out)) hb); clear HB; have HB := n0_; clear n0_; (try clear hb); (try clear hb2); (try clear hk); (try clear hi)) | (go_at_call 22; (with_reducible refine (jacquardref15_Magic.calls k a0 a1 t124 t125 t126 _ A7.out).mono ?_); rintro e w' ⟨rfl, ⟨nd, rfl⟩⟩; (try first | exact ⟨rfl, _, World.drewN_drewN _ _ _⟩ | exact ⟨rfl, _, Eq.trans (World.drewN_drewN _ _ _) (congrArg (World.drewN _) (Nat.add_assoc _ _ _))⟩))); go_upto_region 5 with (first | (go_at_call 20; (with_reducible refine (jacquardlaw15_awake.calls k  true _ A4.out).mono ?_); rintro e w9 ⟨rfl, hb⟩; have n0_ := Aside0.mk (below_step (by repeat (first | (with_reducible first | exact HB.out | apply below_alloc | apply pw_below_drewN | apply below_drew1) | exact HB.out)) hb); clear HB; have HB := n0_; clear n0_; (try clear hb); (try clear hb2); (try clear hk); (try clear hi)) | (go_at_call 21; (with_reducible refine (rewrite_Magic.calls k a0 a1 t121 t122 t123 _ A6.out).mono ?_); rintro e w10 ⟨rfl, hb⟩; have n0_ := Aside0.mk (below_step (by repeat (first | (with_reducible first | exact HB.out | apply below_alloc | apply pw_below_drewN | apply below_drew1) | exact HB.out)) hb); clear HB; have HB := n0_; clear n0_; (try clear hb); (try clear hb2); (try clear hk); (try clear hi)) | (go_at_call 22; (with_reducible refine (jacquardref15_Magic.calls k a0 a1 t124 t125 t126 _ A7.out).mono ?_); rintro e w' ⟨rfl, ⟨nd, rfl⟩⟩; (try first | exact ⟨rfl, _, World.drewN_drewN _ _ _⟩ | exact ⟨rfl, _, Eq.trans (World.drewN_drewN _ _ _) (congrArg (World.drewN _) (Nat.add_assoc _ _ _))⟩))))
    (try simp only [Act.put, List.setIfInBounds_toArray, List.set_cons_zero, List.set_cons_succ])
    go_cut [41] (fun v41 wc => ∃ (kq : Nat) (x41_7 : Bool), v41 = .bool x41_7 ∧ Aside0 (jacquardlaw15_RewriteMagic.j0 kq a0 a1 a2 t121 t122 t123 x41_7 = some r) ∧ Aside0 (kq ≤ k) ∧ Aside0 (Below w.heap.size w wc))
    case first =>
      have H := HC8.out
      clear HC8
      by_cases c11 : t121 = t124
      · rw [if_pos c11] at H
        have c11b0 : (t121 == t124) = true := beq_iff_eq.mpr c11
        have c11b1 : (t121 != t124) = false := bne_eq_false_iff_eq.mpr c11
        clear c11
        (first | rw [c11b0] | (simp only [i64_w, i32_w]; rw [c11b0]) | skip)
        by_cases c12 : t122 = t125
        · rw [if_pos c12] at H
          have c12b0 : (t122 == t125) = true := beq_iff_eq.mpr c12
          have c12b1 : (t122 != t125) = false := bne_eq_false_iff_eq.mpr c12
          clear c12
          have H' := Aside0.mk H
          clear H
          go_wp2
          repeat (go_quiet (fail); try go_wp2)
          go_meet
          case rel => exact ⟨_, ((t123 != t126)), (by first | rfl | (simp; done) | (simp [*]; done)), H', ⟨by first | omega | exact Nat.le_refl _⟩, ⟨by repeat (first | (with_reducible first | exact HB.out | apply below_alloc | apply pw_below_drewN | apply below_drew1) | exact HB.out)⟩⟩
        · rw [if_neg c12] at H
          have c12b0 : (t122 == t125) = false := beq_eq_false_iff_ne.mpr c12
          have c12b1 : (t122 != t125) = true := bne_iff_ne.mpr c12
          have H' := Aside0.mk H
          clear H
          go_wp2
          repeat (go_quiet (fail); try go_wp2)
          go_meet
          case rel => exact ⟨_, (true), (by first | rfl | (simp; done) | (simp [*]; done)), H', ⟨by first | omega | exact Nat.le_refl _⟩, ⟨by repeat (first | (with_reducible first | exact HB.out | apply below_alloc | apply pw_below_drewN | apply below_drew1) | exact HB.out)⟩⟩
      · rw [if_neg c11] at H
        have c11b0 : (t121 == t124) = false := beq_eq_false_iff_ne.mpr c11
        have c11b1 : (t121 != t124) = true := bne_iff_ne.mpr c11
        (first | rw [c11b0] | (simp only [i64_w, i32_w]; rw [c11b0]) | skip)
        have H' := Aside0.mk H
        clear H
        go_wp2
        repeat (go_quiet (fail); try go_wp2)
        go_meet
        case rel => exact ⟨_, (true), (by first | rfl | (simp; done) | (simp [*]; done)), H', ⟨by first | omega | exact Nat.le_refl _⟩, ⟨by repeat (first | (with_reducible first | exact HB.out | apply below_alloc | apply pw_below_drewN | apply below_drew1) | exact HB.out)⟩⟩
    case rest =>
      clear HC8
      try clear c1
      try clear p2
      try clear c5
      try clear c11
      try clear c11b0
      try clear c11b1
      try clear c12
      try clear c12b0
      try clear c12b1
      obtain ⟨kq, x41_7, rfl, HA, HJ7, HB⟩ := hcut
      cases kq with
      | zero => exact absurd HA.out (by simp [jacquardlaw15_RewriteMagic.j0])
      | succ kj7 =>
        have H := HA.out
        clear HA
        simp only [jacquardlaw15_RewriteMagic.j0] at H
        by_cases c13 : x41_7 = true
        · subst c13
          have H1 : (some false) = some r := by rw [if_pos rfl] at H; exact H
          clear H
          have H := H1
          clear H1
          obtain rfl := Option.some.inj H
          go_wp2
          repeat (go_quiet (fail); try go_wp2)
          go_ret
          exact ⟨by first | rfl | (simp [errW_none, errW_some] <;> rfl) | (simp [*, errW_none, errW_some] <;> rfl), by repeat (first | (with_reducible first | exact HB.out | apply below_alloc | apply pw_below_drewN | apply below_drew1) | exact HB.out)⟩
        · replace c13 := Bool.eq_false_iff.mpr c13
          subst c13
          have H1 : (if t123 = 0 then ((jacquardref12_Mask.f kj7 a0).bind fun t127 => (if 0 ≤ t122 then (if a1 = 0 then (none) else (if (shr .u64 (IntKind.u64.wrap ((Go.bits .and .u64 a2 t127) * t121)) t122) = (IntKind.u64.wrap (Int.tdiv (Go.bits .and .u64 a2 t127) a1)) then (if t121 = 0 then (some false) else ((jacquardref12_Mask.f kj7 (wrap64 (2 * a0))).bind fun t128 => (some (decide ((Go.bits .and .u64 a2 t127) ≤ (IntKind.u64.wrap (Int.tdiv t128 t121))))))) else (some false))) else (none))) else (if t121 = 0 then (some (t122 == 0)) else (some false))) = some r := by rw [if_neg (show ¬ (false = true) by decide)] at H; exact H
          clear H
          have H := H1
          clear H1
          by_cases c14 : t123 = 0
          · rw [if_pos c14] at H
            have c14b0 : (t123 == 0) = true := beq_iff_eq.mpr c14
            have c14b1 : (t123 != 0) = false := bne_eq_false_iff_eq.mpr c14
            clear c14
            replace H := Option.bind_eq_some_iff.mp H
            obtain ⟨t127, A150, H⟩ := H
            replace H : (if 0 ≤ t122 then (if a1 = 0 then (none) else (if (shr .u64 (IntKind.u64.wrap ((Go.bits .and .u64 a2 t127) * t121)) t122) = (IntKind.u64.wrap (Int.tdiv (Go.bits .and .u64 a2 t127) a1)) then (if t121 = 0 then (some false) else ((jacquardref12_Mask.f kj7 (wrap64 (2 * a0))).bind fun t128 => (some (decide ((Go.bits .and .u64 a2 t127) ≤ (IntKind.u64.wrap (Int.tdiv t128 t121))))))) else (some false))) else (none)) = some r := H
            have A15 := Aside0.mk A150
            clear A150
            by_cases c16 : 0 ≤ t122
            · rw [if_pos c16] at H
              have c16b0 := eq_true c16
              have c16b1 : decide (0 ≤ t122) = true := decide_eq_true c16
              clear c16
              obtain ⟨ji17, hji17⟩ : ∃ j_ : Int, (shr .u64 (IntKind.u64.wrap ((Go.bits .and .u64 a2 t127) * t121)) t122) = j_ := ⟨_, rfl⟩
              replace H : (if a1 = 0 then (none) else (if (ji17) = (IntKind.u64.wrap (Int.tdiv (Go.bits .and .u64 a2 t127) a1)) then (if t121 = 0 then (some false) else ((jacquardref12_Mask.f kj7 (wrap64 (2 * a0))).bind fun t128 => (some (decide ((Go.bits .and .u64 a2 t127) ≤ (IntKind.u64.wrap (Int.tdiv t128 t121))))))) else (some false))) = some r := by first | (rw [hji17] at H; exact H) | (simp only [hji17] at H ⊢; exact H)
              (try rw [hji17] at A15)
              have hji17_ : ((IntKind.u64.wrap ((Go.bits .and .u64 a2 t127) * t121)) / 2 ^ min t122.toNat 64) = ji17 := hji17
              have hji17z : t122 ≤ 64 → ((IntKind.u64.wrap ((Go.bits .and .u64 a2 t127) * t121)) / 2 ^ t122.toNat) = ji17 := shr_small hji17
              by_cases c18 : a1 = 0
              · rw [if_pos c18] at H
                exact absurd H (by simp)
              · rw [if_neg c18] at H
                have c18b0 : (a1 == 0) = false := beq_eq_false_iff_ne.mpr c18
                have c18b1 : (a1 != 0) = true := bne_iff_ne.mpr c18
                by_cases c19 : (ji17) = (IntKind.u64.wrap (Int.tdiv (Go.bits .and .u64 a2 t127) a1))
                · rw [if_pos c19] at H
                  have c19b0 : ((ji17) == (IntKind.u64.wrap (Int.tdiv (Go.bits .and .u64 a2 t127) a1))) = true := beq_iff_eq.mpr c19
                  have c19b1 : ((ji17) != (IntKind.u64.wrap (Int.tdiv (Go.bits .and .u64 a2 t127) a1))) = false := bne_eq_false_iff_eq.mpr c19
                  clear c19
                  by_cases c20 : t121 = 0
                  · rw [if_pos c20] at H
                    have c20b0 : (t121 == 0) = true := beq_iff_eq.mpr c20
                    have c20b1 : (t121 != 0) = false := bne_eq_false_iff_eq.mpr c20
                    clear c20
                    obtain rfl := Option.some.inj H
                    go_wp2_with (first | (go_at_call 23; (with_reducible refine (jacquardref12_Mask.calls kj7 a0 t127 _ A15.out).mono ?_); rintro e w' ⟨rfl, ⟨nd, rfl⟩⟩; (try first | exact ⟨rfl, _, World.drewN_drewN _ _ _⟩ | exact ⟨rfl, _, Eq.trans (World.drewN_drewN _ _ _) (congrArg (World.drewN _) (Nat.add_assoc _ _ _))⟩)))
                    repeat (go_quiet (first | (go_at_call 23; (with_reducible refine (jacquardref12_Mask.calls kj7 a0 t127 _ A15.out).mono ?_); rintro e w' ⟨rfl, ⟨nd, rfl⟩⟩; (try first | exact ⟨rfl, _, World.drewN_drewN _ _ _⟩ | exact ⟨rfl, _, Eq.trans (World.drewN_drewN _ _ _) (congrArg (World.drewN _) (Nat.add_assoc _ _ _))⟩))); try go_wp2_with (first | (go_at_call 23; (with_reducible refine (jacquardref12_Mask.calls kj7 a0 t127 _ A15.out).mono ?_); rintro e w' ⟨rfl, ⟨nd, rfl⟩⟩; (try first | exact ⟨rfl, _, World.drewN_drewN _ _ _⟩ | exact ⟨rfl, _, Eq.trans (World.drewN_drewN _ _ _) (congrArg (World.drewN _) (Nat.add_assoc _ _ _))⟩))))
                    go_ret
                    exact ⟨by first | rfl | (simp [errW_none, errW_some] <;> rfl) | (simp only [← hji17]; first | rfl | (simp [errW_none, errW_some] <;> rfl)) | (simp [*, errW_none, errW_some] <;> rfl), by repeat (first | (with_reducible first | exact HB.out | apply below_alloc | apply pw_below_drewN | apply below_drew1) | exact HB.out)⟩
                  · rw [if_neg c20] at H
                    have c20b0 : (t121 == 0) = false := beq_eq_false_iff_ne.mpr c20
                    have c20b1 : (t121 != 0) = true := bne_iff_ne.mpr c20
                    replace H := Option.bind_eq_some_iff.mp H
                    obtain ⟨t128, A210, H⟩ := H
                    replace H : (some (decide ((Go.bits .and .u64 a2 t127) ≤ (IntKind.u64.wrap (Int.tdiv t128 t121))))) = some r := H
                    have A21 := Aside0.mk A210
                    clear A210
                    obtain rfl := Option.some.inj H
                    go_wp2_with (first | (go_at_call 23; (with_reducible refine (jacquardref12_Mask.calls kj7 a0 t127 _ A15.out).mono ?_); rintro e w' ⟨rfl, ⟨nd, rfl⟩⟩; (try first | exact ⟨rfl, _, World.drewN_drewN _ _ _⟩ | exact ⟨rfl, _, Eq.trans (World.drewN_drewN _ _ _) (congrArg (World.drewN _) (Nat.add_assoc _ _ _))⟩)) | (go_at_call 23; (with_reducible refine (jacquardref12_Mask.calls kj7 (wrap64 (2 * a0)) t128 _ A21.out).mono ?_); rintro e w' ⟨rfl, ⟨nd, rfl⟩⟩; (try first | exact ⟨rfl, _, World.drewN_drewN _ _ _⟩ | exact ⟨rfl, _, Eq.trans (World.drewN_drewN _ _ _) (congrArg (World.drewN _) (Nat.add_assoc _ _ _))⟩)))
                    repeat (go_quiet (first | (go_at_call 23; (with_reducible refine (jacquardref12_Mask.calls kj7 a0 t127 _ A15.out).mono ?_); rintro e w' ⟨rfl, ⟨nd, rfl⟩⟩; (try first | exact ⟨rfl, _, World.drewN_drewN _ _ _⟩ | exact ⟨rfl, _, Eq.trans (World.drewN_drewN _ _ _) (congrArg (World.drewN _) (Nat.add_assoc _ _ _))⟩)) | (go_at_call 23; (with_reducible refine (jacquardref12_Mask.calls kj7 (wrap64 (2 * a0)) t128 _ A21.out).mono ?_); rintro e w' ⟨rfl, ⟨nd, rfl⟩⟩; (try first | exact ⟨rfl, _, World.drewN_drewN _ _ _⟩ | exact ⟨rfl, _, Eq.trans (World.drewN_drewN _ _ _) (congrArg (World.drewN _) (Nat.add_assoc _ _ _))⟩))); try go_wp2_with (first | (go_at_call 23; (with_reducible refine (jacquardref12_Mask.calls kj7 a0 t127 _ A15.out).mono ?_); rintro e w' ⟨rfl, ⟨nd, rfl⟩⟩; (try first | exact ⟨rfl, _, World.drewN_drewN _ _ _⟩ | exact ⟨rfl, _, Eq.trans (World.drewN_drewN _ _ _) (congrArg (World.drewN _) (Nat.add_assoc _ _ _))⟩)) | (go_at_call 23; (with_reducible refine (jacquardref12_Mask.calls kj7 (wrap64 (2 * a0)) t128 _ A21.out).mono ?_); rintro e w' ⟨rfl, ⟨nd, rfl⟩⟩; (try first | exact ⟨rfl, _, World.drewN_drewN _ _ _⟩ | exact ⟨rfl, _, Eq.trans (World.drewN_drewN _ _ _) (congrArg (World.drewN _) (Nat.add_assoc _ _ _))⟩))))
                    go_ret
                    exact ⟨by first | rfl | (simp [errW_none, errW_some] <;> rfl) | (simp only [← hji17]; first | rfl | (simp [errW_none, errW_some] <;> rfl)) | (simp [*, errW_none, errW_some] <;> rfl), by repeat (first | (with_reducible first | exact HB.out | apply below_alloc | apply pw_below_drewN | apply below_drew1) | exact HB.out)⟩
                · rw [if_neg c19] at H
                  have c19b0 : ((ji17) == (IntKind.u64.wrap (Int.tdiv (Go.bits .and .u64 a2 t127) a1))) = false := beq_eq_false_iff_ne.mpr c19
                  have c19b1 : ((ji17) != (IntKind.u64.wrap (Int.tdiv (Go.bits .and .u64 a2 t127) a1))) = true := bne_iff_ne.mpr c19
                  obtain rfl := Option.some.inj H
                  go_wp2_with (first | (go_at_call 23; (with_reducible refine (jacquardref12_Mask.calls kj7 a0 t127 _ A15.out).mono ?_); rintro e w' ⟨rfl, ⟨nd, rfl⟩⟩; (try first | exact ⟨rfl, _, World.drewN_drewN _ _ _⟩ | exact ⟨rfl, _, Eq.trans (World.drewN_drewN _ _ _) (congrArg (World.drewN _) (Nat.add_assoc _ _ _))⟩)))
                  repeat (go_quiet (first | (go_at_call 23; (with_reducible refine (jacquardref12_Mask.calls kj7 a0 t127 _ A15.out).mono ?_); rintro e w' ⟨rfl, ⟨nd, rfl⟩⟩; (try first | exact ⟨rfl, _, World.drewN_drewN _ _ _⟩ | exact ⟨rfl, _, Eq.trans (World.drewN_drewN _ _ _) (congrArg (World.drewN _) (Nat.add_assoc _ _ _))⟩))); try go_wp2_with (first | (go_at_call 23; (with_reducible refine (jacquardref12_Mask.calls kj7 a0 t127 _ A15.out).mono ?_); rintro e w' ⟨rfl, ⟨nd, rfl⟩⟩; (try first | exact ⟨rfl, _, World.drewN_drewN _ _ _⟩ | exact ⟨rfl, _, Eq.trans (World.drewN_drewN _ _ _) (congrArg (World.drewN _) (Nat.add_assoc _ _ _))⟩))))
                  go_ret
                  exact ⟨by first | rfl | (simp [errW_none, errW_some] <;> rfl) | (simp only [← hji17]; first | rfl | (simp [errW_none, errW_some] <;> rfl)) | (simp [*, errW_none, errW_some] <;> rfl), by repeat (first | (with_reducible first | exact HB.out | apply below_alloc | apply pw_below_drewN | apply below_drew1) | exact HB.out)⟩
            · rw [if_neg c16] at H
              exact absurd H (by simp)
          · rw [if_neg c14] at H
            have c14b0 : (t123 == 0) = false := beq_eq_false_iff_ne.mpr c14
            have c14b1 : (t123 != 0) = true := bne_iff_ne.mpr c14
            by_cases c22 : t121 = 0
            · rw [if_pos c22] at H
              have c22b0 : (t121 == 0) = true := beq_iff_eq.mpr c22
              have c22b1 : (t121 != 0) = false := bne_eq_false_iff_eq.mpr c22
              clear c22
              obtain rfl := Option.some.inj H
              go_wp2
              repeat (go_quiet (fail); try go_wp2)
              go_ret
              exact ⟨by first | rfl | (simp [errW_none, errW_some] <;> rfl) | (simp [*, errW_none, errW_some] <;> rfl), by repeat (first | (with_reducible first | exact HB.out | apply below_alloc | apply pw_below_drewN | apply below_drew1) | exact HB.out)⟩
            · rw [if_neg c22] at H
              have c22b0 : (t121 == 0) = false := beq_eq_false_iff_ne.mpr c22
              have c22b1 : (t121 != 0) = true := bne_iff_ne.mpr c22
              obtain rfl := Option.some.inj H
              go_wp2
              repeat (go_quiet (fail); try go_wp2)
              go_ret
              exact ⟨by first | rfl | (simp [errW_none, errW_some] <;> rfl) | (simp [*, errW_none, errW_some] <;> rfl), by repeat (first | (with_reducible first | exact HB.out | apply below_alloc | apply pw_below_drewN | apply below_drew1) | exact HB.out)⟩
  · replace c5 := Bool.eq_false_iff.mpr c5
    subst c5
    have H1 : (some false) = some r := by rw [if_neg (show ¬ (false = true) by decide)] at H; exact H
    clear H
    have H := H1
    clear H1
    obtain rfl := Option.some.inj H
    go_enter Try.func5, Try.ntmps5
    go_wp2_with (first | (go_at_call 20; (with_reducible refine (jacquardlaw15_awake.calls k  false _ A4.out).mono ?_); rintro e w23 ⟨rfl, hb⟩; have n0_ := Aside0.mk (below_step (by repeat (first | (with_reducible first | exact HB.out | apply below_alloc | apply pw_below_drewN | apply below_drew1) | exact HB.out)) hb); clear HB; have HB := n0_; clear n0_; (try clear hb); (try clear hb2); (try clear hk); (try clear hi)))
    repeat (go_quiet (first | (go_at_call 20; (with_reducible refine (jacquardlaw15_awake.calls k  false _ A4.out).mono ?_); rintro e w23 ⟨rfl, hb⟩; have n0_ := Aside0.mk (below_step (by repeat (first | (with_reducible first | exact HB.out | apply below_alloc | apply pw_below_drewN | apply below_drew1) | exact HB.out)) hb); clear HB; have HB := n0_; clear n0_; (try clear hb); (try clear hb2); (try clear hk); (try clear hi))); try go_wp2_with (first | (go_at_call 20; (with_reducible refine (jacquardlaw15_awake.calls k  false _ A4.out).mono ?_); rintro e w23 ⟨rfl, hb⟩; have n0_ := Aside0.mk (below_step (by repeat (first | (with_reducible first | exact HB.out | apply below_alloc | apply pw_below_drewN | apply below_drew1) | exact HB.out)) hb); clear HB; have HB := n0_; clear n0_; (try clear hb); (try clear hb2); (try clear hk); (try clear hi))))
    go_ret
    exact ⟨by first | rfl | (simp [errW_none, errW_some] <;> rfl) | (simp [*, errW_none, errW_some] <;> rfl), by repeat (first | (with_reducible first | exact HB.out | apply below_alloc | apply pw_below_drewN | apply below_drew1) | exact HB.out)⟩

/-- THE ONE PURE STATEMENT of jacquardlaw15_RewriteMagic: yours. -/
def jacquardlaw15_RewriteMagic.Pure : Prop := ∀ (a0 : Int) (a1 : Int) (a2 : Int), (Lit.int .i64 a0).wf = true → (Lit.int .u64 a1).wf = true → (Lit.int .u64 a2).wf = true → ∃ k, jacquardlaw15_RewriteMagic.f k a0 a1 a2 = some true
theorem jacquardlaw15_RewriteMagic.walk (P : jacquardlaw15_RewriteMagic.Pure) (a0 : Int) (a1 : Int) (a2 : Int) (w : World) (w0 : (Lit.int .i64 a0).wf = true) (w1 : (Lit.int .u64 a1).wf = true) (w2 : (Lit.int .u64 a2).wf = true) :
    Calls Try.prog 5 #[.int .i64 a0, .int .u64 a1, .int .u64 a2] w fun e w' => e = .returned (.bool true) ∧ Below w.heap.size w w' := by
  obtain ⟨k, h⟩ := P a0 a1 a2 w0 w1 w2
  refine (jacquardlaw15_RewriteMagic.calls k a0 a1 a2 true w h).mono ?_
  rintro e w' ⟨rfl, hd⟩
  exact ⟨rfl, hd⟩

end Go.Proofs.Ytiadfnedbbkojaa.RRewriteMagic
