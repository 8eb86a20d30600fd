/- What only this statement needs: contracts and plain lemmas. No conditions. -/
import Derived.Test.YtglolcejfbhbdaaGreatC11
import Derived.Laws.BitsLemmas
section
namespace Go.Proofs.YtglolcejfbhbdaaGreatW.PrintLast
open Go.Proofs.YtglolcejfbhbdaaGreatW.PrintWords (Aside0)
section
variable {md : Region.Mode} {ops : Array Oper} {T : Bool × List (List Nat × List Nat)} {l l' li lj lk : Array Bool} {ds : List Nat} {i j k : Nat}
theorem gd (l : Array Bool) (j : Nat) (b : Bool) : l.getD j b = l.toList.getD j b := by simp [Array.getD_eq_getD_getElem?, List.getD_eq_getElem?_getD]
end
end Go.Proofs.YtglolcejfbhbdaaGreatW.PrintLast
end
section
namespace Go.Proofs.YtglolcejfbhbdaaGreat.P
open Go.RowKit Go.Shelf Go.Proofs.YtglolcejfbhbdaaGreatW.PrintWords Go.Proofs.YtglolcejfbhbdaaGreatW.PrintLast Go.Proofs.YtglolcejfbhbdaaGreatW.PrintMore
set_option linter.unusedVariables false
set_option linter.unusedSimpArgs false
theorem add1_same {m : List S30} (h : Norm m) (hl : m.length ≤ 499) (y : Int) (hy : inTop y → rm m y) : add1L m y = m := by
  obtain ⟨h1, h2, _⟩ := add1_spec h hl y
  refine Norm.uniq h1 h (fun c => ?_)
  rw [h2 c]
  constructor
  · rintro (h5 | ⟨rfl, h5⟩)
    · exact h5
    · exact hy h5
  · exact .inl
theorem addAll_same : ∀ (ys : List Int) (m : List S30), Norm m → m.length ≤ 499 → (∀ y ∈ ys, inTop y → rm m y) → addAll m ys = m
  | [], m, _, _, _ => rfl
  | y :: ys, m, h, hl, hy => by
    show addAll (add1L m y) ys = m
    rw [add1_same h hl y (hy y List.mem_cons_self)]
    exact addAll_same ys m h hl (fun z hz => hy z (List.mem_cons_of_mem _ hz))
end Go.Proofs.YtglolcejfbhbdaaGreat.P
end
section
namespace Go.Proofs.YtglolcejfbhbdaaGreat.P
open Go.RowKit Go.Proofs.YtglolcejfbhbdaaGreatW.PrintWords Go.Proofs.YtglolcejfbhbdaaGreatW.PrintLast Go.Proofs.YtglolcejfbhbdaaGreatW.PrintMore
attribute [local go_sem] max2_int min2_int max_two min_two max_three min_three max_four min_four   -- for this text's walks alone
set_option linter.unusedVariables false
set_option linter.unusedSimpArgs false
def ductusref03_Mirror.l0 : Nat → Int → List Int → Int → Option (Int)
  | 0, _, _, _ => none
  | k + 1, x0, x3, x4 => if x4 < (x3.length : Int) then (if 0 ≤ x4 then (if (rd x3 x4) = x0 then (if 0 ≤ (wrap64 (x4 + 1)) then (if (wrap64 (x4 + 1)) < (x3.length : Int) then (some (rd x3 (wrap64 (x4 + 1)))) else (none)) else (none)) else (if 0 ≤ (wrap64 (x4 + 1)) then (if (wrap64 (x4 + 1)) < (x3.length : Int) then (if (rd x3 (wrap64 (x4 + 1))) = x0 then (some (rd x3 x4)) else (ductusref03_Mirror.l0 k x0 x3 (wrap64 (x4 + 2)))) else (none)) else (none))) else (none)) else (some x0)
def ductusref03_Mirror.f (k : Nat) (a0 : Int) : Option (Int) := (ductusref03_brackets.f).bind fun t119 => ((some (([60, 62, 171, 187, 8804, 8805, 8810, 8811] : List Int) : List Int)).bind fun y122 => (if t119.length + y122.length < 17592186044416 then (ductusref03_Mirror.l0 k a0 (t119 ++ y122) 0) else (none)))
theorem ductusref03_Mirror.mono_l : ∀ k, (∀ y0 y1 y2, LeO (ductusref03_Mirror.l0 k y0 y1 y2) (ductusref03_Mirror.l0 (k + 1) y0 y1 y2))
  | 0 => fun _ _ _ r h => by simp [ductusref03_Mirror.l0] at h
  | k + 1 => by
    have ih0 := ductusref03_Mirror.mono_l k
    · intro y0 y1 y2
      unfold ductusref03_Mirror.l0
      repeat' first
      | (with_reducible exact ih0 _ _ _)
      | (with_reducible exact LeO.refl _)
      | (with_reducible exact LeO.none _)
      | (with_reducible refine LeO.ite ?_ ?_)
      | (with_reducible refine LeO.bind ?_ (fun _ => ?_))
      | exact ih0 _ _ _
      | exact LeO.none _
      | refine LeO.ite ?_ ?_
      | refine LeO.bind ?_ (fun _ => ?_)
theorem ductusref03_Mirror.mono : ∀ a0 k, LeO (ductusref03_Mirror.f k a0) (ductusref03_Mirror.f (k + 1) a0) := by
  intro a0 k
  have ih0 := ductusref03_Mirror.mono_l k
  unfold ductusref03_Mirror.f
  repeat' first
      | (with_reducible exact ih0 _ _ _)
      | (with_reducible exact LeO.refl _)
      | (with_reducible exact LeO.none _)
      | (with_reducible refine LeO.ite ?_ ?_)
      | (with_reducible refine LeO.bind ?_ (fun _ => ?_))
      | exact ih0 _ _ _
      | exact LeO.none _
      | refine LeO.ite ?_ ?_
      | refine LeO.bind ?_ (fun _ => ?_)
set_option maxHeartbeats 8000000 in
set_option maxRecDepth 100000 in
theorem ductusref03_Mirror.calls (k : Nat) (a0 : Int) (r : Int) (w : World) (h : ductusref03_Mirror.f k a0 = some r) :
    Calls Tryz.prog 19 #[.int .i64 a0] w fun e w' => e = .returned (.int .i64 r) ∧ Below w.heap.size w w' := by
  have HB := Aside0.mk (Below.refl w.heap.size w)
  have H : ((ductusref03_brackets.f).bind fun t119 => ((some (([60, 62, 171, 187, 8804, 8805, 8810, 8811] : List Int) : List Int)).bind fun y122 => (if t119.length + y122.length < 17592186044416 then (ductusref03_Mirror.l0 k a0 (t119 ++ y122) 0) else (none)))) = some r := h
  clear h
  replace H := Option.bind_eq_some_iff.mp H
  obtain ⟨t119, A20, H⟩ := H
  replace H : ((some (([60, 62, 171, 187, 8804, 8805, 8810, 8811] : List Int) : List Int)).bind fun y122 => (if t119.length + y122.length < 17592186044416 then (ductusref03_Mirror.l0 k a0 (t119 ++ y122) 0) else (none))) = some r := H
  have A2 := Aside0.mk A20
  clear A20
  obtain ⟨y122, hy122⟩ : ∃ y_ : List Int, y_ = (([60, 62, 171, 187, 8804, 8805, 8810, 8811] : List Int)) := ⟨_, rfl⟩
  replace H : (if t119.length + y122.length < 17592186044416 then (ductusref03_Mirror.l0 k a0 (t119 ++ y122) 0) else (none)) = some r := by first | (rw [hy122]; with_reducible exact H) | (have H2_ := (Option.bind_some _ _).symm.trans H; rw [hy122]; with_reducible exact H2_) | (have H2_ := (Option.bind_some _ _).symm.trans H; with_reducible exact H2_) | with_reducible exact H | (rw [hy122]; exact H) | exact H
  have Ny122 := Aside0.mk hy122
  clear hy122
  by_cases c3 : t119.length + y122.length < 17592186044416
  · rw [if_pos c3] at H
    have LMc3 := Aside0.mk c3
    clear c3
    obtain ⟨y125, hy125⟩ : ∃ y_ : List Int, y_ = (t119 ++ y122) := ⟨_, rfl⟩
    replace H : (ductusref03_Mirror.l0 k a0 y125 0) = some r := by first | (rw [hy125]; with_reducible exact H) | (have H2_ := (Option.bind_some _ _).symm.trans H; rw [hy125]; with_reducible exact H2_) | (have H2_ := (Option.bind_some _ _).symm.trans H; with_reducible exact H2_) | with_reducible exact H | (rw [hy125]; exact H) | exact H
    have Ny125 := Aside0.mk hy125
    clear hy125
    have H' := Aside0.mk H
    clear H
    go_enter Tryz.func19, Tryz.ntmps19
    go_wp2_with (first | ((with_reducible refine gate_callee (f := 41) rfl ?_); refine goesL_ (some 5) rfl rfl Tryz.func41 (by kernel_rfl) rfl #[] rfl (by (try simp only [List.map_toArray, List.map_cons, List.map_nil]); first | done | rfl | (simp only [List.length_drop, List.length_take]; rfl)) ?_; (with_reducible refine (ductusref03_brackets.calls  t119 _ A2.out).mono ?_); rintro e w4 ⟨v120, rfl, ho0, hb⟩; refine ⟨_, rfl, ?_⟩; have n0_ := Aside0.mk (Kd.R_lower ho0 (below_size (by repeat (first | (with_reducible first | exact HB.out | apply below_alloc | apply pw_below_drewN | apply below_drew1) | exact HB.out)))); have n1_ := Aside0.mk (below_step (by repeat (first | (with_reducible first | exact HB.out | apply below_alloc | apply pw_below_drewN | apply below_drew1) | exact HB.out)) hb); clear HB; have HO121 := n0_; have HB := n1_; clear n0_ n1_; (try clear hb); (try clear hb2); (try clear hk); (try clear hi); (try clear ho0)) | ((with_reducible refine gate_dst (N := 6) rfl ?_); refine Kd.R_lit (Kd.int .i64) _ 3 ?hg (N := 6) ?hd (xs := ([60, 62, 171, 187, 8804, 8805, 8810, 8811] : List Int)) (inner := [.int .i64 60, .int .i64 62, .int .i64 171, .int .i64 187, .int .i64 8804, .int .i64 8805, .int .i64 8810, .int .i64 8811]) (ok := fun _ => True) (okp := fun _ => True) ?hr ?hp (fun _ hk => hk) trivial (Below.refl _ _) (Nat.le_refl _) (by simp) ?_; (case hd => rfl); (case hg => rfl); (case hr => first | (go_simp; done) | (go_simp; rfl)); (case hp => exact (Reps.one (show Kd.M (Kd.int .i64) _ _ _ 60 [.int .i64 60] from rfl) (Reps.one (show Kd.M (Kd.int .i64) _ _ _ 62 [.int .i64 62] from rfl) (Reps.one (show Kd.M (Kd.int .i64) _ _ _ 171 [.int .i64 171] from rfl) (Reps.one (show Kd.M (Kd.int .i64) _ _ _ 187 [.int .i64 187] from rfl) (Reps.one (show Kd.M (Kd.int .i64) _ _ _ 8804 [.int .i64 8804] from rfl) (Reps.one (show Kd.M (Kd.int .i64) _ _ _ 8805 [.int .i64 8805] from rfl) (Reps.one (show Kd.M (Kd.int .i64) _ _ _ 8810 [.int .i64 8810] from rfl) (Reps.one (show Kd.M (Kd.int .i64) _ _ _ 8811 [.int .i64 8811] from rfl) (Reps.none _ _)))))))))); intro v123 w5 ho6 hb hg_ hnew_; clear hg_ hnew_; (first | rw [← Ny122.out] at ho6 | (simp only [Int.reduceToNat] at ho6; rw [← Ny122.out] at ho6)); have n0_ := Aside0.mk (Kd.R_elder' (by (with_reducible repeat (first | apply Kd.R_alloc | apply Kd.R_drewN | apply Kd.R_drew)); exact HO121.out) (Kd.R_base ho6) hb); have n1_ := Aside0.mk (Kd.R_lower (Kd.R_new' ho6 (Kd.R_lt (by (with_reducible repeat (first | apply Kd.R_alloc | apply Kd.R_drewN | apply Kd.R_drew)); exact HO121.out))) (below_size (by repeat (first | (with_reducible first | exact HB.out | apply below_alloc | apply pw_below_drewN | apply below_drew1) | exact HB.out)))); have n2_ := Aside0.mk (below_step (by repeat (first | (with_reducible first | exact HB.out | apply below_alloc | apply pw_below_drewN | apply below_drew1) | exact HB.out)) hb); clear HO121; clear HB; have HO121 := n0_; have HO124 := n1_; have HB := n2_; clear n0_ n1_ n2_; clear hb ho6; obtain ⟨Ao8, co8, eo8⟩ := Kd.R_slice HO124.out; subst eo8) | ((with_reducible refine gate_builtin (b := .append) (xs := #[.tmp 5, .tmp 6]) rfl ?_); at_builtin; refine Kd.R_append_rows (Kd.int .i64) (w0 := w) w.heap.size rfl (.tmp 5) (.tmp 6) 32 3 (.int .i64 0) 8 rfl Tryz.underlying32 info3 rfl (by decide) (by omega) v120 t119 y122 _ _ _ (fun k_ => some k_ ≠ (.slice Ao8 y122.length co8 : Value).ownBlock) (fun _ => False) rfl rfl ?aO ?aR (fun _ _ h => h) (fun _ h => h.elim) ?aF ?aB ?aS ?aL ?_; (case aR => repeat (first | exact (Kd.R_reads' HO124.out).2.2 | (with_reducible refine Kd.C_alloc ?_ _) | (with_reducible refine Kd.C_drewN ?_ _) | (with_reducible refine Kd.C_drew ?_))); (case aB => exact (by repeat (first | (with_reducible first | exact HB.out | apply below_alloc | apply pw_below_drewN | apply below_drew1) | exact HB.out))); (case aF => exact (fun k_ hk => Kd.fresh' (Kd.R_lt (by (with_reducible repeat (first | apply Kd.R_alloc | apply Kd.R_drewN | apply Kd.R_drew)); exact HO124.out)) k_ hk)); (case aO => exact (by (with_reducible repeat (first | apply Kd.R_alloc | apply Kd.R_drewN | apply Kd.R_drew)); exact Kd.R_mono HO121.out (fun _ hk => hk.2))); (case aS => exact (below_size (by repeat (first | (with_reducible first | exact HB.out | apply below_alloc | apply pw_below_drewN | apply below_drew1) | exact HB.out)))); (case aL => have := LMc3.out; omega); intro v126 w7 ho hb hg hat; rw [← Ny125.out] at ho; have n0_ := Aside0.mk (Kd.R_after (ok := (fun _ => True)) (by (with_reducible repeat (first | apply Kd.R_alloc | apply Kd.R_drewN | apply Kd.R_drew)); exact HO124.out) hg hat); have n1_ := Aside0.mk (hb); have n2_ := Aside0.mk (ho); clear HO124; clear HB; clear HO121; have HO124 := n0_; have HB := n1_; have HO127 := n2_; clear n0_ n1_ n2_; clear ho hb hg hat))
    go_loopg [4] k (fun kq v4 w' => ∃ (x4_1 : Int), v4 = .int .i64 x4_1 ∧ Aside0 (ductusref03_Mirror.l0 kq a0 y125 x4_1 = some r) ∧ Aside0 (kq ≤ k) ∧ Aside0 (Kd.R (Kd.int .i64) 3 w' w.heap.size (fun _ => True) v126 y125) ∧ Aside0 (Below w.heap.size w w'))
    case atStart => exact ⟨(0), (by first | rfl | (simp; done) | (simp [*]; done)), H', ⟨Nat.le_refl _⟩, ⟨by (with_reducible repeat (first | apply Kd.R_alloc | apply Kd.R_drewN | apply Kd.R_drew)); exact Kd.R_mono HO127.out (fun _ hk => trivial)⟩, ⟨by repeat (first | (with_reducible first | exact HB.out | apply below_alloc | apply pw_below_drewN | apply below_drew1) | exact HB.out)⟩⟩
    case round =>
      clear H'
      try clear c1
      try clear p2
      try clear c3
      try clear c4
      obtain ⟨x4_1, rfl, HA, HK1, HO_3, HB⟩ := hrel
      cases gk with
      | zero => exact absurd HA.out (by simp [ductusref03_Mirror.l0])
      | succ k1 =>
        have H := HA.out
        clear HA
        simp only [ductusref03_Mirror.l0] at H
        by_cases c9 : x4_1 < (y125.length : Int)
        · rw [if_pos c9] at H
          have c9b0 : decide (x4_1 < (y125.length : Int)) = true := decide_eq_true c9
          clear c9
          by_cases c10 : 0 ≤ x4_1
          · rw [if_pos c10] at H
            have c10b0 : decide (0 ≤ x4_1) = true := decide_eq_true c10
            clear c10
            by_cases c11 : (rd y125 x4_1) = a0
            · rw [if_pos c11] at H
              have c11b0 : ((rd y125 x4_1) == a0) = true := beq_iff_eq.mpr c11
              have c11b1 : ((rd y125 x4_1) != a0) = false := bne_eq_false_iff_eq.mpr c11
              clear c11
              obtain ⟨ji12, hji12⟩ : ∃ j_ : Int, (wrap64 (x4_1 + 1)) = j_ := ⟨_, rfl⟩
              replace H : (if 0 ≤ (ji12) then (if (ji12) < (y125.length : Int) then (some (rd y125 (ji12))) else (none)) else (none)) = some r := by first | (rw [hji12] at H; exact H) | (simp only [hji12] at H ⊢; exact H)
              have hji12w : (IntKind.i64.wrap (x4_1 + 1)) = ji12 := (i64_w _).trans hji12
              by_cases c13 : 0 ≤ (ji12)
              · rw [if_pos c13] at H
                have c13b0 : decide (0 ≤ (ji12)) = true := decide_eq_true c13
                clear c13
                by_cases c14 : (ji12) < (y125.length : Int)
                · rw [if_pos c14] at H
                  have c14b0 : decide ((ji12) < (y125.length : Int)) = true := decide_eq_true c14
                  clear c14
                  obtain rfl := Option.some.inj H
                  obtain ⟨Ao15, co15, eo15⟩ := Kd.R_slice HO_3.out
                  subst eo15
                  have p128 : 0 ≤ (x4_1 : Int) := of_decide_eq_true (by first | (with_reducible assumption) | assumption)
                  have q128 : x4_1 < (y125.length : Int) := of_decide_eq_true (by first | (with_reducible assumption) | assumption)
                  obtain ⟨ad128, e128, hx128_0⟩ := Kd.at_int (Kd.R_reads' HO_3.out).2.2 x4_1 p128 q128
                  cases e128
                  replace p128 := eq_true p128
                  replace q128 := eq_true q128
                  have p129 : 0 ≤ ((ji12) : Int) := of_decide_eq_true (by first | (with_reducible assumption) | assumption)
                  have q129 : (ji12) < (y125.length : Int) := of_decide_eq_true (by first | (with_reducible assumption) | assumption)
                  obtain ⟨ad129, e129, hx129_0⟩ := Kd.at_int (Kd.R_reads' HO_3.out).2.2 (ji12) p129 q129
                  obtain rfl : ad128 = ad129 := (by injection e129)
                  replace p129 := eq_true p129
                  replace q129 := eq_true q129
                  go_wp2
                  go_ret
                  exact ⟨by first | rfl | (simp [errW_none, errW_some] <;> rfl) | (simp only [← hji12]; first | rfl | (simp [errW_none, errW_some] <;> rfl)) | (simp [*, errW_none, errW_some] <;> rfl), by repeat (first | (with_reducible first | exact HB.out | apply below_alloc | apply pw_below_drewN | apply below_drew1) | exact HB.out)⟩
                · rw [if_neg c14] at H
                  exact absurd H (by simp)
              · rw [if_neg c13] at H
                exact absurd H (by simp)
            · rw [if_neg c11] at H
              have c11b0 : ((rd y125 x4_1) == a0) = false := beq_eq_false_iff_ne.mpr c11
              have c11b1 : ((rd y125 x4_1) != a0) = true := bne_iff_ne.mpr c11
              obtain ⟨ji16, hji16⟩ : ∃ j_ : Int, (wrap64 (x4_1 + 1)) = j_ := ⟨_, rfl⟩
              replace H : (if 0 ≤ (ji16) then (if (ji16) < (y125.length : Int) then (if (rd y125 (ji16)) = a0 then (some (rd y125 x4_1)) else (ductusref03_Mirror.l0 k1 a0 y125 (wrap64 (x4_1 + 2)))) else (none)) else (none)) = some r := by first | (rw [hji16] at H; exact H) | (simp only [hji16] at H ⊢; exact H)
              have hji16w : (IntKind.i64.wrap (x4_1 + 1)) = ji16 := (i64_w _).trans hji16
              by_cases c17 : 0 ≤ (ji16)
              · rw [if_pos c17] at H
                have c17b0 : decide (0 ≤ (ji16)) = true := decide_eq_true c17
                clear c17
                by_cases c18 : (ji16) < (y125.length : Int)
                · rw [if_pos c18] at H
                  have c18b0 : decide ((ji16) < (y125.length : Int)) = true := decide_eq_true c18
                  clear c18
                  by_cases c19 : (rd y125 (ji16)) = a0
                  · rw [if_pos c19] at H
                    have c19b0 : ((rd y125 (ji16)) == a0) = true := beq_iff_eq.mpr c19
                    have c19b1 : ((rd y125 (ji16)) != a0) = false := bne_eq_false_iff_eq.mpr c19
                    clear c19
                    obtain rfl := Option.some.inj H
                    obtain ⟨Ao20, co20, eo20⟩ := Kd.R_slice HO_3.out
                    subst eo20
                    have p128 : 0 ≤ (x4_1 : Int) := of_decide_eq_true (by first | (with_reducible assumption) | assumption)
                    have q128 : x4_1 < (y125.length : Int) := of_decide_eq_true (by first | (with_reducible assumption) | assumption)
                    obtain ⟨ad128, e128, hx128_0⟩ := Kd.at_int (Kd.R_reads' HO_3.out).2.2 x4_1 p128 q128
                    cases e128
                    replace p128 := eq_true p128
                    replace q128 := eq_true q128
                    have p130 : 0 ≤ ((ji16) : Int) := of_decide_eq_true (by first | (with_reducible assumption) | assumption)
                    have q130 : (ji16) < (y125.length : Int) := of_decide_eq_true (by first | (with_reducible assumption) | assumption)
                    obtain ⟨ad130, e130, hx130_0⟩ := Kd.at_int (Kd.R_reads' HO_3.out).2.2 (ji16) p130 q130
                    obtain rfl : ad128 = ad130 := (by injection e130)
                    replace p130 := eq_true p130
                    replace q130 := eq_true q130
                    have p131 : 0 ≤ (x4_1 : Int) := of_decide_eq_true (by first | (with_reducible assumption) | assumption)
                    have q131 : x4_1 < (y125.length : Int) := of_decide_eq_true (by first | (with_reducible assumption) | assumption)
                    obtain ⟨ad131, e131, hx131_0⟩ := Kd.at_int (Kd.R_reads' HO_3.out).2.2 x4_1 p131 q131
                    obtain rfl : ad128 = ad131 := (by injection e131)
                    replace p131 := eq_true p131
                    replace q131 := eq_true q131
                    go_wp2
                    go_ret
                    exact ⟨by first | rfl | (simp [errW_none, errW_some] <;> rfl) | (simp only [← hji16]; first | rfl | (simp [errW_none, errW_some] <;> rfl)) | (simp [*, errW_none, errW_some] <;> rfl), by repeat (first | (with_reducible first | exact HB.out | apply below_alloc | apply pw_below_drewN | apply below_drew1) | exact HB.out)⟩
                  · rw [if_neg c19] at H
                    have c19b0 : ((rd y125 (ji16)) == a0) = false := beq_eq_false_iff_ne.mpr c19
                    have c19b1 : ((rd y125 (ji16)) != a0) = true := bne_iff_ne.mpr c19
                    have H' := Aside0.mk H
                    clear H
                    obtain ⟨Ao21, co21, eo21⟩ := Kd.R_slice HO_3.out
                    subst eo21
                    have p128 : 0 ≤ (x4_1 : Int) := of_decide_eq_true (by first | (with_reducible assumption) | assumption)
                    have q128 : x4_1 < (y125.length : Int) := of_decide_eq_true (by first | (with_reducible assumption) | assumption)
                    obtain ⟨ad128, e128, hx128_0⟩ := Kd.at_int (Kd.R_reads' HO_3.out).2.2 x4_1 p128 q128
                    cases e128
                    replace p128 := eq_true p128
                    replace q128 := eq_true q128
                    have p130 : 0 ≤ ((ji16) : Int) := of_decide_eq_true (by first | (with_reducible assumption) | assumption)
                    have q130 : (ji16) < (y125.length : Int) := of_decide_eq_true (by first | (with_reducible assumption) | assumption)
                    obtain ⟨ad130, e130, hx130_0⟩ := Kd.at_int (Kd.R_reads' HO_3.out).2.2 (ji16) p130 q130
                    obtain rfl : ad128 = ad130 := (by injection e130)
                    replace p130 := eq_true p130
                    replace q130 := eq_true q130
                    go_wp2
                    go_roundg k1
                    case measure => have := HK1.out; omega
                    case rel => exact ⟨(wrap64 (x4_1 + 2)), (by first | rfl | (simp; done) | (simp [*]; done)), H', ⟨by have := HK1.out; omega⟩, ⟨by (with_reducible repeat (first | apply Kd.R_alloc | apply Kd.R_drewN | apply Kd.R_drew)); exact HO_3.out⟩, ⟨by repeat (first | (with_reducible first | exact HB.out | apply below_alloc | apply pw_below_drewN | apply below_drew1) | exact HB.out)⟩⟩
                · rw [if_neg c18] at H
                  exact absurd H (by simp)
              · rw [if_neg c17] at H
                exact absurd H (by simp)
          · rw [if_neg c10] at H
            exact absurd H (by simp)
        · rw [if_neg c9] at H
          have c9b0 : decide (x4_1 < (y125.length : Int)) = false := decide_eq_false c9
          clear c9
          obtain rfl := Option.some.inj H
          obtain ⟨Ao22, co22, eo22⟩ := Kd.R_slice HO_3.out
          subst eo22
          go_wp2
          go_ret
          exact ⟨by first | rfl | (simp [errW_none, errW_some] <;> rfl) | (simp [*, errW_none, errW_some] <;> rfl), by repeat (first | (with_reducible first | exact HB.out | apply below_alloc | apply pw_below_drewN | apply below_drew1) | exact HB.out)⟩
  · rw [if_neg c3] at H
    exact absurd H (by simp)
def ductusref16_turned.l0 : Nat → List Int → Int → Option (List Int)
  | 0, _, _ => none
  | k + 1, x1, x2 => if x2 < 7936 then ((ductusref04_Of.f k x2).bind fun t132 => (if t132 = x2 then (ductusref16_turned.l0 k x1 (wrap64 (x2 + 1))) else (if x1.length < 17592186044416 then (ductusref16_turned.l0 k (x1 ++ [x2]) (wrap64 (x2 + 1))) else (none)))) else (some x1)
def ductusref16_turned.f (k : Nat)  : Option (List Int) := ductusref16_turned.l0 k ([] : List Int) 0
theorem ductusref16_turned.mono_l : ∀ k, (∀ y0 y1, LeO (ductusref16_turned.l0 k y0 y1) (ductusref16_turned.l0 (k + 1) y0 y1))
  | 0 => fun _ _ r h => by simp [ductusref16_turned.l0] at h
  | k + 1 => by
    have ih0 := ductusref16_turned.mono_l k
    · intro y0 y1
      unfold ductusref16_turned.l0
      repeat' first
      | (with_reducible exact ih0 _ _)
      | (with_reducible exact ductusref04_Of.mono _ _)
      | (with_reducible exact LeO.refl _)
      | (with_reducible exact LeO.none _)
      | (with_reducible refine LeO.ite ?_ ?_)
      | (with_reducible refine LeO.bind ?_ (fun _ => ?_))
      | exact ih0 _ _
      | exact ductusref04_Of.mono _ _
      | exact LeO.none _
      | refine LeO.ite ?_ ?_
      | refine LeO.bind ?_ (fun _ => ?_)
theorem ductusref16_turned.mono : ∀ k, LeO (ductusref16_turned.f k ) (ductusref16_turned.f (k + 1) ) := by
  intro  k
  have ih0 := ductusref16_turned.mono_l k
  unfold ductusref16_turned.f
  repeat' first
      | (with_reducible exact ih0 _ _)
      | (with_reducible exact ductusref04_Of.mono _ _)
      | (with_reducible exact LeO.refl _)
      | (with_reducible exact LeO.none _)
      | (with_reducible refine LeO.ite ?_ ?_)
      | (with_reducible refine LeO.bind ?_ (fun _ => ?_))
      | exact ih0 _ _
      | exact ductusref04_Of.mono _ _
      | exact LeO.none _
      | refine LeO.ite ?_ ?_
      | refine LeO.bind ?_ (fun _ => ?_)
set_option maxHeartbeats 8000000 in
set_option maxRecDepth 100000 in
theorem ductusref16_turned.calls (k : Nat)  (r : List Int) (w : World) (h : ductusref16_turned.f k  = some r) :
    Calls Tryz.prog 36 #[] w fun e w' => ∃ v0_ : Value, e = .returned (v0_) ∧ Kd.R (Kd.int .i64) 3 w' w.heap.size (fun _ => True) v0_ r ∧ Below w.heap.size w w' := by
  have HB := Aside0.mk (Below.refl w.heap.size w)
  have H : (ductusref16_turned.l0 k ([] : List Int) 0) = some r := h
  clear h
  have H' := Aside0.mk H
  clear H
  go_enter Tryz.func36, Tryz.ntmps36
  go_wp2
  go_loopg [1, 2] k (fun kq v1 v2 w' => ∃ (x1_1 : List Int) (x2_1 : Int), v2 = .int .i64 x2_1 ∧ Aside0 (ductusref16_turned.l0 kq x1_1 x2_1 = some r) ∧ Aside0 (kq ≤ k) ∧ Aside0 (Kd.R (Kd.int .i64) 3 w' w.heap.size (fun _ => True) v1 x1_1) ∧ Aside0 (Below w.heap.size w w'))
  case atStart => exact ⟨(([] : List Int)), (0), (by first | rfl | (simp; done) | (simp [*]; done)), H', ⟨Nat.le_refl _⟩, ⟨by first | exact Kd.R_nil _ _ _ _ _ | exact Kd.N_nil _ _ _ _ _ | exact Kd.V_nil _ _ _ _ _ | exact Kd.Q_nil _ _ _ _ _ | exact Kd.S_nil _ _ _ _ _⟩, ⟨by repeat (first | (with_reducible first | exact HB.out | apply below_alloc | apply pw_below_drewN | apply below_drew1) | exact HB.out)⟩⟩
  case round =>
    clear H'
    obtain ⟨x1_1, x2_1, rfl, HA, HK1, HO_1, HB⟩ := hrel
    cases gk with
    | zero => exact absurd HA.out (by simp [ductusref16_turned.l0])
    | succ k1 =>
      have H := HA.out
      clear HA
      simp only [ductusref16_turned.l0] at H
      by_cases c1 : x2_1 < 7936
      · rw [if_pos c1] at H
        have c1b0 : decide (x2_1 < 7936) = true := decide_eq_true c1
        clear c1
        replace H := Option.bind_eq_some_iff.mp H
        obtain ⟨t132, A20, H⟩ := H
        replace H : (if t132 = x2_1 then (ductusref16_turned.l0 k1 x1_1 (wrap64 (x2_1 + 1))) else (if x1_1.length < 17592186044416 then (ductusref16_turned.l0 k1 (x1_1 ++ [x2_1]) (wrap64 (x2_1 + 1))) else (none))) = some r := H
        have A2 := Aside0.mk A20
        clear A20
        by_cases c3 : t132 = x2_1
        · rw [if_pos c3] at H
          have c3b0 : (t132 == x2_1) = true := beq_iff_eq.mpr c3
          have c3b1 : (t132 != x2_1) = false := bne_eq_false_iff_eq.mpr c3
          clear c3
          have H' := Aside0.mk H
          clear H
          go_wp2_with (first | ((with_reducible refine gate_callee (f := 18) rfl ?_); refine goesL_ (some 8) rfl rfl Tryz.func18 (by kernel_rfl) rfl #[.int .i64 x2_1] rfl (by (try simp only [List.map_toArray, List.map_cons, List.map_nil]); first | done | rfl | (simp only [List.length_drop, List.length_take]; rfl)) ?_; (with_reducible refine (ductusref04_Of.calls k1 x2_1 t132 _ A2.out).mono ?_); rintro e w' ⟨rfl, ⟨nd, rfl⟩⟩; refine ⟨_, rfl, ?_⟩))
          go_roundg k1
          case measure => have := HK1.out; omega
          case rel => exact ⟨(x1_1), (wrap64 (x2_1 + 1)), (by first | rfl | (simp; done) | (simp [*]; done)), H', ⟨by have := HK1.out; omega⟩, ⟨by (with_reducible repeat (first | apply Kd.R_alloc | apply Kd.R_drewN | apply Kd.R_drew)); exact HO_1.out⟩, ⟨by repeat (first | (with_reducible first | exact HB.out | apply below_alloc | apply pw_below_drewN | apply below_drew1) | exact HB.out)⟩⟩
        · rw [if_neg c3] at H
          have c3b0 : (t132 == x2_1) = false := beq_eq_false_iff_ne.mpr c3
          have c3b1 : (t132 != x2_1) = true := bne_iff_ne.mpr c3
          by_cases c4 : x1_1.length < 17592186044416
          · rw [if_pos c4] at H
            have LMc4 := Aside0.mk c4
            clear c4
            obtain ⟨y133, hy133⟩ : ∃ y_ : List Int, y_ = (x1_1 ++ [x2_1]) := ⟨_, rfl⟩
            replace H : (ductusref16_turned.l0 k1 y133 (wrap64 (x2_1 + 1))) = some r := by first | (rw [hy133]; with_reducible exact H) | (have H2_ := (Option.bind_some _ _).symm.trans H; rw [hy133]; with_reducible exact H2_) | (have H2_ := (Option.bind_some _ _).symm.trans H; with_reducible exact H2_) | with_reducible exact H | (rw [hy133]; exact H) | exact H
            have Ny133 := Aside0.mk hy133
            clear hy133
            have H' := Aside0.mk H
            clear H
            go_wp2_with (first | ((with_reducible refine gate_callee (f := 18) rfl ?_); refine goesL_ (some 8) rfl rfl Tryz.func18 (by kernel_rfl) rfl #[.int .i64 x2_1] rfl (by (try simp only [List.map_toArray, List.map_cons, List.map_nil]); first | done | rfl | (simp only [List.length_drop, List.length_take]; rfl)) ?_; (with_reducible refine (ductusref04_Of.calls k1 x2_1 t132 _ A2.out).mono ?_); rintro e w' ⟨rfl, ⟨nd, rfl⟩⟩; refine ⟨_, rfl, ?_⟩) | ((with_reducible refine gate_builtin (b := .append) (xs := #[.tmp 11, .tmp 13]) rfl ?_); at_builtin; refine Kd.R_append (Kd.int .i64) (w0 := w) w.heap.size rfl (.tmp 11) (.tmp 13) 32 3 (.int .i64 0) 8 rfl Tryz.underlying32 info3 rfl (by decide) (by omega) u1 x1_1 x2_1 [.int .i64 x2_1] (fun _ => True) (fun _ => False) rfl rfl ?aP (fun _ hk => hk.elim) ?aF ?aO ?aB ?aS ?aL ?_; (case aP => exact rfl); (case aB => exact (by repeat (first | (with_reducible first | exact HB.out | apply below_alloc | apply pw_below_drewN | apply below_drew1) | exact HB.out))); (case aF => exact (fun _ _ => trivial)); (case aO => exact (by (with_reducible repeat (first | apply Kd.R_alloc | apply Kd.R_drewN | apply Kd.R_drew)); exact HO_1.out)); (case aS => exact (below_size (by repeat (first | (with_reducible first | exact HB.out | apply below_alloc | apply pw_below_drewN | apply below_drew1) | exact HB.out)))); (case aL => have := LMc4.out; omega); intro v134 w5 ho hb hg hat; rw [← Ny133.out] at ho; have n0_ := Aside0.mk (hb); have n1_ := Aside0.mk (ho); clear HB; clear HO_1; have HB := n0_; have HO135 := n1_; clear n0_ n1_; clear ho hb hg hat))
            go_roundg k1
            case measure => have := HK1.out; omega
            case rel => exact ⟨(y133), (wrap64 (x2_1 + 1)), (by first | rfl | (simp; done) | (simp [*]; done)), H', ⟨by have := HK1.out; omega⟩, ⟨by (with_reducible repeat (first | apply Kd.R_alloc | apply Kd.R_drewN | apply Kd.R_drew)); exact HO135.out⟩, ⟨by repeat (first | (with_reducible first | exact HB.out | apply below_alloc | apply pw_below_drewN | apply below_drew1) | exact HB.out)⟩⟩
          · rw [if_neg c4] at H
            exact absurd H (by simp)
      · rw [if_neg c1] at H
        have c1b0 : decide (x2_1 < 7936) = false := decide_eq_false c1
        clear c1
        obtain rfl := Option.some.inj H
        go_wp2
        go_ret
        exact ⟨_, by first | rfl | (simp [errW_none, errW_some] <;> rfl) | (simp [*, errW_none, errW_some] <;> rfl), by (with_reducible repeat (first | apply Kd.R_alloc | apply Kd.R_drewN | apply Kd.R_drew)); exact HO_1.out, by repeat (first | (with_reducible first | exact HB.out | apply below_alloc | apply pw_below_drewN | apply below_drew1) | exact HB.out)⟩
def ductusref16_one.f (a0 : Int) : Option (Int × Int) := some (a0, a0)
set_option maxHeartbeats 8000000 in
set_option maxRecDepth 100000 in
theorem ductusref16_one.calls (a0 : Int) (r1 : Int) (r2 : Int) (w : World) (h : ductusref16_one.f a0 = some (r1, r2)) :
    Calls Tryz.prog 37 #[.int .i64 a0] w fun e w' => e = .returned (.agg #[.int .i64 r1, .int .i64 r2]) ∧ Below w.heap.size w w' := by
  have hu30 := Tryz.underlying30
  have HB := Aside0.mk (Below.refl w.heap.size w)
  have H : (some (a0, a0)) = some (r1, r2) := h
  clear h
  simp only [Option.some.injEq, Prod.mk.injEq] at H
  obtain ⟨rfl, rfl⟩ := H
  go_enter Tryz.func37, Tryz.ntmps37
  go_wp2_with (first | ((with_reducible refine gate_dst (N := 2) rfl ?_); refine box_event ?hg (N := 2) ?hd (cs := #[.int .i64 0, .int .i64 0]) (t := 30) ?hr ?_; (case hd => rfl); (case hg => rfl); (case hr => first | (go_simp; done) | (go_simp; rfl)); intro gb136 hg w2 hbox hb; have n0_ := Aside0.mk (below_step (by repeat (first | (with_reducible first | exact HB.out | apply below_alloc | apply pw_below_drewN | apply below_drew1) | exact HB.out)) hb); have n1_ := Aside0.mk (hbox); have n2_ := Aside0.mk ((by rw [hg]; exact (below_size (by repeat (first | (with_reducible first | exact HB.out | apply below_alloc | apply pw_below_drewN | apply below_drew1) | exact HB.out))) : w.heap.size ≤ gb136)); have n3_ := Aside0.mk ((by rw [hg]; exact (below_size (by repeat (first | (with_reducible first | exact HB.out | apply below_alloc | apply pw_below_drewN | apply below_drew1) | exact HB.out))) : w.heap.size ≤ gb136)); clear HB; have HB := n0_; have BK136 := n1_; have GW136 := n2_; have GE136 := n3_; clear n0_ n1_ n2_ n3_; clear hb hbox hg; have hcz3_0 : w2.cell? ⟨gb136, 0, none⟩ = some (.int .i64 0) := (blk_cell BK136.out 0).trans rfl; have hcz3_1 : w2.cell? ⟨gb136, 1, none⟩ = some (.int .i64 0) := (blk_cell BK136.out 1).trans rfl; have hfz3_0 := blk_frozen BK136.out 0; have hfz3_1 := blk_frozen BK136.out 1))
  refine bodyPost_ret (results_cell_row rfl _ _ gb136 30 #[.int .i64 a0, .int .i64 a0] (0, 0) _ rfl (by (with_reducible repeat (first | refine blk_drewN ?_ _ | refine blk_drew ?_ | refine blk_alloc ?_ _)); refine blk_put (cs := #[.int .i64 a0, .int .i64 0]) ?_ 1 _ rfl; (with_reducible repeat (first | refine blk_drewN ?_ _ | refine blk_drew ?_ | refine blk_alloc ?_ _)); refine blk_put (cs := #[.int .i64 0, .int .i64 0]) ?_ 0 _ rfl; (with_reducible repeat (first | refine blk_drewN ?_ _ | refine blk_drew ?_ | refine blk_alloc ?_ _)); exact BK136.out) Tryz.underlying30 rfl (by kernel_rfl)) rfl ?_
  exact ⟨by first | rfl | (simp [errW_none, errW_some] <;> rfl) | (simp [*, errW_none, errW_some] <;> rfl), by repeat (first | (with_reducible first | exact HB.out | apply below_alloc | apply pw_below_drewN | apply below_drew1 | refine below_set ?_ GE136.out) | exact HB.out)⟩
def ductusref03_Mirrored.f (k : Nat) (a0 : Int) : Option (Bool) := (ductusref03_Mirror.f k a0).bind fun t137 => (some (t137 != a0))
theorem ductusref03_Mirrored.mono : ∀ a0 k, LeO (ductusref03_Mirrored.f k a0) (ductusref03_Mirrored.f (k + 1) a0) := by
  intro a0 k
  unfold ductusref03_Mirrored.f
  repeat' first
      | (with_reducible exact ductusref03_Mirror.mono _ _)
      | (with_reducible exact LeO.refl _)
      | (with_reducible exact LeO.none _)
      | (with_reducible refine LeO.ite ?_ ?_)
      | (with_reducible refine LeO.bind ?_ (fun _ => ?_))
      | exact ductusref03_Mirror.mono _ _
      | exact LeO.none _
      | refine LeO.ite ?_ ?_
      | refine LeO.bind ?_ (fun _ => ?_)
set_option maxHeartbeats 8000000 in
set_option maxRecDepth 100000 in
theorem ductusref03_Mirrored.calls (k : Nat) (a0 : Int) (r : Bool) (w : World) (h : ductusref03_Mirrored.f k a0 = some r) :
    Calls Tryz.prog 38 #[.int .i64 a0] w fun e w' => e = .returned (.bool r) ∧ Below w.heap.size w w' := by
  have HB := Aside0.mk (Below.refl w.heap.size w)
  have H : ((ductusref03_Mirror.f k a0).bind fun t137 => (some (t137 != a0))) = some r := h
  clear h
  replace H := Option.bind_eq_some_iff.mp H
  obtain ⟨t137, A20, H⟩ := H
  replace H : (some (t137 != a0)) = some r := H
  have A2 := Aside0.mk A20
  clear A20
  obtain rfl := Option.some.inj H
  go_enter Tryz.func38, Tryz.ntmps38
  go_wp2_with (first | ((with_reducible refine gate_callee (f := 19) rfl ?_); refine goesL_ (some 4) rfl rfl Tryz.func19 (by kernel_rfl) rfl #[.int .i64 a0] rfl (by (try simp only [List.map_toArray, List.map_cons, List.map_nil]); first | done | rfl | (simp only [List.length_drop, List.length_take]; rfl)) ?_; (with_reducible refine (ductusref03_Mirror.calls k a0 t137 _ A2.out).mono ?_); rintro e w3 ⟨rfl, hb⟩; refine ⟨_, rfl, ?_⟩; have n0_ := Aside0.mk (below_step (by repeat (first | (with_reducible first | exact HB.out | apply below_alloc | apply pw_below_drewN | apply below_drew1) | exact HB.out)) hb); clear HB; have HB := n0_; clear n0_; (try clear hb); (try clear hb2); (try clear hk); (try clear hi)))
  go_ret
  exact ⟨by first | rfl | (simp [errW_none, errW_some] <;> rfl) | (simp [*, errW_none, errW_some] <;> rfl), by repeat (first | (with_reducible first | exact HB.out | apply below_alloc | apply pw_below_drewN | apply below_drew1) | exact HB.out)⟩
end Go.Proofs.YtglolcejfbhbdaaGreat.P
end
section
namespace Go.Proofs.YtglolcejfbhbdaaGreat.P
open Go.RowKit Go.Shelf Go.Proofs.YtglolcejfbhbdaaGreatW.PrintWords Go.Proofs.YtglolcejfbhbdaaGreatW.PrintLast Go.Proofs.YtglolcejfbhbdaaGreatW.PrintMore
set_option linter.unusedVariables false
set_option linter.unusedSimpArgs false
theorem stL0 : (⟨65, 90, 32⟩ : S76) ∈ stL := by unfold stL; simp
theorem stL2 : (⟨192, 214, 32⟩ : S76) ∈ stL := by unfold stL; simp
theorem stL3 : (⟨216, 222, 32⟩ : S76) ∈ stL := by unfold stL; simp
theorem stL4 : (⟨913, 929, 32⟩ : S76) ∈ stL := by unfold stL; simp
theorem stL5 : (⟨931, 937, 32⟩ : S76) ∈ stL := by unfold stL; simp
theorem stL7 : (⟨1024, 1039, 80⟩ : S76) ∈ stL := by unfold stL; simp
theorem stL8 : (⟨1040, 1071, 32⟩ : S76) ∈ stL := by unfold stL; simp
theorem j4_true (m : Nat) (c : Int) (h0 : 0 ≤ c) (h1 : c ≤ 10000) : ductusref04_Of.j4 (m + 1) c true = some (c + 32) := by
  rw [ductusref04_Of.j4, if_pos rfl, wr64 (c + 32) (by omega) (by omega)]
theorem refOf_at (c : Int) (m : Nat) : ductusref04_Of.f (m + 10) c = some (ofP c) := by
  have ff : (false = true) = False := by simp
  by_cases a1 : 65 ≤ c ∧ c ≤ 90
  · unfold ductusref04_Of.f
    rw [if_pos a1.1, decide_eq_true a1.2, ductusref04_Of.j0, if_pos rfl, j4_true _ c (by omega) (by omega), ofP_in c _ stL0 a1.1 a1.2]
  have e1 : ductusref04_Of.f (m + 10) c = ductusref04_Of.j0 (m + 10) c false := by
    unfold ductusref04_Of.f
    by_cases g : c ≥ 65
    · rw [if_pos g, decide_eq_false (by omega)]
    · rw [if_neg g]
  rw [e1, ductusref04_Of.j0, if_neg (by simp)]
  by_cases a2 : 192 ≤ c ∧ c ≤ 214
  · rw [if_pos a2.1, decide_eq_true a2.2, ductusref04_Of.j1, if_pos rfl, j4_true _ c (by omega) (by omega), ofP_in c _ stL2 a2.1 a2.2]
  have e2 : (if c ≥ 192 then ductusref04_Of.j1 (m + 9) c (decide (c ≤ 214)) else ductusref04_Of.j1 (m + 9) c false) = ductusref04_Of.j1 (m + 9) c false := by
    by_cases g : c ≥ 192
    · rw [if_pos g, decide_eq_false (by omega)]
    · rw [if_neg g]
  rw [e2, ductusref04_Of.j1, if_neg (by simp)]
  by_cases a3 : 216 ≤ c ∧ c ≤ 222
  · rw [if_pos a3.1, decide_eq_true a3.2, ductusref04_Of.j2, if_pos rfl, j4_true _ c (by omega) (by omega), ofP_in c _ stL3 a3.1 a3.2]
  have e3 : (if c ≥ 216 then ductusref04_Of.j2 (m + 8) c (decide (c ≤ 222)) else ductusref04_Of.j2 (m + 8) c false) = ductusref04_Of.j2 (m + 8) c false := by
    by_cases g : c ≥ 216
    · rw [if_pos g, decide_eq_false (by omega)]
    · rw [if_neg g]
  rw [e3, ductusref04_Of.j2, if_neg (by simp)]
  by_cases a4 : 913 ≤ c ∧ c ≤ 929
  · rw [if_pos a4.1, decide_eq_true a4.2, ductusref04_Of.j3, if_pos rfl, j4_true _ c (by omega) (by omega), ofP_in c _ stL4 a4.1 a4.2]
  have e4 : (if c ≥ 913 then ductusref04_Of.j3 (m + 7) c (decide (c ≤ 929)) else ductusref04_Of.j3 (m + 7) c false) = ductusref04_Of.j3 (m + 7) c false := by
    by_cases g : c ≥ 913
    · rw [if_pos g, decide_eq_false (by omega)]
    · rw [if_neg g]
  rw [e4, ductusref04_Of.j3, if_neg (by simp)]
  by_cases a5 : 931 ≤ c ∧ c ≤ 937
  · rw [if_pos a5.1, if_pos a5.2, decide_eq_true a5.2, j4_true _ c (by omega) (by omega), ofP_in c _ stL5 a5.1 a5.2]
  have e5 : (if c ≥ 931 then (if c ≤ 937 then ductusref04_Of.j4 (m + 6) c (decide (c ≤ 937)) else (if c ≥ 1040 then ductusref04_Of.j4 (m + 6) c (decide (c ≤ 1071)) else ductusref04_Of.j4 (m + 6) c false)) else (if c ≥ 1040 then ductusref04_Of.j4 (m + 6) c (decide (c ≤ 1071)) else ductusref04_Of.j4 (m + 6) c false)) = (if c ≥ 1040 then ductusref04_Of.j4 (m + 6) c (decide (c ≤ 1071)) else ductusref04_Of.j4 (m + 6) c false) := by
    by_cases g : c ≥ 931
    · rw [if_pos g, if_neg (by omega)]
    · rw [if_neg g]
  rw [e5]
  by_cases a6 : 1040 ≤ c ∧ c ≤ 1071
  · rw [if_pos a6.1, decide_eq_true a6.2, j4_true _ c (by omega) (by omega), ofP_in c _ stL8 a6.1 a6.2]
  have e6 : (if c ≥ 1040 then ductusref04_Of.j4 (m + 6) c (decide (c ≤ 1071)) else ductusref04_Of.j4 (m + 6) c false) = ductusref04_Of.j4 (m + 6) c false := by
    by_cases g : c ≥ 1040
    · rw [if_pos g, decide_eq_false (by omega)]
    · rw [if_neg g]
  rw [e6, ductusref04_Of.j4, if_neg (by simp)]
  by_cases a7 : 1024 ≤ c ∧ c ≤ 1039
  · rw [if_pos a7.1, decide_eq_true a7.2, ductusref04_Of.j5, if_pos rfl, wr64 (c + 80) (by omega) (by omega), ofP_in c _ stL7 a7.1 a7.2]
  have e7 : (if c ≥ 1024 then ductusref04_Of.j5 (m + 5) c (decide (c ≤ 1039)) else ductusref04_Of.j5 (m + 5) c false) = ductusref04_Of.j5 (m + 5) c false := by
    by_cases g : c ≥ 1024
    · rw [if_pos g, decide_eq_false (by omega)]
    · rw [if_neg g]
  rw [e7, ductusref04_Of.j5, if_neg (by simp)]
  by_cases a8 : c = 181
  · subst a8; rfl
  by_cases a9 : c = 962
  · subst a9; rfl
  by_cases a10 : c = 7838
  · subst a10; rfl
  rw [if_neg a8, if_neg a9, if_neg a10]
  refine congrArg some (Eq.symm ?_)
  rcases ofP_cases c with ⟨t, ht, g0, g1, hc⟩ | ⟨hc, _⟩
  · exfalso
    clear hc e1 e2 e3 e4 e5 e6 e7 ff
    simp only [stL, List.mem_cons, List.not_mem_nil, or_false] at ht
    rcases ht with rfl | rfl | rfl | rfl | rfl | rfl | rfl | rfl | rfl | rfl <;> dsimp only at g0 g1 <;> omega
  · exact hc
def mirF (c : Int) : List Int → Int
  | a :: b :: l => if a = c then b else if b = c then a else mirF c l
  | _ => c
def brA : List Int := [40, 41, 91, 93, 123, 125, 9001, 9002, 12296, 12297, 12298, 12299, 12300, 12301, 12302, 12303, 12304, 12305, 60, 62, 171, 187, 8804, 8805, 8810, 8811]
theorem mirF_at : ∀ q ∈ mirL26, mirF q brA = mirrorP q := by decide
theorem mirF_else (c : Int) : ∀ (n : Nat) (l : List Int), l.length ≤ n → (∀ q ∈ l, q ≠ c) → mirF c l = c
  | _, [], _, _ => rfl
  | _, [_], _, _ => rfl
  | 0, a :: b :: l, hn, _ => by simp at hn
  | n + 1, a :: b :: l, hn, h => by
    rw [mirF, if_neg (h a (by simp)), if_neg (h b (by simp))]
    exact mirF_else c n l (by simp at hn; omega) (fun q hq => h q (by simp [hq]))
theorem mirrorP_else (c : Int) (h : c ∉ mirL26) : mirrorP c = c := by
  have h1 : mirL.find? (fun p => decide (p.1 = c)) = none := List.find?_eq_none.2 (fun p hp => by
    have : p.1 ∈ mirL26 := (show ∀ p ∈ mirL, p.1 ∈ mirL26 by decide) p hp
    simp only [decide_eq_true_eq]
    intro h2
    exact h (h2 ▸ this))
  have h2 : brL.find? (fun p => decide (p.1 = c)) = none := List.find?_eq_none.2 (fun p hp => by
    have : p.1 ∈ mirL26 := (show ∀ p ∈ brL, p.1 ∈ mirL26 by decide) p hp
    simp only [decide_eq_true_eq]
    intro h2
    exact h (h2 ▸ this))
  have h3 : brL.find? (fun p => decide (p.2 = c)) = none := List.find?_eq_none.2 (fun p hp => by
    have : p.2 ∈ mirL26 := (show ∀ p ∈ brL, p.2 ∈ mirL26 by decide) p hp
    simp only [decide_eq_true_eq]
    intro h2
    exact h (h2 ▸ this))
  unfold mirrorP otherP
  rw [h1, h2, h3]
  rfl
theorem mirF_eq (c : Int) : mirF c brA = mirrorP c := by
  by_cases h : c ∈ mirL26
  · exact mirF_at c h
  · rw [mirrorP_else c h]
    refine mirF_else c 26 brA (by decide) (fun q hq he => h ?_)
    have : ∀ q ∈ brA, q ∈ mirL26 := by decide
    exact he ▸ this q hq
theorem rdI_get (l : List Int) (i : Nat) (h : i < l.length) : rd l i = l[i] := by simp [rd, List.getD_eq_getElem?_getD, h]
theorem refMirror_l0 (c : Int) (L : List Int) (hL : L.length ≤ 100) : ∀ (n i : Nat), i + 2 * n = L.length → Ends (fun k => ductusref03_Mirror.l0 k c L i) (mirF c (L.drop i))
  | 0, i, hi => by
    rw [List.drop_of_length_le (by omega)]
    refine Ends.succ (Ends.pure _) (fun k => ?_)
    rw [ductusref03_Mirror.l0, if_neg (by omega)]
    rfl
  | n + 1, i, hi => by
    have ih := refMirror_l0 c L hL n (i + 2) (by omega)
    have h1 : i < L.length := by omega
    have h2 : i + 1 < L.length := by omega
    rw [List.drop_eq_getElem_cons h1, List.drop_eq_getElem_cons h2, mirF]
    have e1 := rdI_get L i h1
    have e2 : rd L ((i : Int) + 1) = L[i + 1] := rdI_get L (i + 1) h2
    have w1 : wrap64 ((i : Int) + 1) = (i : Int) + 1 := wr64 _ (by omega) (by omega)
    have w2 : wrap64 ((i : Int) + 2) = ((i + 2 : Nat) : Int) := by rw [wr64 _ (by omega) (by omega)]; omega
    by_cases g1 : L[i] = c
    · rw [if_pos g1]
      refine Ends.succ (Ends.pure _) (fun k => ?_)
      rw [ductusref03_Mirror.l0, if_pos (by omega), if_pos (by omega), e1, if_pos g1, w1, if_pos (by omega), if_pos (by omega), e2]
    · rw [if_neg g1]
      by_cases g2 : L[i + 1] = c
      · rw [if_pos g2]
        refine Ends.succ (Ends.pure _) (fun k => ?_)
        rw [ductusref03_Mirror.l0, if_pos (by omega), if_pos (by omega), e1, if_neg g1, w1, if_pos (by omega), if_pos (by omega), e2, if_pos g2]
      · rw [if_neg g2]
        refine Ends.succ ih (fun k => ?_)
        rw [ductusref03_Mirror.l0, if_pos (by omega), if_pos (by omega), e1, if_neg g1, w1, if_pos (by omega), if_pos (by omega), e2, if_neg g2, w2]
theorem refMirror (c : Int) : Ends (fun k => ductusref03_Mirror.f k c) (mirrorP c) := by
  rw [← mirF_eq]
  exact Ends.congr (refMirror_l0 c brA (by decide) 13 0 (by decide)) (fun k => rfl)
end Go.Proofs.YtglolcejfbhbdaaGreat.P
end
section
namespace Go.Proofs.YtglolcejfbhbdaaGreat.P
open Go.RowKit Go.Shelf Go.Proofs.YtglolcejfbhbdaaGreatW.PrintWords Go.Proofs.YtglolcejfbhbdaaGreatW.PrintLast Go.Proofs.YtglolcejfbhbdaaGreatW.PrintMore
set_option linter.unusedVariables false
set_option linter.unusedSimpArgs false
theorem ofP_small (c : Int) (h : ofP c ≠ c) : ofP c ≤ 1119 := by
  rcases ofP_cases c with ⟨t, ht, g0, g1, hc⟩ | ⟨hc, _⟩
  · have := (show ∀ s ∈ stL, s.f1 + s.f2 ≤ 1119 by decide) t ht
    omega
  · exact absurd hc h
theorem kin_all (s : List S30) (h : Norm s) (c : Int) : ((∃ k : Int, 0 ≤ k ∧ k < 7936 ∧ ofP k = ofP c ∧ rm s k) ∨ rm s c) ↔ ∃ q, rm s q ∧ ofP q = ofP c := by
  constructor
  · rintro (⟨k, _, _, h1, h2⟩ | h1)
    · exact ⟨k, h2, h1⟩
    · exact ⟨c, h1, rfl⟩
  · rintro ⟨q, h1, h2⟩
    have hb := h.bound h1
    by_cases hq : q < 7936
    · exact .inl ⟨q, hb.1, hq, h2, h1⟩
    · right
      have h3 : ofP q = q := by
        by_cases h4 : ofP q = q
        · exact h4
        · have := ofP_low q h4; omega
      have h5 : ofP c = c := by
        by_cases h4 : ofP c = c
        · exact h4
        · have := ofP_small c h4; omega
      rw [h3, h5] at h2
      exact h2 ▸ h1
theorem fold1_self (a : List S30) (h : Norm a) (hl : a.length ≤ 499) (hc : ∀ c q, inTop c → rm a q → ofP q = ofP c → rm a c) : fold1 a = a := by
  have h1 : addAll a (yields1 a 7936) = a := addAll_same _ a h hl (fun y hy ht => by
    obtain ⟨q, g1, g2, _⟩ := (yields1_iff a y).1 hy
    exact hc y q ht g1 g2)
  unfold fold1
  rw [h1]
  exact setL_self h (by omega)
theorem mirr1_self (a : List S30) (h : Norm a) (hl : a.length ≤ 499) (hc : ∀ q ∈ mirL26, rm a q → rm a (mirrorP q)) : mirr1 a = a := by
  have h1 : addAll a (yields2 a mirL26) = a := addAll_same _ a h hl (fun y hy ht => by
    obtain ⟨q, g1, g2, g3⟩ := (yields2_mem a mirL26 y).1 hy
    exact g3 ▸ hc q g1 g2)
  unfold mirr1
  rw [h1]
  exact setL_self h (by omega)
theorem flags1 : (Go.bits .and .i64 1 1 != 0) = true ∧ (Go.bits .and .i64 1 2 != 0) = false := by decide
theorem flags2 : (Go.bits .and .i64 2 1 != 0) = false ∧ (Go.bits .and .i64 2 2 != 0) = true := by decide
theorem flags3 : (Go.bits .and .i64 3 1 != 0) = true ∧ (Go.bits .and .i64 3 2 != 0) = true := by decide
theorem flags0 : (Go.bits .and .i64 0 1 != 0) = false ∧ (Go.bits .and .i64 0 2 != 0) = false := by decide
theorem closeL_1 (l : List S30) : closeL l 1 = fold1 (setL l) := by
  unfold closeL
  simp only [flags1.1, flags1.2, if_true, Bool.false_eq_true, if_false]
theorem closeL_2 (l : List S30) : closeL l 2 = mirr1 (setL l) := by
  unfold closeL
  simp only [flags2.1, flags2.2, if_true, Bool.false_eq_true, if_false]
theorem closeL_3 (l : List S30) : closeL l 3 = mirr1 (fold1 (setL l)) := by
  unfold closeL
  simp only [flags3.1, flags3.2, if_true]
theorem closeL_0 (l : List S30) : closeL l 0 = setL l := by
  unfold closeL
  simp only [flags0.1, flags0.2, Bool.false_eq_true, if_false]
theorem mir_alone (q c : Int) (hq : q ∈ mirL26) (h : ofP q = ofP c) : c = q := by
  have h1 : ofP q = q := by
    rcases ofP_cases q with ⟨t, ht, g0, g1, hc⟩ | ⟨hc, _⟩
    · have := (show ∀ q ∈ mirL26, ∀ s ∈ stL, q < s.f0 ∨ s.f1 < q by decide) q hq t ht
      omega
    · exact hc
  rcases ofP_cases c with ⟨t, ht, g0, g1, hc⟩ | ⟨hc, _⟩
  · have := (show ∀ q ∈ mirL26, ∀ s ∈ stL, q < s.f0 + s.f2 ∨ s.f1 + s.f2 < q by decide) q hq t ht
    omega
  · rw [h1, hc] at h
    exact h.symm
section
variable (l : List S30) (hl : l.length ≤ 30)
  include hl
theorem cl_a : Norm (closeL l 1) ∧ (closeL l 1).length ≤ 292 ∧ ∀ c, rm (closeL l 1) c ↔ inTop c ∧ ∃ q, rm (setL l) q ∧ ofP q = ofP c := by
  have h1 := setL_short l
  obtain ⟨n, m, k⟩ := fold1_spec (setL l) (setL_norm l) (by omega)
  rw [closeL_1]
  exact ⟨n, by omega, m⟩
theorem cl_aa : closeL (closeL l 1) 1 = closeL l 1 := by
  obtain ⟨n, k, m⟩ := cl_a l hl
  rw [closeL_1 (closeL l 1), setL_self n (by omega)]
  refine fold1_self _ n (by omega) (fun c q ht hq he => ?_)
  obtain ⟨_, p, hp, he2⟩ := (m q).1 hq
  exact (m c).2 ⟨ht, p, hp, he2.trans he⟩
theorem cl_b : ∀ c, rm (closeL l 2) c ↔ rm (setL l) c ∨ rm (setL l) (mirrorP c) := by
  have h1 := setL_short l
  obtain ⟨n, m, k⟩ := mirr1_spec (setL l) (setL_norm l) (by omega)
  rw [closeL_2]
  intro c
  rw [m c]
  constructor
  · rintro (h | ⟨⟨q, h2, h3, h4⟩, _⟩)
    · exact .inl h
    · right
      rw [← h4, (mir26_inv q h2).2.1]
      exact h3
  · rintro (h | h)
    · exact .inl h
    · by_cases hc : c ∈ mirL26
      · have hi := mir26_inv c hc
        have hb := (show ∀ q ∈ mirL26, 0 ≤ q ∧ q ≤ 20000 by decide) c hc
        exact .inr ⟨⟨mirrorP c, hi.1, h, hi.2.1⟩, by unfold inTop; omega⟩
      · rw [mirrorP_else c hc] at h
        exact .inl h
theorem cl_d : Norm (closeL l 3) ∧ (closeL l 3).length ≤ 318 ∧ ∀ c, rm (closeL l 3) c ↔ rm (closeL l 1) c ∨ ((∃ q ∈ mirL26, rm (closeL l 1) q ∧ mirrorP q = c) ∧ inTop c) := by
  obtain ⟨n, k, _⟩ := cl_a l hl
  obtain ⟨n2, m2, k2⟩ := mirr1_spec (closeL l 1) n (by omega)
  rw [closeL_3, ← closeL_1]
  exact ⟨n2, by omega, m2⟩
theorem cl_dd : closeL (closeL l 3) 3 = closeL l 3 := by
  obtain ⟨n, k, m⟩ := cl_a l hl
  obtain ⟨n2, k2, m2⟩ := cl_d l hl
  have hf : fold1 (closeL l 3) = closeL l 3 := by
    refine fold1_self _ n2 (by omega) (fun c q ht hq he => ?_)
    rcases (m2 q).1 hq with h | ⟨⟨p, hp, h3, h4⟩, _⟩
    · obtain ⟨_, p, hp, he2⟩ := (m q).1 h
      exact (m2 c).2 (.inl ((m c).2 ⟨ht, p, hp, he2.trans he⟩))
    · have hq2 : q ∈ mirL26 := h4 ▸ (mir26_inv p hp).1
      have := mir_alone q c hq2 he
      exact this ▸ hq
  have hm : mirr1 (closeL l 3) = closeL l 3 := by
    refine mirr1_self _ n2 (by omega) (fun q hq hr => ?_)
    have hi := mir26_inv q hq
    have hb := (show ∀ q ∈ mirL26, 0 ≤ q ∧ q ≤ 20000 by decide) (mirrorP q) hi.1
    rcases (m2 q).1 hr with h | ⟨⟨p, hp, h3, h4⟩, _⟩
    · exact (m2 _).2 (.inr ⟨⟨q, hq, h, rfl⟩, by unfold inTop; omega⟩)
    · rw [← h4, (mir26_inv p hp).2.1]
      exact (m2 p).2 (.inl h3)
  rw [closeL_3 (closeL l 3), setL_self n2 (by omega), hf, hm]
theorem cl_sub (c : Int) (h : rm (closeL l 1) c) : rm (closeL l 3) c := ((cl_d l hl).2.2 c).2 (.inl h)
end
theorem has17 (A : Option Addr) (c0 : Nat) (s : List S30) (c : Int) (w : World) (hr : Kd.C k30 w A s.length s) (hc : s.length ≤ c0) (hl : s.length ≤ 1000000) :
    Calls Tryz.prog 17 #[.slice A s.length c0, .int .i64 c] w fun e w' => e = .returned (.bool (hasS s c)) ∧ Below w.heap.size w w' := by
  obtain ⟨K, hK⟩ := refHas s c hl
  refine (ductusref16_Has.calls K A c0 s c _ w hr hc (hK K (Nat.le_refl _))).mono ?_
  rintro e w' ⟨rfl, hd⟩
  exact ⟨rfl, hd.below⟩
theorem mir19 (c : Int) (w : World) : Calls Tryz.prog 19 #[.int .i64 c] w fun e w' => e = .returned (.int .i64 (mirrorP c)) ∧ Below w.heap.size w w' := by
  obtain ⟨K, hK⟩ := refMirror c
  exact ductusref03_Mirror.calls K c _ w (hK K (Nat.le_refl _))
theorem same9 (A : Option Addr) (c0 : Nat) (A1 : Option Addr) (c1 : Nat) (s : List S30) (w : World) (hr : Kd.C k30 w A s.length s) (hc : s.length ≤ c0) (hr1 : Kd.C k30 w A1 s.length s) (hc1 : s.length ≤ c1) (hl : s.length ≤ 1000000) :
    Calls Tryz.prog 9 #[.slice A s.length c0, .slice A1 s.length c1] w fun e w' => e = .returned (.bool true) ∧ Below w.heap.size w w' := by
  obtain ⟨K, hK⟩ := refSame s hl
  refine (ductusref16_SameSets.calls K A c0 s A1 c1 s _ w hr hc hr1 hc1 (hK K (Nat.le_refl _))).mono ?_
  rintro e w' ⟨rfl, hd⟩
  exact ⟨rfl, hd.below⟩
theorem of18 (c : Int) (w : World) : Calls Tryz.prog 18 #[.int .i64 c] w fun e w' => e = .returned (.int .i64 (ofP c)) ∧ Below w.heap.size w w' := by
  refine (ductusref04_Of.calls 10 c _ w (refOf_at c 0)).mono ?_
  rintro e w' ⟨rfl, hd⟩
  exact ⟨rfl, hd.below⟩
def kn (s : List S30) (c : Int) (n : Nat) : Bool := (List.range n).any (fun (k : Nat) => decide (ofP (k : Int) = ofP c) && hasS s (k : Int))
theorem kn_succ (s : List S30) (c : Int) (n : Nat) : kn s c (n + 1) = (kn s c n || (decide (ofP (n : Int) = ofP c) && hasS s (n : Int))) := by
  unfold kn
  rw [List.range_succ, List.any_append]
  simp
theorem kn_iff (s : List S30) (c : Int) : kn s c 7936 = true ↔ ∃ k : Int, 0 ≤ k ∧ k < 7936 ∧ ofP k = ofP c ∧ rm s k := by
  unfold kn
  rw [List.any_eq_true]
  constructor
  · rintro ⟨k, h1, h2⟩
    rw [List.mem_range] at h1
    rw [Bool.and_eq_true, decide_eq_true_eq, hasS_rm] at h2
    exact ⟨k, by omega, by omega, h2⟩
  · rintro ⟨k, h0, h1, h2, h3⟩
    refine ⟨k.toNat, List.mem_range.2 (by omega), ?_⟩
    rw [Bool.and_eq_true, decide_eq_true_eq, hasS_rm, show ((k.toNat : Nat) : Int) = k by omega]
    exact ⟨h2, h3⟩
theorem hasA (l : List S30) (hl : l.length ≤ 30) (c : Int) : hasS (closeL l 1) c = (decide (0 ≤ c ∧ c ≤ 1114111) && (kn (setL l) c 7936 || hasS (setL l) c)) := by
  rw [Bool.eq_iff_iff, Bool.and_eq_true, Bool.or_eq_true, decide_eq_true_eq, hasS_rm, hasS_rm, kn_iff, (cl_a l hl).2.2 c, kin_all _ (setL_norm l) c]
  rfl
theorem hasB (l : List S30) (hl : l.length ≤ 30) (c : Int) : hasS (closeL l 2) c = (hasS (setL l) c || hasS (setL l) (mirrorP c)) := by
  rw [Bool.eq_iff_iff, Bool.or_eq_true, hasS_rm, hasS_rm, hasS_rm, cl_b l hl c]
theorem hasD (l : List S30) (hl : l.length ≤ 30) (c : Int) (h : hasS (closeL l 1) c = true) : hasS (closeL l 3) c = true :=
  (hasS_rm _ _).2 (cl_sub l hl c ((hasS_rm _ _).1 h))
end Go.Proofs.YtglolcejfbhbdaaGreat.P
end
section
namespace Go.Proofs.YtglolcejfbhbdaaGreat.P
open Go.RowKit Go.Shelf Go.Proofs.YtglolcejfbhbdaaGreatW.PrintWords Go.Proofs.YtglolcejfbhbdaaGreatW.PrintLast Go.Proofs.YtglolcejfbhbdaaGreatW.PrintMore
set_option linter.unusedVariables false
set_option linter.unusedSimpArgs false
structure SetBack (W : World) (s : List S30) (e : Ending) (w' : World) : Prop where
  ret : ∃ A c, e = .returned (.slice A s.length c) ∧ s.length ≤ c ∧ Kd.C k30 w' A s.length s
  below : Below W.heap.size W w'
theorem closeC (A : Option Addr) (c0 : Nat) (l : List S30) (fl : Int) (W : World) (h : Kd.C k30 W A l.length l) (hc : l.length ≤ c0) : Calls Tryz.prog 12 #[.slice A l.length c0, .int .i64 fl] W (SetBack W (closeL l fl)) := by
  refine (tree_Close.calls A c0 l fl _ W h hc rfl).mono ?_
  rintro e w' ⟨v, rfl, hR, hb⟩
  obtain ⟨A1, c1, rfl, h1, h2⟩ := R_listR hR
  exact ⟨⟨A1, c1, rfl, h1, h2⟩, hb⟩
theorem setC (A : Option Addr) (c0 : Nat) (l : List S30) (W : World) (h : Kd.C k30 W A l.length l) (hc : l.length ≤ c0) : Calls Tryz.prog 10 #[.slice A l.length c0] W (SetBack W (setL l)) := by
  refine (tree_Set.calls A c0 l _ W h hc rfl).mono ?_
  rintro e w' ⟨v, rfl, hR, hb⟩
  obtain ⟨A1, c1, rfl, h1, h2⟩ := R_listR hR
  exact ⟨⟨A1, c1, rfl, h1, h2⟩, hb⟩
set_option maxRecDepth 100000 in
set_option maxHeartbeats 1000000 in
theorem closes_long (A0 : Option Addr) (c0 : Nat) (l : List S30) (c : Int) (w : World) (hl : 30 < l.length) :
    Calls Tryz.prog 5 #[.slice A0 l.length c0, .int .i64 c] w fun e w' => e = .returned (.bool true) ∧ Below w.heap.size w w' := by
  have b0 : decide (30 < (l.length : Int)) = true := decide_eq_true (by omega)
  have b1 : decide (30 < l.length) = true := decide_eq_true hl
  clear hl
  go_enter Tryz.func5, Tryz.ntmps5
  go_wp2_with fail
  refine (ductuslaw16_alive.calls true _ rfl).mono ?_
  rintro e w1 ⟨rfl, hb1⟩
  go_wp2_with fail
  go_ret
  exact ⟨rfl, hb1⟩
end Go.Proofs.YtglolcejfbhbdaaGreat.P
end
section
namespace Go.Proofs.YtglolcejfbhbdaaGreat.P
open Go.RowKit Go.Shelf Go.Proofs.YtglolcejfbhbdaaGreatW.PrintWords Go.Proofs.YtglolcejfbhbdaaGreatW.PrintLast Go.Proofs.YtglolcejfbhbdaaGreatW.PrintMore
set_option linter.unusedVariables false
set_option linter.unusedSimpArgs false
set_option maxRecDepth 100000 in
set_option maxHeartbeats 16000000 in
theorem closes_I (A0 : Option Addr) (c0 : Nat) (l : List S30) (c : Int) (w : World) (hr0 : Kd.C k30 w A0 l.length l) (hc0 : l.length ≤ c0) (hl : ¬ 30 < l.length) (hc1 : 0 ≤ c) (hc2 : c ≤ 1114111) :
    Calls Tryz.prog 5 #[.slice A0 l.length c0, .int .i64 c] w fun e w' => e = .returned (.bool true) ∧ Below w.heap.size w w' := by
  have b0 : decide (30 < (l.length : Int)) = false := decide_eq_false (by omega)
  have b1 : decide (30 < l.length) = false := decide_eq_false hl
  have hl30 : l.length ≤ 30 := by omega
  have HIN := Aside0.mk (show decide (0 ≤ c ∧ c ≤ 1114111) = true from decide_eq_true ⟨hc1, hc2⟩)
  have d0 : decide (0 ≤ c) = true := decide_eq_true hc1
  have d1 : decide (c ≤ 1114111) = true := decide_eq_true hc2
  clear hc1 hc2
  have hcl := fun (fl : Int) (W : World) (hW : Below w.heap.size w W) => closeC A0 c0 l fl W (Kd.C_below hr0 hW) hc0
  have k1 := hcl 1
  have k2 := hcl 2
  have k3 := hcl 3
  have k0 := hcl 0
  rw [closeL_0] at k0
  have HS0 := Aside0.mk (fun (W : World) (hW : Below w.heap.size w W) => setC A0 c0 l W (Kd.C_below hr0 hW) hc0)
  have ka := fun (A : Option Addr) (c1 : Nat) (W : World) (h : Kd.C k30 W A (closeL l 1).length (closeL l 1)) (hc : (closeL l 1).length ≤ c1) => closeC A c1 (closeL l 1) 1 W h hc
  have kd := fun (A : Option Addr) (c1 : Nat) (W : World) (h : Kd.C k30 W A (closeL l 3).length (closeL l 3)) (hc : (closeL l 3).length ≤ c1) => closeC A c1 (closeL l 3) 3 W h hc
  rw [cl_aa l hl30] at ka
  rw [cl_dd l hl30] at kd
  have HA := Aside0.mk (hasA l hl30 c)
  have HBm := Aside0.mk (hasB l hl30 c)
  have HD := Aside0.mk (hasD l hl30 c)
  have na : (closeL l 1).length ≤ 1000000 := by have := (cl_a l hl30).2.1; omega
  have nd : (closeL l 3).length ≤ 1000000 := by have := (cl_d l hl30).2.1; omega
  have ns : (setL l).length ≤ 1000000 := by have := setL_short l; omega
  have HNA := Aside0.mk na
  have HND := Aside0.mk nd
  have HNS := Aside0.mk ns
  clear hcl na nd ns hl30 hl hr0 hc0
  generalize closeL l 1 = a at *
  generalize closeL l 2 = b at *
  generalize closeL l 3 = d at *
  generalize setL l = s at *
  have K1 := Aside0.mk k1
  have K2 := Aside0.mk k2
  have K3 := Aside0.mk k3
  have K0 := Aside0.mk k0
  have KA := Aside0.mk ka
  have KD := Aside0.mk kd
  clear k1 k2 k3 k0 ka kd
  have HB0 := Aside0.mk (Below.refl w.heap.size w)
  go_enter Tryz.func5, Tryz.ntmps5
  go_wp2_with fail
  refine (ductuslaw16_alive.calls true _ rfl).mono ?_
  rintro e w1 ⟨rfl, hb1⟩
  have HB1 := Aside0.mk hb1
  clear hb1 HB0
  go_wp2_with fail
  refine (K1.out w1 HB1.out).mono ?_
  rintro e w2 ⟨⟨Aa, ca, rfl, hca, ga⟩, hb2⟩
  have HB2 := Aside0.mk (HB1.out.trans (hb2.mono HB1.out.size))
  have GA := Aside0.mk ga
  have LA := Aside0.mk hca
  clear hb2 HB1 ga hca
  go_wp2_with fail
  refine (K2.out w2 HB2.out).mono ?_
  rintro e w3 ⟨⟨Ab, cb, rfl, hcb, gb⟩, hb3⟩
  have HB3 := Aside0.mk (HB2.out.trans (hb3.mono HB2.out.size))
  have GA3 := Aside0.mk (Kd.C_below GA.out hb3)
  have GB := Aside0.mk gb
  have LB := Aside0.mk hcb
  clear hb3 HB2 gb hcb GA
  go_wp2_with fail
  refine (K3.out w3 HB3.out).mono ?_
  rintro e w4 ⟨⟨Ad, cd, rfl, hcd, gd⟩, hb4⟩
  have HB4 := Aside0.mk (HB3.out.trans (hb4.mono HB3.out.size))
  have GA4 := Aside0.mk (Kd.C_below GA3.out hb4)
  have GB4 := Aside0.mk (Kd.C_below GB.out hb4)
  have GD := Aside0.mk gd
  have LD := Aside0.mk hcd
  clear hb4 HB3 gd hcd GA3 GB
  go_wp2_with fail
  refine (HS0.out w4 HB4.out).mono ?_
  rintro e w5 ⟨⟨As, cs, rfl, hcs, gs⟩, hb5⟩
  have HB5 := Aside0.mk (HB4.out.trans (hb5.mono HB4.out.size))
  have GA5 := Aside0.mk (Kd.C_below GA4.out hb5)
  have GB5 := Aside0.mk (Kd.C_below GB4.out hb5)
  have GD5 := Aside0.mk (Kd.C_below GD.out hb5)
  have GS5 := Aside0.mk gs
  have LS := Aside0.mk hcs
  clear hb5 HB4 gs hcs GA4 GB4 GD
  go_wp2_with fail
  go_loopg [10, 11] 7936 (fun kq v10 v11 w' => ∃ i : Nat, v11 = .int .i64 i ∧ i ≤ 7936 ∧ 7936 - i ≤ kq ∧ v10 = .bool (kn s c i) ∧ Aside0 (Below w5.heap.size w5 w'))
  case atStart => exact ⟨0, rfl, by omega, by omega, rfl, ⟨Below.refl _ _⟩⟩
  case round =>
    obtain ⟨i, rfl, hi, hk, rfl, HW⟩ := hrel
    by_cases hlt : i < 7936
    · have hlt' : (i : Int) < 7936 := by omega
      have HK := Aside0.mk (kn_succ s c i)
      cases hkn : kn s c i with
      | true =>
        rw [hkn] at HK
        go_wp2_with fail
        go_roundg (7936 - (i + 1))
        case measure => omega
        case rel => exact ⟨i + 1, by go_num, by omega, by omega, by rw [HK.out]; rfl, HW⟩
      | false =>
        rw [hkn] at HK
        by_cases ho : ofP (i : Int) = ofP c
        · have HK2 := Aside0.mk (show kn s c (i + 1) = hasS s (i : Int) by rw [HK.out, decide_eq_true ho]; simp)
          have o1 := fun W => of18 (i : Int) W
          have o2 := fun W => of18 c W
          rw [ho] at o1
          clear ho HK
          generalize ofP c = oc at o1 o2
          go_wp2_with fail
          refine (o1 _).mono ?_
          rintro e u1 ⟨rfl, hv1⟩
          have HW1 := Aside0.mk (HW.out.trans (hv1.mono HW.out.size))
          clear hv1
          go_wp2_with fail
          refine (o2 _).mono ?_
          rintro e u2 ⟨rfl, hv2⟩
          have HW2 := Aside0.mk (HW1.out.trans (hv2.mono HW1.out.size))
          clear hv2
          go_wp2_with fail
          refine (has17 As cs s (i : Int) _ (Kd.C_below GS5.out HW2.out) LS.out HNS.out).mono ?_
          rintro e u3 ⟨rfl, hv3⟩
          have HW3 := Aside0.mk (HW2.out.trans (hv3.mono HW2.out.size))
          clear hv3
          go_wp2_with fail
          go_roundg (7936 - (i + 1))
          case measure => omega
          case rel => exact ⟨i + 1, by go_num, by omega, by omega, by rw [HK2.out], HW3⟩
        · have HK2 := Aside0.mk (show kn s c (i + 1) = false by rw [HK.out, decide_eq_false ho]; simp)
          have o1 := fun W => of18 (i : Int) W
          have o2 := fun W => of18 c W
          have ho2 : (ofP (i : Int) == ofP c) = false := by simpa using ho
          have ho3 : decide (ofP (i : Int) = ofP c) = false := decide_eq_false ho
          clear HK
          generalize ofP c = oc at *
          generalize ofP (i : Int) = oi at *
          go_wp2_with fail
          refine (o1 _).mono ?_
          rintro e u1 ⟨rfl, hv1⟩
          have HW1 := Aside0.mk (HW.out.trans (hv1.mono HW.out.size))
          clear hv1
          go_wp2_with fail
          refine (o2 _).mono ?_
          rintro e u2 ⟨rfl, hv2⟩
          have HW2 := Aside0.mk (HW1.out.trans (hv2.mono HW1.out.size))
          clear hv2
          go_wp2_with fail
          go_roundg (7936 - (i + 1))
          case measure => omega
          case rel => exact ⟨i + 1, by go_num, by omega, by omega, by rw [HK2.out], HW2⟩
    · have hltz : ¬ (i : Int) < 7936 := by omega
      obtain rfl : i = 7936 := by omega
      clear hlt hi hk hltz
      cases hkn : kn s c 7936 with
      | true =>
        cases hhs : hasS s c with
        | true =>
          have ea : hasS a c = true := by rw [HA.out, HIN.out, hkn, hhs]; rfl
          have eb : hasS b c = true := by rw [HBm.out, hhs, Bool.true_or]
          have ed := HD.out ea
          have C1 := fun W hW => has_calls Aa ca a c W hW LA.out
          rw [ea] at C1
          have C2 := fun W hW => has_calls Ab cb b c W hW LB.out
          rw [eb] at C2
          have C3 := fun W hW => has17 As cs s c W hW LS.out HNS.out
          rw [hhs] at C3
          have C6 := fun W hW => has_calls Ad cd d c W hW LD.out
          rw [ed] at C6
          have C6 := Aside0.mk C6
          clear ed
          have C1 := Aside0.mk C1
          have C2 := Aside0.mk C2
          have C3 := Aside0.mk C3
          clear ea eb hhs
          go_wp2_with fail
          refine (C1.out _ (Kd.C_below GA5.out HW.out)).mono ?_
          rintro e z1 ⟨rfl, hv⟩
          have HZ1 := Aside0.mk (HW.out.trans (hv.mono HW.out.size))
          clear hv
          go_wp2_with fail
          refine (C2.out _ (Kd.C_below GB5.out HZ1.out)).mono ?_
          rintro e z2 ⟨rfl, hv⟩
          have HZ2 := Aside0.mk (HZ1.out.trans (hv.mono HZ1.out.size))
          clear hv
          go_wp2_with fail
          refine (C3.out _ (Kd.C_below GS5.out HZ2.out)).mono ?_
          rintro e z3 ⟨rfl, hv⟩
          have HZ3 := Aside0.mk (HZ2.out.trans (hv.mono HZ2.out.size))
          clear hv
          go_wp2_with fail
          refine (KA.out Aa ca _ (Kd.C_below GA5.out HZ3.out) LA.out).mono ?_
          rintro e z4 ⟨⟨Ax, cx, rfl, hx, gx⟩, hv⟩
          have HZ4 := Aside0.mk (HZ3.out.trans (hv.mono HZ3.out.size))
          clear hv
          have Gx := Aside0.mk gx
          have Lx := Aside0.mk hx
          clear gx hx
          go_wp2_with fail
          refine (same9 Ax cx Aa ca a _ Gx.out Lx.out (Kd.C_below GA5.out HZ4.out) LA.out HNA.out).mono ?_
          rintro e z5 ⟨rfl, hv⟩
          have HZ5 := Aside0.mk (HZ4.out.trans (hv.mono HZ4.out.size))
          clear hv
          go_wp2_with fail
          refine (KD.out Ad cd _ (Kd.C_below GD5.out HZ5.out) LD.out).mono ?_
          rintro e z6 ⟨⟨Ay, cy, rfl, hy, gy⟩, hv⟩
          have HZ6 := Aside0.mk (HZ5.out.trans (hv.mono HZ5.out.size))
          clear hv
          have Gy := Aside0.mk gy
          have Ly := Aside0.mk hy
          clear gy hy
          go_wp2_with fail
          refine (same9 Ay cy Ad cd d _ Gy.out Ly.out (Kd.C_below GD5.out HZ6.out) LD.out HND.out).mono ?_
          rintro e z7 ⟨rfl, hv⟩
          have HZ7 := Aside0.mk (HZ6.out.trans (hv.mono HZ6.out.size))
          clear hv
          go_wp2_with fail
          refine (K0.out _ (HB5.out.trans (HZ7.out.mono HB5.out.size))).mono ?_
          rintro e z8 ⟨⟨Au, cu, rfl, hu, gu⟩, hv⟩
          have HZ8 := Aside0.mk (HZ7.out.trans (hv.mono HZ7.out.size))
          clear hv
          have Gu := Aside0.mk gu
          have Lu := Aside0.mk hu
          clear gu hu
          go_wp2_with fail
          refine (same9 Au cu As cs s _ Gu.out Lu.out (Kd.C_below GS5.out HZ8.out) LS.out HNS.out).mono ?_
          rintro e z9 ⟨rfl, hv⟩
          have HZ9 := Aside0.mk (HZ8.out.trans (hv.mono HZ8.out.size))
          clear hv
          go_wp2_with fail
          refine (C1.out _ (Kd.C_below GA5.out HZ9.out)).mono ?_
          rintro e z10 ⟨rfl, hv⟩
          have HZ10 := Aside0.mk (HZ9.out.trans (hv.mono HZ9.out.size))
          clear hv
          go_wp2_with fail
          refine (C6.out _ (Kd.C_below GD5.out HZ10.out)).mono ?_
          rintro e z11 ⟨rfl, hv⟩
          have HZ11 := Aside0.mk (HZ10.out.trans (hv.mono HZ10.out.size))
          clear hv
          go_wp2_with fail
          go_ret
          exact ⟨rfl, HB5.out.trans (HZ11.out.mono HB5.out.size)⟩
        | false =>
          cases hhm : hasS s (mirrorP c) with
          | true =>
            have ea : hasS a c = true := by rw [HA.out, HIN.out, hkn, hhs]; rfl
            have eb : hasS b c = true := by rw [HBm.out, hhs, hhm]; rfl
            have ed := HD.out ea
            have C1 := fun W hW => has_calls Aa ca a c W hW LA.out
            rw [ea] at C1
            have C2 := fun W hW => has_calls Ab cb b c W hW LB.out
            rw [eb] at C2
            have C3 := fun W hW => has17 As cs s c W hW LS.out HNS.out
            rw [hhs] at C3
            have C4 := fun W hW => has17 As cs s (mirrorP c) W hW LS.out HNS.out
            rw [hhm] at C4
            have C5 := fun W => mir19 c W
            have C5 := Aside0.mk C5
            have C4 := Aside0.mk C4
            have C6 := fun W hW => has_calls Ad cd d c W hW LD.out
            rw [ed] at C6
            have C6 := Aside0.mk C6
            clear ed
            have C1 := Aside0.mk C1
            have C2 := Aside0.mk C2
            have C3 := Aside0.mk C3
            clear ea eb hhs hhm
            go_wp2_with fail
            refine (C1.out _ (Kd.C_below GA5.out HW.out)).mono ?_
            rintro e z1 ⟨rfl, hv⟩
            have HZ1 := Aside0.mk (HW.out.trans (hv.mono HW.out.size))
            clear hv
            go_wp2_with fail
            refine (C2.out _ (Kd.C_below GB5.out HZ1.out)).mono ?_
            rintro e z2 ⟨rfl, hv⟩
            have HZ2 := Aside0.mk (HZ1.out.trans (hv.mono HZ1.out.size))
            clear hv
            go_wp2_with fail
            refine (C3.out _ (Kd.C_below GS5.out HZ2.out)).mono ?_
            rintro e z3 ⟨rfl, hv⟩
            have HZ3 := Aside0.mk (HZ2.out.trans (hv.mono HZ2.out.size))
            clear hv
            go_wp2_with fail
            refine (C5.out _).mono ?_
            rintro e z4 ⟨rfl, hv⟩
            have HZ4 := Aside0.mk (HZ3.out.trans (hv.mono HZ3.out.size))
            clear hv
            go_wp2_with fail
            refine (C4.out _ (Kd.C_below GS5.out HZ4.out)).mono ?_
            rintro e z5 ⟨rfl, hv⟩
            have HZ5 := Aside0.mk (HZ4.out.trans (hv.mono HZ4.out.size))
            clear hv
            go_wp2_with fail
            refine (KA.out Aa ca _ (Kd.C_below GA5.out HZ5.out) LA.out).mono ?_
            rintro e z6 ⟨⟨Ax, cx, rfl, hx, gx⟩, hv⟩
            have HZ6 := Aside0.mk (HZ5.out.trans (hv.mono HZ5.out.size))
            clear hv
            have Gx := Aside0.mk gx
            have Lx := Aside0.mk hx
            clear gx hx
            go_wp2_with fail
            refine (same9 Ax cx Aa ca a _ Gx.out Lx.out (Kd.C_below GA5.out HZ6.out) LA.out HNA.out).mono ?_
            rintro e z7 ⟨rfl, hv⟩
            have HZ7 := Aside0.mk (HZ6.out.trans (hv.mono HZ6.out.size))
            clear hv
            go_wp2_with fail
            refine (KD.out Ad cd _ (Kd.C_below GD5.out HZ7.out) LD.out).mono ?_
            rintro e z8 ⟨⟨Ay, cy, rfl, hy, gy⟩, hv⟩
            have HZ8 := Aside0.mk (HZ7.out.trans (hv.mono HZ7.out.size))
            clear hv
            have Gy := Aside0.mk gy
            have Ly := Aside0.mk hy
            clear gy hy
            go_wp2_with fail
            refine (same9 Ay cy Ad cd d _ Gy.out Ly.out (Kd.C_below GD5.out HZ8.out) LD.out HND.out).mono ?_
            rintro e z9 ⟨rfl, hv⟩
            have HZ9 := Aside0.mk (HZ8.out.trans (hv.mono HZ8.out.size))
            clear hv
            go_wp2_with fail
            refine (K0.out _ (HB5.out.trans (HZ9.out.mono HB5.out.size))).mono ?_
            rintro e z10 ⟨⟨Au, cu, rfl, hu, gu⟩, hv⟩
            have HZ10 := Aside0.mk (HZ9.out.trans (hv.mono HZ9.out.size))
            clear hv
            have Gu := Aside0.mk gu
            have Lu := Aside0.mk hu
            clear gu hu
            go_wp2_with fail
            refine (same9 Au cu As cs s _ Gu.out Lu.out (Kd.C_below GS5.out HZ10.out) LS.out HNS.out).mono ?_
            rintro e z11 ⟨rfl, hv⟩
            have HZ11 := Aside0.mk (HZ10.out.trans (hv.mono HZ10.out.size))
            clear hv
            go_wp2_with fail
            refine (C1.out _ (Kd.C_below GA5.out HZ11.out)).mono ?_
            rintro e z12 ⟨rfl, hv⟩
            have HZ12 := Aside0.mk (HZ11.out.trans (hv.mono HZ11.out.size))
            clear hv
            go_wp2_with fail
            refine (C6.out _ (Kd.C_below GD5.out HZ12.out)).mono ?_
            rintro e z13 ⟨rfl, hv⟩
            have HZ13 := Aside0.mk (HZ12.out.trans (hv.mono HZ12.out.size))
            clear hv
            go_wp2_with fail
            go_ret
            exact ⟨rfl, HB5.out.trans (HZ13.out.mono HB5.out.size)⟩
          | false =>
            have ea : hasS a c = true := by rw [HA.out, HIN.out, hkn, hhs]; rfl
            have eb : hasS b c = false := by rw [HBm.out, hhs, hhm]; rfl
            have ed := HD.out ea
            have C1 := fun W hW => has_calls Aa ca a c W hW LA.out
            rw [ea] at C1
            have C2 := fun W hW => has_calls Ab cb b c W hW LB.out
            rw [eb] at C2
            have C3 := fun W hW => has17 As cs s c W hW LS.out HNS.out
            rw [hhs] at C3
            have C4 := fun W hW => has17 As cs s (mirrorP c) W hW LS.out HNS.out
            rw [hhm] at C4
            have C5 := fun W => mir19 c W
            have C5 := Aside0.mk C5
            have C4 := Aside0.mk C4
            have C6 := fun W hW => has_calls Ad cd d c W hW LD.out
            rw [ed] at C6
            have C6 := Aside0.mk C6
            clear ed
            have C1 := Aside0.mk C1
            have C2 := Aside0.mk C2
            have C3 := Aside0.mk C3
            clear ea eb hhs hhm
            go_wp2_with fail
            refine (C1.out _ (Kd.C_below GA5.out HW.out)).mono ?_
            rintro e z1 ⟨rfl, hv⟩
            have HZ1 := Aside0.mk (HW.out.trans (hv.mono HW.out.size))
            clear hv
            go_wp2_with fail
            refine (C2.out _ (Kd.C_below GB5.out HZ1.out)).mono ?_
            rintro e z2 ⟨rfl, hv⟩
            have HZ2 := Aside0.mk (HZ1.out.trans (hv.mono HZ1.out.size))
            clear hv
            go_wp2_with fail
            refine (C3.out _ (Kd.C_below GS5.out HZ2.out)).mono ?_
            rintro e z3 ⟨rfl, hv⟩
            have HZ3 := Aside0.mk (HZ2.out.trans (hv.mono HZ2.out.size))
            clear hv
            go_wp2_with fail
            refine (C5.out _).mono ?_
            rintro e z4 ⟨rfl, hv⟩
            have HZ4 := Aside0.mk (HZ3.out.trans (hv.mono HZ3.out.size))
            clear hv
            go_wp2_with fail
            refine (C4.out _ (Kd.C_below GS5.out HZ4.out)).mono ?_
            rintro e z5 ⟨rfl, hv⟩
            have HZ5 := Aside0.mk (HZ4.out.trans (hv.mono HZ4.out.size))
            clear hv
            go_wp2_with fail
            refine (KA.out Aa ca _ (Kd.C_below GA5.out HZ5.out) LA.out).mono ?_
            rintro e z6 ⟨⟨Ax, cx, rfl, hx, gx⟩, hv⟩
            have HZ6 := Aside0.mk (HZ5.out.trans (hv.mono HZ5.out.size))
            clear hv
            have Gx := Aside0.mk gx
            have Lx := Aside0.mk hx
            clear gx hx
            go_wp2_with fail
            refine (same9 Ax cx Aa ca a _ Gx.out Lx.out (Kd.C_below GA5.out HZ6.out) LA.out HNA.out).mono ?_
            rintro e z7 ⟨rfl, hv⟩
            have HZ7 := Aside0.mk (HZ6.out.trans (hv.mono HZ6.out.size))
            clear hv
            go_wp2_with fail
            refine (KD.out Ad cd _ (Kd.C_below GD5.out HZ7.out) LD.out).mono ?_
            rintro e z8 ⟨⟨Ay, cy, rfl, hy, gy⟩, hv⟩
            have HZ8 := Aside0.mk (HZ7.out.trans (hv.mono HZ7.out.size))
            clear hv
            have Gy := Aside0.mk gy
            have Ly := Aside0.mk hy
            clear gy hy
            go_wp2_with fail
            refine (same9 Ay cy Ad cd d _ Gy.out Ly.out (Kd.C_below GD5.out HZ8.out) LD.out HND.out).mono ?_
            rintro e z9 ⟨rfl, hv⟩
            have HZ9 := Aside0.mk (HZ8.out.trans (hv.mono HZ8.out.size))
            clear hv
            go_wp2_with fail
            refine (K0.out _ (HB5.out.trans (HZ9.out.mono HB5.out.size))).mono ?_
            rintro e z10 ⟨⟨Au, cu, rfl, hu, gu⟩, hv⟩
            have HZ10 := Aside0.mk (HZ9.out.trans (hv.mono HZ9.out.size))
            clear hv
            have Gu := Aside0.mk gu
            have Lu := Aside0.mk hu
            clear gu hu
            go_wp2_with fail
            refine (same9 Au cu As cs s _ Gu.out Lu.out (Kd.C_below GS5.out HZ10.out) LS.out HNS.out).mono ?_
            rintro e z11 ⟨rfl, hv⟩
            have HZ11 := Aside0.mk (HZ10.out.trans (hv.mono HZ10.out.size))
            clear hv
            go_wp2_with fail
            refine (C1.out _ (Kd.C_below GA5.out HZ11.out)).mono ?_
            rintro e z12 ⟨rfl, hv⟩
            have HZ12 := Aside0.mk (HZ11.out.trans (hv.mono HZ11.out.size))
            clear hv
            go_wp2_with fail
            refine (C6.out _ (Kd.C_below GD5.out HZ12.out)).mono ?_
            rintro e z13 ⟨rfl, hv⟩
            have HZ13 := Aside0.mk (HZ12.out.trans (hv.mono HZ12.out.size))
            clear hv
            go_wp2_with fail
            go_ret
            exact ⟨rfl, HB5.out.trans (HZ13.out.mono HB5.out.size)⟩
      | false =>
        cases hhs : hasS s c with
        | true =>
          have ea : hasS a c = true := by rw [HA.out, HIN.out, hkn, hhs]; rfl
          have eb : hasS b c = true := by rw [HBm.out, hhs, Bool.true_or]
          have ed := HD.out ea
          have C1 := fun W hW => has_calls Aa ca a c W hW LA.out
          rw [ea] at C1
          have C2 := fun W hW => has_calls Ab cb b c W hW LB.out
          rw [eb] at C2
          have C3 := fun W hW => has17 As cs s c W hW LS.out HNS.out
          rw [hhs] at C3
          have C6 := fun W hW => has_calls Ad cd d c W hW LD.out
          rw [ed] at C6
          have C6 := Aside0.mk C6
          clear ed
          have C1 := Aside0.mk C1
          have C2 := Aside0.mk C2
          have C3 := Aside0.mk C3
          clear ea eb hhs
          go_wp2_with fail
          refine (C3.out _ (Kd.C_below GS5.out HW.out)).mono ?_
          rintro e z1 ⟨rfl, hv⟩
          have HZ1 := Aside0.mk (HW.out.trans (hv.mono HW.out.size))
          clear hv
          go_wp2_with fail
          refine (C1.out _ (Kd.C_below GA5.out HZ1.out)).mono ?_
          rintro e z2 ⟨rfl, hv⟩
          have HZ2 := Aside0.mk (HZ1.out.trans (hv.mono HZ1.out.size))
          clear hv
          go_wp2_with fail
          refine (C2.out _ (Kd.C_below GB5.out HZ2.out)).mono ?_
          rintro e z3 ⟨rfl, hv⟩
          have HZ3 := Aside0.mk (HZ2.out.trans (hv.mono HZ2.out.size))
          clear hv
          go_wp2_with fail
          refine (C3.out _ (Kd.C_below GS5.out HZ3.out)).mono ?_
          rintro e z4 ⟨rfl, hv⟩
          have HZ4 := Aside0.mk (HZ3.out.trans (hv.mono HZ3.out.size))
          clear hv
          go_wp2_with fail
          refine (KA.out Aa ca _ (Kd.C_below GA5.out HZ4.out) LA.out).mono ?_
          rintro e z5 ⟨⟨Ax, cx, rfl, hx, gx⟩, hv⟩
          have HZ5 := Aside0.mk (HZ4.out.trans (hv.mono HZ4.out.size))
          clear hv
          have Gx := Aside0.mk gx
          have Lx := Aside0.mk hx
          clear gx hx
          go_wp2_with fail
          refine (same9 Ax cx Aa ca a _ Gx.out Lx.out (Kd.C_below GA5.out HZ5.out) LA.out HNA.out).mono ?_
          rintro e z6 ⟨rfl, hv⟩
          have HZ6 := Aside0.mk (HZ5.out.trans (hv.mono HZ5.out.size))
          clear hv
          go_wp2_with fail
          refine (KD.out Ad cd _ (Kd.C_below GD5.out HZ6.out) LD.out).mono ?_
          rintro e z7 ⟨⟨Ay, cy, rfl, hy, gy⟩, hv⟩
          have HZ7 := Aside0.mk (HZ6.out.trans (hv.mono HZ6.out.size))
          clear hv
          have Gy := Aside0.mk gy
          have Ly := Aside0.mk hy
          clear gy hy
          go_wp2_with fail
          refine (same9 Ay cy Ad cd d _ Gy.out Ly.out (Kd.C_below GD5.out HZ7.out) LD.out HND.out).mono ?_
          rintro e z8 ⟨rfl, hv⟩
          have HZ8 := Aside0.mk (HZ7.out.trans (hv.mono HZ7.out.size))
          clear hv
          go_wp2_with fail
          refine (K0.out _ (HB5.out.trans (HZ8.out.mono HB5.out.size))).mono ?_
          rintro e z9 ⟨⟨Au, cu, rfl, hu, gu⟩, hv⟩
          have HZ9 := Aside0.mk (HZ8.out.trans (hv.mono HZ8.out.size))
          clear hv
          have Gu := Aside0.mk gu
          have Lu := Aside0.mk hu
          clear gu hu
          go_wp2_with fail
          refine (same9 Au cu As cs s _ Gu.out Lu.out (Kd.C_below GS5.out HZ9.out) LS.out HNS.out).mono ?_
          rintro e z10 ⟨rfl, hv⟩
          have HZ10 := Aside0.mk (HZ9.out.trans (hv.mono HZ9.out.size))
          clear hv
          go_wp2_with fail
          refine (C1.out _ (Kd.C_below GA5.out HZ10.out)).mono ?_
          rintro e z11 ⟨rfl, hv⟩
          have HZ11 := Aside0.mk (HZ10.out.trans (hv.mono HZ10.out.size))
          clear hv
          go_wp2_with fail
          refine (C6.out _ (Kd.C_below GD5.out HZ11.out)).mono ?_
          rintro e z12 ⟨rfl, hv⟩
          have HZ12 := Aside0.mk (HZ11.out.trans (hv.mono HZ11.out.size))
          clear hv
          go_wp2_with fail
          go_ret
          exact ⟨rfl, HB5.out.trans (HZ12.out.mono HB5.out.size)⟩
        | false =>
          cases hhm : hasS s (mirrorP c) with
          | true =>
            have ea : hasS a c = false := by rw [HA.out, HIN.out, hkn, hhs]; rfl
            have eb : hasS b c = true := by rw [HBm.out, hhs, hhm]; rfl
            have C1 := fun W hW => has_calls Aa ca a c W hW LA.out
            rw [ea] at C1
            have C2 := fun W hW => has_calls Ab cb b c W hW LB.out
            rw [eb] at C2
            have C3 := fun W hW => has17 As cs s c W hW LS.out HNS.out
            rw [hhs] at C3
            have C4 := fun W hW => has17 As cs s (mirrorP c) W hW LS.out HNS.out
            rw [hhm] at C4
            have C5 := fun W => mir19 c W
            have C5 := Aside0.mk C5
            have C4 := Aside0.mk C4
            have C1 := Aside0.mk C1
            have C2 := Aside0.mk C2
            have C3 := Aside0.mk C3
            clear ea eb hhs hhm
            go_wp2_with fail
            refine (C3.out _ (Kd.C_below GS5.out HW.out)).mono ?_
            rintro e z1 ⟨rfl, hv⟩
            have HZ1 := Aside0.mk (HW.out.trans (hv.mono HW.out.size))
            clear hv
            go_wp2_with fail
            refine (C1.out _ (Kd.C_below GA5.out HZ1.out)).mono ?_
            rintro e z2 ⟨rfl, hv⟩
            have HZ2 := Aside0.mk (HZ1.out.trans (hv.mono HZ1.out.size))
            clear hv
            go_wp2_with fail
            refine (C2.out _ (Kd.C_below GB5.out HZ2.out)).mono ?_
            rintro e z3 ⟨rfl, hv⟩
            have HZ3 := Aside0.mk (HZ2.out.trans (hv.mono HZ2.out.size))
            clear hv
            go_wp2_with fail
            refine (C3.out _ (Kd.C_below GS5.out HZ3.out)).mono ?_
            rintro e z4 ⟨rfl, hv⟩
            have HZ4 := Aside0.mk (HZ3.out.trans (hv.mono HZ3.out.size))
            clear hv
            go_wp2_with fail
            refine (C5.out _).mono ?_
            rintro e z5 ⟨rfl, hv⟩
            have HZ5 := Aside0.mk (HZ4.out.trans (hv.mono HZ4.out.size))
            clear hv
            go_wp2_with fail
            refine (C4.out _ (Kd.C_below GS5.out HZ5.out)).mono ?_
            rintro e z6 ⟨rfl, hv⟩
            have HZ6 := Aside0.mk (HZ5.out.trans (hv.mono HZ5.out.size))
            clear hv
            go_wp2_with fail
            refine (KA.out Aa ca _ (Kd.C_below GA5.out HZ6.out) LA.out).mono ?_
            rintro e z7 ⟨⟨Ax, cx, rfl, hx, gx⟩, hv⟩
            have HZ7 := Aside0.mk (HZ6.out.trans (hv.mono HZ6.out.size))
            clear hv
            have Gx := Aside0.mk gx
            have Lx := Aside0.mk hx
            clear gx hx
            go_wp2_with fail
            refine (same9 Ax cx Aa ca a _ Gx.out Lx.out (Kd.C_below GA5.out HZ7.out) LA.out HNA.out).mono ?_
            rintro e z8 ⟨rfl, hv⟩
            have HZ8 := Aside0.mk (HZ7.out.trans (hv.mono HZ7.out.size))
            clear hv
            go_wp2_with fail
            refine (KD.out Ad cd _ (Kd.C_below GD5.out HZ8.out) LD.out).mono ?_
            rintro e z9 ⟨⟨Ay, cy, rfl, hy, gy⟩, hv⟩
            have HZ9 := Aside0.mk (HZ8.out.trans (hv.mono HZ8.out.size))
            clear hv
            have Gy := Aside0.mk gy
            have Ly := Aside0.mk hy
            clear gy hy
            go_wp2_with fail
            refine (same9 Ay cy Ad cd d _ Gy.out Ly.out (Kd.C_below GD5.out HZ9.out) LD.out HND.out).mono ?_
            rintro e z10 ⟨rfl, hv⟩
            have HZ10 := Aside0.mk (HZ9.out.trans (hv.mono HZ9.out.size))
            clear hv
            go_wp2_with fail
            refine (K0.out _ (HB5.out.trans (HZ10.out.mono HB5.out.size))).mono ?_
            rintro e z11 ⟨⟨Au, cu, rfl, hu, gu⟩, hv⟩
            have HZ11 := Aside0.mk (HZ10.out.trans (hv.mono HZ10.out.size))
            clear hv
            have Gu := Aside0.mk gu
            have Lu := Aside0.mk hu
            clear gu hu
            go_wp2_with fail
            refine (same9 Au cu As cs s _ Gu.out Lu.out (Kd.C_below GS5.out HZ11.out) LS.out HNS.out).mono ?_
            rintro e z12 ⟨rfl, hv⟩
            have HZ12 := Aside0.mk (HZ11.out.trans (hv.mono HZ11.out.size))
            clear hv
            go_wp2_with fail
            refine (C1.out _ (Kd.C_below GA5.out HZ12.out)).mono ?_
            rintro e z13 ⟨rfl, hv⟩
            have HZ13 := Aside0.mk (HZ12.out.trans (hv.mono HZ12.out.size))
            clear hv
            go_wp2_with fail
            go_ret
            exact ⟨rfl, HB5.out.trans (HZ13.out.mono HB5.out.size)⟩
          | false =>
            have ea : hasS a c = false := by rw [HA.out, HIN.out, hkn, hhs]; rfl
            have eb : hasS b c = false := by rw [HBm.out, hhs, hhm]; rfl
            have C1 := fun W hW => has_calls Aa ca a c W hW LA.out
            rw [ea] at C1
            have C2 := fun W hW => has_calls Ab cb b c W hW LB.out
            rw [eb] at C2
            have C3 := fun W hW => has17 As cs s c W hW LS.out HNS.out
            rw [hhs] at C3
            have C4 := fun W hW => has17 As cs s (mirrorP c) W hW LS.out HNS.out
            rw [hhm] at C4
            have C5 := fun W => mir19 c W
            have C5 := Aside0.mk C5
            have C4 := Aside0.mk C4
            have C1 := Aside0.mk C1
            have C2 := Aside0.mk C2
            have C3 := Aside0.mk C3
            clear ea eb hhs hhm
            go_wp2_with fail
            refine (C3.out _ (Kd.C_below GS5.out HW.out)).mono ?_
            rintro e z1 ⟨rfl, hv⟩
            have HZ1 := Aside0.mk (HW.out.trans (hv.mono HW.out.size))
            clear hv
            go_wp2_with fail
            refine (C1.out _ (Kd.C_below GA5.out HZ1.out)).mono ?_
            rintro e z2 ⟨rfl, hv⟩
            have HZ2 := Aside0.mk (HZ1.out.trans (hv.mono HZ1.out.size))
            clear hv
            go_wp2_with fail
            refine (C2.out _ (Kd.C_below GB5.out HZ2.out)).mono ?_
            rintro e z3 ⟨rfl, hv⟩
            have HZ3 := Aside0.mk (HZ2.out.trans (hv.mono HZ2.out.size))
            clear hv
            go_wp2_with fail
            refine (C3.out _ (Kd.C_below GS5.out HZ3.out)).mono ?_
            rintro e z4 ⟨rfl, hv⟩
            have HZ4 := Aside0.mk (HZ3.out.trans (hv.mono HZ3.out.size))
            clear hv
            go_wp2_with fail
            refine (C5.out _).mono ?_
            rintro e z5 ⟨rfl, hv⟩
            have HZ5 := Aside0.mk (HZ4.out.trans (hv.mono HZ4.out.size))
            clear hv
            go_wp2_with fail
            refine (C4.out _ (Kd.C_below GS5.out HZ5.out)).mono ?_
            rintro e z6 ⟨rfl, hv⟩
            have HZ6 := Aside0.mk (HZ5.out.trans (hv.mono HZ5.out.size))
            clear hv
            go_wp2_with fail
            refine (KA.out Aa ca _ (Kd.C_below GA5.out HZ6.out) LA.out).mono ?_
            rintro e z7 ⟨⟨Ax, cx, rfl, hx, gx⟩, hv⟩
            have HZ7 := Aside0.mk (HZ6.out.trans (hv.mono HZ6.out.size))
            clear hv
            have Gx := Aside0.mk gx
            have Lx := Aside0.mk hx
            clear gx hx
            go_wp2_with fail
            refine (same9 Ax cx Aa ca a _ Gx.out Lx.out (Kd.C_below GA5.out HZ7.out) LA.out HNA.out).mono ?_
            rintro e z8 ⟨rfl, hv⟩
            have HZ8 := Aside0.mk (HZ7.out.trans (hv.mono HZ7.out.size))
            clear hv
            go_wp2_with fail
            refine (KD.out Ad cd _ (Kd.C_below GD5.out HZ8.out) LD.out).mono ?_
            rintro e z9 ⟨⟨Ay, cy, rfl, hy, gy⟩, hv⟩
            have HZ9 := Aside0.mk (HZ8.out.trans (hv.mono HZ8.out.size))
            clear hv
            have Gy := Aside0.mk gy
            have Ly := Aside0.mk hy
            clear gy hy
            go_wp2_with fail
            refine (same9 Ay cy Ad cd d _ Gy.out Ly.out (Kd.C_below GD5.out HZ9.out) LD.out HND.out).mono ?_
            rintro e z10 ⟨rfl, hv⟩
            have HZ10 := Aside0.mk (HZ9.out.trans (hv.mono HZ9.out.size))
            clear hv
            go_wp2_with fail
            refine (K0.out _ (HB5.out.trans (HZ10.out.mono HB5.out.size))).mono ?_
            rintro e z11 ⟨⟨Au, cu, rfl, hu, gu⟩, hv⟩
            have HZ11 := Aside0.mk (HZ10.out.trans (hv.mono HZ10.out.size))
            clear hv
            have Gu := Aside0.mk gu
            have Lu := Aside0.mk hu
            clear gu hu
            go_wp2_with fail
            refine (same9 Au cu As cs s _ Gu.out Lu.out (Kd.C_below GS5.out HZ11.out) LS.out HNS.out).mono ?_
            rintro e z12 ⟨rfl, hv⟩
            have HZ12 := Aside0.mk (HZ11.out.trans (hv.mono HZ11.out.size))
            clear hv
            go_wp2_with fail
            refine (C1.out _ (Kd.C_below GA5.out HZ12.out)).mono ?_
            rintro e z13 ⟨rfl, hv⟩
            have HZ13 := Aside0.mk (HZ12.out.trans (hv.mono HZ12.out.size))
            clear hv
            go_wp2_with fail
            go_ret
            exact ⟨rfl, HB5.out.trans (HZ13.out.mono HB5.out.size)⟩
end Go.Proofs.YtglolcejfbhbdaaGreat.P
end
section
namespace Go.Proofs.YtglolcejfbhbdaaGreat.P
open Go.RowKit Go.Shelf Go.Proofs.YtglolcejfbhbdaaGreatW.PrintWords Go.Proofs.YtglolcejfbhbdaaGreatW.PrintLast Go.Proofs.YtglolcejfbhbdaaGreatW.PrintMore
set_option linter.unusedVariables false
set_option linter.unusedSimpArgs false
set_option maxRecDepth 100000 in
set_option maxHeartbeats 16000000 in
theorem closes_N (A0 : Option Addr) (c0 : Nat) (l : List S30) (c : Int) (w : World) (hr0 : Kd.C k30 w A0 l.length l) (hc0 : l.length ≤ c0) (hl : ¬ 30 < l.length) (hc1 : c < 0) :
    Calls Tryz.prog 5 #[.slice A0 l.length c0, .int .i64 c] w fun e w' => e = .returned (.bool true) ∧ Below w.heap.size w w' := by
  have b0 : decide (30 < (l.length : Int)) = false := decide_eq_false (by omega)
  have b1 : decide (30 < l.length) = false := decide_eq_false hl
  have hl30 : l.length ≤ 30 := by omega
  have HIN := Aside0.mk (show decide (0 ≤ c ∧ c ≤ 1114111) = false from decide_eq_false (by omega))
  have d0 : decide (0 ≤ c) = false := decide_eq_false (by omega)
  clear hc1
  have hcl := fun (fl : Int) (W : World) (hW : Below w.heap.size w W) => closeC A0 c0 l fl W (Kd.C_below hr0 hW) hc0
  have k1 := hcl 1
  have k2 := hcl 2
  have k3 := hcl 3
  have k0 := hcl 0
  rw [closeL_0] at k0
  have HS0 := Aside0.mk (fun (W : World) (hW : Below w.heap.size w W) => setC A0 c0 l W (Kd.C_below hr0 hW) hc0)
  have ka := fun (A : Option Addr) (c1 : Nat) (W : World) (h : Kd.C k30 W A (closeL l 1).length (closeL l 1)) (hc : (closeL l 1).length ≤ c1) => closeC A c1 (closeL l 1) 1 W h hc
  have kd := fun (A : Option Addr) (c1 : Nat) (W : World) (h : Kd.C k30 W A (closeL l 3).length (closeL l 3)) (hc : (closeL l 3).length ≤ c1) => closeC A c1 (closeL l 3) 3 W h hc
  rw [cl_aa l hl30] at ka
  rw [cl_dd l hl30] at kd
  have HA := Aside0.mk (hasA l hl30 c)
  have HBm := Aside0.mk (hasB l hl30 c)
  have HD := Aside0.mk (hasD l hl30 c)
  have na : (closeL l 1).length ≤ 1000000 := by have := (cl_a l hl30).2.1; omega
  have nd : (closeL l 3).length ≤ 1000000 := by have := (cl_d l hl30).2.1; omega
  have ns : (setL l).length ≤ 1000000 := by have := setL_short l; omega
  have HNA := Aside0.mk na
  have HND := Aside0.mk nd
  have HNS := Aside0.mk ns
  clear hcl na nd ns hl30 hl hr0 hc0
  generalize closeL l 1 = a at *
  generalize closeL l 2 = b at *
  generalize closeL l 3 = d at *
  generalize setL l = s at *
  have K1 := Aside0.mk k1
  have K2 := Aside0.mk k2
  have K3 := Aside0.mk k3
  have K0 := Aside0.mk k0
  have KA := Aside0.mk ka
  have KD := Aside0.mk kd
  clear k1 k2 k3 k0 ka kd
  have HB0 := Aside0.mk (Below.refl w.heap.size w)
  go_enter Tryz.func5, Tryz.ntmps5
  go_wp2_with fail
  refine (ductuslaw16_alive.calls true _ rfl).mono ?_
  rintro e w1 ⟨rfl, hb1⟩
  have HB1 := Aside0.mk hb1
  clear hb1 HB0
  go_wp2_with fail
  refine (K1.out w1 HB1.out).mono ?_
  rintro e w2 ⟨⟨Aa, ca, rfl, hca, ga⟩, hb2⟩
  have HB2 := Aside0.mk (HB1.out.trans (hb2.mono HB1.out.size))
  have GA := Aside0.mk ga
  have LA := Aside0.mk hca
  clear hb2 HB1 ga hca
  go_wp2_with fail
  refine (K2.out w2 HB2.out).mono ?_
  rintro e w3 ⟨⟨Ab, cb, rfl, hcb, gb⟩, hb3⟩
  have HB3 := Aside0.mk (HB2.out.trans (hb3.mono HB2.out.size))
  have GA3 := Aside0.mk (Kd.C_below GA.out hb3)
  have GB := Aside0.mk gb
  have LB := Aside0.mk hcb
  clear hb3 HB2 gb hcb GA
  go_wp2_with fail
  refine (K3.out w3 HB3.out).mono ?_
  rintro e w4 ⟨⟨Ad, cd, rfl, hcd, gd⟩, hb4⟩
  have HB4 := Aside0.mk (HB3.out.trans (hb4.mono HB3.out.size))
  have GA4 := Aside0.mk (Kd.C_below GA3.out hb4)
  have GB4 := Aside0.mk (Kd.C_below GB.out hb4)
  have GD := Aside0.mk gd
  have LD := Aside0.mk hcd
  clear hb4 HB3 gd hcd GA3 GB
  go_wp2_with fail
  refine (HS0.out w4 HB4.out).mono ?_
  rintro e w5 ⟨⟨As, cs, rfl, hcs, gs⟩, hb5⟩
  have HB5 := Aside0.mk (HB4.out.trans (hb5.mono HB4.out.size))
  have GA5 := Aside0.mk (Kd.C_below GA4.out hb5)
  have GB5 := Aside0.mk (Kd.C_below GB4.out hb5)
  have GD5 := Aside0.mk (Kd.C_below GD.out hb5)
  have GS5 := Aside0.mk gs
  have LS := Aside0.mk hcs
  clear hb5 HB4 gs hcs GA4 GB4 GD
  go_wp2_with fail
  go_loopg [10, 11] 7936 (fun kq v10 v11 w' => ∃ i : Nat, v11 = .int .i64 i ∧ i ≤ 7936 ∧ 7936 - i ≤ kq ∧ v10 = .bool (kn s c i) ∧ Aside0 (Below w5.heap.size w5 w'))
  case atStart => exact ⟨0, rfl, by omega, by omega, rfl, ⟨Below.refl _ _⟩⟩
  case round =>
    obtain ⟨i, rfl, hi, hk, rfl, HW⟩ := hrel
    by_cases hlt : i < 7936
    · have hlt' : (i : Int) < 7936 := by omega
      have HK := Aside0.mk (kn_succ s c i)
      cases hkn : kn s c i with
      | true =>
        rw [hkn] at HK
        go_wp2_with fail
        go_roundg (7936 - (i + 1))
        case measure => omega
        case rel => exact ⟨i + 1, by go_num, by omega, by omega, by rw [HK.out]; rfl, HW⟩
      | false =>
        rw [hkn] at HK
        by_cases ho : ofP (i : Int) = ofP c
        · have HK2 := Aside0.mk (show kn s c (i + 1) = hasS s (i : Int) by rw [HK.out, decide_eq_true ho]; simp)
          have o1 := fun W => of18 (i : Int) W
          have o2 := fun W => of18 c W
          rw [ho] at o1
          clear ho HK
          generalize ofP c = oc at o1 o2
          go_wp2_with fail
          refine (o1 _).mono ?_
          rintro e u1 ⟨rfl, hv1⟩
          have HW1 := Aside0.mk (HW.out.trans (hv1.mono HW.out.size))
          clear hv1
          go_wp2_with fail
          refine (o2 _).mono ?_
          rintro e u2 ⟨rfl, hv2⟩
          have HW2 := Aside0.mk (HW1.out.trans (hv2.mono HW1.out.size))
          clear hv2
          go_wp2_with fail
          refine (has17 As cs s (i : Int) _ (Kd.C_below GS5.out HW2.out) LS.out HNS.out).mono ?_
          rintro e u3 ⟨rfl, hv3⟩
          have HW3 := Aside0.mk (HW2.out.trans (hv3.mono HW2.out.size))
          clear hv3
          go_wp2_with fail
          go_roundg (7936 - (i + 1))
          case measure => omega
          case rel => exact ⟨i + 1, by go_num, by omega, by omega, by rw [HK2.out], HW3⟩
        · have HK2 := Aside0.mk (show kn s c (i + 1) = false by rw [HK.out, decide_eq_false ho]; simp)
          have o1 := fun W => of18 (i : Int) W
          have o2 := fun W => of18 c W
          have ho2 : (ofP (i : Int) == ofP c) = false := by simpa using ho
          have ho3 : decide (ofP (i : Int) = ofP c) = false := decide_eq_false ho
          clear HK
          generalize ofP c = oc at *
          generalize ofP (i : Int) = oi at *
          go_wp2_with fail
          refine (o1 _).mono ?_
          rintro e u1 ⟨rfl, hv1⟩
          have HW1 := Aside0.mk (HW.out.trans (hv1.mono HW.out.size))
          clear hv1
          go_wp2_with fail
          refine (o2 _).mono ?_
          rintro e u2 ⟨rfl, hv2⟩
          have HW2 := Aside0.mk (HW1.out.trans (hv2.mono HW1.out.size))
          clear hv2
          go_wp2_with fail
          go_roundg (7936 - (i + 1))
          case measure => omega
          case rel => exact ⟨i + 1, by go_num, by omega, by omega, by rw [HK2.out], HW2⟩
    · have hltz : ¬ (i : Int) < 7936 := by omega
      obtain rfl : i = 7936 := by omega
      clear hlt hi hk hltz
      cases hkn : kn s c 7936 with
      | true =>
        cases hhs : hasS s c with
        | true =>
          have ea : hasS a c = false := by rw [HA.out, HIN.out, hkn, hhs]; rfl
          have eb : hasS b c = true := by rw [HBm.out, hhs, Bool.true_or]
          have C1 := fun W hW => has_calls Aa ca a c W hW LA.out
          rw [ea] at C1
          have C2 := fun W hW => has_calls Ab cb b c W hW LB.out
          rw [eb] at C2
          have C3 := fun W hW => has17 As cs s c W hW LS.out HNS.out
          rw [hhs] at C3
          have C1 := Aside0.mk C1
          have C2 := Aside0.mk C2
          have C3 := Aside0.mk C3
          clear ea eb hhs
          go_wp2_with fail
          refine (C1.out _ (Kd.C_below GA5.out HW.out)).mono ?_
          rintro e z1 ⟨rfl, hv⟩
          have HZ1 := Aside0.mk (HW.out.trans (hv.mono HW.out.size))
          clear hv
          go_wp2_with fail
          refine (C2.out _ (Kd.C_below GB5.out HZ1.out)).mono ?_
          rintro e z2 ⟨rfl, hv⟩
          have HZ2 := Aside0.mk (HZ1.out.trans (hv.mono HZ1.out.size))
          clear hv
          go_wp2_with fail
          refine (C3.out _ (Kd.C_below GS5.out HZ2.out)).mono ?_
          rintro e z3 ⟨rfl, hv⟩
          have HZ3 := Aside0.mk (HZ2.out.trans (hv.mono HZ2.out.size))
          clear hv
          go_wp2_with fail
          refine (KA.out Aa ca _ (Kd.C_below GA5.out HZ3.out) LA.out).mono ?_
          rintro e z4 ⟨⟨Ax, cx, rfl, hx, gx⟩, hv⟩
          have HZ4 := Aside0.mk (HZ3.out.trans (hv.mono HZ3.out.size))
          clear hv
          have Gx := Aside0.mk gx
          have Lx := Aside0.mk hx
          clear gx hx
          go_wp2_with fail
          refine (same9 Ax cx Aa ca a _ Gx.out Lx.out (Kd.C_below GA5.out HZ4.out) LA.out HNA.out).mono ?_
          rintro e z5 ⟨rfl, hv⟩
          have HZ5 := Aside0.mk (HZ4.out.trans (hv.mono HZ4.out.size))
          clear hv
          go_wp2_with fail
          refine (KD.out Ad cd _ (Kd.C_below GD5.out HZ5.out) LD.out).mono ?_
          rintro e z6 ⟨⟨Ay, cy, rfl, hy, gy⟩, hv⟩
          have HZ6 := Aside0.mk (HZ5.out.trans (hv.mono HZ5.out.size))
          clear hv
          have Gy := Aside0.mk gy
          have Ly := Aside0.mk hy
          clear gy hy
          go_wp2_with fail
          refine (same9 Ay cy Ad cd d _ Gy.out Ly.out (Kd.C_below GD5.out HZ6.out) LD.out HND.out).mono ?_
          rintro e z7 ⟨rfl, hv⟩
          have HZ7 := Aside0.mk (HZ6.out.trans (hv.mono HZ6.out.size))
          clear hv
          go_wp2_with fail
          refine (K0.out _ (HB5.out.trans (HZ7.out.mono HB5.out.size))).mono ?_
          rintro e z8 ⟨⟨Au, cu, rfl, hu, gu⟩, hv⟩
          have HZ8 := Aside0.mk (HZ7.out.trans (hv.mono HZ7.out.size))
          clear hv
          have Gu := Aside0.mk gu
          have Lu := Aside0.mk hu
          clear gu hu
          go_wp2_with fail
          refine (same9 Au cu As cs s _ Gu.out Lu.out (Kd.C_below GS5.out HZ8.out) LS.out HNS.out).mono ?_
          rintro e z9 ⟨rfl, hv⟩
          have HZ9 := Aside0.mk (HZ8.out.trans (hv.mono HZ8.out.size))
          clear hv
          go_wp2_with fail
          refine (C1.out _ (Kd.C_below GA5.out HZ9.out)).mono ?_
          rintro e z10 ⟨rfl, hv⟩
          have HZ10 := Aside0.mk (HZ9.out.trans (hv.mono HZ9.out.size))
          clear hv
          go_wp2_with fail
          go_ret
          exact ⟨rfl, HB5.out.trans (HZ10.out.mono HB5.out.size)⟩
        | false =>
          cases hhm : hasS s (mirrorP c) with
          | true =>
            have ea : hasS a c = false := by rw [HA.out, HIN.out, hkn, hhs]; rfl
            have eb : hasS b c = true := by rw [HBm.out, hhs, hhm]; rfl
            have C1 := fun W hW => has_calls Aa ca a c W hW LA.out
            rw [ea] at C1
            have C2 := fun W hW => has_calls Ab cb b c W hW LB.out
            rw [eb] at C2
            have C3 := fun W hW => has17 As cs s c W hW LS.out HNS.out
            rw [hhs] at C3
            have C4 := fun W hW => has17 As cs s (mirrorP c) W hW LS.out HNS.out
            rw [hhm] at C4
            have C5 := fun W => mir19 c W
            have C5 := Aside0.mk C5
            have C4 := Aside0.mk C4
            have C1 := Aside0.mk C1
            have C2 := Aside0.mk C2
            have C3 := Aside0.mk C3
            clear ea eb hhs hhm
            go_wp2_with fail
            refine (C1.out _ (Kd.C_below GA5.out HW.out)).mono ?_
            rintro e z1 ⟨rfl, hv⟩
            have HZ1 := Aside0.mk (HW.out.trans (hv.mono HW.out.size))
            clear hv
            go_wp2_with fail
            refine (C2.out _ (Kd.C_below GB5.out HZ1.out)).mono ?_
            rintro e z2 ⟨rfl, hv⟩
            have HZ2 := Aside0.mk (HZ1.out.trans (hv.mono HZ1.out.size))
            clear hv
            go_wp2_with fail
            refine (C3.out _ (Kd.C_below GS5.out HZ2.out)).mono ?_
            rintro e z3 ⟨rfl, hv⟩
            have HZ3 := Aside0.mk (HZ2.out.trans (hv.mono HZ2.out.size))
            clear hv
            go_wp2_with fail
            refine (C5.out _).mono ?_
            rintro e z4 ⟨rfl, hv⟩
            have HZ4 := Aside0.mk (HZ3.out.trans (hv.mono HZ3.out.size))
            clear hv
            go_wp2_with fail
            refine (C4.out _ (Kd.C_below GS5.out HZ4.out)).mono ?_
            rintro e z5 ⟨rfl, hv⟩
            have HZ5 := Aside0.mk (HZ4.out.trans (hv.mono HZ4.out.size))
            clear hv
            go_wp2_with fail
            refine (KA.out Aa ca _ (Kd.C_below GA5.out HZ5.out) LA.out).mono ?_
            rintro e z6 ⟨⟨Ax, cx, rfl, hx, gx⟩, hv⟩
            have HZ6 := Aside0.mk (HZ5.out.trans (hv.mono HZ5.out.size))
            clear hv
            have Gx := Aside0.mk gx
            have Lx := Aside0.mk hx
            clear gx hx
            go_wp2_with fail
            refine (same9 Ax cx Aa ca a _ Gx.out Lx.out (Kd.C_below GA5.out HZ6.out) LA.out HNA.out).mono ?_
            rintro e z7 ⟨rfl, hv⟩
            have HZ7 := Aside0.mk (HZ6.out.trans (hv.mono HZ6.out.size))
            clear hv
            go_wp2_with fail
            refine (KD.out Ad cd _ (Kd.C_below GD5.out HZ7.out) LD.out).mono ?_
            rintro e z8 ⟨⟨Ay, cy, rfl, hy, gy⟩, hv⟩
            have HZ8 := Aside0.mk (HZ7.out.trans (hv.mono HZ7.out.size))
            clear hv
            have Gy := Aside0.mk gy
            have Ly := Aside0.mk hy
            clear gy hy
            go_wp2_with fail
            refine (same9 Ay cy Ad cd d _ Gy.out Ly.out (Kd.C_below GD5.out HZ8.out) LD.out HND.out).mono ?_
            rintro e z9 ⟨rfl, hv⟩
            have HZ9 := Aside0.mk (HZ8.out.trans (hv.mono HZ8.out.size))
            clear hv
            go_wp2_with fail
            refine (K0.out _ (HB5.out.trans (HZ9.out.mono HB5.out.size))).mono ?_
            rintro e z10 ⟨⟨Au, cu, rfl, hu, gu⟩, hv⟩
            have HZ10 := Aside0.mk (HZ9.out.trans (hv.mono HZ9.out.size))
            clear hv
            have Gu := Aside0.mk gu
            have Lu := Aside0.mk hu
            clear gu hu
            go_wp2_with fail
            refine (same9 Au cu As cs s _ Gu.out Lu.out (Kd.C_below GS5.out HZ10.out) LS.out HNS.out).mono ?_
            rintro e z11 ⟨rfl, hv⟩
            have HZ11 := Aside0.mk (HZ10.out.trans (hv.mono HZ10.out.size))
            clear hv
            go_wp2_with fail
            refine (C1.out _ (Kd.C_below GA5.out HZ11.out)).mono ?_
            rintro e z12 ⟨rfl, hv⟩
            have HZ12 := Aside0.mk (HZ11.out.trans (hv.mono HZ11.out.size))
            clear hv
            go_wp2_with fail
            go_ret
            exact ⟨rfl, HB5.out.trans (HZ12.out.mono HB5.out.size)⟩
          | false =>
            have ea : hasS a c = false := by rw [HA.out, HIN.out, hkn, hhs]; rfl
            have eb : hasS b c = false := by rw [HBm.out, hhs, hhm]; rfl
            have C1 := fun W hW => has_calls Aa ca a c W hW LA.out
            rw [ea] at C1
            have C2 := fun W hW => has_calls Ab cb b c W hW LB.out
            rw [eb] at C2
            have C3 := fun W hW => has17 As cs s c W hW LS.out HNS.out
            rw [hhs] at C3
            have C4 := fun W hW => has17 As cs s (mirrorP c) W hW LS.out HNS.out
            rw [hhm] at C4
            have C5 := fun W => mir19 c W
            have C5 := Aside0.mk C5
            have C4 := Aside0.mk C4
            have C1 := Aside0.mk C1
            have C2 := Aside0.mk C2
            have C3 := Aside0.mk C3
            clear ea eb hhs hhm
            go_wp2_with fail
            refine (C1.out _ (Kd.C_below GA5.out HW.out)).mono ?_
            rintro e z1 ⟨rfl, hv⟩
            have HZ1 := Aside0.mk (HW.out.trans (hv.mono HW.out.size))
            clear hv
            go_wp2_with fail
            refine (C2.out _ (Kd.C_below GB5.out HZ1.out)).mono ?_
            rintro e z2 ⟨rfl, hv⟩
            have HZ2 := Aside0.mk (HZ1.out.trans (hv.mono HZ1.out.size))
            clear hv
            go_wp2_with fail
            refine (C3.out _ (Kd.C_below GS5.out HZ2.out)).mono ?_
            rintro e z3 ⟨rfl, hv⟩
            have HZ3 := Aside0.mk (HZ2.out.trans (hv.mono HZ2.out.size))
            clear hv
            go_wp2_with fail
            refine (C5.out _).mono ?_
            rintro e z4 ⟨rfl, hv⟩
            have HZ4 := Aside0.mk (HZ3.out.trans (hv.mono HZ3.out.size))
            clear hv
            go_wp2_with fail
            refine (C4.out _ (Kd.C_below GS5.out HZ4.out)).mono ?_
            rintro e z5 ⟨rfl, hv⟩
            have HZ5 := Aside0.mk (HZ4.out.trans (hv.mono HZ4.out.size))
            clear hv
            go_wp2_with fail
            refine (KA.out Aa ca _ (Kd.C_below GA5.out HZ5.out) LA.out).mono ?_
            rintro e z6 ⟨⟨Ax, cx, rfl, hx, gx⟩, hv⟩
            have HZ6 := Aside0.mk (HZ5.out.trans (hv.mono HZ5.out.size))
            clear hv
            have Gx := Aside0.mk gx
            have Lx := Aside0.mk hx
            clear gx hx
            go_wp2_with fail
            refine (same9 Ax cx Aa ca a _ Gx.out Lx.out (Kd.C_below GA5.out HZ6.out) LA.out HNA.out).mono ?_
            rintro e z7 ⟨rfl, hv⟩
            have HZ7 := Aside0.mk (HZ6.out.trans (hv.mono HZ6.out.size))
            clear hv
            go_wp2_with fail
            refine (KD.out Ad cd _ (Kd.C_below GD5.out HZ7.out) LD.out).mono ?_
            rintro e z8 ⟨⟨Ay, cy, rfl, hy, gy⟩, hv⟩
            have HZ8 := Aside0.mk (HZ7.out.trans (hv.mono HZ7.out.size))
            clear hv
            have Gy := Aside0.mk gy
            have Ly := Aside0.mk hy
            clear gy hy
            go_wp2_with fail
            refine (same9 Ay cy Ad cd d _ Gy.out Ly.out (Kd.C_below GD5.out HZ8.out) LD.out HND.out).mono ?_
            rintro e z9 ⟨rfl, hv⟩
            have HZ9 := Aside0.mk (HZ8.out.trans (hv.mono HZ8.out.size))
            clear hv
            go_wp2_with fail
            refine (K0.out _ (HB5.out.trans (HZ9.out.mono HB5.out.size))).mono ?_
            rintro e z10 ⟨⟨Au, cu, rfl, hu, gu⟩, hv⟩
            have HZ10 := Aside0.mk (HZ9.out.trans (hv.mono HZ9.out.size))
            clear hv
            have Gu := Aside0.mk gu
            have Lu := Aside0.mk hu
            clear gu hu
            go_wp2_with fail
            refine (same9 Au cu As cs s _ Gu.out Lu.out (Kd.C_below GS5.out HZ10.out) LS.out HNS.out).mono ?_
            rintro e z11 ⟨rfl, hv⟩
            have HZ11 := Aside0.mk (HZ10.out.trans (hv.mono HZ10.out.size))
            clear hv
            go_wp2_with fail
            refine (C1.out _ (Kd.C_below GA5.out HZ11.out)).mono ?_
            rintro e z12 ⟨rfl, hv⟩
            have HZ12 := Aside0.mk (HZ11.out.trans (hv.mono HZ11.out.size))
            clear hv
            go_wp2_with fail
            go_ret
            exact ⟨rfl, HB5.out.trans (HZ12.out.mono HB5.out.size)⟩
      | false =>
        cases hhs : hasS s c with
        | true =>
          have ea : hasS a c = false := by rw [HA.out, HIN.out, hkn, hhs]; rfl
          have eb : hasS b c = true := by rw [HBm.out, hhs, Bool.true_or]
          have C1 := fun W hW => has_calls Aa ca a c W hW LA.out
          rw [ea] at C1
          have C2 := fun W hW => has_calls Ab cb b c W hW LB.out
          rw [eb] at C2
          have C3 := fun W hW => has17 As cs s c W hW LS.out HNS.out
          rw [hhs] at C3
          have C1 := Aside0.mk C1
          have C2 := Aside0.mk C2
          have C3 := Aside0.mk C3
          clear ea eb hhs
          go_wp2_with fail
          refine (C3.out _ (Kd.C_below GS5.out HW.out)).mono ?_
          rintro e z1 ⟨rfl, hv⟩
          have HZ1 := Aside0.mk (HW.out.trans (hv.mono HW.out.size))
          clear hv
          go_wp2_with fail
          refine (C1.out _ (Kd.C_below GA5.out HZ1.out)).mono ?_
          rintro e z2 ⟨rfl, hv⟩
          have HZ2 := Aside0.mk (HZ1.out.trans (hv.mono HZ1.out.size))
          clear hv
          go_wp2_with fail
          refine (C2.out _ (Kd.C_below GB5.out HZ2.out)).mono ?_
          rintro e z3 ⟨rfl, hv⟩
          have HZ3 := Aside0.mk (HZ2.out.trans (hv.mono HZ2.out.size))
          clear hv
          go_wp2_with fail
          refine (C3.out _ (Kd.C_below GS5.out HZ3.out)).mono ?_
          rintro e z4 ⟨rfl, hv⟩
          have HZ4 := Aside0.mk (HZ3.out.trans (hv.mono HZ3.out.size))
          clear hv
          go_wp2_with fail
          refine (KA.out Aa ca _ (Kd.C_below GA5.out HZ4.out) LA.out).mono ?_
          rintro e z5 ⟨⟨Ax, cx, rfl, hx, gx⟩, hv⟩
          have HZ5 := Aside0.mk (HZ4.out.trans (hv.mono HZ4.out.size))
          clear hv
          have Gx := Aside0.mk gx
          have Lx := Aside0.mk hx
          clear gx hx
          go_wp2_with fail
          refine (same9 Ax cx Aa ca a _ Gx.out Lx.out (Kd.C_below GA5.out HZ5.out) LA.out HNA.out).mono ?_
          rintro e z6 ⟨rfl, hv⟩
          have HZ6 := Aside0.mk (HZ5.out.trans (hv.mono HZ5.out.size))
          clear hv
          go_wp2_with fail
          refine (KD.out Ad cd _ (Kd.C_below GD5.out HZ6.out) LD.out).mono ?_
          rintro e z7 ⟨⟨Ay, cy, rfl, hy, gy⟩, hv⟩
          have HZ7 := Aside0.mk (HZ6.out.trans (hv.mono HZ6.out.size))
          clear hv
          have Gy := Aside0.mk gy
          have Ly := Aside0.mk hy
          clear gy hy
          go_wp2_with fail
          refine (same9 Ay cy Ad cd d _ Gy.out Ly.out (Kd.C_below GD5.out HZ7.out) LD.out HND.out).mono ?_
          rintro e z8 ⟨rfl, hv⟩
          have HZ8 := Aside0.mk (HZ7.out.trans (hv.mono HZ7.out.size))
          clear hv
          go_wp2_with fail
          refine (K0.out _ (HB5.out.trans (HZ8.out.mono HB5.out.size))).mono ?_
          rintro e z9 ⟨⟨Au, cu, rfl, hu, gu⟩, hv⟩
          have HZ9 := Aside0.mk (HZ8.out.trans (hv.mono HZ8.out.size))
          clear hv
          have Gu := Aside0.mk gu
          have Lu := Aside0.mk hu
          clear gu hu
          go_wp2_with fail
          refine (same9 Au cu As cs s _ Gu.out Lu.out (Kd.C_below GS5.out HZ9.out) LS.out HNS.out).mono ?_
          rintro e z10 ⟨rfl, hv⟩
          have HZ10 := Aside0.mk (HZ9.out.trans (hv.mono HZ9.out.size))
          clear hv
          go_wp2_with fail
          refine (C1.out _ (Kd.C_below GA5.out HZ10.out)).mono ?_
          rintro e z11 ⟨rfl, hv⟩
          have HZ11 := Aside0.mk (HZ10.out.trans (hv.mono HZ10.out.size))
          clear hv
          go_wp2_with fail
          go_ret
          exact ⟨rfl, HB5.out.trans (HZ11.out.mono HB5.out.size)⟩
        | false =>
          cases hhm : hasS s (mirrorP c) with
          | true =>
            have ea : hasS a c = false := by rw [HA.out, HIN.out, hkn, hhs]; rfl
            have eb : hasS b c = true := by rw [HBm.out, hhs, hhm]; rfl
            have C1 := fun W hW => has_calls Aa ca a c W hW LA.out
            rw [ea] at C1
            have C2 := fun W hW => has_calls Ab cb b c W hW LB.out
            rw [eb] at C2
            have C3 := fun W hW => has17 As cs s c W hW LS.out HNS.out
            rw [hhs] at C3
            have C4 := fun W hW => has17 As cs s (mirrorP c) W hW LS.out HNS.out
            rw [hhm] at C4
            have C5 := fun W => mir19 c W
            have C5 := Aside0.mk C5
            have C4 := Aside0.mk C4
            have C1 := Aside0.mk C1
            have C2 := Aside0.mk C2
            have C3 := Aside0.mk C3
            clear ea eb hhs hhm
            go_wp2_with fail
            refine (C3.out _ (Kd.C_below GS5.out HW.out)).mono ?_
            rintro e z1 ⟨rfl, hv⟩
            have HZ1 := Aside0.mk (HW.out.trans (hv.mono HW.out.size))
            clear hv
            go_wp2_with fail
            refine (C1.out _ (Kd.C_below GA5.out HZ1.out)).mono ?_
            rintro e z2 ⟨rfl, hv⟩
            have HZ2 := Aside0.mk (HZ1.out.trans (hv.mono HZ1.out.size))
            clear hv
            go_wp2_with fail
            refine (C2.out _ (Kd.C_below GB5.out HZ2.out)).mono ?_
            rintro e z3 ⟨rfl, hv⟩
            have HZ3 := Aside0.mk (HZ2.out.trans (hv.mono HZ2.out.size))
            clear hv
            go_wp2_with fail
            refine (C3.out _ (Kd.C_below GS5.out HZ3.out)).mono ?_
            rintro e z4 ⟨rfl, hv⟩
            have HZ4 := Aside0.mk (HZ3.out.trans (hv.mono HZ3.out.size))
            clear hv
            go_wp2_with fail
            refine (C5.out _).mono ?_
            rintro e z5 ⟨rfl, hv⟩
            have HZ5 := Aside0.mk (HZ4.out.trans (hv.mono HZ4.out.size))
            clear hv
            go_wp2_with fail
            refine (C4.out _ (Kd.C_below GS5.out HZ5.out)).mono ?_
            rintro e z6 ⟨rfl, hv⟩
            have HZ6 := Aside0.mk (HZ5.out.trans (hv.mono HZ5.out.size))
            clear hv
            go_wp2_with fail
            refine (KA.out Aa ca _ (Kd.C_below GA5.out HZ6.out) LA.out).mono ?_
            rintro e z7 ⟨⟨Ax, cx, rfl, hx, gx⟩, hv⟩
            have HZ7 := Aside0.mk (HZ6.out.trans (hv.mono HZ6.out.size))
            clear hv
            have Gx := Aside0.mk gx
            have Lx := Aside0.mk hx
            clear gx hx
            go_wp2_with fail
            refine (same9 Ax cx Aa ca a _ Gx.out Lx.out (Kd.C_below GA5.out HZ7.out) LA.out HNA.out).mono ?_
            rintro e z8 ⟨rfl, hv⟩
            have HZ8 := Aside0.mk (HZ7.out.trans (hv.mono HZ7.out.size))
            clear hv
            go_wp2_with fail
            refine (KD.out Ad cd _ (Kd.C_below GD5.out HZ8.out) LD.out).mono ?_
            rintro e z9 ⟨⟨Ay, cy, rfl, hy, gy⟩, hv⟩
            have HZ9 := Aside0.mk (HZ8.out.trans (hv.mono HZ8.out.size))
            clear hv
            have Gy := Aside0.mk gy
            have Ly := Aside0.mk hy
            clear gy hy
            go_wp2_with fail
            refine (same9 Ay cy Ad cd d _ Gy.out Ly.out (Kd.C_below GD5.out HZ9.out) LD.out HND.out).mono ?_
            rintro e z10 ⟨rfl, hv⟩
            have HZ10 := Aside0.mk (HZ9.out.trans (hv.mono HZ9.out.size))
            clear hv
            go_wp2_with fail
            refine (K0.out _ (HB5.out.trans (HZ10.out.mono HB5.out.size))).mono ?_
            rintro e z11 ⟨⟨Au, cu, rfl, hu, gu⟩, hv⟩
            have HZ11 := Aside0.mk (HZ10.out.trans (hv.mono HZ10.out.size))
            clear hv
            have Gu := Aside0.mk gu
            have Lu := Aside0.mk hu
            clear gu hu
            go_wp2_with fail
            refine (same9 Au cu As cs s _ Gu.out Lu.out (Kd.C_below GS5.out HZ11.out) LS.out HNS.out).mono ?_
            rintro e z12 ⟨rfl, hv⟩
            have HZ12 := Aside0.mk (HZ11.out.trans (hv.mono HZ11.out.size))
            clear hv
            go_wp2_with fail
            refine (C1.out _ (Kd.C_below GA5.out HZ12.out)).mono ?_
            rintro e z13 ⟨rfl, hv⟩
            have HZ13 := Aside0.mk (HZ12.out.trans (hv.mono HZ12.out.size))
            clear hv
            go_wp2_with fail
            go_ret
            exact ⟨rfl, HB5.out.trans (HZ13.out.mono HB5.out.size)⟩
          | false =>
            have ea : hasS a c = false := by rw [HA.out, HIN.out, hkn, hhs]; rfl
            have eb : hasS b c = false := by rw [HBm.out, hhs, hhm]; rfl
            have C1 := fun W hW => has_calls Aa ca a c W hW LA.out
            rw [ea] at C1
            have C2 := fun W hW => has_calls Ab cb b c W hW LB.out
            rw [eb] at C2
            have C3 := fun W hW => has17 As cs s c W hW LS.out HNS.out
            rw [hhs] at C3
            have C4 := fun W hW => has17 As cs s (mirrorP c) W hW LS.out HNS.out
            rw [hhm] at C4
            have C5 := fun W => mir19 c W
            have C5 := Aside0.mk C5
            have C4 := Aside0.mk C4
            have C1 := Aside0.mk C1
            have C2 := Aside0.mk C2
            have C3 := Aside0.mk C3
            clear ea eb hhs hhm
            go_wp2_with fail
            refine (C3.out _ (Kd.C_below GS5.out HW.out)).mono ?_
            rintro e z1 ⟨rfl, hv⟩
            have HZ1 := Aside0.mk (HW.out.trans (hv.mono HW.out.size))
            clear hv
            go_wp2_with fail
            refine (C1.out _ (Kd.C_below GA5.out HZ1.out)).mono ?_
            rintro e z2 ⟨rfl, hv⟩
            have HZ2 := Aside0.mk (HZ1.out.trans (hv.mono HZ1.out.size))
            clear hv
            go_wp2_with fail
            refine (C2.out _ (Kd.C_below GB5.out HZ2.out)).mono ?_
            rintro e z3 ⟨rfl, hv⟩
            have HZ3 := Aside0.mk (HZ2.out.trans (hv.mono HZ2.out.size))
            clear hv
            go_wp2_with fail
            refine (C3.out _ (Kd.C_below GS5.out HZ3.out)).mono ?_
            rintro e z4 ⟨rfl, hv⟩
            have HZ4 := Aside0.mk (HZ3.out.trans (hv.mono HZ3.out.size))
            clear hv
            go_wp2_with fail
            refine (C5.out _).mono ?_
            rintro e z5 ⟨rfl, hv⟩
            have HZ5 := Aside0.mk (HZ4.out.trans (hv.mono HZ4.out.size))
            clear hv
            go_wp2_with fail
            refine (C4.out _ (Kd.C_below GS5.out HZ5.out)).mono ?_
            rintro e z6 ⟨rfl, hv⟩
            have HZ6 := Aside0.mk (HZ5.out.trans (hv.mono HZ5.out.size))
            clear hv
            go_wp2_with fail
            refine (KA.out Aa ca _ (Kd.C_below GA5.out HZ6.out) LA.out).mono ?_
            rintro e z7 ⟨⟨Ax, cx, rfl, hx, gx⟩, hv⟩
            have HZ7 := Aside0.mk (HZ6.out.trans (hv.mono HZ6.out.size))
            clear hv
            have Gx := Aside0.mk gx
            have Lx := Aside0.mk hx
            clear gx hx
            go_wp2_with fail
            refine (same9 Ax cx Aa ca a _ Gx.out Lx.out (Kd.C_below GA5.out HZ7.out) LA.out HNA.out).mono ?_
            rintro e z8 ⟨rfl, hv⟩
            have HZ8 := Aside0.mk (HZ7.out.trans (hv.mono HZ7.out.size))
            clear hv
            go_wp2_with fail
            refine (KD.out Ad cd _ (Kd.C_below GD5.out HZ8.out) LD.out).mono ?_
            rintro e z9 ⟨⟨Ay, cy, rfl, hy, gy⟩, hv⟩
            have HZ9 := Aside0.mk (HZ8.out.trans (hv.mono HZ8.out.size))
            clear hv
            have Gy := Aside0.mk gy
            have Ly := Aside0.mk hy
            clear gy hy
            go_wp2_with fail
            refine (same9 Ay cy Ad cd d _ Gy.out Ly.out (Kd.C_below GD5.out HZ9.out) LD.out HND.out).mono ?_
            rintro e z10 ⟨rfl, hv⟩
            have HZ10 := Aside0.mk (HZ9.out.trans (hv.mono HZ9.out.size))
            clear hv
            go_wp2_with fail
            refine (K0.out _ (HB5.out.trans (HZ10.out.mono HB5.out.size))).mono ?_
            rintro e z11 ⟨⟨Au, cu, rfl, hu, gu⟩, hv⟩
            have HZ11 := Aside0.mk (HZ10.out.trans (hv.mono HZ10.out.size))
            clear hv
            have Gu := Aside0.mk gu
            have Lu := Aside0.mk hu
            clear gu hu
            go_wp2_with fail
            refine (same9 Au cu As cs s _ Gu.out Lu.out (Kd.C_below GS5.out HZ11.out) LS.out HNS.out).mono ?_
            rintro e z12 ⟨rfl, hv⟩
            have HZ12 := Aside0.mk (HZ11.out.trans (hv.mono HZ11.out.size))
            clear hv
            go_wp2_with fail
            refine (C1.out _ (Kd.C_below GA5.out HZ12.out)).mono ?_
            rintro e z13 ⟨rfl, hv⟩
            have HZ13 := Aside0.mk (HZ12.out.trans (hv.mono HZ12.out.size))
            clear hv
            go_wp2_with fail
            go_ret
            exact ⟨rfl, HB5.out.trans (HZ13.out.mono HB5.out.size)⟩
end Go.Proofs.YtglolcejfbhbdaaGreat.P
end
