/- What only TreeSets needs: contracts of reference functions and of the law, plain lemmas. No conditions. -/
import Derived.Test.YtglolcejfbhbdaaGreatSA
import Derived.Laws.BitsLemmas
section
namespace Go.Proofs.YtglolcejfbhbdaaGreat.P
open Go.RowKit Go.Proofs.YtglolcejfbhbdaaGreatW.PrintWords Go.Proofs.YtglolcejfbhbdaaGreatW.PrintLast Go.Proofs.YtglolcejfbhbdaaGreatW.PrintMore
attribute [local go_sem] max2_int min2_int max_two min_two max_three min_three max_four min_four   -- for this text's walks alone
set_option linter.unusedVariables false
set_option linter.unusedSimpArgs false
def ductusref16_Turn.l0 : Nat → List (S30) → Int → List (S30) → Int → Option ((List (S30)))
  | 0, _, _, _, _ => none
  | k + 1, x3, x4, x5, x6 => if x6 < (x5.length : Int) then (if 0 ≤ x6 then (if ((rd_T30 x5 x6).f0) > x4 then (if x3.length < 8796093022208 then (ductusref16_Turn.l0 k (x3 ++ [(⟨x4, wrap64 (((rd_T30 x5 x6).f0) - 1)⟩ : S30)]) (wrap64 (((rd_T30 x5 x6).f1) + 1)) x5 (wrap64 (x6 + 1))) else (none)) else (ductusref16_Turn.l0 k x3 (wrap64 (((rd_T30 x5 x6).f1) + 1)) x5 (wrap64 (x6 + 1)))) else (none)) else (if x4 ≤ 1114111 then (if x3.length < 8796093022208 then (some (x3 ++ [(⟨x4, 1114111⟩ : S30)])) else (none)) else (some x3))
def ductusref16_Turn.f (k : Nat) (l0 : List (S30)) : Option ((List (S30))) := (ductusref16_Set.f k l0).bind fun t197 => (ductusref16_Turn.l0 k ([] : List (S30)) 0 t197 0)
theorem ductusref16_Turn.mono_l : ∀ k, (∀ y0 y1 y2 y3, LeO (ductusref16_Turn.l0 k y0 y1 y2 y3) (ductusref16_Turn.l0 (k + 1) y0 y1 y2 y3))
  | 0 => fun _ _ _ _ r h => by simp [ductusref16_Turn.l0] at h
  | k + 1 => by
    have ih0 := ductusref16_Turn.mono_l k
    · intro y0 y1 y2 y3
      unfold ductusref16_Turn.l0
      repeat' first
      | (with_reducible exact ih0 _ _ _ _)
      | (with_reducible exact ductusref16_Set.mono _ _)
      | (with_reducible exact LeO.refl _)
      | (with_reducible exact LeO.none _)
      | (with_reducible refine LeO.ite ?_ ?_)
      | (with_reducible refine LeO.bind ?_ (fun _ => ?_))
      | exact ih0 _ _ _ _
      | exact ductusref16_Set.mono _ _
      | exact LeO.none _
      | refine LeO.ite ?_ ?_
      | refine LeO.bind ?_ (fun _ => ?_)
theorem ductusref16_Turn.mono : ∀ a0 k, LeO (ductusref16_Turn.f k a0) (ductusref16_Turn.f (k + 1) a0) := by
  intro a0 k
  have ih0 := ductusref16_Turn.mono_l k
  unfold ductusref16_Turn.f
  repeat' first
      | (with_reducible exact ih0 _ _ _ _)
      | (with_reducible exact ductusref16_Set.mono _ _)
      | (with_reducible exact LeO.refl _)
      | (with_reducible exact LeO.none _)
      | (with_reducible refine LeO.ite ?_ ?_)
      | (with_reducible refine LeO.bind ?_ (fun _ => ?_))
      | exact ih0 _ _ _ _
      | exact ductusref16_Set.mono _ _
      | exact LeO.none _
      | refine LeO.ite ?_ ?_
      | refine LeO.bind ?_ (fun _ => ?_)
set_option maxHeartbeats 8000000 in
set_option maxRecDepth 100000 in
theorem ductusref16_Turn.calls (k : Nat) (A0 : Option Addr) (c0 : Nat) (l0 : List (S30)) (r : List (S30)) (w : World) (hr0 : Kd.C k30 w A0 l0.length l0) (hc0 : l0.length ≤ c0) (h : ductusref16_Turn.f k l0 = some r) :
    Calls Tryz.prog 15 #[.slice A0 l0.length c0] w fun e w' => ∃ v0_ : Value, e = .returned (v0_) ∧ Kd.R k30 30 w' w.heap.size (fun _ => True) v0_ r ∧ Below w.heap.size w w' := by
  have hu30 := Tryz.underlying30
  have HR0 := Aside0.mk hr0
  have HC0 := Aside0.mk hc0
  clear hr0 hc0
  have HB := Aside0.mk (Below.refl w.heap.size w)
  have H : ((ductusref16_Set.f k l0).bind fun t197 => (ductusref16_Turn.l0 k ([] : List (S30)) 0 t197 0)) = some r := h
  clear h
  replace H := Option.bind_eq_some_iff.mp H
  obtain ⟨t197, A20, H⟩ := H
  replace H : (ductusref16_Turn.l0 k ([] : List (S30)) 0 t197 0) = some r := H
  have A2 := Aside0.mk A20
  clear A20
  have H' := Aside0.mk H
  clear H
  go_enter Tryz.func15, Tryz.ntmps15
  go_wp2_with (first | ((with_reducible refine gate_callee (f := 11) rfl ?_); refine goesL_ (some 8) rfl rfl Tryz.func11 (by kernel_rfl) rfl #[.slice A0 l0.length c0] rfl (by (try simp only [List.map_toArray, List.map_cons, List.map_nil]); first | done | rfl | (simp only [List.length_drop, List.length_take]; rfl)) ?_; (with_reducible refine (ductusref16_Set.calls k _ _ l0 t197 _ ?side1 ?side2 A2.out).mono ?_); (case side1 => repeat (first | exact HR0.out | (with_reducible refine Kd.C_alloc ?_ _) | (with_reducible refine Kd.C_drewN ?_ _) | (with_reducible refine Kd.C_drew ?_))); (case side2 => exact HC0.out); rintro e w3 ⟨v198, rfl, ho0, hb⟩; refine ⟨_, rfl, ?_⟩; have n0_ := Aside0.mk (Kd.R_lower ho0 (below_size (by repeat (first | (with_reducible first | exact HB.out | apply below_alloc | apply pw_below_drewN | apply below_drew1) | exact HB.out)))); have n1_ := Aside0.mk (below_step (by repeat (first | (with_reducible first | exact HB.out | apply below_alloc | apply pw_below_drewN | apply below_drew1) | exact HB.out)) hb); clear HB; have HO199 := n0_; have HB := n1_; clear n0_ n1_; (try clear hb); (try clear hb2); (try clear hk); (try clear hi); (try clear ho0)))
  go_loopg [3, 4, 6] k (fun kq v3 v4 v6 w' => ∃ (x3_1 : List (S30)) (x4_1 : Int) (x6_1 : Int), v4 = .int .i64 x4_1 ∧ v6 = .int .i64 x6_1 ∧ Aside0 (ductusref16_Turn.l0 kq x3_1 x4_1 t197 x6_1 = some r) ∧ Aside0 (kq ≤ k) ∧ Aside0 (Kd.R k30 30 w' w.heap.size (fun k_ => some k_ ≠ (v198 : Value).ownBlock) v3 x3_1) ∧ Aside0 (Kd.R k30 30 w' w.heap.size (fun k_ => some k_ ≠ (v3 : Value).ownBlock) v198 t197) ∧ Aside0 (Below w.heap.size w w'))
  case atStart => exact ⟨(([] : List (S30))), (0), (0), (by first | rfl | (simp; done) | (simp [*]; done)), (by first | rfl | (simp; done) | (simp [*]; done)), H', ⟨Nat.le_refl _⟩, ⟨by first | exact Kd.R_nil _ _ _ _ _ | exact Kd.N_nil _ _ _ _ _ | exact Kd.V_nil _ _ _ _ _ | exact Kd.Q_nil _ _ _ _ _ | exact Kd.S_nil _ _ _ _ _⟩, ⟨by (with_reducible repeat (first | apply Kd.R_alloc | apply Kd.R_drewN | apply Kd.R_drew)); exact Kd.R_mono HO199.out (fun _ hk => (by simp [Value.ownBlock]))⟩, ⟨by repeat (first | (with_reducible first | exact HB.out | apply below_alloc | apply pw_below_drewN | apply below_drew1) | exact HB.out)⟩⟩
  case round =>
    clear H'
    try clear c1
    try clear p2
    obtain ⟨x3_1, x4_1, x6_1, rfl, rfl, HA, HK1, HO_3, HO_5, HB⟩ := hrel
    cases gk with
    | zero => exact absurd HA.out (by simp [ductusref16_Turn.l0])
    | succ k1 =>
      have H := HA.out
      clear HA
      simp only [ductusref16_Turn.l0] at H
      by_cases c4 : x6_1 < (t197.length : Int)
      · rw [if_pos c4] at H
        have c4b0 : decide (x6_1 < (t197.length : Int)) = true := decide_eq_true c4
        clear c4
        by_cases c5 : 0 ≤ x6_1
        · rw [if_pos c5] at H
          have c5b0 : decide (0 ≤ x6_1) = true := decide_eq_true c5
          clear c5
          by_cases c6 : ((rd_T30 t197 x6_1).f0) > x4_1
          · rw [if_pos c6] at H
            have c6b0 : decide (x4_1 < ((rd_T30 t197 x6_1).f0)) = true := decide_eq_true c6
            clear c6
            by_cases c7 : x3_1.length < 8796093022208
            · rw [if_pos c7] at H
              have LMc7 := Aside0.mk c7
              clear c7
              obtain ⟨y202, hy202⟩ : ∃ y_ : List (S30), y_ = (x3_1 ++ [(⟨x4_1, wrap64 (((rd_T30 t197 x6_1).f0) - 1)⟩ : S30)]) := ⟨_, rfl⟩
              replace H : (ductusref16_Turn.l0 k1 y202 (wrap64 (((rd_T30 t197 x6_1).f1) + 1)) t197 (wrap64 (x6_1 + 1))) = some r := by first | (rw [hy202]; with_reducible exact H) | (have H2_ := (Option.bind_some _ _).symm.trans H; rw [hy202]; with_reducible exact H2_) | (have H2_ := (Option.bind_some _ _).symm.trans H; with_reducible exact H2_) | with_reducible exact H | (rw [hy202]; exact H) | exact H
              have Ny202 := Aside0.mk hy202
              clear hy202
              have H' := Aside0.mk H
              clear H
              obtain ⟨Ao8, co8, eo8⟩ := Kd.R_slice HO_5.out
              subst eo8
              have p200 : 0 ≤ (x6_1 : Int) := of_decide_eq_true (by first | (with_reducible assumption) | assumption)
              have q200 : x6_1 < (t197.length : Int) := of_decide_eq_true (by first | (with_reducible assumption) | assumption)
              obtain ⟨ad200, e200, hx200_0, hx200_1⟩ := at_T30 (Kd.R_reads' HO_5.out).2.2 x6_1 p200 q200
              cases e200
              replace p200 := eq_true p200
              replace q200 := eq_true q200
              have p201 : 0 ≤ (x6_1 : Int) := of_decide_eq_true (by first | (with_reducible assumption) | assumption)
              have q201 : x6_1 < (t197.length : Int) := of_decide_eq_true (by first | (with_reducible assumption) | assumption)
              obtain ⟨ad201, e201, hx201_0, hx201_1⟩ := at_T30 (Kd.R_reads' HO_5.out).2.2 x6_1 p201 q201
              obtain rfl : ad200 = ad201 := (by injection e201)
              replace p201 := eq_true p201
              replace q201 := eq_true q201
              go_wp2_with (first | ((with_reducible refine gate_builtin (b := .append) (xs := #[.tmp 22, .tmp 31]) rfl ?_); at_builtin; refine Kd.R_append k30 (w0 := w) w.heap.size rfl (.tmp 22) (.tmp 31) 22 30 (.agg #[(.int .i64 0), (.int .i64 0)]) 16 rfl Tryz.underlying22 info30 rfl (by decide) (by omega) u3 x3_1 (⟨x4_1, wrap64 (((rd_T30 t197 x6_1).f0) - 1)⟩ : S30) [.int .i64 x4_1, .int .i64 (wrap64 (((rd_T30 t197 x6_1).f0) - 1))] (fun k_ => some k_ ≠ (.slice (some ad200) t197.length co8 : Value).ownBlock) (fun _ => False) rfl rfl ?aP (fun _ hk => hk.elim) ?aF ?aO ?aB ?aS ?aL ?_; (case aP => exact k30_mkM _ _ _ (⟨x4_1, wrap64 (((rd_T30 t197 x6_1).f0) - 1)⟩ : S30)); (case aB => exact (by repeat (first | (with_reducible first | exact HB.out | apply below_alloc | apply pw_below_drewN | apply below_drew1) | exact HB.out))); (case aF => exact (fun k_ hk => Kd.fresh' (Kd.R_lt (by (with_reducible repeat (first | apply Kd.R_alloc | apply Kd.R_drewN | apply Kd.R_drew)); exact HO_5.out)) k_ hk)); (case aO => exact (by (with_reducible repeat (first | apply Kd.R_alloc | apply Kd.R_drewN | apply Kd.R_drew)); exact HO_3.out)); (case aS => exact (below_size (by repeat (first | (with_reducible first | exact HB.out | apply below_alloc | apply pw_below_drewN | apply below_drew1) | exact HB.out)))); (case aL => have := LMc7.out; omega); intro v203 w9 ho hb hg hat; rw [← Ny202.out] at ho; have n0_ := Aside0.mk (Kd.R_after (ok := (fun _ => True)) (by (with_reducible repeat (first | apply Kd.R_alloc | apply Kd.R_drewN | apply Kd.R_drew)); exact Kd.R_mono HO_5.out (fun _ hk => ⟨trivial, hk⟩)) hg hat); have n1_ := Aside0.mk (hb); have n2_ := Aside0.mk (ho); clear HO_5; clear HB; clear HO_3; have HO_5 := n0_; have HB := n1_; have HO204 := n2_; clear n0_ n1_ n2_; clear ho hb hg hat; have p205 : 0 ≤ (x6_1 : Int) := of_decide_eq_true (by first | (with_reducible assumption) | assumption); have q205 : x6_1 < (t197.length : Int) := of_decide_eq_true (by first | (with_reducible assumption) | assumption); obtain ⟨ad205, e205, hx205_0, hx205_1⟩ := at_T30 (Kd.R_reads' HO_5.out).2.2 x6_1 p205 q205; obtain rfl : ad200 = ad205 := (by injection e205); replace p205 := eq_true p205; replace q205 := eq_true q205))
              go_roundg k1
              case measure => have := HK1.out; omega
              case rel => exact ⟨(y202), (wrap64 (((rd_T30 t197 x6_1).f1) + 1)), (wrap64 (x6_1 + 1)), (by first | rfl | (simp; done) | (simp [*]; done)), (by first | rfl | (simp; done) | (simp [*]; done)), H', ⟨by have := HK1.out; omega⟩, ⟨by (with_reducible repeat (first | apply Kd.R_alloc | apply Kd.R_drewN | apply Kd.R_drew)); exact HO204.out⟩, ⟨by (with_reducible repeat (first | apply Kd.R_alloc | apply Kd.R_drewN | apply Kd.R_drew)); exact Kd.R_mono HO_5.out (fun _ hk => hk.2)⟩, ⟨by repeat (first | (with_reducible first | exact HB.out | apply below_alloc | apply pw_below_drewN | apply below_drew1) | exact HB.out)⟩⟩
            · rw [if_neg c7] at H
              exact absurd H (by simp)
          · rw [if_neg c6] at H
            have c6b0 : decide (x4_1 < ((rd_T30 t197 x6_1).f0)) = false := decide_eq_false c6
            clear c6
            have H' := Aside0.mk H
            clear H
            obtain ⟨Ao10, co10, eo10⟩ := Kd.R_slice HO_5.out
            subst eo10
            have p200 : 0 ≤ (x6_1 : Int) := of_decide_eq_true (by first | (with_reducible assumption) | assumption)
            have q200 : x6_1 < (t197.length : Int) := of_decide_eq_true (by first | (with_reducible assumption) | assumption)
            obtain ⟨ad200, e200, hx200_0, hx200_1⟩ := at_T30 (Kd.R_reads' HO_5.out).2.2 x6_1 p200 q200
            cases e200
            replace p200 := eq_true p200
            replace q200 := eq_true q200
            have p206 : 0 ≤ (x6_1 : Int) := of_decide_eq_true (by first | (with_reducible assumption) | assumption)
            have q206 : x6_1 < (t197.length : Int) := of_decide_eq_true (by first | (with_reducible assumption) | assumption)
            obtain ⟨ad206, e206, hx206_0, hx206_1⟩ := at_T30 (Kd.R_reads' HO_5.out).2.2 x6_1 p206 q206
            obtain rfl : ad200 = ad206 := (by injection e206)
            replace p206 := eq_true p206
            replace q206 := eq_true q206
            go_wp2
            go_roundg k1
            case measure => have := HK1.out; omega
            case rel => exact ⟨(x3_1), (wrap64 (((rd_T30 t197 x6_1).f1) + 1)), (wrap64 (x6_1 + 1)), (by first | rfl | (simp; done) | (simp [*]; done)), (by first | rfl | (simp; done) | (simp [*]; done)), H', ⟨by have := HK1.out; omega⟩, ⟨by (with_reducible repeat (first | apply Kd.R_alloc | apply Kd.R_drewN | apply Kd.R_drew)); exact HO_3.out⟩, ⟨by (with_reducible repeat (first | apply Kd.R_alloc | apply Kd.R_drewN | apply Kd.R_drew)); exact HO_5.out⟩, ⟨by repeat (first | (with_reducible first | exact HB.out | apply below_alloc | apply pw_below_drewN | apply below_drew1) | exact HB.out)⟩⟩
        · rw [if_neg c5] at H
          exact absurd H (by simp)
      · rw [if_neg c4] at H
        have c4b0 : decide (x6_1 < (t197.length : Int)) = false := decide_eq_false c4
        clear c4
        by_cases c11 : x4_1 ≤ 1114111
        · rw [if_pos c11] at H
          have c11b0 : decide (x4_1 ≤ 1114111) = true := decide_eq_true c11
          clear c11
          by_cases c12 : x3_1.length < 8796093022208
          · rw [if_pos c12] at H
            have LMc12 := Aside0.mk c12
            clear c12
            obtain ⟨y207, hy207⟩ : ∃ y_ : List (S30), y_ = (x3_1 ++ [(⟨x4_1, 1114111⟩ : S30)]) := ⟨_, rfl⟩
            replace H : (some y207) = some r := by first | (rw [hy207]; with_reducible exact H) | (have H2_ := (Option.bind_some _ _).symm.trans H; rw [hy207]; with_reducible exact H2_) | (have H2_ := (Option.bind_some _ _).symm.trans H; with_reducible exact H2_) | with_reducible exact H | (rw [hy207]; exact H) | exact H
            have Ny207 := Aside0.mk hy207
            clear hy207
            obtain rfl := Option.some.inj H
            obtain ⟨Ao13, co13, eo13⟩ := Kd.R_slice HO_5.out
            subst eo13
            go_wp2_with (first | ((with_reducible refine gate_builtin (b := .append) (xs := #[.tmp 41, .tmp 44]) rfl ?_); at_builtin; refine Kd.R_append k30 (w0 := w) w.heap.size rfl (.tmp 41) (.tmp 44) 22 30 (.agg #[(.int .i64 0), (.int .i64 0)]) 16 rfl Tryz.underlying22 info30 rfl (by decide) (by omega) u3 x3_1 (⟨x4_1, 1114111⟩ : S30) [.int .i64 x4_1, .int .i64 1114111] (fun k_ => some k_ ≠ (.slice Ao13 t197.length co13 : Value).ownBlock) (fun _ => False) rfl rfl ?aP (fun _ hk => hk.elim) ?aF ?aO ?aB ?aS ?aL ?_; (case aP => exact k30_mkM _ _ _ (⟨x4_1, 1114111⟩ : S30)); (case aB => exact (by repeat (first | (with_reducible first | exact HB.out | apply below_alloc | apply pw_below_drewN | apply below_drew1) | exact HB.out))); (case aF => exact (fun k_ hk => Kd.fresh' (Kd.R_lt (by (with_reducible repeat (first | apply Kd.R_alloc | apply Kd.R_drewN | apply Kd.R_drew)); exact HO_5.out)) k_ hk)); (case aO => exact (by (with_reducible repeat (first | apply Kd.R_alloc | apply Kd.R_drewN | apply Kd.R_drew)); exact HO_3.out)); (case aS => exact (below_size (by repeat (first | (with_reducible first | exact HB.out | apply below_alloc | apply pw_below_drewN | apply below_drew1) | exact HB.out)))); (case aL => have := LMc12.out; omega); intro v208 w14 ho hb hg hat; rw [← Ny207.out] at ho; have n0_ := Aside0.mk (Kd.R_after (ok := (fun _ => True)) (by (with_reducible repeat (first | apply Kd.R_alloc | apply Kd.R_drewN | apply Kd.R_drew)); exact Kd.R_mono HO_5.out (fun _ hk => ⟨trivial, hk⟩)) hg hat); have n1_ := Aside0.mk (hb); have n2_ := Aside0.mk (ho); clear HO_5; clear HB; clear HO_3; have HO_5 := n0_; have HB := n1_; have HO209 := n2_; clear n0_ n1_ n2_; clear ho hb hg hat))
            go_ret
            exact ⟨_, by first | rfl | (simp [errW_none, errW_some] <;> rfl) | (simp [*, errW_none, errW_some] <;> rfl), by (with_reducible repeat (first | apply Kd.R_alloc | apply Kd.R_drewN | apply Kd.R_drew)); exact Kd.R_mono HO209.out (fun _ hk => trivial), by repeat (first | (with_reducible first | exact HB.out | apply below_alloc | apply pw_below_drewN | apply below_drew1) | exact HB.out)⟩
          · rw [if_neg c12] at H
            exact absurd H (by simp)
        · rw [if_neg c11] at H
          have c11b0 : decide (x4_1 ≤ 1114111) = false := decide_eq_false c11
          clear c11
          obtain rfl := Option.some.inj H
          obtain ⟨Ao15, co15, eo15⟩ := Kd.R_slice HO_5.out
          subst eo15
          go_wp2
          go_ret
          exact ⟨_, by first | rfl | (simp [errW_none, errW_some] <;> rfl) | (simp [*, errW_none, errW_some] <;> rfl), by (with_reducible repeat (first | apply Kd.R_alloc | apply Kd.R_drewN | apply Kd.R_drew)); exact Kd.R_mono HO_3.out (fun _ hk => trivial), by repeat (first | (with_reducible first | exact HB.out | apply below_alloc | apply pw_below_drewN | apply below_drew1) | exact HB.out)⟩
end Go.Proofs.YtglolcejfbhbdaaGreat.P
end
section
namespace Go.Proofs.YtglolcejfbhbdaaGreat.P
open Go.RowKit Go.Shelf Go.Proofs.YtglolcejfbhbdaaGreatW.PrintWords Go.Proofs.YtglolcejfbhbdaaGreatW.PrintLast Go.Proofs.YtglolcejfbhbdaaGreatW.PrintMore
set_option linter.unusedVariables false
set_option linter.unusedSimpArgs false
theorem refTurn_l0 (S : List S30) (hN : Norm S) (hl : S.length ≤ 1000) : ∀ (n i : Nat) (x3 : List S30) (x4 : Int), i + n = S.length → 0 ≤ x4 → x4 ≤ 1114112 → x3.length ≤ i → Ends (fun k => ductusref16_Turn.l0 k x3 x4 S i) (turnGo (S.drop i ++ [topR]) x4 x3)
  | 0, i, x3, x4, hi, h0, h1, h2 => by
    rw [List.drop_of_length_le (by omega)]
    refine Ends.succ (g := fun _ => some (if x4 < 1114112 then x3 ++ [⟨x4, 1114111⟩] else x3)) (Ends.pure _) (fun k => ?_)
    rw [ductusref16_Turn.l0, if_neg (by omega)]
    by_cases h3 : x4 ≤ 1114111
    · rw [if_pos h3, if_pos (by omega), if_pos (by omega)]
    · rw [if_neg h3, if_neg (by omega)]
  | n + 1, i, x3, x4, hi, h0, h1, h2 => by
    have hlt : i < S.length := by omega
    have hb := hN.2 S[i] (List.getElem_mem hlt)
    rw [List.drop_eq_getElem_cons hlt]
    show Ends _ (turnGo (S.drop (i + 1) ++ [topR]) (S[i].f1 + 1) (if x4 < S[i].f0 then x3 ++ [⟨x4, S[i].f0 - 1⟩] else x3))
    have ih := refTurn_l0 S hN hl n (i + 1) (if x4 < S[i].f0 then x3 ++ [⟨x4, S[i].f0 - 1⟩] else x3) (S[i].f1 + 1) (by omega) (by omega) (by omega) (by split <;> (try rw [List.length_append, List.length_singleton]) <;> omega)
    have hr := rd30_get S i hlt
    have hw : wrap64 ((i : Int) + 1) = ((i + 1 : Nat) : Int) := by rw [wr64 _ (by omega) (by omega)]; omega
    refine Ends.succ ih (fun k => ?_)
    rw [ductusref16_Turn.l0, if_pos (by omega), if_pos (by omega), hr, hw, wr64 (S[i].f1 + 1) (by omega) (by omega), wr64 (S[i].f0 - 1) (by omega) (by omega)]
    by_cases h3 : S[i].f0 > x4
    · rw [if_pos h3, if_pos (by omega), if_pos (by omega)]
    · rw [if_neg h3, if_neg (by omega)]
theorem refTurn (L : List S30) (hl : L.length ≤ 500) : Ends (fun k => ductusref16_Turn.f k L) (turnL L) := by
  have h2 := setL_short L
  exact Ends.bind (refSet L hl) (refTurn_l0 (setL L) (setL_norm L) (by omega) (setL L).length 0 [] 0 (by omega) (by omega) (by omega) (by simp))
end Go.Proofs.YtglolcejfbhbdaaGreat.P
end
section
namespace Go.Proofs.YtglolcejfbhbdaaGreat.P
open Go.RowKit Go.Shelf Go.Proofs.YtglolcejfbhbdaaGreatW.PrintWords Go.Proofs.YtglolcejfbhbdaaGreatW.PrintLast Go.Proofs.YtglolcejfbhbdaaGreatW.PrintMore
set_option linter.unusedVariables false
set_option linter.unusedSimpArgs false
theorem bit1 (fl : Int) : Go.bits .and .i64 fl 1 = 0 ∨ Go.bits .and .i64 fl 1 = 1 := by
  have h : (BitVec.ofInt 64 1).toNat = 2 ^ 1 - 1 := by decide
  have key : (BitVec.ofInt 64 fl &&& BitVec.ofInt 64 1).toNat = (BitVec.ofInt 64 fl).toNat % 2 ^ 1 := by
    rw [BitVec.toNat_and, h, Nat.and_two_pow_sub_one_eq_mod]
  show IntKind.i64.wrap ((BitVec.ofInt 64 fl &&& BitVec.ofInt 64 1).toNat : Nat) = 0 ∨ IntKind.i64.wrap ((BitVec.ofInt 64 fl &&& BitVec.ofInt 64 1).toNat : Nat) = 1
  rw [key, IntKind.wrap_i64]
  omega
theorem bit2 (fl : Int) : Go.bits .and .i64 fl 2 = 0 ∨ Go.bits .and .i64 fl 2 = 2 := by
  have h : (BitVec.ofInt 64 2).toNat = 2 := by decide
  have key : (BitVec.ofInt 64 fl &&& BitVec.ofInt 64 2).toNat = (BitVec.ofInt 64 fl).toNat &&& 2 := by
    rw [BitVec.toNat_and, h]
  show IntKind.i64.wrap ((BitVec.ofInt 64 fl &&& BitVec.ofInt 64 2).toNat : Nat) = 0 ∨ IntKind.i64.wrap ((BitVec.ofInt 64 fl &&& BitVec.ofInt 64 2).toNat : Nat) = 2
  rw [key, IntKind.wrap_i64]
  have h1 : (BitVec.ofInt 64 fl).toNat &&& 2 ≤ 2 := Nat.and_le_right
  have h2 : ((BitVec.ofInt 64 fl).toNat &&& 2) % 2 ^ 1 = 0 := by
    rw [Nat.and_mod_two_pow]
    exact Nat.and_zero _
  omega
theorem flag1 (fl : Int) : (Go.bits .and .i64 fl 1 != 0) = true ↔ Go.bits .and .i64 fl 1 = 1 := by
  have h := bit1 fl
  rw [bne_iff_ne]
  omega
theorem flag2 (fl : Int) : (Go.bits .and .i64 fl 2 != 0) = true ↔ Go.bits .and .i64 fl 2 = 2 := by
  have h := bit2 fl
  rw [bne_iff_ne]
  omega
theorem stL0 : (⟨65, 90, 32⟩ : S76) ∈ stL := by unfold stL; simp
theorem stL2 : (⟨192, 214, 32⟩ : S76) ∈ stL := by unfold stL; simp
theorem stL3 : (⟨216, 222, 32⟩ : S76) ∈ stL := by unfold stL; simp
theorem stL4 : (⟨913, 929, 32⟩ : S76) ∈ stL := by unfold stL; simp
theorem stL5 : (⟨931, 937, 32⟩ : S76) ∈ stL := by unfold stL; simp
theorem stL7 : (⟨1024, 1039, 80⟩ : S76) ∈ stL := by unfold stL; simp
theorem stL8 : (⟨1040, 1071, 32⟩ : S76) ∈ stL := by unfold stL; simp
theorem j4_true (m : Nat) (c : Int) (h0 : 0 ≤ c) (h1 : c ≤ 10000) : ductusref04_Of.j4 (m + 1) c true = some (c + 32) := by
  rw [ductusref04_Of.j4, if_pos rfl, wr64 (c + 32) (by omega) (by omega)]
theorem refOf_at (c : Int) (m : Nat) : ductusref04_Of.f (m + 10) c = some (ofP c) := by
  have ff : (false = true) = False := by simp
  by_cases a1 : 65 ≤ c ∧ c ≤ 90
  · unfold ductusref04_Of.f
    rw [if_pos a1.1, decide_eq_true a1.2, ductusref04_Of.j0, if_pos rfl, j4_true _ c (by omega) (by omega), ofP_in c _ stL0 a1.1 a1.2]
  have e1 : ductusref04_Of.f (m + 10) c = ductusref04_Of.j0 (m + 10) c false := by
    unfold ductusref04_Of.f
    by_cases g : c ≥ 65
    · rw [if_pos g, decide_eq_false (by omega)]
    · rw [if_neg g]
  rw [e1, ductusref04_Of.j0, if_neg (by simp)]
  by_cases a2 : 192 ≤ c ∧ c ≤ 214
  · rw [if_pos a2.1, decide_eq_true a2.2, ductusref04_Of.j1, if_pos rfl, j4_true _ c (by omega) (by omega), ofP_in c _ stL2 a2.1 a2.2]
  have e2 : (if c ≥ 192 then ductusref04_Of.j1 (m + 9) c (decide (c ≤ 214)) else ductusref04_Of.j1 (m + 9) c false) = ductusref04_Of.j1 (m + 9) c false := by
    by_cases g : c ≥ 192
    · rw [if_pos g, decide_eq_false (by omega)]
    · rw [if_neg g]
  rw [e2, ductusref04_Of.j1, if_neg (by simp)]
  by_cases a3 : 216 ≤ c ∧ c ≤ 222
  · rw [if_pos a3.1, decide_eq_true a3.2, ductusref04_Of.j2, if_pos rfl, j4_true _ c (by omega) (by omega), ofP_in c _ stL3 a3.1 a3.2]
  have e3 : (if c ≥ 216 then ductusref04_Of.j2 (m + 8) c (decide (c ≤ 222)) else ductusref04_Of.j2 (m + 8) c false) = ductusref04_Of.j2 (m + 8) c false := by
    by_cases g : c ≥ 216
    · rw [if_pos g, decide_eq_false (by omega)]
    · rw [if_neg g]
  rw [e3, ductusref04_Of.j2, if_neg (by simp)]
  by_cases a4 : 913 ≤ c ∧ c ≤ 929
  · rw [if_pos a4.1, decide_eq_true a4.2, ductusref04_Of.j3, if_pos rfl, j4_true _ c (by omega) (by omega), ofP_in c _ stL4 a4.1 a4.2]
  have e4 : (if c ≥ 913 then ductusref04_Of.j3 (m + 7) c (decide (c ≤ 929)) else ductusref04_Of.j3 (m + 7) c false) = ductusref04_Of.j3 (m + 7) c false := by
    by_cases g : c ≥ 913
    · rw [if_pos g, decide_eq_false (by omega)]
    · rw [if_neg g]
  rw [e4, ductusref04_Of.j3, if_neg (by simp)]
  by_cases a5 : 931 ≤ c ∧ c ≤ 937
  · rw [if_pos a5.1, if_pos a5.2, decide_eq_true a5.2, j4_true _ c (by omega) (by omega), ofP_in c _ stL5 a5.1 a5.2]
  have e5 : (if c ≥ 931 then (if c ≤ 937 then ductusref04_Of.j4 (m + 6) c (decide (c ≤ 937)) else (if c ≥ 1040 then ductusref04_Of.j4 (m + 6) c (decide (c ≤ 1071)) else ductusref04_Of.j4 (m + 6) c false)) else (if c ≥ 1040 then ductusref04_Of.j4 (m + 6) c (decide (c ≤ 1071)) else ductusref04_Of.j4 (m + 6) c false)) = (if c ≥ 1040 then ductusref04_Of.j4 (m + 6) c (decide (c ≤ 1071)) else ductusref04_Of.j4 (m + 6) c false) := by
    by_cases g : c ≥ 931
    · rw [if_pos g, if_neg (by omega)]
    · rw [if_neg g]
  rw [e5]
  by_cases a6 : 1040 ≤ c ∧ c ≤ 1071
  · rw [if_pos a6.1, decide_eq_true a6.2, j4_true _ c (by omega) (by omega), ofP_in c _ stL8 a6.1 a6.2]
  have e6 : (if c ≥ 1040 then ductusref04_Of.j4 (m + 6) c (decide (c ≤ 1071)) else ductusref04_Of.j4 (m + 6) c false) = ductusref04_Of.j4 (m + 6) c false := by
    by_cases g : c ≥ 1040
    · rw [if_pos g, decide_eq_false (by omega)]
    · rw [if_neg g]
  rw [e6, ductusref04_Of.j4, if_neg (by simp)]
  by_cases a7 : 1024 ≤ c ∧ c ≤ 1039
  · rw [if_pos a7.1, decide_eq_true a7.2, ductusref04_Of.j5, if_pos rfl, wr64 (c + 80) (by omega) (by omega), ofP_in c _ stL7 a7.1 a7.2]
  have e7 : (if c ≥ 1024 then ductusref04_Of.j5 (m + 5) c (decide (c ≤ 1039)) else ductusref04_Of.j5 (m + 5) c false) = ductusref04_Of.j5 (m + 5) c false := by
    by_cases g : c ≥ 1024
    · rw [if_pos g, decide_eq_false (by omega)]
    · rw [if_neg g]
  rw [e7, ductusref04_Of.j5, if_neg (by simp)]
  by_cases a8 : c = 181
  · subst a8; rfl
  by_cases a9 : c = 962
  · subst a9; rfl
  by_cases a10 : c = 7838
  · subst a10; rfl
  rw [if_neg a8, if_neg a9, if_neg a10]
  refine congrArg some (Eq.symm ?_)
  rcases ofP_cases c with ⟨t, ht, g0, g1, hc⟩ | ⟨hc, _⟩
  · exfalso
    clear hc e1 e2 e3 e4 e5 e6 e7 ff
    simp only [stL, List.mem_cons, List.not_mem_nil, or_false] at ht
    rcases ht with rfl | rfl | rfl | rfl | rfl | rfl | rfl | rfl | rfl | rfl <;> dsimp only at g0 g1 <;> omega
  · exact hc
theorem refOf (c : Int) (h0 : 0 ≤ c) (h1 : c ≤ 1000000) : Ends (fun k => ductusref04_Of.f k c) (ofP c) :=
  ⟨10, fun k hk => by
    obtain ⟨m, rfl⟩ : ∃ m, k = m + 10 := ⟨k - 10, by omega⟩
    exact refOf_at c m⟩
def turnT (n : Nat) : List Int := ((List.range n).filter (fun (c : Nat) => decide (ofP (c : Int) ≠ (c : Int)))).map (fun (c : Nat) => (c : Int))
theorem turnT_succ (n : Nat) : turnT (n + 1) = turnT n ++ (if ofP (n : Int) = (n : Int) then [] else [(n : Int)]) := by
  unfold turnT
  rw [List.range_succ, List.filter_append, List.map_append]
  congr 1
  by_cases h : ofP (n : Int) = (n : Int)
  · rw [if_pos h]; simp [h]
  · rw [if_neg h]; simp [h]
theorem turnT_mem (n : Nat) (c : Int) : c ∈ turnT n ↔ 0 ≤ c ∧ c < n ∧ ofP c ≠ c := by
  unfold turnT
  rw [List.mem_map]
  constructor
  · rintro ⟨k, h1, rfl⟩
    rw [List.mem_filter, List.mem_range, decide_eq_true_eq] at h1
    exact ⟨by omega, by omega, h1.2⟩
  · rintro ⟨h0, h1, h2⟩
    refine ⟨c.toNat, ?_, by omega⟩
    rw [List.mem_filter, List.mem_range, decide_eq_true_eq, show ((c.toNat : Nat) : Int) = c by omega]
    exact ⟨by omega, h2⟩
theorem turnT_len (n : Nat) : n ≤ 100000 → 2 * (turnT n).length = (yields1 [⟨0, 100000⟩] n).length := by
  induction n with
  | zero => intro _; rfl
  | succ n ih =>
    intro hn
    rw [turnT_succ, yields1_succ, List.length_append, List.length_append, ← ih (by omega)]
    have hh : hasS [⟨0, 100000⟩] (n : Int) = true := (hasS_rm _ _).2 ((rm_one _ _ _).2 ⟨by omega, by omega⟩)
    unfold foldYield
    by_cases h : ofP (n : Int) = (n : Int)
    · rw [if_pos h, if_neg (fun h2 => h2.1 h)]
      simp
    · rw [if_neg h, if_pos ⟨h, by rw [hh]; rfl⟩]
      simp
      omega
theorem turnT_b : (turnT 7936).length ≤ 131 := by
  have h1 := turnT_len 7936 (by decide)
  have h2 := yields1_len [⟨0, 100000⟩]
  omega
theorem turnT_le (n : Nat) : (turnT n).length ≤ n := by
  unfold turnT
  rw [List.length_map]
  refine Nat.le_trans (List.length_filter_le _ _) ?_
  simp
theorem refTurned_l0 : ∀ (n i : Nat), i + n = 7936 → Ends (fun k => ductusref16_turned.l0 k (turnT i) i) (turnT 7936)
  | 0, i, hi => by
    obtain rfl : i = 7936 := by omega
    refine Ends.succ (Ends.pure _) (fun k => ?_)
    rw [ductusref16_turned.l0, if_neg (by omega)]
  | n + 1, i, hi => by
    have ih := refTurned_l0 n (i + 1) (by omega)
    have hw : wrap64 ((i : Int) + 1) = ((i + 1 : Nat) : Int) := by rw [wr64 _ (by omega) (by omega)]; omega
    have hl := turnT_le i
    refine Ends.succ (g := fun k => (ductusref04_Of.f k i).bind fun t132 => (if t132 = (i : Int) then (ductusref16_turned.l0 k (turnT i) (wrap64 ((i : Int) + 1))) else (if (turnT i).length < 17592186044416 then (ductusref16_turned.l0 k (turnT i ++ [(i : Int)]) (wrap64 ((i : Int) + 1))) else (none)))) ?_ (fun k => by rw [ductusref16_turned.l0, if_pos (by omega)])
    refine Ends.bind (refOf i (by omega) (by omega)) ?_
    rw [hw]
    rw [turnT_succ] at ih
    by_cases h : ofP (i : Int) = (i : Int)
    · rw [if_pos h, List.append_nil] at ih
      exact Ends.congr ih (fun k => if_pos h)
    · rw [if_neg h] at ih
      exact Ends.congr ih (fun k => by rw [if_neg h, if_pos (by omega)])
theorem refTurned : Ends (fun k => ductusref16_turned.f k) (turnT 7936) := refTurned_l0 7936 0 (by omega)
def mirF (c : Int) : List Int → Int
  | a :: b :: l => if a = c then b else if b = c then a else mirF c l
  | _ => c
def brA : List Int := [40, 41, 91, 93, 123, 125, 9001, 9002, 12296, 12297, 12298, 12299, 12300, 12301, 12302, 12303, 12304, 12305, 60, 62, 171, 187, 8804, 8805, 8810, 8811]
theorem mirF_at : ∀ q ∈ mirL26, mirF q brA = mirrorP q := by decide
theorem mirF_else (c : Int) : ∀ (n : Nat) (l : List Int), l.length ≤ n → (∀ q ∈ l, q ≠ c) → mirF c l = c
  | _, [], _, _ => rfl
  | _, [_], _, _ => rfl
  | 0, a :: b :: l, hn, _ => by simp at hn
  | n + 1, a :: b :: l, hn, h => by
    rw [mirF, if_neg (h a (by simp)), if_neg (h b (by simp))]
    exact mirF_else c n l (by simp at hn; omega) (fun q hq => h q (by simp [hq]))
theorem mirrorP_else (c : Int) (h : c ∉ mirL26) : mirrorP c = c := by
  have h1 : mirL.find? (fun p => decide (p.1 = c)) = none := List.find?_eq_none.2 (fun p hp => by
    have : p.1 ∈ mirL26 := (show ∀ p ∈ mirL, p.1 ∈ mirL26 by decide) p hp
    simp only [decide_eq_true_eq]
    intro h2
    exact h (h2 ▸ this))
  have h2 : brL.find? (fun p => decide (p.1 = c)) = none := List.find?_eq_none.2 (fun p hp => by
    have : p.1 ∈ mirL26 := (show ∀ p ∈ brL, p.1 ∈ mirL26 by decide) p hp
    simp only [decide_eq_true_eq]
    intro h2
    exact h (h2 ▸ this))
  have h3 : brL.find? (fun p => decide (p.2 = c)) = none := List.find?_eq_none.2 (fun p hp => by
    have : p.2 ∈ mirL26 := (show ∀ p ∈ brL, p.2 ∈ mirL26 by decide) p hp
    simp only [decide_eq_true_eq]
    intro h2
    exact h (h2 ▸ this))
  unfold mirrorP otherP
  rw [h1, h2, h3]
  rfl
theorem mirF_eq (c : Int) : mirF c brA = mirrorP c := by
  by_cases h : c ∈ mirL26
  · exact mirF_at c h
  · rw [mirrorP_else c h]
    refine mirF_else c 26 brA (by decide) (fun q hq he => h ?_)
    have : ∀ q ∈ brA, q ∈ mirL26 := by decide
    exact he ▸ this q hq
theorem rdI_get (l : List Int) (i : Nat) (h : i < l.length) : rd l i = l[i] := by simp [rd, List.getD_eq_getElem?_getD, h]
theorem refMirror_l0 (c : Int) (L : List Int) (hL : L.length ≤ 100) : ∀ (n i : Nat), i + 2 * n = L.length → Ends (fun k => ductusref03_Mirror.l0 k c L i) (mirF c (L.drop i))
  | 0, i, hi => by
    rw [List.drop_of_length_le (by omega)]
    refine Ends.succ (Ends.pure _) (fun k => ?_)
    rw [ductusref03_Mirror.l0, if_neg (by omega)]
    rfl
  | n + 1, i, hi => by
    have ih := refMirror_l0 c L hL n (i + 2) (by omega)
    have h1 : i < L.length := by omega
    have h2 : i + 1 < L.length := by omega
    rw [List.drop_eq_getElem_cons h1, List.drop_eq_getElem_cons h2, mirF]
    have e1 := rdI_get L i h1
    have e2 : rd L ((i : Int) + 1) = L[i + 1] := rdI_get L (i + 1) h2
    have w1 : wrap64 ((i : Int) + 1) = (i : Int) + 1 := wr64 _ (by omega) (by omega)
    have w2 : wrap64 ((i : Int) + 2) = ((i + 2 : Nat) : Int) := by rw [wr64 _ (by omega) (by omega)]; omega
    by_cases g1 : L[i] = c
    · rw [if_pos g1]
      refine Ends.succ (Ends.pure _) (fun k => ?_)
      rw [ductusref03_Mirror.l0, if_pos (by omega), if_pos (by omega), e1, if_pos g1, w1, if_pos (by omega), if_pos (by omega), e2]
    · rw [if_neg g1]
      by_cases g2 : L[i + 1] = c
      · rw [if_pos g2]
        refine Ends.succ (Ends.pure _) (fun k => ?_)
        rw [ductusref03_Mirror.l0, if_pos (by omega), if_pos (by omega), e1, if_neg g1, w1, if_pos (by omega), if_pos (by omega), e2, if_pos g2]
      · rw [if_neg g2]
        refine Ends.succ ih (fun k => ?_)
        rw [ductusref03_Mirror.l0, if_pos (by omega), if_pos (by omega), e1, if_neg g1, w1, if_pos (by omega), if_pos (by omega), e2, if_neg g2, w2]
theorem refMirror (c : Int) : Ends (fun k => ductusref03_Mirror.f k c) (mirrorP c) := by
  rw [← mirF_eq]
  exact Ends.congr (refMirror_l0 c brA (by decide) 13 0 (by decide)) (fun k => rfl)
theorem refMirrored (c : Int) : Ends (fun k => ductusref03_Mirrored.f k c) (mirrorP c != c) := Ends.bind (refMirror c) (Ends.pure _)
end Go.Proofs.YtglolcejfbhbdaaGreat.P
end
section
namespace Go.Proofs.YtglolcejfbhbdaaGreat.P
open Go.RowKit Go.Shelf Go.Proofs.YtglolcejfbhbdaaGreatW.PrintWords Go.Proofs.YtglolcejfbhbdaaGreatW.PrintLast Go.Proofs.YtglolcejfbhbdaaGreatW.PrintMore
set_option linter.unusedVariables false
set_option linter.unusedSimpArgs false
def ones (l : List Int) : List S30 := l.map (fun c => ⟨c, c⟩)
theorem ones_len (l : List Int) : (ones l).length = l.length := List.length_map _
theorem ones_snoc (l : List Int) (c : Int) : ones (l ++ [c]) = ones l ++ [⟨c, c⟩] := by unfold ones; rw [List.map_append]; rfl
theorem rm_ones (l : List Int) (c : Int) : rm (ones l) c ↔ c ∈ l := by
  unfold rm ones
  constructor
  · rintro ⟨r, hr, h1, h2⟩
    obtain ⟨q, hq, rfl⟩ := List.mem_map.1 hr
    dsimp only at h1 h2
    obtain rfl : q = c := by omega
    exact hq
  · intro h
    exact ⟨⟨c, c⟩, List.mem_map.2 ⟨c, h, rfl⟩, Int.le_refl _, Int.le_refl _⟩
def mirT (s : List S30) (n : Nat) : List Int := ((List.range n).filter (fun (c : Nat) => decide (mirrorP (c : Int) ≠ (c : Int)) && hasS s (c : Int))).map (fun (c : Nat) => mirrorP (c : Int))
theorem mirT_succ (s : List S30) (n : Nat) : mirT s (n + 1) = mirT s n ++ (if mirrorP (n : Int) ≠ (n : Int) ∧ hasS s (n : Int) = true then [mirrorP (n : Int)] else []) := by
  unfold mirT
  rw [List.range_succ, List.filter_append, List.map_append]
  congr 1
  by_cases h : mirrorP (n : Int) ≠ (n : Int) ∧ hasS s (n : Int) = true
  · rw [if_pos h]; simp [h]
  · rw [if_neg h]
    by_cases h2 : mirrorP (n : Int) = (n : Int)
    · simp [h2]
    · have h3 : hasS s (n : Int) = false := Bool.eq_false_iff.2 (fun h4 => h ⟨h2, h4⟩)
      simp [h3]
theorem mirT_mem (s : List S30) (n : Nat) (c : Int) : c ∈ mirT s n ↔ ∃ q : Int, 0 ≤ q ∧ q < n ∧ mirrorP q ≠ q ∧ rm s q ∧ mirrorP q = c := by
  unfold mirT
  rw [List.mem_map]
  constructor
  · rintro ⟨k, h1, rfl⟩
    rw [List.mem_filter, List.mem_range, Bool.and_eq_true, decide_eq_true_eq, hasS_rm] at h1
    exact ⟨k, by omega, by omega, h1.2.1, h1.2.2, rfl⟩
  · rintro ⟨q, h0, h1, h2, h3, h4⟩
    refine ⟨q.toNat, ?_, ?_⟩
    · rw [List.mem_filter, List.mem_range, Bool.and_eq_true, decide_eq_true_eq, hasS_rm, show ((q.toNat : Nat) : Int) = q by omega]
      exact ⟨by omega, h2, h3⟩
    · rw [show ((q.toNat : Nat) : Int) = q by omega]
      exact h4
theorem mirT_gap (s : List S30) (a : Nat) : ∀ (k : Nat), (∀ q ∈ mirL26, q < ((a : Nat) : Int) ∨ ((a + k : Nat) : Int) ≤ q) → (mirT s (a + k)).length = (mirT s a).length
  | 0, _ => rfl
  | k + 1, h => by
    rw [show a + (k + 1) = (a + k) + 1 from rfl, mirT_succ, List.length_append, mirT_gap s a k (fun t ht => by rcases h t ht with h1 | h1; exact .inl h1; exact .inr (by omega))]
    have h2 : mirrorP ((a + k : Nat) : Int) = ((a + k : Nat) : Int) := mirrorP_else _ (fun h3 => by rcases h _ h3 with h1 | h1 <;> omega)
    rw [if_neg (fun h3 => h3.1 h2)]
    rfl
theorem mirT_step (s : List S30) (a : Nat) : ∀ (k : Nat), (mirT s (a + k)).length ≤ (mirT s a).length + k
  | 0 => Nat.le_refl _
  | k + 1 => by
    rw [show a + (k + 1) = (a + k) + 1 from rfl, mirT_succ, List.length_append]
    have h1 := mirT_step s a k
    split <;> simp <;> omega
theorem mirT_le (s : List S30) (n : Nat) : (mirT s n).length ≤ n := by
  have h := mirT_step s 0 n
  rw [Nat.zero_add] at h
  exact Nat.le_trans h (by show 0 + n ≤ n; omega)
theorem mirT_b (s : List S30) : (mirT s 12544).length ≤ 26 := by
  have e0 := mirT_gap s 0 40 (by decide)
  have e1 := mirT_step s 40 2
  have e2 := mirT_gap s 42 18 (by decide)
  have e3 := mirT_step s 60 1
  have e4 := mirT_gap s 61 1 (by decide)
  have e5 := mirT_step s 62 1
  have e6 := mirT_gap s 63 28 (by decide)
  have e7 := mirT_step s 91 1
  have e8 := mirT_gap s 92 1 (by decide)
  have e9 := mirT_step s 93 1
  have f0 := mirT_gap s 94 29 (by decide)
  have f1 := mirT_step s 123 1
  have f2 := mirT_gap s 124 1 (by decide)
  have f3 := mirT_step s 125 1
  have f4 := mirT_gap s 126 45 (by decide)
  have f5 := mirT_step s 171 1
  have f6 := mirT_gap s 172 15 (by decide)
  have f7 := mirT_step s 187 1
  have f8 := mirT_gap s 188 8616 (by decide)
  have f9 := mirT_step s 8804 2
  have g0 := mirT_gap s 8806 4 (by decide)
  have g1 := mirT_step s 8810 2
  have g2 := mirT_gap s 8812 189 (by decide)
  have g3 := mirT_step s 9001 2
  have g4 := mirT_gap s 9003 3293 (by decide)
  have g5 := mirT_step s 12296 10
  have g6 := mirT_gap s 12306 238 (by decide)
  have z : (mirT s 0).length = 0 := rfl
  simp only [Nat.reduceAdd] at e0 e1 e2 e3 e4 e5 e6 e7 e8 e9 f0 f1 f2 f3 f4 f5 f6 f7 f8 f9 g0 g1 g2 g3 g4 g5 g6
  omega
theorem refClose_l2 (s : List S30) (hs : s.length ≤ 470) : ∀ (n i : Nat), i + n = 12544 → Ends (fun k => ductusref16_Close.l2 k s (s ++ ones (mirT s i)) i) (setL (s ++ ones (mirT s 12544)))
  | 0, i, hi => by
    obtain rfl : i = 12544 := by omega
    have hl := mirT_b s
    refine Ends.succ (g := fun k => (ductusref16_Set.f k (s ++ ones (mirT s 12544))).bind fun t186 => (some t186)) ?_ (fun k => by rw [ductusref16_Close.l2, if_neg (by omega)])
    exact Ends.bind (refSet _ (by rw [List.length_append, ones_len]; omega)) (Ends.pure _)
  | n + 1, i, hi => by
    have ih := refClose_l2 s hs n (i + 1) (by omega)
    have hw : wrap64 ((i : Int) + 1) = ((i + 1 : Nat) : Int) := by rw [wr64 _ (by omega) (by omega)]; omega
    have hl := mirT_le s i
    rw [mirT_succ] at ih
    have hno : ¬ (mirrorP (i : Int) ≠ (i : Int) ∧ hasS s (i : Int) = true) → Ends (fun k => ductusref16_Close.j4 k s (s ++ ones (mirT s i)) i false) (setL (s ++ ones (mirT s 12544))) := by
      intro h
      rw [if_neg h, List.append_nil] at ih
      exact Ends.succ ih (fun k => by rw [ductusref16_Close.j4, if_neg (by simp), hw])
    refine Ends.succ (g := fun k => (ductusref03_Mirrored.f k i).bind fun t189 => (if t189 = true then ((ductusref16_Has.f k s i).bind fun t190 => (ductusref16_Close.j4 k s (s ++ ones (mirT s i)) i t190)) else (ductusref16_Close.j4 k s (s ++ ones (mirT s i)) i false))) ?_ (fun k => by rw [ductusref16_Close.l2, if_pos (by omega)])
    refine Ends.bind (refMirrored i) ?_
    by_cases h1 : mirrorP (i : Int) = (i : Int)
    · refine Ends.congr (hno (fun h => h.1 h1)) (fun k => if_neg ?_)
      rw [h1]
      simp
    · have h2 : (mirrorP (i : Int) != (i : Int)) = true := bne_iff_ne.2 h1
      refine Ends.congr (g := fun k => (ductusref16_Has.f k s i).bind fun t190 => (ductusref16_Close.j4 k s (s ++ ones (mirT s i)) i t190)) ?_ (fun k => if_pos h2)
      refine Ends.bind (refHas s i (by omega)) ?_
      cases h3 : hasS s (i : Int) with
      | false => exact hno (fun h => by rw [h3] at h; exact absurd h.2 (by simp))
      | true =>
        rw [if_pos ⟨h1, h3⟩, ones_snoc, ← List.append_assoc] at ih
        refine Ends.succ (g := fun k => (ductusref03_Mirror.f k i).bind fun t191 => ((ductusref16_one.f t191).bind fun bt192 => (if (s ++ ones (mirT s i)).length < 8796093022208 then (ductusref16_Close.l2 k s ((s ++ ones (mirT s i)) ++ [(⟨bt192.1, bt192.2⟩ : S30)]) (wrap64 ((i : Int) + 1))) else (none)))) ?_ (fun k => by rw [ductusref16_Close.j4, if_pos rfl])
        refine Ends.bind (refMirror i) (Ends.congr ih (fun k => ?_))
        show (if (s ++ ones (mirT s i)).length < 8796093022208 then _ else none) = _
        rw [if_pos (by rw [List.length_append, ones_len]; omega), hw]
theorem refClose_j2 (fl : Int) (s : List S30) (hs : s.length ≤ 470) : Ends (fun k => ductusref16_Close.j2 k fl s) (if (Go.bits .and .i64 fl 2 != 0) = true then setL (s ++ ones (mirT s 12544)) else s) := by
  by_cases h : Go.bits .and .i64 fl 2 = 2
  · rw [if_pos ((flag2 fl).2 h)]
    have h2 := refClose_l2 s hs 12544 0 (by omega)
    refine Ends.succ h2 (fun k => ?_)
    rw [ductusref16_Close.j2, if_pos h]
    show (if ([] : List S30).length + s.length < 8796093022208 then ductusref16_Close.l2 k s ([] ++ s) 0 else none) = _
    rw [if_pos (by rw [List.length_nil]; omega)]
    show _ = ductusref16_Close.l2 k s (s ++ []) 0
    rw [List.nil_append, List.append_nil]
  · rw [if_neg (fun h2 => h ((flag2 fl).1 h2))]
    refine Ends.succ (Ends.pure s) (fun k => ?_)
    rw [ductusref16_Close.j2, if_neg h]
def fwd (s : List S30) (l : List Int) : List Int := (l.filter (hasS s)).map ofP
def bwd (s : List S30) (l : List Int) : List Int := l.filter (fun c => hasS s (ofP c))
theorem fwd_snoc (s : List S30) (l : List Int) (c : Int) : fwd s (l ++ [c]) = fwd s l ++ (if hasS s c = true then [ofP c] else []) := by
  unfold fwd
  rw [List.filter_append, List.map_append]
  congr 1
  by_cases h : hasS s c = true
  · rw [if_pos h]; simp [h]
  · rw [if_neg h]; simp [h]
theorem bwd_snoc (s : List S30) (l : List Int) (c : Int) : bwd s (l ++ [c]) = bwd s l ++ (if hasS s (ofP c) = true then [c] else []) := by
  unfold bwd
  rw [List.filter_append]
  congr 1
  by_cases h : hasS s (ofP c) = true
  · rw [if_pos h]; simp [h]
  · rw [if_neg h]; simp [h]
theorem fwd_len (s : List S30) (l : List Int) : (fwd s l).length ≤ l.length := by
  unfold fwd
  rw [List.length_map]
  exact List.length_filter_le _ _
theorem bwd_len (s : List S30) (l : List Int) : (bwd s l).length ≤ l.length := List.length_filter_le _ _
theorem refClose_l1 (fl : Int) (s : List S30) (T : List Int) (r : List S30) (hs : s.length ≤ 300) (hT : T.length ≤ 200) (hb : ∀ c ∈ T, 0 ≤ c ∧ c ≤ 10000) (H : Ends (fun k => ductusref16_Close.j2 k fl (setL (s ++ ones (bwd s T)))) r) :
    ∀ (n i : Nat), i + n = T.length → Ends (fun k => ductusref16_Close.l1 k fl s T (s ++ ones (bwd s (T.take i))) i) r
  | 0, i, hi => by
    have hl := bwd_len s T
    rw [List.take_of_length_le (by omega)]
    refine Ends.succ (g := fun k => (ductusref16_Set.f k (s ++ ones (bwd s T))).bind fun t168 => (ductusref16_Close.j2 k fl t168)) ?_ (fun k => by rw [ductusref16_Close.l1, if_neg (by omega)])
    exact Ends.bind (refSet _ (by rw [List.length_append, ones_len]; omega)) H
  | n + 1, i, hi => by
    have ih := refClose_l1 fl s T r hs hT hb H n (i + 1) (by omega)
    have hlt : i < T.length := by omega
    have hw : wrap64 ((i : Int) + 1) = ((i + 1 : Nat) : Int) := by rw [wr64 _ (by omega) (by omega)]; omega
    have hr := rdI_get T i hlt
    have hc := hb T[i] (List.getElem_mem hlt)
    have hl := bwd_len s (T.take i)
    have hl2 : (T.take i).length ≤ i := by rw [List.length_take]; omega
    rw [List.take_succ_eq_append_getElem hlt, bwd_snoc] at ih
    refine Ends.succ (g := fun k => (ductusref04_Of.f k T[i]).bind fun t172 => ((ductusref16_Has.f k s t172).bind fun t173 => (if t173 = true then ((ductusref16_one.f T[i]).bind fun bt175 => (if (s ++ ones (bwd s (T.take i))).length < 8796093022208 then (ductusref16_Close.l1 k fl s T ((s ++ ones (bwd s (T.take i))) ++ [(⟨bt175.1, bt175.2⟩ : S30)]) (wrap64 ((i : Int) + 1))) else (none))) else (ductusref16_Close.l1 k fl s T (s ++ ones (bwd s (T.take i))) (wrap64 ((i : Int) + 1)))))) ?_ (fun k => by rw [ductusref16_Close.l1, if_pos (by omega), if_pos (by omega), hr])
    refine Ends.bind (refOf T[i] hc.1 (by omega)) (Ends.bind (refHas s _ (by omega)) ?_)
    rw [hw]
    by_cases h : hasS s (ofP T[i]) = true
    · rw [if_pos h, ones_snoc, ← List.append_assoc] at ih
      refine Ends.congr ih (fun k => ?_)
      rw [if_pos h]
      show (if (s ++ ones (bwd s (T.take i))).length < 8796093022208 then _ else none) = _
      rw [if_pos (by rw [List.length_append, ones_len]; omega)]
    · rw [if_neg h, List.append_nil] at ih
      exact Ends.congr ih (fun k => if_neg h)
theorem refClose_l0 (fl : Int) (s : List S30) (T : List Int) (r : List S30) (hs : s.length ≤ 100) (hT : T.length ≤ 131) (hb : ∀ c ∈ T, 0 ≤ c ∧ c ≤ 10000) (H : Ends (fun k => ductusref16_Close.l1 k fl (setL (s ++ ones (fwd s T))) T (setL (s ++ ones (fwd s T))) 0) r) :
    ∀ (n i : Nat), i + n = T.length → Ends (fun k => ductusref16_Close.l0 k fl s T (s ++ ones (fwd s (T.take i))) i) r
  | 0, i, hi => by
    have hl := fwd_len s T
    rw [List.take_of_length_le (by omega)]
    refine Ends.succ (g := fun k => (ductusref16_Set.f k (s ++ ones (fwd s T))).bind fun t159 => ((some (([] : List (S30)) : List (S30))).bind fun y162 => (if y162.length + t159.length < 8796093022208 then (ductusref16_Close.l1 k fl t159 T (y162 ++ t159) 0) else (none)))) ?_ (fun k => by rw [ductusref16_Close.l0, if_neg (by omega)])
    have h2 := setL_short (s ++ ones (fwd s T))
    rw [List.length_append, ones_len] at h2
    refine Ends.bind (refSet _ (by rw [List.length_append, ones_len]; omega)) (Ends.congr H (fun k => ?_))
    show (if ([] : List S30).length + _ < 8796093022208 then ductusref16_Close.l1 k fl _ T ([] ++ _) 0 else none) = _
    rw [if_pos (by rw [List.length_nil]; omega), List.nil_append]
  | n + 1, i, hi => by
    have ih := refClose_l0 fl s T r hs hT hb H n (i + 1) (by omega)
    have hlt : i < T.length := by omega
    have hw : wrap64 ((i : Int) + 1) = ((i + 1 : Nat) : Int) := by rw [wr64 _ (by omega) (by omega)]; omega
    have hr := rdI_get T i hlt
    have hc := hb T[i] (List.getElem_mem hlt)
    have hl := fwd_len s (T.take i)
    have hl2 : (T.take i).length ≤ i := by rw [List.length_take]; omega
    rw [List.take_succ_eq_append_getElem hlt, fwd_snoc] at ih
    refine Ends.succ (g := fun k => (ductusref16_Has.f k s T[i]).bind fun t151 => (if t151 = true then ((ductusref04_Of.f k T[i]).bind fun t153 => ((ductusref16_one.f t153).bind fun bt154 => (if (s ++ ones (fwd s (T.take i))).length < 8796093022208 then (ductusref16_Close.l0 k fl s T ((s ++ ones (fwd s (T.take i))) ++ [(⟨bt154.1, bt154.2⟩ : S30)]) (wrap64 ((i : Int) + 1))) else (none)))) else (ductusref16_Close.l0 k fl s T (s ++ ones (fwd s (T.take i))) (wrap64 ((i : Int) + 1))))) ?_ (fun k => by rw [ductusref16_Close.l0, if_pos (by omega), if_pos (by omega), hr])
    refine Ends.bind (refHas s _ (by omega)) ?_
    rw [hw]
    by_cases h : hasS s T[i] = true
    · rw [if_pos h, ones_snoc, ← List.append_assoc] at ih
      refine Ends.congr (g := fun k => (ductusref04_Of.f k T[i]).bind fun t153 => ((ductusref16_one.f t153).bind fun bt154 => (if (s ++ ones (fwd s (T.take i))).length < 8796093022208 then (ductusref16_Close.l0 k fl s T ((s ++ ones (fwd s (T.take i))) ++ [(⟨bt154.1, bt154.2⟩ : S30)]) ((i + 1 : Nat) : Int)) else (none)))) ?_ (fun k => if_pos h)
      refine Ends.bind (refOf T[i] hc.1 (by omega)) (Ends.congr ih (fun k => ?_))
      show (if (s ++ ones (fwd s (T.take i))).length < 8796093022208 then _ else none) = _
      rw [if_pos (by rw [List.length_append, ones_len]; omega)]
    · rw [if_neg h, List.append_nil] at ih
      exact Ends.congr ih (fun k => if_neg h)
theorem set_app (s : List S30) (l : List Int) (h : Norm s) (hl : s.length + l.length ≤ 500) : Norm (setL (s ++ ones l)) ∧ ∀ c, rm (setL (s ++ ones l)) c ↔ rm s c ∨ (c ∈ l ∧ inTop c) := by
  have hs := setL_spec (s ++ ones l) (by rw [List.length_append, ones_len]; exact hl)
  refine ⟨hs.1, fun c => ?_⟩
  rw [hs.2 c, rm_append, rm_ones]
  constructor
  · rintro ⟨h0, h1, h2 | h2⟩
    · exact .inl h2
    · exact .inr ⟨h2, h0, h1⟩
  · rintro (h2 | ⟨h2, h0, h1⟩)
    · exact ⟨(h.bound h2).1, (h.bound h2).2, .inl h2⟩
    · exact ⟨h0, h1, .inr h2⟩
theorem fwd_mem (s : List S30) (l : List Int) (c : Int) : c ∈ fwd s l ↔ ∃ t ∈ l, rm s t ∧ ofP t = c := by
  unfold fwd
  rw [List.mem_map]
  constructor
  · rintro ⟨q, h1, h2⟩
    rw [List.mem_filter, hasS_rm] at h1
    exact ⟨q, h1.1, h1.2, h2⟩
  · rintro ⟨q, h1, h3, h2⟩
    exact ⟨q, by rw [List.mem_filter, hasS_rm]; exact ⟨h1, h3⟩, h2⟩
theorem bwd_mem (s : List S30) (l : List Int) (c : Int) : c ∈ bwd s l ↔ c ∈ l ∧ rm s (ofP c) := by
  unfold bwd
  rw [List.mem_filter, hasS_rm]
theorem fold_same (s : List S30) (h : Norm s) (hl : s.length ≤ 100) : setL (setL (s ++ ones (fwd s (turnT 7936))) ++ ones (bwd (setL (s ++ ones (fwd s (turnT 7936)))) (turnT 7936))) = fold1 s := by
  have hT := turnT_b
  have h1 := fwd_len s (turnT 7936)
  obtain ⟨n1, m1⟩ := set_app s (fwd s (turnT 7936)) h (by omega)
  have h2 := setL_short (s ++ ones (fwd s (turnT 7936)))
  rw [List.length_append, ones_len] at h2
  have h3 := bwd_len (setL (s ++ ones (fwd s (turnT 7936)))) (turnT 7936)
  obtain ⟨n2, m2⟩ := set_app (setL (s ++ ones (fwd s (turnT 7936)))) (bwd (setL (s ++ ones (fwd s (turnT 7936)))) (turnT 7936)) n1 (by omega)
  obtain ⟨n3, m3, _⟩ := fold1_spec s h (by omega)
  refine Norm.uniq n2 n3 (fun c => ?_)
  rw [m2 c, m3 c, m1 c, bwd_mem, m1 (ofP c), fwd_mem, fwd_mem]
  constructor
  · rintro ((h5 | ⟨⟨t, ht, h5, h6⟩, h7⟩) | ⟨⟨hc, h5⟩, h7⟩)
    · exact ⟨h.bound h5, c, h5, rfl⟩
    · exact ⟨h7, t, h5, by rw [← h6]; exact (ofP_idem t).symm⟩
    · rcases h5 with h5 | ⟨⟨t, ht, h5, h6⟩, _⟩
      · exact ⟨h7, ofP c, h5, ofP_idem c⟩
      · exact ⟨h7, t, h5, h6⟩
  · rintro ⟨h7, q, h5, h6⟩
    have inT : ∀ x : Int, ofP x ≠ x → x ∈ turnT 7936 := fun x hx => by
      have := ofP_low x hx
      exact (turnT_mem 7936 x).2 ⟨by omega, by omega, hx⟩
    by_cases hc : ofP c = c
    · by_cases hq : q = c
      · exact .inl (.inl (hq ▸ h5))
      · have hq2 : ofP q ≠ q := fun h8 => hq (by rw [← h8, h6, hc])
        exact .inl (.inr ⟨⟨q, inT q hq2, h5, h6.trans hc⟩, h7⟩)
    · have hlow := ofP_low c hc
      have hup := ofP_up c h7.1
      refine .inr ⟨⟨inT c hc, ?_⟩, h7⟩
      by_cases hq : ofP q = q
      · left
        rw [← h6, hq]
        exact h5
      · exact .inr ⟨⟨q, inT q hq, h5, h6⟩, by unfold inTop; omega⟩
theorem mir_same (s : List S30) (h : Norm s) (hl : s.length ≤ 470) : setL (s ++ ones (mirT s 12544)) = mirr1 s := by
  have hT := mirT_b s
  obtain ⟨n1, m1⟩ := set_app s (mirT s 12544) h (by omega)
  obtain ⟨n2, m2, _⟩ := mirr1_spec s h hl
  refine Norm.uniq n1 n2 (fun c => ?_)
  rw [m1 c, m2 c, mirT_mem]
  have key : (∃ q : Int, 0 ≤ q ∧ q < ((12544 : Nat) : Int) ∧ mirrorP q ≠ q ∧ rm s q ∧ mirrorP q = c) ↔ ∃ q ∈ mirL26, rm s q ∧ mirrorP q = c := by
    constructor
    · rintro ⟨q, _, _, h2, h3, h4⟩
      refine ⟨q, ?_, h3, h4⟩
      by_cases hq : q ∈ mirL26
      · exact hq
      · exact absurd (mirrorP_else q hq) h2
    · rintro ⟨q, h2, h3, h4⟩
      have := mir26_inv q h2
      have hb := (show ∀ q ∈ mirL26, 0 ≤ q ∧ q < 12544 by decide) q h2
      exact ⟨q, hb.1, by omega, this.2.2, h3, h4⟩
  rw [key]
theorem refClose (L : List S30) (fl : Int) (hl : L.length ≤ 60) : Ends (fun k => ductusref16_Close.f k L fl) (closeL L fl) := by
  have h1 := setL_short L
  have hN := setL_norm L
  refine Ends.bind (refSet L (by omega)) ?_
  unfold closeL
  dsimp only
  by_cases hf : Go.bits .and .i64 fl 1 = 1
  · have hT := turnT_b
    obtain ⟨n3, m3, l3⟩ := fold1_spec (setL L) hN (by omega)
    rw [if_pos ((flag1 fl).2 hf)]
    refine Ends.congr (g := fun k => (ductusref16_turned.f k).bind fun t141 => ((some (([] : List (S30)) : List (S30))).bind fun y144 => (if y144.length + (setL L).length < 8796093022208 then (ductusref16_Close.l0 k fl (setL L) t141 (y144 ++ setL L) 0) else (none)))) ?_ (fun k => if_pos hf)
    refine Ends.bind refTurned ?_
    have hb : ∀ c ∈ turnT 7936, 0 ≤ c ∧ c ≤ 10000 := fun c hc => by
      have := (turnT_mem 7936 c).1 hc
      omega
    have hshort := setL_short (setL L ++ ones (fwd (setL L) (turnT 7936)))
    have hfl := fwd_len (setL L) (turnT 7936)
    rw [List.length_append, ones_len] at hshort
    have hj := refClose_j2 fl (fold1 (setL L)) (by omega)
    rw [mir_same _ n3 (by omega)] at hj
    have hl1 := refClose_l1 fl (setL (setL L ++ ones (fwd (setL L) (turnT 7936)))) (turnT 7936) _ (by omega) (by omega) hb (by rw [fold_same (setL L) hN (by omega)]; exact hj) (turnT 7936).length 0 (by omega)
    have hl1' : Ends (fun k => ductusref16_Close.l1 k fl (setL (setL L ++ ones (fwd (setL L) (turnT 7936)))) (turnT 7936) (setL (setL L ++ ones (fwd (setL L) (turnT 7936)))) 0) _ := Ends.congr hl1 (fun k => by
      show _ = ductusref16_Close.l1 k fl _ (turnT 7936) (_ ++ []) 0
      rw [List.append_nil])
    have hl0 := refClose_l0 fl (setL L) (turnT 7936) _ (by omega) hT hb hl1' (turnT 7936).length 0 (by omega)
    refine Ends.congr hl0 (fun k => ?_)
    show (if ([] : List S30).length + (setL L).length < 8796093022208 then ductusref16_Close.l0 k fl (setL L) (turnT 7936) ([] ++ setL L) 0 else none) = ductusref16_Close.l0 k fl (setL L) (turnT 7936) (setL L ++ []) 0
    rw [if_pos (by rw [List.length_nil]; omega), List.nil_append, List.append_nil]
  · rw [if_neg (fun h2 => hf ((flag1 fl).1 h2))]
    have hj := refClose_j2 fl (setL L) (by omega)
    rw [mir_same _ hN (by omega)] at hj
    exact Ends.congr hj (fun k => if_neg hf)
end Go.Proofs.YtglolcejfbhbdaaGreat.P
end
section
namespace Go.Proofs.YtglolcejfbhbdaaGreat.P
open Go.RowKit Go.Proofs.YtglolcejfbhbdaaGreatW.PrintWords Go.Proofs.YtglolcejfbhbdaaGreatW.PrintLast Go.Proofs.YtglolcejfbhbdaaGreatW.PrintMore
attribute [local go_sem] max2_int min2_int max_two min_two max_three min_three max_four min_four   -- for this text's walks alone
set_option linter.unusedVariables false
set_option linter.unusedSimpArgs false
def ductuslaw16_TreeSets.f (k : Nat) (l0 : List (S30)) (a1 : Int) (a2 : Int) : Option (Bool) := (ductuslaw16_alive.f).bind fun t210 => (if t210 = true then (if (l0.length : Int) > 60 then (some true) else ((tree_Set.f l0).bind fun t211 => ((ductusref16_Set.f k l0).bind fun t214 => ((ductusref16_SameSets.f k t211 t214).bind fun t217 => (if t217 = true then ((tree_Close.f l0 a1).bind fun t218 => ((ductusref16_Close.f k l0 a1).bind fun t221 => ((ductusref16_SameSets.f k t218 t221).bind fun t224 => (if t224 = true then ((tree_Turn.f l0).bind fun t225 => ((ductusref16_Turn.f k l0).bind fun t228 => ((ductusref16_SameSets.f k t225 t228).bind fun t231 => (if t231 = true then ((tree_Has.f l0 a2).bind fun t232 => ((ductusref16_Has.f k l0 a2).bind fun t233 => (some (t232 == t233)))) else (some false))))) else (some false))))) else (some false)))))) else (some false))
theorem ductuslaw16_TreeSets.mono : ∀ a0 a1 a2 k, LeO (ductuslaw16_TreeSets.f k a0 a1 a2) (ductuslaw16_TreeSets.f (k + 1) a0 a1 a2) := by
  intro a0 a1 a2 k
  unfold ductuslaw16_TreeSets.f
  repeat' first
      | (with_reducible exact ductusref16_Close.mono _ _ _)
      | (with_reducible exact ductusref16_Has.mono _ _ _)
      | (with_reducible exact ductusref16_SameSets.mono _ _ _)
      | (with_reducible exact ductusref16_Set.mono _ _)
      | (with_reducible exact ductusref16_Turn.mono _ _)
      | (with_reducible exact LeO.refl _)
      | (with_reducible exact LeO.none _)
      | (with_reducible refine LeO.ite ?_ ?_)
      | (with_reducible refine LeO.bind ?_ (fun _ => ?_))
      | exact ductusref16_Close.mono _ _ _
      | exact ductusref16_Has.mono _ _ _
      | exact ductusref16_SameSets.mono _ _ _
      | exact ductusref16_Set.mono _ _
      | exact ductusref16_Turn.mono _ _
      | exact LeO.none _
      | refine LeO.ite ?_ ?_
      | refine LeO.bind ?_ (fun _ => ?_)
set_option maxHeartbeats 8000000 in
set_option maxRecDepth 100000 in
theorem ductuslaw16_TreeSets.calls (k : Nat) (A0 : Option Addr) (c0 : Nat) (l0 : List (S30)) (a1 : Int) (a2 : Int) (r : Bool) (w : World) (hr0 : Kd.C k30 w A0 l0.length l0) (hc0 : l0.length ≤ c0) (h : ductuslaw16_TreeSets.f k l0 a1 a2 = some r) :
    Calls Tryz.prog 3 #[.slice A0 l0.length c0, .int .i64 a1, .int .i64 a2] w fun e w' => e = .returned (.bool r) ∧ Below w.heap.size w w' := by
  have HR0 := Aside0.mk hr0
  have HC0 := Aside0.mk hc0
  clear hr0 hc0
  have HB := Aside0.mk (Below.refl w.heap.size w)
  have H : ((ductuslaw16_alive.f).bind fun t210 => (if t210 = true then (if (l0.length : Int) > 60 then (some true) else ((tree_Set.f l0).bind fun t211 => ((ductusref16_Set.f k l0).bind fun t214 => ((ductusref16_SameSets.f k t211 t214).bind fun t217 => (if t217 = true then ((tree_Close.f l0 a1).bind fun t218 => ((ductusref16_Close.f k l0 a1).bind fun t221 => ((ductusref16_SameSets.f k t218 t221).bind fun t224 => (if t224 = true then ((tree_Turn.f l0).bind fun t225 => ((ductusref16_Turn.f k l0).bind fun t228 => ((ductusref16_SameSets.f k t225 t228).bind fun t231 => (if t231 = true then ((tree_Has.f l0 a2).bind fun t232 => ((ductusref16_Has.f k l0 a2).bind fun t233 => (some (t232 == t233)))) else (some false))))) else (some false))))) else (some false)))))) else (some false))) = some r := h
  clear h
  replace H := Option.bind_eq_some_iff.mp H
  obtain ⟨t210, A40, H⟩ := H
  replace H : (if t210 = true then (if (l0.length : Int) > 60 then (some true) else ((tree_Set.f l0).bind fun t211 => ((ductusref16_Set.f k l0).bind fun t214 => ((ductusref16_SameSets.f k t211 t214).bind fun t217 => (if t217 = true then ((tree_Close.f l0 a1).bind fun t218 => ((ductusref16_Close.f k l0 a1).bind fun t221 => ((ductusref16_SameSets.f k t218 t221).bind fun t224 => (if t224 = true then ((tree_Turn.f l0).bind fun t225 => ((ductusref16_Turn.f k l0).bind fun t228 => ((ductusref16_SameSets.f k t225 t228).bind fun t231 => (if t231 = true then ((tree_Has.f l0 a2).bind fun t232 => ((ductusref16_Has.f k l0 a2).bind fun t233 => (some (t232 == t233)))) else (some false))))) else (some false))))) else (some false)))))) else (some false)) = some r := H
  have A4 := Aside0.mk A40
  clear A40
  by_cases c5 : t210 = true
  · subst c5
    have H1 : (if (l0.length : Int) > 60 then (some true) else ((tree_Set.f l0).bind fun t211 => ((ductusref16_Set.f k l0).bind fun t214 => ((ductusref16_SameSets.f k t211 t214).bind fun t217 => (if t217 = true then ((tree_Close.f l0 a1).bind fun t218 => ((ductusref16_Close.f k l0 a1).bind fun t221 => ((ductusref16_SameSets.f k t218 t221).bind fun t224 => (if t224 = true then ((tree_Turn.f l0).bind fun t225 => ((ductusref16_Turn.f k l0).bind fun t228 => ((ductusref16_SameSets.f k t225 t228).bind fun t231 => (if t231 = true then ((tree_Has.f l0 a2).bind fun t232 => ((ductusref16_Has.f k l0 a2).bind fun t233 => (some (t232 == t233)))) else (some false))))) else (some false))))) else (some false)))))) = some r := by rw [if_pos rfl] at H; exact H
    clear H
    have H := H1
    clear H1
    by_cases c6 : (l0.length : Int) > 60
    · rw [if_pos c6] at H
      have c6b0 : decide (60 < (l0.length : Int)) = true := decide_eq_true c6
      have c6b1 : decide (60 < l0.length) = true := decide_eq_true (by omega)
      clear c6
      obtain rfl := Option.some.inj H
      go_enter Tryz.func3, Tryz.ntmps3
      go_wp2_with (first | ((with_reducible refine gate_callee (f := 8) rfl ?_); refine goesL_ (some 7) rfl rfl Tryz.func8 (by kernel_rfl) rfl #[] rfl (by (try simp only [List.map_toArray, List.map_cons, List.map_nil]); first | done | rfl | (simp only [List.length_drop, List.length_take]; rfl)) ?_; (with_reducible refine (ductuslaw16_alive.calls  true _ A4.out).mono ?_); rintro e w7 ⟨rfl, hb⟩; refine ⟨_, rfl, ?_⟩; have n0_ := Aside0.mk (below_step (by repeat (first | (with_reducible first | exact HB.out | apply below_alloc | apply pw_below_drewN | apply below_drew1) | exact HB.out)) hb); clear HB; have HB := n0_; clear n0_; (try clear hb); (try clear hb2); (try clear hk); (try clear hi)))
      go_ret
      exact ⟨by first | rfl | (simp [errW_none, errW_some] <;> rfl) | (simp [*, errW_none, errW_some] <;> rfl), by repeat (first | (with_reducible first | exact HB.out | apply below_alloc | apply pw_below_drewN | apply below_drew1) | exact HB.out)⟩
    · rw [if_neg c6] at H
      have c6b0 : decide (60 < (l0.length : Int)) = false := decide_eq_false c6
      have c6b1 : decide (60 < l0.length) = false := decide_eq_false (by omega)
      clear c6
      replace H := Option.bind_eq_some_iff.mp H
      obtain ⟨t211, A80, H⟩ := H
      replace H : ((ductusref16_Set.f k l0).bind fun t214 => ((ductusref16_SameSets.f k t211 t214).bind fun t217 => (if t217 = true then ((tree_Close.f l0 a1).bind fun t218 => ((ductusref16_Close.f k l0 a1).bind fun t221 => ((ductusref16_SameSets.f k t218 t221).bind fun t224 => (if t224 = true then ((tree_Turn.f l0).bind fun t225 => ((ductusref16_Turn.f k l0).bind fun t228 => ((ductusref16_SameSets.f k t225 t228).bind fun t231 => (if t231 = true then ((tree_Has.f l0 a2).bind fun t232 => ((ductusref16_Has.f k l0 a2).bind fun t233 => (some (t232 == t233)))) else (some false))))) else (some false))))) else (some false)))) = some r := H
      have A8 := Aside0.mk A80
      clear A80
      replace H := Option.bind_eq_some_iff.mp H
      obtain ⟨t214, A90, H⟩ := H
      replace H : ((ductusref16_SameSets.f k t211 t214).bind fun t217 => (if t217 = true then ((tree_Close.f l0 a1).bind fun t218 => ((ductusref16_Close.f k l0 a1).bind fun t221 => ((ductusref16_SameSets.f k t218 t221).bind fun t224 => (if t224 = true then ((tree_Turn.f l0).bind fun t225 => ((ductusref16_Turn.f k l0).bind fun t228 => ((ductusref16_SameSets.f k t225 t228).bind fun t231 => (if t231 = true then ((tree_Has.f l0 a2).bind fun t232 => ((ductusref16_Has.f k l0 a2).bind fun t233 => (some (t232 == t233)))) else (some false))))) else (some false))))) else (some false))) = some r := H
      have A9 := Aside0.mk A90
      clear A90
      replace H := Option.bind_eq_some_iff.mp H
      obtain ⟨t217, A100, H⟩ := H
      replace H : (if t217 = true then ((tree_Close.f l0 a1).bind fun t218 => ((ductusref16_Close.f k l0 a1).bind fun t221 => ((ductusref16_SameSets.f k t218 t221).bind fun t224 => (if t224 = true then ((tree_Turn.f l0).bind fun t225 => ((ductusref16_Turn.f k l0).bind fun t228 => ((ductusref16_SameSets.f k t225 t228).bind fun t231 => (if t231 = true then ((tree_Has.f l0 a2).bind fun t232 => ((ductusref16_Has.f k l0 a2).bind fun t233 => (some (t232 == t233)))) else (some false))))) else (some false))))) else (some false)) = some r := H
      have A10 := Aside0.mk A100
      clear A100
      by_cases c11 : t217 = true
      · subst c11
        have H1 : ((tree_Close.f l0 a1).bind fun t218 => ((ductusref16_Close.f k l0 a1).bind fun t221 => ((ductusref16_SameSets.f k t218 t221).bind fun t224 => (if t224 = true then ((tree_Turn.f l0).bind fun t225 => ((ductusref16_Turn.f k l0).bind fun t228 => ((ductusref16_SameSets.f k t225 t228).bind fun t231 => (if t231 = true then ((tree_Has.f l0 a2).bind fun t232 => ((ductusref16_Has.f k l0 a2).bind fun t233 => (some (t232 == t233)))) else (some false))))) else (some false))))) = some r := by rw [if_pos rfl] at H; exact H
        clear H
        have H := H1
        clear H1
        replace H := Option.bind_eq_some_iff.mp H
        obtain ⟨t218, A120, H⟩ := H
        replace H : ((ductusref16_Close.f k l0 a1).bind fun t221 => ((ductusref16_SameSets.f k t218 t221).bind fun t224 => (if t224 = true then ((tree_Turn.f l0).bind fun t225 => ((ductusref16_Turn.f k l0).bind fun t228 => ((ductusref16_SameSets.f k t225 t228).bind fun t231 => (if t231 = true then ((tree_Has.f l0 a2).bind fun t232 => ((ductusref16_Has.f k l0 a2).bind fun t233 => (some (t232 == t233)))) else (some false))))) else (some false)))) = some r := H
        have A12 := Aside0.mk A120
        clear A120
        replace H := Option.bind_eq_some_iff.mp H
        obtain ⟨t221, A130, H⟩ := H
        replace H : ((ductusref16_SameSets.f k t218 t221).bind fun t224 => (if t224 = true then ((tree_Turn.f l0).bind fun t225 => ((ductusref16_Turn.f k l0).bind fun t228 => ((ductusref16_SameSets.f k t225 t228).bind fun t231 => (if t231 = true then ((tree_Has.f l0 a2).bind fun t232 => ((ductusref16_Has.f k l0 a2).bind fun t233 => (some (t232 == t233)))) else (some false))))) else (some false))) = some r := H
        have A13 := Aside0.mk A130
        clear A130
        replace H := Option.bind_eq_some_iff.mp H
        obtain ⟨t224, A140, H⟩ := H
        replace H : (if t224 = true then ((tree_Turn.f l0).bind fun t225 => ((ductusref16_Turn.f k l0).bind fun t228 => ((ductusref16_SameSets.f k t225 t228).bind fun t231 => (if t231 = true then ((tree_Has.f l0 a2).bind fun t232 => ((ductusref16_Has.f k l0 a2).bind fun t233 => (some (t232 == t233)))) else (some false))))) else (some false)) = some r := H
        have A14 := Aside0.mk A140
        clear A140
        by_cases c15 : t224 = true
        · subst c15
          have H1 : ((tree_Turn.f l0).bind fun t225 => ((ductusref16_Turn.f k l0).bind fun t228 => ((ductusref16_SameSets.f k t225 t228).bind fun t231 => (if t231 = true then ((tree_Has.f l0 a2).bind fun t232 => ((ductusref16_Has.f k l0 a2).bind fun t233 => (some (t232 == t233)))) else (some false))))) = some r := by rw [if_pos rfl] at H; exact H
          clear H
          have H := H1
          clear H1
          replace H := Option.bind_eq_some_iff.mp H
          obtain ⟨t225, A160, H⟩ := H
          replace H : ((ductusref16_Turn.f k l0).bind fun t228 => ((ductusref16_SameSets.f k t225 t228).bind fun t231 => (if t231 = true then ((tree_Has.f l0 a2).bind fun t232 => ((ductusref16_Has.f k l0 a2).bind fun t233 => (some (t232 == t233)))) else (some false)))) = some r := H
          have A16 := Aside0.mk A160
          clear A160
          replace H := Option.bind_eq_some_iff.mp H
          obtain ⟨t228, A170, H⟩ := H
          replace H : ((ductusref16_SameSets.f k t225 t228).bind fun t231 => (if t231 = true then ((tree_Has.f l0 a2).bind fun t232 => ((ductusref16_Has.f k l0 a2).bind fun t233 => (some (t232 == t233)))) else (some false))) = some r := H
          have A17 := Aside0.mk A170
          clear A170
          replace H := Option.bind_eq_some_iff.mp H
          obtain ⟨t231, A180, H⟩ := H
          replace H : (if t231 = true then ((tree_Has.f l0 a2).bind fun t232 => ((ductusref16_Has.f k l0 a2).bind fun t233 => (some (t232 == t233)))) else (some false)) = some r := H
          have A18 := Aside0.mk A180
          clear A180
          by_cases c19 : t231 = true
          · subst c19
            have H1 : ((tree_Has.f l0 a2).bind fun t232 => ((ductusref16_Has.f k l0 a2).bind fun t233 => (some (t232 == t233)))) = some r := by rw [if_pos rfl] at H; exact H
            clear H
            have H := H1
            clear H1
            replace H := Option.bind_eq_some_iff.mp H
            obtain ⟨t232, A200, H⟩ := H
            replace H : ((ductusref16_Has.f k l0 a2).bind fun t233 => (some (t232 == t233))) = some r := H
            have A20 := Aside0.mk A200
            clear A200
            replace H := Option.bind_eq_some_iff.mp H
            obtain ⟨t233, A210, H⟩ := H
            replace H : (some (t232 == t233)) = some r := H
            have A21 := Aside0.mk A210
            clear A210
            obtain rfl := Option.some.inj H
            go_enter Tryz.func3, Tryz.ntmps3
            go_wp2_with (first | ((with_reducible refine gate_callee (f := 8) rfl ?_); refine goesL_ (some 7) rfl rfl Tryz.func8 (by kernel_rfl) rfl #[] rfl (by (try simp only [List.map_toArray, List.map_cons, List.map_nil]); first | done | rfl | (simp only [List.length_drop, List.length_take]; rfl)) ?_; (with_reducible refine (ductuslaw16_alive.calls  true _ A4.out).mono ?_); rintro e w22 ⟨rfl, hb⟩; refine ⟨_, rfl, ?_⟩; have n0_ := Aside0.mk (below_step (by repeat (first | (with_reducible first | exact HB.out | apply below_alloc | apply pw_below_drewN | apply below_drew1) | exact HB.out)) hb); clear HB; have HB := n0_; clear n0_; (try clear hb); (try clear hb2); (try clear hk); (try clear hi)) | ((with_reducible refine gate_callee (f := 10) rfl ?_); refine goesL_ (some 13) rfl rfl Tryz.func10 (by kernel_rfl) rfl #[.slice A0 l0.length c0] rfl (by (try simp only [List.map_toArray, List.map_cons, List.map_nil]); first | done | rfl | (simp only [List.length_drop, List.length_take]; rfl)) ?_; (with_reducible refine (tree_Set.calls _ _ l0 t211 _ ?side1 ?side2 A8.out).mono ?_); (case side1 => repeat (first | exact (Kd.C_below HR0.out HB.out) | (with_reducible refine Kd.C_alloc ?_ _) | (with_reducible refine Kd.C_drewN ?_ _) | (with_reducible refine Kd.C_drew ?_))); (case side2 => exact HC0.out); rintro e w23 ⟨v212, rfl, ho0, hb⟩; refine ⟨_, rfl, ?_⟩; have n0_ := Aside0.mk (Kd.R_lower ho0 (below_size (by repeat (first | (with_reducible first | exact HB.out | apply below_alloc | apply pw_below_drewN | apply below_drew1) | exact HB.out)))); have n1_ := Aside0.mk (below_step (by repeat (first | (with_reducible first | exact HB.out | apply below_alloc | apply pw_below_drewN | apply below_drew1) | exact HB.out)) hb); clear HB; have HO213 := n0_; have HB := n1_; clear n0_ n1_; (try clear hb); (try clear hb2); (try clear hk); (try clear hi); (try clear ho0)) | ((with_reducible refine gate_callee (f := 11) rfl ?_); refine goesL_ (some 15) rfl rfl Tryz.func11 (by kernel_rfl) rfl #[.slice A0 l0.length c0] rfl (by (try simp only [List.map_toArray, List.map_cons, List.map_nil]); first | done | rfl | (simp only [List.length_drop, List.length_take]; rfl)) ?_; (with_reducible refine (ductusref16_Set.calls k _ _ l0 t214 _ ?side1 ?side2 A9.out).mono ?_); (case side1 => repeat (first | exact (Kd.C_below HR0.out HB.out) | (with_reducible refine Kd.C_alloc ?_ _) | (with_reducible refine Kd.C_drewN ?_ _) | (with_reducible refine Kd.C_drew ?_))); (case side2 => exact HC0.out); rintro e w24 ⟨v215, rfl, ho0, hb⟩; refine ⟨_, rfl, ?_⟩; have n0_ := Aside0.mk (Kd.R_elder' (by (with_reducible repeat (first | apply Kd.R_alloc | apply Kd.R_drewN | apply Kd.R_drew)); exact HO213.out) (Kd.R_base ho0) hb); have n1_ := Aside0.mk (Kd.R_lower (Kd.R_new' ho0 (Kd.R_lt (by (with_reducible repeat (first | apply Kd.R_alloc | apply Kd.R_drewN | apply Kd.R_drew)); exact HO213.out))) (below_size (by repeat (first | (with_reducible first | exact HB.out | apply below_alloc | apply pw_below_drewN | apply below_drew1) | exact HB.out)))); have n2_ := Aside0.mk (below_step (by repeat (first | (with_reducible first | exact HB.out | apply below_alloc | apply pw_below_drewN | apply below_drew1) | exact HB.out)) hb); clear HO213; clear HB; have HO213 := n0_; have HO216 := n1_; have HB := n2_; clear n0_ n1_ n2_; (try clear hb); (try clear hb2); (try clear hk); (try clear hi); (try clear ho0); obtain ⟨Ao25, co25, eo25⟩ := Kd.R_slice HO213.out; subst eo25; obtain ⟨Ao26, co26, eo26⟩ := Kd.R_slice HO216.out; subst eo26) | ((with_reducible refine gate_callee (f := 9) rfl ?_); refine goesL_ (some 16) rfl rfl Tryz.func9 (by kernel_rfl) rfl #[.slice Ao25 t211.length co25, .slice Ao26 t214.length co26] rfl (by (try simp only [List.map_toArray, List.map_cons, List.map_nil]); first | done | rfl | (simp only [List.length_drop, List.length_take]; rfl)) ?_; (with_reducible refine (ductusref16_SameSets.calls k _ _ t211 _ _ t214 true _ ?side1 ?side2 ?side3 ?side4 A10.out).mono ?_); (case side1 => repeat (first | exact (Kd.R_reads' HO213.out).2.2 | (with_reducible refine Kd.C_alloc ?_ _) | (with_reducible refine Kd.C_drewN ?_ _) | (with_reducible refine Kd.C_drew ?_))); (case side2 => exact (Kd.R_reads' HO213.out).2.1); (case side3 => repeat (first | exact (Kd.R_reads' HO216.out).2.2 | (with_reducible refine Kd.C_alloc ?_ _) | (with_reducible refine Kd.C_drewN ?_ _) | (with_reducible refine Kd.C_drew ?_))); (case side4 => exact (Kd.R_reads' HO216.out).2.1); rintro e w' ⟨rfl, ⟨nd, rfl⟩⟩; refine ⟨_, rfl, ?_⟩) | (go_at_call 12; (with_reducible refine (tree_Close.calls _ _ l0 a1 t218 _ ?side1 ?side2 A12.out).mono ?_); (case side1 => repeat (first | exact (Kd.C_below HR0.out (by repeat (first | (with_reducible first | exact HB.out | apply below_alloc | apply pw_below_drewN | apply below_drew1) | exact HB.out))) | (with_reducible refine Kd.C_alloc ?_ _) | (with_reducible refine Kd.C_drewN ?_ _) | (with_reducible refine Kd.C_drew ?_))); (case side2 => exact HC0.out); rintro e w27 ⟨v219, rfl, ho0, hb⟩; have n0_ := Aside0.mk (Kd.R_elder' (by (with_reducible repeat (first | apply Kd.R_alloc | apply Kd.R_drewN | apply Kd.R_drew)); exact HO213.out) (Kd.R_base ho0) hb); have n1_ := Aside0.mk (Kd.R_elder' (by (with_reducible repeat (first | apply Kd.R_alloc | apply Kd.R_drewN | apply Kd.R_drew)); exact HO216.out) (Kd.R_base ho0) hb); have n2_ := Aside0.mk (Kd.R_lower (Kd.R_new' (Kd.R_new' ho0 (Kd.R_lt (by (with_reducible repeat (first | apply Kd.R_alloc | apply Kd.R_drewN | apply Kd.R_drew)); exact HO213.out))) (Kd.R_lt (by (with_reducible repeat (first | apply Kd.R_alloc | apply Kd.R_drewN | apply Kd.R_drew)); exact HO216.out))) (below_size (by repeat (first | (with_reducible first | exact HB.out | apply below_alloc | apply pw_below_drewN | apply below_drew1) | exact HB.out)))); have n3_ := Aside0.mk (below_step (by repeat (first | (with_reducible first | exact HB.out | apply below_alloc | apply pw_below_drewN | apply below_drew1) | exact HB.out)) hb); clear HO213; clear HO216; clear HB; have HO213 := n0_; have HO216 := n1_; have HO220 := n2_; have HB := n3_; clear n0_ n1_ n2_ n3_; (try clear hb); (try clear hb2); (try clear hk); (try clear hi); (try clear ho0)) | (go_at_call 13; (with_reducible refine (ductusref16_Close.calls k _ _ l0 a1 t221 _ ?side1 ?side2 A13.out).mono ?_); (case side1 => repeat (first | exact (Kd.C_below HR0.out HB.out) | (with_reducible refine Kd.C_alloc ?_ _) | (with_reducible refine Kd.C_drewN ?_ _) | (with_reducible refine Kd.C_drew ?_))); (case side2 => exact HC0.out); rintro e w28 ⟨v222, rfl, ho0, hb⟩; have n0_ := Aside0.mk (Kd.R_elder' (by (with_reducible repeat (first | apply Kd.R_alloc | apply Kd.R_drewN | apply Kd.R_drew)); exact HO213.out) (Kd.R_base ho0) hb); have n1_ := Aside0.mk (Kd.R_elder' (by (with_reducible repeat (first | apply Kd.R_alloc | apply Kd.R_drewN | apply Kd.R_drew)); exact HO216.out) (Kd.R_base ho0) hb); have n2_ := Aside0.mk (Kd.R_elder' (by (with_reducible repeat (first | apply Kd.R_alloc | apply Kd.R_drewN | apply Kd.R_drew)); exact HO220.out) (Kd.R_base ho0) hb); have n3_ := Aside0.mk (Kd.R_lower (Kd.R_new' (Kd.R_new' (Kd.R_new' ho0 (Kd.R_lt (by (with_reducible repeat (first | apply Kd.R_alloc | apply Kd.R_drewN | apply Kd.R_drew)); exact HO213.out))) (Kd.R_lt (by (with_reducible repeat (first | apply Kd.R_alloc | apply Kd.R_drewN | apply Kd.R_drew)); exact HO216.out))) (Kd.R_lt (by (with_reducible repeat (first | apply Kd.R_alloc | apply Kd.R_drewN | apply Kd.R_drew)); exact HO220.out))) (below_size (by repeat (first | (with_reducible first | exact HB.out | apply below_alloc | apply pw_below_drewN | apply below_drew1) | exact HB.out)))); have n4_ := Aside0.mk (below_step (by repeat (first | (with_reducible first | exact HB.out | apply below_alloc | apply pw_below_drewN | apply below_drew1) | exact HB.out)) hb); clear HO213; clear HO216; clear HO220; clear HB; have HO213 := n0_; have HO216 := n1_; have HO220 := n2_; have HO223 := n3_; have HB := n4_; clear n0_ n1_ n2_ n3_ n4_; (try clear hb); (try clear hb2); (try clear hk); (try clear hi); (try clear ho0); obtain ⟨Ao29, co29, eo29⟩ := Kd.R_slice HO220.out; subst eo29; obtain ⟨Ao30, co30, eo30⟩ := Kd.R_slice HO223.out; subst eo30) | (go_at_call 9; (with_reducible refine (ductusref16_SameSets.calls k _ _ t218 _ _ t221 true _ ?side1 ?side2 ?side3 ?side4 A14.out).mono ?_); (case side1 => repeat (first | exact (Kd.R_reads' HO220.out).2.2 | (with_reducible refine Kd.C_alloc ?_ _) | (with_reducible refine Kd.C_drewN ?_ _) | (with_reducible refine Kd.C_drew ?_))); (case side2 => exact (Kd.R_reads' HO220.out).2.1); (case side3 => repeat (first | exact (Kd.R_reads' HO223.out).2.2 | (with_reducible refine Kd.C_alloc ?_ _) | (with_reducible refine Kd.C_drewN ?_ _) | (with_reducible refine Kd.C_drew ?_))); (case side4 => exact (Kd.R_reads' HO223.out).2.1); rintro e w' ⟨rfl, ⟨nd, rfl⟩⟩) | (go_at_call 14; (with_reducible refine (tree_Turn.calls _ _ l0 t225 _ ?side1 ?side2 A16.out).mono ?_); (case side1 => repeat (first | exact (Kd.C_below HR0.out (by repeat (first | (with_reducible first | exact HB.out | apply below_alloc | apply pw_below_drewN | apply below_drew1) | exact HB.out))) | (with_reducible refine Kd.C_alloc ?_ _) | (with_reducible refine Kd.C_drewN ?_ _) | (with_reducible refine Kd.C_drew ?_))); (case side2 => exact HC0.out); rintro e w31 ⟨v226, rfl, ho0, hb⟩; have n0_ := Aside0.mk (Kd.R_elder' (by (with_reducible repeat (first | apply Kd.R_alloc | apply Kd.R_drewN | apply Kd.R_drew)); exact HO213.out) (Kd.R_base ho0) hb); have n1_ := Aside0.mk (Kd.R_elder' (by (with_reducible repeat (first | apply Kd.R_alloc | apply Kd.R_drewN | apply Kd.R_drew)); exact HO216.out) (Kd.R_base ho0) hb); have n2_ := Aside0.mk (Kd.R_elder' (by (with_reducible repeat (first | apply Kd.R_alloc | apply Kd.R_drewN | apply Kd.R_drew)); exact HO220.out) (Kd.R_base ho0) hb); have n3_ := Aside0.mk (Kd.R_elder' (by (with_reducible repeat (first | apply Kd.R_alloc | apply Kd.R_drewN | apply Kd.R_drew)); exact HO223.out) (Kd.R_base ho0) hb); have n4_ := Aside0.mk (Kd.R_lower (Kd.R_new' (Kd.R_new' (Kd.R_new' (Kd.R_new' ho0 (Kd.R_lt (by (with_reducible repeat (first | apply Kd.R_alloc | apply Kd.R_drewN | apply Kd.R_drew)); exact HO213.out))) (Kd.R_lt (by (with_reducible repeat (first | apply Kd.R_alloc | apply Kd.R_drewN | apply Kd.R_drew)); exact HO216.out))) (Kd.R_lt (by (with_reducible repeat (first | apply Kd.R_alloc | apply Kd.R_drewN | apply Kd.R_drew)); exact HO220.out))) (Kd.R_lt (by (with_reducible repeat (first | apply Kd.R_alloc | apply Kd.R_drewN | apply Kd.R_drew)); exact HO223.out))) (below_size (by repeat (first | (with_reducible first | exact HB.out | apply below_alloc | apply pw_below_drewN | apply below_drew1) | exact HB.out)))); have n5_ := Aside0.mk (below_step (by repeat (first | (with_reducible first | exact HB.out | apply below_alloc | apply pw_below_drewN | apply below_drew1) | exact HB.out)) hb); clear HO213; clear HO216; clear HO220; clear HO223; clear HB; have HO213 := n0_; have HO216 := n1_; have HO220 := n2_; have HO223 := n3_; have HO227 := n4_; have HB := n5_; clear n0_ n1_ n2_ n3_ n4_ n5_; (try clear hb); (try clear hb2); (try clear hk); (try clear hi); (try clear ho0)) | (go_at_call 15; (with_reducible refine (ductusref16_Turn.calls k _ _ l0 t228 _ ?side1 ?side2 A17.out).mono ?_); (case side1 => repeat (first | exact (Kd.C_below HR0.out HB.out) | (with_reducible refine Kd.C_alloc ?_ _) | (with_reducible refine Kd.C_drewN ?_ _) | (with_reducible refine Kd.C_drew ?_))); (case side2 => exact HC0.out); rintro e w32 ⟨v229, rfl, ho0, hb⟩; have n0_ := Aside0.mk (Kd.R_elder' (by (with_reducible repeat (first | apply Kd.R_alloc | apply Kd.R_drewN | apply Kd.R_drew)); exact HO213.out) (Kd.R_base ho0) hb); have n1_ := Aside0.mk (Kd.R_elder' (by (with_reducible repeat (first | apply Kd.R_alloc | apply Kd.R_drewN | apply Kd.R_drew)); exact HO216.out) (Kd.R_base ho0) hb); have n2_ := Aside0.mk (Kd.R_elder' (by (with_reducible repeat (first | apply Kd.R_alloc | apply Kd.R_drewN | apply Kd.R_drew)); exact HO220.out) (Kd.R_base ho0) hb); have n3_ := Aside0.mk (Kd.R_elder' (by (with_reducible repeat (first | apply Kd.R_alloc | apply Kd.R_drewN | apply Kd.R_drew)); exact HO223.out) (Kd.R_base ho0) hb); have n4_ := Aside0.mk (Kd.R_elder' (by (with_reducible repeat (first | apply Kd.R_alloc | apply Kd.R_drewN | apply Kd.R_drew)); exact HO227.out) (Kd.R_base ho0) hb); have n5_ := Aside0.mk (Kd.R_lower (Kd.R_new' (Kd.R_new' (Kd.R_new' (Kd.R_new' (Kd.R_new' ho0 (Kd.R_lt (by (with_reducible repeat (first | apply Kd.R_alloc | apply Kd.R_drewN | apply Kd.R_drew)); exact HO213.out))) (Kd.R_lt (by (with_reducible repeat (first | apply Kd.R_alloc | apply Kd.R_drewN | apply Kd.R_drew)); exact HO216.out))) (Kd.R_lt (by (with_reducible repeat (first | apply Kd.R_alloc | apply Kd.R_drewN | apply Kd.R_drew)); exact HO220.out))) (Kd.R_lt (by (with_reducible repeat (first | apply Kd.R_alloc | apply Kd.R_drewN | apply Kd.R_drew)); exact HO223.out))) (Kd.R_lt (by (with_reducible repeat (first | apply Kd.R_alloc | apply Kd.R_drewN | apply Kd.R_drew)); exact HO227.out))) (below_size (by repeat (first | (with_reducible first | exact HB.out | apply below_alloc | apply pw_below_drewN | apply below_drew1) | exact HB.out)))); have n6_ := Aside0.mk (below_step (by repeat (first | (with_reducible first | exact HB.out | apply below_alloc | apply pw_below_drewN | apply below_drew1) | exact HB.out)) hb); clear HO213; clear HO216; clear HO220; clear HO223; clear HO227; clear HB; have HO213 := n0_; have HO216 := n1_; have HO220 := n2_; have HO223 := n3_; have HO227 := n4_; have HO230 := n5_; have HB := n6_; clear n0_ n1_ n2_ n3_ n4_ n5_ n6_; (try clear hb); (try clear hb2); (try clear hk); (try clear hi); (try clear ho0); obtain ⟨Ao33, co33, eo33⟩ := Kd.R_slice HO227.out; subst eo33; obtain ⟨Ao34, co34, eo34⟩ := Kd.R_slice HO230.out; subst eo34) | (go_at_call 9; (with_reducible refine (ductusref16_SameSets.calls k _ _ t225 _ _ t228 true _ ?side1 ?side2 ?side3 ?side4 A18.out).mono ?_); (case side1 => repeat (first | exact (Kd.R_reads' HO227.out).2.2 | (with_reducible refine Kd.C_alloc ?_ _) | (with_reducible refine Kd.C_drewN ?_ _) | (with_reducible refine Kd.C_drew ?_))); (case side2 => exact (Kd.R_reads' HO227.out).2.1); (case side3 => repeat (first | exact (Kd.R_reads' HO230.out).2.2 | (with_reducible refine Kd.C_alloc ?_ _) | (with_reducible refine Kd.C_drewN ?_ _) | (with_reducible refine Kd.C_drew ?_))); (case side4 => exact (Kd.R_reads' HO230.out).2.1); rintro e w' ⟨rfl, ⟨nd, rfl⟩⟩) | (go_at_call 16; (with_reducible refine (tree_Has.calls _ _ l0 a2 t232 _ ?side1 ?side2 A20.out).mono ?_); (case side1 => repeat (first | exact (Kd.C_below HR0.out (by repeat (first | (with_reducible first | exact HB.out | apply below_alloc | apply pw_below_drewN | apply below_drew1) | exact HB.out))) | (with_reducible refine Kd.C_alloc ?_ _) | (with_reducible refine Kd.C_drewN ?_ _) | (with_reducible refine Kd.C_drew ?_))); (case side2 => exact HC0.out); rintro e w35 ⟨rfl, hb⟩; have n0_ := Aside0.mk (Kd.R_below (by (with_reducible repeat (first | apply Kd.R_alloc | apply Kd.R_drewN | apply Kd.R_drew)); exact HO213.out) hb); have n1_ := Aside0.mk (Kd.R_below (by (with_reducible repeat (first | apply Kd.R_alloc | apply Kd.R_drewN | apply Kd.R_drew)); exact HO216.out) hb); have n2_ := Aside0.mk (Kd.R_below (by (with_reducible repeat (first | apply Kd.R_alloc | apply Kd.R_drewN | apply Kd.R_drew)); exact HO220.out) hb); have n3_ := Aside0.mk (Kd.R_below (by (with_reducible repeat (first | apply Kd.R_alloc | apply Kd.R_drewN | apply Kd.R_drew)); exact HO223.out) hb); have n4_ := Aside0.mk (Kd.R_below (by (with_reducible repeat (first | apply Kd.R_alloc | apply Kd.R_drewN | apply Kd.R_drew)); exact HO227.out) hb); have n5_ := Aside0.mk (Kd.R_below (by (with_reducible repeat (first | apply Kd.R_alloc | apply Kd.R_drewN | apply Kd.R_drew)); exact HO230.out) hb); have n6_ := Aside0.mk (below_step (by repeat (first | (with_reducible first | exact HB.out | apply below_alloc | apply pw_below_drewN | apply below_drew1) | exact HB.out)) hb); clear HO213; clear HO216; clear HO220; clear HO223; clear HO227; clear HO230; clear HB; have HO213 := n0_; have HO216 := n1_; have HO220 := n2_; have HO223 := n3_; have HO227 := n4_; have HO230 := n5_; have HB := n6_; clear n0_ n1_ n2_ n3_ n4_ n5_ n6_; (try clear hb); (try clear hb2); (try clear hk); (try clear hi)) | (go_at_call 17; (with_reducible refine (ductusref16_Has.calls k _ _ l0 a2 t233 _ ?side1 ?side2 A21.out).mono ?_); (case side1 => repeat (first | exact (Kd.C_below HR0.out HB.out) | (with_reducible refine Kd.C_alloc ?_ _) | (with_reducible refine Kd.C_drewN ?_ _) | (with_reducible refine Kd.C_drew ?_))); (case side2 => exact HC0.out); rintro e w' ⟨rfl, ⟨nd, rfl⟩⟩))
            go_ret
            exact ⟨by first | rfl | (simp [errW_none, errW_some] <;> rfl) | (simp [*, errW_none, errW_some] <;> rfl), by repeat (first | (with_reducible first | exact HB.out | apply below_alloc | apply pw_below_drewN | apply below_drew1) | exact HB.out)⟩
          · replace c19 := Bool.eq_false_iff.mpr c19
            subst c19
            have H1 : (some false) = some r := by rw [if_neg (show ¬ (false = true) by decide)] at H; exact H
            clear H
            have H := H1
            clear H1
            obtain rfl := Option.some.inj H
            go_enter Tryz.func3, Tryz.ntmps3
            go_wp2_with (first | ((with_reducible refine gate_callee (f := 8) rfl ?_); refine goesL_ (some 7) rfl rfl Tryz.func8 (by kernel_rfl) rfl #[] rfl (by (try simp only [List.map_toArray, List.map_cons, List.map_nil]); first | done | rfl | (simp only [List.length_drop, List.length_take]; rfl)) ?_; (with_reducible refine (ductuslaw16_alive.calls  true _ A4.out).mono ?_); rintro e w36 ⟨rfl, hb⟩; refine ⟨_, rfl, ?_⟩; have n0_ := Aside0.mk (below_step (by repeat (first | (with_reducible first | exact HB.out | apply below_alloc | apply pw_below_drewN | apply below_drew1) | exact HB.out)) hb); clear HB; have HB := n0_; clear n0_; (try clear hb); (try clear hb2); (try clear hk); (try clear hi)) | ((with_reducible refine gate_callee (f := 10) rfl ?_); refine goesL_ (some 13) rfl rfl Tryz.func10 (by kernel_rfl) rfl #[.slice A0 l0.length c0] rfl (by (try simp only [List.map_toArray, List.map_cons, List.map_nil]); first | done | rfl | (simp only [List.length_drop, List.length_take]; rfl)) ?_; (with_reducible refine (tree_Set.calls _ _ l0 t211 _ ?side1 ?side2 A8.out).mono ?_); (case side1 => repeat (first | exact (Kd.C_below HR0.out HB.out) | (with_reducible refine Kd.C_alloc ?_ _) | (with_reducible refine Kd.C_drewN ?_ _) | (with_reducible refine Kd.C_drew ?_))); (case side2 => exact HC0.out); rintro e w37 ⟨v212, rfl, ho0, hb⟩; refine ⟨_, rfl, ?_⟩; have n0_ := Aside0.mk (Kd.R_lower ho0 (below_size (by repeat (first | (with_reducible first | exact HB.out | apply below_alloc | apply pw_below_drewN | apply below_drew1) | exact HB.out)))); have n1_ := Aside0.mk (below_step (by repeat (first | (with_reducible first | exact HB.out | apply below_alloc | apply pw_below_drewN | apply below_drew1) | exact HB.out)) hb); clear HB; have HO213 := n0_; have HB := n1_; clear n0_ n1_; (try clear hb); (try clear hb2); (try clear hk); (try clear hi); (try clear ho0)) | ((with_reducible refine gate_callee (f := 11) rfl ?_); refine goesL_ (some 15) rfl rfl Tryz.func11 (by kernel_rfl) rfl #[.slice A0 l0.length c0] rfl (by (try simp only [List.map_toArray, List.map_cons, List.map_nil]); first | done | rfl | (simp only [List.length_drop, List.length_take]; rfl)) ?_; (with_reducible refine (ductusref16_Set.calls k _ _ l0 t214 _ ?side1 ?side2 A9.out).mono ?_); (case side1 => repeat (first | exact (Kd.C_below HR0.out HB.out) | (with_reducible refine Kd.C_alloc ?_ _) | (with_reducible refine Kd.C_drewN ?_ _) | (with_reducible refine Kd.C_drew ?_))); (case side2 => exact HC0.out); rintro e w38 ⟨v215, rfl, ho0, hb⟩; refine ⟨_, rfl, ?_⟩; have n0_ := Aside0.mk (Kd.R_elder' (by (with_reducible repeat (first | apply Kd.R_alloc | apply Kd.R_drewN | apply Kd.R_drew)); exact HO213.out) (Kd.R_base ho0) hb); have n1_ := Aside0.mk (Kd.R_lower (Kd.R_new' ho0 (Kd.R_lt (by (with_reducible repeat (first | apply Kd.R_alloc | apply Kd.R_drewN | apply Kd.R_drew)); exact HO213.out))) (below_size (by repeat (first | (with_reducible first | exact HB.out | apply below_alloc | apply pw_below_drewN | apply below_drew1) | exact HB.out)))); have n2_ := Aside0.mk (below_step (by repeat (first | (with_reducible first | exact HB.out | apply below_alloc | apply pw_below_drewN | apply below_drew1) | exact HB.out)) hb); clear HO213; clear HB; have HO213 := n0_; have HO216 := n1_; have HB := n2_; clear n0_ n1_ n2_; (try clear hb); (try clear hb2); (try clear hk); (try clear hi); (try clear ho0); obtain ⟨Ao39, co39, eo39⟩ := Kd.R_slice HO213.out; subst eo39; obtain ⟨Ao40, co40, eo40⟩ := Kd.R_slice HO216.out; subst eo40) | ((with_reducible refine gate_callee (f := 9) rfl ?_); refine goesL_ (some 16) rfl rfl Tryz.func9 (by kernel_rfl) rfl #[.slice Ao39 t211.length co39, .slice Ao40 t214.length co40] rfl (by (try simp only [List.map_toArray, List.map_cons, List.map_nil]); first | done | rfl | (simp only [List.length_drop, List.length_take]; rfl)) ?_; (with_reducible refine (ductusref16_SameSets.calls k _ _ t211 _ _ t214 true _ ?side1 ?side2 ?side3 ?side4 A10.out).mono ?_); (case side1 => repeat (first | exact (Kd.R_reads' HO213.out).2.2 | (with_reducible refine Kd.C_alloc ?_ _) | (with_reducible refine Kd.C_drewN ?_ _) | (with_reducible refine Kd.C_drew ?_))); (case side2 => exact (Kd.R_reads' HO213.out).2.1); (case side3 => repeat (first | exact (Kd.R_reads' HO216.out).2.2 | (with_reducible refine Kd.C_alloc ?_ _) | (with_reducible refine Kd.C_drewN ?_ _) | (with_reducible refine Kd.C_drew ?_))); (case side4 => exact (Kd.R_reads' HO216.out).2.1); rintro e w' ⟨rfl, ⟨nd, rfl⟩⟩; refine ⟨_, rfl, ?_⟩) | (go_at_call 12; (with_reducible refine (tree_Close.calls _ _ l0 a1 t218 _ ?side1 ?side2 A12.out).mono ?_); (case side1 => repeat (first | exact (Kd.C_below HR0.out (by repeat (first | (with_reducible first | exact HB.out | apply below_alloc | apply pw_below_drewN | apply below_drew1) | exact HB.out))) | (with_reducible refine Kd.C_alloc ?_ _) | (with_reducible refine Kd.C_drewN ?_ _) | (with_reducible refine Kd.C_drew ?_))); (case side2 => exact HC0.out); rintro e w41 ⟨v219, rfl, ho0, hb⟩; have n0_ := Aside0.mk (Kd.R_elder' (by (with_reducible repeat (first | apply Kd.R_alloc | apply Kd.R_drewN | apply Kd.R_drew)); exact HO213.out) (Kd.R_base ho0) hb); have n1_ := Aside0.mk (Kd.R_elder' (by (with_reducible repeat (first | apply Kd.R_alloc | apply Kd.R_drewN | apply Kd.R_drew)); exact HO216.out) (Kd.R_base ho0) hb); have n2_ := Aside0.mk (Kd.R_lower (Kd.R_new' (Kd.R_new' ho0 (Kd.R_lt (by (with_reducible repeat (first | apply Kd.R_alloc | apply Kd.R_drewN | apply Kd.R_drew)); exact HO213.out))) (Kd.R_lt (by (with_reducible repeat (first | apply Kd.R_alloc | apply Kd.R_drewN | apply Kd.R_drew)); exact HO216.out))) (below_size (by repeat (first | (with_reducible first | exact HB.out | apply below_alloc | apply pw_below_drewN | apply below_drew1) | exact HB.out)))); have n3_ := Aside0.mk (below_step (by repeat (first | (with_reducible first | exact HB.out | apply below_alloc | apply pw_below_drewN | apply below_drew1) | exact HB.out)) hb); clear HO213; clear HO216; clear HB; have HO213 := n0_; have HO216 := n1_; have HO220 := n2_; have HB := n3_; clear n0_ n1_ n2_ n3_; (try clear hb); (try clear hb2); (try clear hk); (try clear hi); (try clear ho0)) | (go_at_call 13; (with_reducible refine (ductusref16_Close.calls k _ _ l0 a1 t221 _ ?side1 ?side2 A13.out).mono ?_); (case side1 => repeat (first | exact (Kd.C_below HR0.out HB.out) | (with_reducible refine Kd.C_alloc ?_ _) | (with_reducible refine Kd.C_drewN ?_ _) | (with_reducible refine Kd.C_drew ?_))); (case side2 => exact HC0.out); rintro e w42 ⟨v222, rfl, ho0, hb⟩; have n0_ := Aside0.mk (Kd.R_elder' (by (with_reducible repeat (first | apply Kd.R_alloc | apply Kd.R_drewN | apply Kd.R_drew)); exact HO213.out) (Kd.R_base ho0) hb); have n1_ := Aside0.mk (Kd.R_elder' (by (with_reducible repeat (first | apply Kd.R_alloc | apply Kd.R_drewN | apply Kd.R_drew)); exact HO216.out) (Kd.R_base ho0) hb); have n2_ := Aside0.mk (Kd.R_elder' (by (with_reducible repeat (first | apply Kd.R_alloc | apply Kd.R_drewN | apply Kd.R_drew)); exact HO220.out) (Kd.R_base ho0) hb); have n3_ := Aside0.mk (Kd.R_lower (Kd.R_new' (Kd.R_new' (Kd.R_new' ho0 (Kd.R_lt (by (with_reducible repeat (first | apply Kd.R_alloc | apply Kd.R_drewN | apply Kd.R_drew)); exact HO213.out))) (Kd.R_lt (by (with_reducible repeat (first | apply Kd.R_alloc | apply Kd.R_drewN | apply Kd.R_drew)); exact HO216.out))) (Kd.R_lt (by (with_reducible repeat (first | apply Kd.R_alloc | apply Kd.R_drewN | apply Kd.R_drew)); exact HO220.out))) (below_size (by repeat (first | (with_reducible first | exact HB.out | apply below_alloc | apply pw_below_drewN | apply below_drew1) | exact HB.out)))); have n4_ := Aside0.mk (below_step (by repeat (first | (with_reducible first | exact HB.out | apply below_alloc | apply pw_below_drewN | apply below_drew1) | exact HB.out)) hb); clear HO213; clear HO216; clear HO220; clear HB; have HO213 := n0_; have HO216 := n1_; have HO220 := n2_; have HO223 := n3_; have HB := n4_; clear n0_ n1_ n2_ n3_ n4_; (try clear hb); (try clear hb2); (try clear hk); (try clear hi); (try clear ho0); obtain ⟨Ao43, co43, eo43⟩ := Kd.R_slice HO220.out; subst eo43; obtain ⟨Ao44, co44, eo44⟩ := Kd.R_slice HO223.out; subst eo44) | (go_at_call 9; (with_reducible refine (ductusref16_SameSets.calls k _ _ t218 _ _ t221 true _ ?side1 ?side2 ?side3 ?side4 A14.out).mono ?_); (case side1 => repeat (first | exact (Kd.R_reads' HO220.out).2.2 | (with_reducible refine Kd.C_alloc ?_ _) | (with_reducible refine Kd.C_drewN ?_ _) | (with_reducible refine Kd.C_drew ?_))); (case side2 => exact (Kd.R_reads' HO220.out).2.1); (case side3 => repeat (first | exact (Kd.R_reads' HO223.out).2.2 | (with_reducible refine Kd.C_alloc ?_ _) | (with_reducible refine Kd.C_drewN ?_ _) | (with_reducible refine Kd.C_drew ?_))); (case side4 => exact (Kd.R_reads' HO223.out).2.1); rintro e w' ⟨rfl, ⟨nd, rfl⟩⟩) | (go_at_call 14; (with_reducible refine (tree_Turn.calls _ _ l0 t225 _ ?side1 ?side2 A16.out).mono ?_); (case side1 => repeat (first | exact (Kd.C_below HR0.out (by repeat (first | (with_reducible first | exact HB.out | apply below_alloc | apply pw_below_drewN | apply below_drew1) | exact HB.out))) | (with_reducible refine Kd.C_alloc ?_ _) | (with_reducible refine Kd.C_drewN ?_ _) | (with_reducible refine Kd.C_drew ?_))); (case side2 => exact HC0.out); rintro e w45 ⟨v226, rfl, ho0, hb⟩; have n0_ := Aside0.mk (Kd.R_elder' (by (with_reducible repeat (first | apply Kd.R_alloc | apply Kd.R_drewN | apply Kd.R_drew)); exact HO213.out) (Kd.R_base ho0) hb); have n1_ := Aside0.mk (Kd.R_elder' (by (with_reducible repeat (first | apply Kd.R_alloc | apply Kd.R_drewN | apply Kd.R_drew)); exact HO216.out) (Kd.R_base ho0) hb); have n2_ := Aside0.mk (Kd.R_elder' (by (with_reducible repeat (first | apply Kd.R_alloc | apply Kd.R_drewN | apply Kd.R_drew)); exact HO220.out) (Kd.R_base ho0) hb); have n3_ := Aside0.mk (Kd.R_elder' (by (with_reducible repeat (first | apply Kd.R_alloc | apply Kd.R_drewN | apply Kd.R_drew)); exact HO223.out) (Kd.R_base ho0) hb); have n4_ := Aside0.mk (Kd.R_lower (Kd.R_new' (Kd.R_new' (Kd.R_new' (Kd.R_new' ho0 (Kd.R_lt (by (with_reducible repeat (first | apply Kd.R_alloc | apply Kd.R_drewN | apply Kd.R_drew)); exact HO213.out))) (Kd.R_lt (by (with_reducible repeat (first | apply Kd.R_alloc | apply Kd.R_drewN | apply Kd.R_drew)); exact HO216.out))) (Kd.R_lt (by (with_reducible repeat (first | apply Kd.R_alloc | apply Kd.R_drewN | apply Kd.R_drew)); exact HO220.out))) (Kd.R_lt (by (with_reducible repeat (first | apply Kd.R_alloc | apply Kd.R_drewN | apply Kd.R_drew)); exact HO223.out))) (below_size (by repeat (first | (with_reducible first | exact HB.out | apply below_alloc | apply pw_below_drewN | apply below_drew1) | exact HB.out)))); have n5_ := Aside0.mk (below_step (by repeat (first | (with_reducible first | exact HB.out | apply below_alloc | apply pw_below_drewN | apply below_drew1) | exact HB.out)) hb); clear HO213; clear HO216; clear HO220; clear HO223; clear HB; have HO213 := n0_; have HO216 := n1_; have HO220 := n2_; have HO223 := n3_; have HO227 := n4_; have HB := n5_; clear n0_ n1_ n2_ n3_ n4_ n5_; (try clear hb); (try clear hb2); (try clear hk); (try clear hi); (try clear ho0)) | (go_at_call 15; (with_reducible refine (ductusref16_Turn.calls k _ _ l0 t228 _ ?side1 ?side2 A17.out).mono ?_); (case side1 => repeat (first | exact (Kd.C_below HR0.out HB.out) | (with_reducible refine Kd.C_alloc ?_ _) | (with_reducible refine Kd.C_drewN ?_ _) | (with_reducible refine Kd.C_drew ?_))); (case side2 => exact HC0.out); rintro e w46 ⟨v229, rfl, ho0, hb⟩; have n0_ := Aside0.mk (Kd.R_elder' (by (with_reducible repeat (first | apply Kd.R_alloc | apply Kd.R_drewN | apply Kd.R_drew)); exact HO213.out) (Kd.R_base ho0) hb); have n1_ := Aside0.mk (Kd.R_elder' (by (with_reducible repeat (first | apply Kd.R_alloc | apply Kd.R_drewN | apply Kd.R_drew)); exact HO216.out) (Kd.R_base ho0) hb); have n2_ := Aside0.mk (Kd.R_elder' (by (with_reducible repeat (first | apply Kd.R_alloc | apply Kd.R_drewN | apply Kd.R_drew)); exact HO220.out) (Kd.R_base ho0) hb); have n3_ := Aside0.mk (Kd.R_elder' (by (with_reducible repeat (first | apply Kd.R_alloc | apply Kd.R_drewN | apply Kd.R_drew)); exact HO223.out) (Kd.R_base ho0) hb); have n4_ := Aside0.mk (Kd.R_elder' (by (with_reducible repeat (first | apply Kd.R_alloc | apply Kd.R_drewN | apply Kd.R_drew)); exact HO227.out) (Kd.R_base ho0) hb); have n5_ := Aside0.mk (Kd.R_lower (Kd.R_new' (Kd.R_new' (Kd.R_new' (Kd.R_new' (Kd.R_new' ho0 (Kd.R_lt (by (with_reducible repeat (first | apply Kd.R_alloc | apply Kd.R_drewN | apply Kd.R_drew)); exact HO213.out))) (Kd.R_lt (by (with_reducible repeat (first | apply Kd.R_alloc | apply Kd.R_drewN | apply Kd.R_drew)); exact HO216.out))) (Kd.R_lt (by (with_reducible repeat (first | apply Kd.R_alloc | apply Kd.R_drewN | apply Kd.R_drew)); exact HO220.out))) (Kd.R_lt (by (with_reducible repeat (first | apply Kd.R_alloc | apply Kd.R_drewN | apply Kd.R_drew)); exact HO223.out))) (Kd.R_lt (by (with_reducible repeat (first | apply Kd.R_alloc | apply Kd.R_drewN | apply Kd.R_drew)); exact HO227.out))) (below_size (by repeat (first | (with_reducible first | exact HB.out | apply below_alloc | apply pw_below_drewN | apply below_drew1) | exact HB.out)))); have n6_ := Aside0.mk (below_step (by repeat (first | (with_reducible first | exact HB.out | apply below_alloc | apply pw_below_drewN | apply below_drew1) | exact HB.out)) hb); clear HO213; clear HO216; clear HO220; clear HO223; clear HO227; clear HB; have HO213 := n0_; have HO216 := n1_; have HO220 := n2_; have HO223 := n3_; have HO227 := n4_; have HO230 := n5_; have HB := n6_; clear n0_ n1_ n2_ n3_ n4_ n5_ n6_; (try clear hb); (try clear hb2); (try clear hk); (try clear hi); (try clear ho0); obtain ⟨Ao47, co47, eo47⟩ := Kd.R_slice HO227.out; subst eo47; obtain ⟨Ao48, co48, eo48⟩ := Kd.R_slice HO230.out; subst eo48) | (go_at_call 9; (with_reducible refine (ductusref16_SameSets.calls k _ _ t225 _ _ t228 false _ ?side1 ?side2 ?side3 ?side4 A18.out).mono ?_); (case side1 => repeat (first | exact (Kd.R_reads' HO227.out).2.2 | (with_reducible refine Kd.C_alloc ?_ _) | (with_reducible refine Kd.C_drewN ?_ _) | (with_reducible refine Kd.C_drew ?_))); (case side2 => exact (Kd.R_reads' HO227.out).2.1); (case side3 => repeat (first | exact (Kd.R_reads' HO230.out).2.2 | (with_reducible refine Kd.C_alloc ?_ _) | (with_reducible refine Kd.C_drewN ?_ _) | (with_reducible refine Kd.C_drew ?_))); (case side4 => exact (Kd.R_reads' HO230.out).2.1); rintro e w' ⟨rfl, ⟨nd, rfl⟩⟩))
            go_ret
            exact ⟨by first | rfl | (simp [errW_none, errW_some] <;> rfl) | (simp [*, errW_none, errW_some] <;> rfl), by repeat (first | (with_reducible first | exact HB.out | apply below_alloc | apply pw_below_drewN | apply below_drew1) | exact HB.out)⟩
        · replace c15 := Bool.eq_false_iff.mpr c15
          subst c15
          have H1 : (some false) = some r := by rw [if_neg (show ¬ (false = true) by decide)] at H; exact H
          clear H
          have H := H1
          clear H1
          obtain rfl := Option.some.inj H
          go_enter Tryz.func3, Tryz.ntmps3
          go_wp2_with (first | ((with_reducible refine gate_callee (f := 8) rfl ?_); refine goesL_ (some 7) rfl rfl Tryz.func8 (by kernel_rfl) rfl #[] rfl (by (try simp only [List.map_toArray, List.map_cons, List.map_nil]); first | done | rfl | (simp only [List.length_drop, List.length_take]; rfl)) ?_; (with_reducible refine (ductuslaw16_alive.calls  true _ A4.out).mono ?_); rintro e w49 ⟨rfl, hb⟩; refine ⟨_, rfl, ?_⟩; have n0_ := Aside0.mk (below_step (by repeat (first | (with_reducible first | exact HB.out | apply below_alloc | apply pw_below_drewN | apply below_drew1) | exact HB.out)) hb); clear HB; have HB := n0_; clear n0_; (try clear hb); (try clear hb2); (try clear hk); (try clear hi)) | ((with_reducible refine gate_callee (f := 10) rfl ?_); refine goesL_ (some 13) rfl rfl Tryz.func10 (by kernel_rfl) rfl #[.slice A0 l0.length c0] rfl (by (try simp only [List.map_toArray, List.map_cons, List.map_nil]); first | done | rfl | (simp only [List.length_drop, List.length_take]; rfl)) ?_; (with_reducible refine (tree_Set.calls _ _ l0 t211 _ ?side1 ?side2 A8.out).mono ?_); (case side1 => repeat (first | exact (Kd.C_below HR0.out HB.out) | (with_reducible refine Kd.C_alloc ?_ _) | (with_reducible refine Kd.C_drewN ?_ _) | (with_reducible refine Kd.C_drew ?_))); (case side2 => exact HC0.out); rintro e w50 ⟨v212, rfl, ho0, hb⟩; refine ⟨_, rfl, ?_⟩; have n0_ := Aside0.mk (Kd.R_lower ho0 (below_size (by repeat (first | (with_reducible first | exact HB.out | apply below_alloc | apply pw_below_drewN | apply below_drew1) | exact HB.out)))); have n1_ := Aside0.mk (below_step (by repeat (first | (with_reducible first | exact HB.out | apply below_alloc | apply pw_below_drewN | apply below_drew1) | exact HB.out)) hb); clear HB; have HO213 := n0_; have HB := n1_; clear n0_ n1_; (try clear hb); (try clear hb2); (try clear hk); (try clear hi); (try clear ho0)) | ((with_reducible refine gate_callee (f := 11) rfl ?_); refine goesL_ (some 15) rfl rfl Tryz.func11 (by kernel_rfl) rfl #[.slice A0 l0.length c0] rfl (by (try simp only [List.map_toArray, List.map_cons, List.map_nil]); first | done | rfl | (simp only [List.length_drop, List.length_take]; rfl)) ?_; (with_reducible refine (ductusref16_Set.calls k _ _ l0 t214 _ ?side1 ?side2 A9.out).mono ?_); (case side1 => repeat (first | exact (Kd.C_below HR0.out HB.out) | (with_reducible refine Kd.C_alloc ?_ _) | (with_reducible refine Kd.C_drewN ?_ _) | (with_reducible refine Kd.C_drew ?_))); (case side2 => exact HC0.out); rintro e w51 ⟨v215, rfl, ho0, hb⟩; refine ⟨_, rfl, ?_⟩; have n0_ := Aside0.mk (Kd.R_elder' (by (with_reducible repeat (first | apply Kd.R_alloc | apply Kd.R_drewN | apply Kd.R_drew)); exact HO213.out) (Kd.R_base ho0) hb); have n1_ := Aside0.mk (Kd.R_lower (Kd.R_new' ho0 (Kd.R_lt (by (with_reducible repeat (first | apply Kd.R_alloc | apply Kd.R_drewN | apply Kd.R_drew)); exact HO213.out))) (below_size (by repeat (first | (with_reducible first | exact HB.out | apply below_alloc | apply pw_below_drewN | apply below_drew1) | exact HB.out)))); have n2_ := Aside0.mk (below_step (by repeat (first | (with_reducible first | exact HB.out | apply below_alloc | apply pw_below_drewN | apply below_drew1) | exact HB.out)) hb); clear HO213; clear HB; have HO213 := n0_; have HO216 := n1_; have HB := n2_; clear n0_ n1_ n2_; (try clear hb); (try clear hb2); (try clear hk); (try clear hi); (try clear ho0); obtain ⟨Ao52, co52, eo52⟩ := Kd.R_slice HO213.out; subst eo52; obtain ⟨Ao53, co53, eo53⟩ := Kd.R_slice HO216.out; subst eo53) | ((with_reducible refine gate_callee (f := 9) rfl ?_); refine goesL_ (some 16) rfl rfl Tryz.func9 (by kernel_rfl) rfl #[.slice Ao52 t211.length co52, .slice Ao53 t214.length co53] rfl (by (try simp only [List.map_toArray, List.map_cons, List.map_nil]); first | done | rfl | (simp only [List.length_drop, List.length_take]; rfl)) ?_; (with_reducible refine (ductusref16_SameSets.calls k _ _ t211 _ _ t214 true _ ?side1 ?side2 ?side3 ?side4 A10.out).mono ?_); (case side1 => repeat (first | exact (Kd.R_reads' HO213.out).2.2 | (with_reducible refine Kd.C_alloc ?_ _) | (with_reducible refine Kd.C_drewN ?_ _) | (with_reducible refine Kd.C_drew ?_))); (case side2 => exact (Kd.R_reads' HO213.out).2.1); (case side3 => repeat (first | exact (Kd.R_reads' HO216.out).2.2 | (with_reducible refine Kd.C_alloc ?_ _) | (with_reducible refine Kd.C_drewN ?_ _) | (with_reducible refine Kd.C_drew ?_))); (case side4 => exact (Kd.R_reads' HO216.out).2.1); rintro e w' ⟨rfl, ⟨nd, rfl⟩⟩; refine ⟨_, rfl, ?_⟩) | (go_at_call 12; (with_reducible refine (tree_Close.calls _ _ l0 a1 t218 _ ?side1 ?side2 A12.out).mono ?_); (case side1 => repeat (first | exact (Kd.C_below HR0.out (by repeat (first | (with_reducible first | exact HB.out | apply below_alloc | apply pw_below_drewN | apply below_drew1) | exact HB.out))) | (with_reducible refine Kd.C_alloc ?_ _) | (with_reducible refine Kd.C_drewN ?_ _) | (with_reducible refine Kd.C_drew ?_))); (case side2 => exact HC0.out); rintro e w54 ⟨v219, rfl, ho0, hb⟩; have n0_ := Aside0.mk (Kd.R_elder' (by (with_reducible repeat (first | apply Kd.R_alloc | apply Kd.R_drewN | apply Kd.R_drew)); exact HO213.out) (Kd.R_base ho0) hb); have n1_ := Aside0.mk (Kd.R_elder' (by (with_reducible repeat (first | apply Kd.R_alloc | apply Kd.R_drewN | apply Kd.R_drew)); exact HO216.out) (Kd.R_base ho0) hb); have n2_ := Aside0.mk (Kd.R_lower (Kd.R_new' (Kd.R_new' ho0 (Kd.R_lt (by (with_reducible repeat (first | apply Kd.R_alloc | apply Kd.R_drewN | apply Kd.R_drew)); exact HO213.out))) (Kd.R_lt (by (with_reducible repeat (first | apply Kd.R_alloc | apply Kd.R_drewN | apply Kd.R_drew)); exact HO216.out))) (below_size (by repeat (first | (with_reducible first | exact HB.out | apply below_alloc | apply pw_below_drewN | apply below_drew1) | exact HB.out)))); have n3_ := Aside0.mk (below_step (by repeat (first | (with_reducible first | exact HB.out | apply below_alloc | apply pw_below_drewN | apply below_drew1) | exact HB.out)) hb); clear HO213; clear HO216; clear HB; have HO213 := n0_; have HO216 := n1_; have HO220 := n2_; have HB := n3_; clear n0_ n1_ n2_ n3_; (try clear hb); (try clear hb2); (try clear hk); (try clear hi); (try clear ho0)) | (go_at_call 13; (with_reducible refine (ductusref16_Close.calls k _ _ l0 a1 t221 _ ?side1 ?side2 A13.out).mono ?_); (case side1 => repeat (first | exact (Kd.C_below HR0.out HB.out) | (with_reducible refine Kd.C_alloc ?_ _) | (with_reducible refine Kd.C_drewN ?_ _) | (with_reducible refine Kd.C_drew ?_))); (case side2 => exact HC0.out); rintro e w55 ⟨v222, rfl, ho0, hb⟩; have n0_ := Aside0.mk (Kd.R_elder' (by (with_reducible repeat (first | apply Kd.R_alloc | apply Kd.R_drewN | apply Kd.R_drew)); exact HO213.out) (Kd.R_base ho0) hb); have n1_ := Aside0.mk (Kd.R_elder' (by (with_reducible repeat (first | apply Kd.R_alloc | apply Kd.R_drewN | apply Kd.R_drew)); exact HO216.out) (Kd.R_base ho0) hb); have n2_ := Aside0.mk (Kd.R_elder' (by (with_reducible repeat (first | apply Kd.R_alloc | apply Kd.R_drewN | apply Kd.R_drew)); exact HO220.out) (Kd.R_base ho0) hb); have n3_ := Aside0.mk (Kd.R_lower (Kd.R_new' (Kd.R_new' (Kd.R_new' ho0 (Kd.R_lt (by (with_reducible repeat (first | apply Kd.R_alloc | apply Kd.R_drewN | apply Kd.R_drew)); exact HO213.out))) (Kd.R_lt (by (with_reducible repeat (first | apply Kd.R_alloc | apply Kd.R_drewN | apply Kd.R_drew)); exact HO216.out))) (Kd.R_lt (by (with_reducible repeat (first | apply Kd.R_alloc | apply Kd.R_drewN | apply Kd.R_drew)); exact HO220.out))) (below_size (by repeat (first | (with_reducible first | exact HB.out | apply below_alloc | apply pw_below_drewN | apply below_drew1) | exact HB.out)))); have n4_ := Aside0.mk (below_step (by repeat (first | (with_reducible first | exact HB.out | apply below_alloc | apply pw_below_drewN | apply below_drew1) | exact HB.out)) hb); clear HO213; clear HO216; clear HO220; clear HB; have HO213 := n0_; have HO216 := n1_; have HO220 := n2_; have HO223 := n3_; have HB := n4_; clear n0_ n1_ n2_ n3_ n4_; (try clear hb); (try clear hb2); (try clear hk); (try clear hi); (try clear ho0); obtain ⟨Ao56, co56, eo56⟩ := Kd.R_slice HO220.out; subst eo56; obtain ⟨Ao57, co57, eo57⟩ := Kd.R_slice HO223.out; subst eo57) | (go_at_call 9; (with_reducible refine (ductusref16_SameSets.calls k _ _ t218 _ _ t221 false _ ?side1 ?side2 ?side3 ?side4 A14.out).mono ?_); (case side1 => repeat (first | exact (Kd.R_reads' HO220.out).2.2 | (with_reducible refine Kd.C_alloc ?_ _) | (with_reducible refine Kd.C_drewN ?_ _) | (with_reducible refine Kd.C_drew ?_))); (case side2 => exact (Kd.R_reads' HO220.out).2.1); (case side3 => repeat (first | exact (Kd.R_reads' HO223.out).2.2 | (with_reducible refine Kd.C_alloc ?_ _) | (with_reducible refine Kd.C_drewN ?_ _) | (with_reducible refine Kd.C_drew ?_))); (case side4 => exact (Kd.R_reads' HO223.out).2.1); rintro e w' ⟨rfl, ⟨nd, rfl⟩⟩))
          go_ret
          exact ⟨by first | rfl | (simp [errW_none, errW_some] <;> rfl) | (simp [*, errW_none, errW_some] <;> rfl), by repeat (first | (with_reducible first | exact HB.out | apply below_alloc | apply pw_below_drewN | apply below_drew1) | exact HB.out)⟩
      · replace c11 := Bool.eq_false_iff.mpr c11
        subst c11
        have H1 : (some false) = some r := by rw [if_neg (show ¬ (false = true) by decide)] at H; exact H
        clear H
        have H := H1
        clear H1
        obtain rfl := Option.some.inj H
        go_enter Tryz.func3, Tryz.ntmps3
        go_wp2_with (first | ((with_reducible refine gate_callee (f := 8) rfl ?_); refine goesL_ (some 7) rfl rfl Tryz.func8 (by kernel_rfl) rfl #[] rfl (by (try simp only [List.map_toArray, List.map_cons, List.map_nil]); first | done | rfl | (simp only [List.length_drop, List.length_take]; rfl)) ?_; (with_reducible refine (ductuslaw16_alive.calls  true _ A4.out).mono ?_); rintro e w58 ⟨rfl, hb⟩; refine ⟨_, rfl, ?_⟩; have n0_ := Aside0.mk (below_step (by repeat (first | (with_reducible first | exact HB.out | apply below_alloc | apply pw_below_drewN | apply below_drew1) | exact HB.out)) hb); clear HB; have HB := n0_; clear n0_; (try clear hb); (try clear hb2); (try clear hk); (try clear hi)) | ((with_reducible refine gate_callee (f := 10) rfl ?_); refine goesL_ (some 13) rfl rfl Tryz.func10 (by kernel_rfl) rfl #[.slice A0 l0.length c0] rfl (by (try simp only [List.map_toArray, List.map_cons, List.map_nil]); first | done | rfl | (simp only [List.length_drop, List.length_take]; rfl)) ?_; (with_reducible refine (tree_Set.calls _ _ l0 t211 _ ?side1 ?side2 A8.out).mono ?_); (case side1 => repeat (first | exact (Kd.C_below HR0.out HB.out) | (with_reducible refine Kd.C_alloc ?_ _) | (with_reducible refine Kd.C_drewN ?_ _) | (with_reducible refine Kd.C_drew ?_))); (case side2 => exact HC0.out); rintro e w59 ⟨v212, rfl, ho0, hb⟩; refine ⟨_, rfl, ?_⟩; have n0_ := Aside0.mk (Kd.R_lower ho0 (below_size (by repeat (first | (with_reducible first | exact HB.out | apply below_alloc | apply pw_below_drewN | apply below_drew1) | exact HB.out)))); have n1_ := Aside0.mk (below_step (by repeat (first | (with_reducible first | exact HB.out | apply below_alloc | apply pw_below_drewN | apply below_drew1) | exact HB.out)) hb); clear HB; have HO213 := n0_; have HB := n1_; clear n0_ n1_; (try clear hb); (try clear hb2); (try clear hk); (try clear hi); (try clear ho0)) | ((with_reducible refine gate_callee (f := 11) rfl ?_); refine goesL_ (some 15) rfl rfl Tryz.func11 (by kernel_rfl) rfl #[.slice A0 l0.length c0] rfl (by (try simp only [List.map_toArray, List.map_cons, List.map_nil]); first | done | rfl | (simp only [List.length_drop, List.length_take]; rfl)) ?_; (with_reducible refine (ductusref16_Set.calls k _ _ l0 t214 _ ?side1 ?side2 A9.out).mono ?_); (case side1 => repeat (first | exact (Kd.C_below HR0.out HB.out) | (with_reducible refine Kd.C_alloc ?_ _) | (with_reducible refine Kd.C_drewN ?_ _) | (with_reducible refine Kd.C_drew ?_))); (case side2 => exact HC0.out); rintro e w60 ⟨v215, rfl, ho0, hb⟩; refine ⟨_, rfl, ?_⟩; have n0_ := Aside0.mk (Kd.R_elder' (by (with_reducible repeat (first | apply Kd.R_alloc | apply Kd.R_drewN | apply Kd.R_drew)); exact HO213.out) (Kd.R_base ho0) hb); have n1_ := Aside0.mk (Kd.R_lower (Kd.R_new' ho0 (Kd.R_lt (by (with_reducible repeat (first | apply Kd.R_alloc | apply Kd.R_drewN | apply Kd.R_drew)); exact HO213.out))) (below_size (by repeat (first | (with_reducible first | exact HB.out | apply below_alloc | apply pw_below_drewN | apply below_drew1) | exact HB.out)))); have n2_ := Aside0.mk (below_step (by repeat (first | (with_reducible first | exact HB.out | apply below_alloc | apply pw_below_drewN | apply below_drew1) | exact HB.out)) hb); clear HO213; clear HB; have HO213 := n0_; have HO216 := n1_; have HB := n2_; clear n0_ n1_ n2_; (try clear hb); (try clear hb2); (try clear hk); (try clear hi); (try clear ho0); obtain ⟨Ao61, co61, eo61⟩ := Kd.R_slice HO213.out; subst eo61; obtain ⟨Ao62, co62, eo62⟩ := Kd.R_slice HO216.out; subst eo62) | ((with_reducible refine gate_callee (f := 9) rfl ?_); refine goesL_ (some 16) rfl rfl Tryz.func9 (by kernel_rfl) rfl #[.slice Ao61 t211.length co61, .slice Ao62 t214.length co62] rfl (by (try simp only [List.map_toArray, List.map_cons, List.map_nil]); first | done | rfl | (simp only [List.length_drop, List.length_take]; rfl)) ?_; (with_reducible refine (ductusref16_SameSets.calls k _ _ t211 _ _ t214 false _ ?side1 ?side2 ?side3 ?side4 A10.out).mono ?_); (case side1 => repeat (first | exact (Kd.R_reads' HO213.out).2.2 | (with_reducible refine Kd.C_alloc ?_ _) | (with_reducible refine Kd.C_drewN ?_ _) | (with_reducible refine Kd.C_drew ?_))); (case side2 => exact (Kd.R_reads' HO213.out).2.1); (case side3 => repeat (first | exact (Kd.R_reads' HO216.out).2.2 | (with_reducible refine Kd.C_alloc ?_ _) | (with_reducible refine Kd.C_drewN ?_ _) | (with_reducible refine Kd.C_drew ?_))); (case side4 => exact (Kd.R_reads' HO216.out).2.1); rintro e w' ⟨rfl, ⟨nd, rfl⟩⟩; refine ⟨_, rfl, ?_⟩))
        go_ret
        exact ⟨by first | rfl | (simp [errW_none, errW_some] <;> rfl) | (simp [*, errW_none, errW_some] <;> rfl), by repeat (first | (with_reducible first | exact HB.out | apply below_alloc | apply pw_below_drewN | apply below_drew1) | exact HB.out)⟩
  · replace c5 := Bool.eq_false_iff.mpr c5
    subst c5
    have H1 : (some false) = some r := by rw [if_neg (show ¬ (false = true) by decide)] at H; exact H
    clear H
    have H := H1
    clear H1
    obtain rfl := Option.some.inj H
    go_enter Tryz.func3, Tryz.ntmps3
    go_wp2_with (first | ((with_reducible refine gate_callee (f := 8) rfl ?_); refine goesL_ (some 7) rfl rfl Tryz.func8 (by kernel_rfl) rfl #[] rfl (by (try simp only [List.map_toArray, List.map_cons, List.map_nil]); first | done | rfl | (simp only [List.length_drop, List.length_take]; rfl)) ?_; (with_reducible refine (ductuslaw16_alive.calls  false _ A4.out).mono ?_); rintro e w63 ⟨rfl, hb⟩; refine ⟨_, rfl, ?_⟩; have n0_ := Aside0.mk (below_step (by repeat (first | (with_reducible first | exact HB.out | apply below_alloc | apply pw_below_drewN | apply below_drew1) | exact HB.out)) hb); clear HB; have HB := n0_; clear n0_; (try clear hb); (try clear hb2); (try clear hk); (try clear hi)))
    go_ret
    exact ⟨by first | rfl | (simp [errW_none, errW_some] <;> rfl) | (simp [*, errW_none, errW_some] <;> rfl), by repeat (first | (with_reducible first | exact HB.out | apply below_alloc | apply pw_below_drewN | apply below_drew1) | exact HB.out)⟩
end Go.Proofs.YtglolcejfbhbdaaGreat.P
end
