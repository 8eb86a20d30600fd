/- Part 3 of what the three laws on sets of ranges share: the words of the walks, contracts of the functions that they reach, and plain lemmas. No conditions. -/
import Derived.Test.YtglolcejfbhbdaaGreatC02
import Derived.Shelf.SlGeneric
import Derived.Shelf.Sort.Plain
import Derived.Ground.NamesProg
import Derived.Test.YtglolcejfbhbdaaGreatProg
import Derived.Shelf.Small.Strs
import Derived.Shelf.Strings.Search1
import Derived.Shelf.SlSortCmp.WholeK
import Derived.Ground.SlsfProg
import Derived.Shelf.SlSortCmp.NoneTotal
import Derived.Shelf.Abstract
section
namespace Go.Proofs.YtglolcejfbhbdaaGreat.P
open Go.RowKit Go.Proofs.YtglolcejfbhbdaaGreatW.PrintWords Go.Proofs.YtglolcejfbhbdaaGreatW.PrintLast Go.Proofs.YtglolcejfbhbdaaGreatW.PrintMore
attribute [local go_sem] max2_int min2_int max_two min_two max_three min_three max_four min_four   -- for this text's walks alone
set_option linter.unusedVariables false
set_option linter.unusedSimpArgs false
structure S76 where
  f0 : Int
  f1 : Int
  f2 : Int
def z76 : S76 := ⟨(0 : Int), (0 : Int), (0 : Int)⟩
def k76 : Kd S76 := Kd.iso (Kd.pair (Kd.int .i64) (Kd.pair (Kd.int .i64) (Kd.int .i64))) (fun x : S76 => (x.f0, x.f1, x.f2))
theorem k76_open {w : World} {x : S76} {cs : List Value} (h : k76.K w x cs) : cs = [.int .i64 x.f0, .int .i64 x.f1, .int .i64 x.f2] := by
  obtain ⟨_, _, rfl, rfl, ⟨_, _, rfl, rfl, rfl⟩⟩ := h
  exact rfl
theorem k76_mkM (w : World) (base : Nat) (ok : Nat → Prop) (x : S76)  : k76.M w base ok x [.int .i64 x.f0, .int .i64 x.f1, .int .i64 x.f2] := ⟨[.int .i64 x.f0], [.int .i64 x.f1, .int .i64 x.f2], rfl, rfl, ⟨[.int .i64 x.f1], [.int .i64 x.f2], rfl, rfl, rfl⟩⟩
def rd_T76 (xs : List S76) (i : Int) : S76 := xs.getD i.toNat z76
theorem at_T76 {w : World} {A : Option Addr} {n : Nat} {xs : List S76} (h : Kd.C k76 w A n xs) (i : Int) (h0 : 0 ≤ i) (h1 : i < n) : ∃ ad , A = some ad ∧ w.cell? (ad.add (i.toNat * 3)) = some (.int .i64 (rd_T76 xs i).f0) ∧ w.cell? ⟨(ad.add (i.toNat * 3)).block, (ad.add (i.toNat * 3)).off + 1, none⟩ = some (.int .i64 (rd_T76 xs i).f1) ∧ w.cell? ⟨(ad.add (i.toNat * 3)).block, (ad.add (i.toNat * 3)).off + 2, none⟩ = some (.int .i64 (rd_T76 xs i).f2) := by
  obtain ⟨ad, c, e, _, hK, hc0⟩ := Kd.C_get h z76 i h0 h1
  have hc : ∀ j u, c[j]? = some u → w.cell? (ad.add (i.toNat * 3 + j)) = some u := hc0
  obtain rfl := k76_open hK
  exact ⟨ad, e, hc 0 _ rfl, by rw [← add_field _ _ 1 (by omega)]; exact hc 1 _ rfl, by rw [← add_field _ _ 2 (by omega)]; exact hc 2 _ rfl⟩
def fold_stretches.f  : Option ((List (S76))) := some (([(⟨65, 90, 32⟩ : S76), (⟨181, 181, 775⟩ : S76), (⟨192, 214, 32⟩ : S76), (⟨216, 222, 32⟩ : S76), (⟨913, 929, 32⟩ : S76), (⟨931, 937, 32⟩ : S76), (⟨962, 962, 1⟩ : S76), (⟨1024, 1039, 80⟩ : S76), (⟨1040, 1071, 32⟩ : S76), (⟨7838, 7838, (-7615)⟩ : S76)] : List (S76)))
set_option maxHeartbeats 8000000 in
set_option maxRecDepth 100000 in
theorem fold_stretches.calls  (r : List (S76)) (w : World) (h : fold_stretches.f  = some r) :
    Calls Tryz.prog 54 #[] w fun e w' => ∃ v0_ : Value, e = .returned (v0_) ∧ Kd.R k76 76 w' w.heap.size (fun _ => True) v0_ r ∧ Below w.heap.size w w' := by
  have hu76 := Tryz.underlying76
  have HB := Aside0.mk (Below.refl w.heap.size w)
  have H : (some (([(⟨65, 90, 32⟩ : S76), (⟨181, 181, 775⟩ : S76), (⟨192, 214, 32⟩ : S76), (⟨216, 222, 32⟩ : S76), (⟨913, 929, 32⟩ : S76), (⟨931, 937, 32⟩ : S76), (⟨962, 962, 1⟩ : S76), (⟨1024, 1039, 80⟩ : S76), (⟨1040, 1071, 32⟩ : S76), (⟨7838, 7838, (-7615)⟩ : S76)] : List (S76)))) = some r := h
  clear h
  obtain ⟨y101, hy101⟩ : ∃ y_ : List (S76), y_ = (([(⟨65, 90, 32⟩ : S76), (⟨181, 181, 775⟩ : S76), (⟨192, 214, 32⟩ : S76), (⟨216, 222, 32⟩ : S76), (⟨913, 929, 32⟩ : S76), (⟨931, 937, 32⟩ : S76), (⟨962, 962, 1⟩ : S76), (⟨1024, 1039, 80⟩ : S76), (⟨1040, 1071, 32⟩ : S76), (⟨7838, 7838, (-7615)⟩ : S76)] : List (S76))) := ⟨_, rfl⟩
  replace H : (some y101) = some r := by first | (rw [hy101]; with_reducible exact H) | (have H2_ := (Option.bind_some _ _).symm.trans H; rw [hy101]; with_reducible exact H2_) | (have H2_ := (Option.bind_some _ _).symm.trans H; with_reducible exact H2_) | with_reducible exact H | (rw [hy101]; exact H) | exact H
  have Ny101 := Aside0.mk hy101
  clear hy101
  obtain rfl := Option.some.inj H
  go_enter Tryz.func54, Tryz.ntmps54
  go_wp2_with (first | ((with_reducible refine gate_dst (N := 11) rfl ?_); refine Kd.R_lit k76 _ 76 ?hg (N := 11) ?hd (xs := ([(⟨65, 90, 32⟩ : S76), (⟨181, 181, 775⟩ : S76), (⟨192, 214, 32⟩ : S76), (⟨216, 222, 32⟩ : S76), (⟨913, 929, 32⟩ : S76), (⟨931, 937, 32⟩ : S76), (⟨962, 962, 1⟩ : S76), (⟨1024, 1039, 80⟩ : S76), (⟨1040, 1071, 32⟩ : S76), (⟨7838, 7838, (-7615)⟩ : S76)] : List (S76))) (inner := [.int .i64 65, .int .i64 90, .int .i64 32, .int .i64 181, .int .i64 181, .int .i64 775, .int .i64 192, .int .i64 214, .int .i64 32, .int .i64 216, .int .i64 222, .int .i64 32, .int .i64 913, .int .i64 929, .int .i64 32, .int .i64 931, .int .i64 937, .int .i64 32, .int .i64 962, .int .i64 962, .int .i64 1, .int .i64 1024, .int .i64 1039, .int .i64 80, .int .i64 1040, .int .i64 1071, .int .i64 32, .int .i64 7838, .int .i64 7838, .int .i64 (-7615)]) (ok := fun _ => True) (okp := fun _ => True) ?hr ?hp (fun _ hk => hk) trivial (Below.refl _ _) (Nat.le_refl _) (by simp) ?_; (case hd => rfl); (case hg => rfl); (case hr => first | (go_simp; done) | (go_simp; rfl)); (case hp => exact (Reps.c3 (show Kd.M k76 _ _ _ (⟨65, 90, 32⟩ : S76) [.int .i64 65, .int .i64 90, .int .i64 32] from (k76_mkM _ _ _ (⟨65, 90, 32⟩ : S76) )) (Reps.c3 (show Kd.M k76 _ _ _ (⟨181, 181, 775⟩ : S76) [.int .i64 181, .int .i64 181, .int .i64 775] from (k76_mkM _ _ _ (⟨181, 181, 775⟩ : S76) )) (Reps.c3 (show Kd.M k76 _ _ _ (⟨192, 214, 32⟩ : S76) [.int .i64 192, .int .i64 214, .int .i64 32] from (k76_mkM _ _ _ (⟨192, 214, 32⟩ : S76) )) (Reps.c3 (show Kd.M k76 _ _ _ (⟨216, 222, 32⟩ : S76) [.int .i64 216, .int .i64 222, .int .i64 32] from (k76_mkM _ _ _ (⟨216, 222, 32⟩ : S76) )) (Reps.c3 (show Kd.M k76 _ _ _ (⟨913, 929, 32⟩ : S76) [.int .i64 913, .int .i64 929, .int .i64 32] from (k76_mkM _ _ _ (⟨913, 929, 32⟩ : S76) )) (Reps.c3 (show Kd.M k76 _ _ _ (⟨931, 937, 32⟩ : S76) [.int .i64 931, .int .i64 937, .int .i64 32] from (k76_mkM _ _ _ (⟨931, 937, 32⟩ : S76) )) (Reps.c3 (show Kd.M k76 _ _ _ (⟨962, 962, 1⟩ : S76) [.int .i64 962, .int .i64 962, .int .i64 1] from (k76_mkM _ _ _ (⟨962, 962, 1⟩ : S76) )) (Reps.c3 (show Kd.M k76 _ _ _ (⟨1024, 1039, 80⟩ : S76) [.int .i64 1024, .int .i64 1039, .int .i64 80] from (k76_mkM _ _ _ (⟨1024, 1039, 80⟩ : S76) )) (Reps.c3 (show Kd.M k76 _ _ _ (⟨1040, 1071, 32⟩ : S76) [.int .i64 1040, .int .i64 1071, .int .i64 32] from (k76_mkM _ _ _ (⟨1040, 1071, 32⟩ : S76) )) (Reps.c3 (show Kd.M k76 _ _ _ (⟨7838, 7838, (-7615)⟩ : S76) [.int .i64 7838, .int .i64 7838, .int .i64 (-7615)] from (k76_mkM _ _ _ (⟨7838, 7838, (-7615)⟩ : S76) )) (Reps.none _ _)))))))))))); intro v102 w1 ho2 hb hg_ hnew_; clear hg_ hnew_; (first | rw [← Ny101.out] at ho2 | (simp only [Int.reduceToNat] at ho2; rw [← Ny101.out] at ho2)); have n0_ := Aside0.mk (Kd.R_lower ho2 (below_size (by repeat (first | (with_reducible first | exact HB.out | apply below_alloc | apply pw_below_drewN | apply below_drew1) | exact HB.out)))); have n1_ := Aside0.mk (below_step (by repeat (first | (with_reducible first | exact HB.out | apply below_alloc | apply pw_below_drewN | apply below_drew1) | exact HB.out)) hb); clear HB; have HO103 := n0_; have HB := n1_; clear n0_ n1_; clear hb ho2))
  go_ret
  exact ⟨_, by first | rfl | (simp [errW_none, errW_some] <;> rfl) | (simp [*, errW_none, errW_some] <;> rfl), by (with_reducible repeat (first | apply Kd.R_alloc | apply Kd.R_drewN | apply Kd.R_drew)); exact HO103.out, by repeat (first | (with_reducible first | exact HB.out | apply below_alloc | apply pw_below_drewN | apply below_drew1) | exact HB.out)⟩
def fold_Of.l0 : Nat → Int → List (S76) → Int → Int → Option (Int)
  | 0, _, _, _, _ => none
  | k + 1, x0, x5, x6, x7 => if x7 < x6 then (if 0 ≤ x7 then (if x7 < (x5.length : Int) then (if x0 ≥ ((rd_T76 x5 x7).f0) then (if x0 ≤ ((rd_T76 x5 x7).f1) then (some (wrap64 (x0 + ((rd_T76 x5 x7).f2)))) else (fold_Of.l0 k x0 x5 x6 (wrap64 (x7 + 1)))) else (fold_Of.l0 k x0 x5 x6 (wrap64 (x7 + 1)))) else (none)) else (none)) else (some x0)
def fold_Of.f (k : Nat) (a0 : Int) : Option (Int) := (fold_stretches.f).bind fun t104 => (fold_Of.l0 k a0 t104 (t104.length : Int) 0)
theorem fold_Of.mono_l : ∀ k, (∀ y0 y1 y2 y3, LeO (fold_Of.l0 k y0 y1 y2 y3) (fold_Of.l0 (k + 1) y0 y1 y2 y3))
  | 0 => fun _ _ _ _ r h => by simp [fold_Of.l0] at h
  | k + 1 => by
    have ih0 := fold_Of.mono_l k
    · intro y0 y1 y2 y3
      unfold fold_Of.l0
      repeat' first
      | (with_reducible exact ih0 _ _ _ _)
      | (with_reducible exact LeO.refl _)
      | (with_reducible exact LeO.none _)
      | (with_reducible refine LeO.ite ?_ ?_)
      | (with_reducible refine LeO.bind ?_ (fun _ => ?_))
      | exact ih0 _ _ _ _
      | exact LeO.none _
      | refine LeO.ite ?_ ?_
      | refine LeO.bind ?_ (fun _ => ?_)
theorem fold_Of.mono : ∀ a0 k, LeO (fold_Of.f k a0) (fold_Of.f (k + 1) a0) := by
  intro a0 k
  have ih0 := fold_Of.mono_l k
  unfold fold_Of.f
  repeat' first
      | (with_reducible exact ih0 _ _ _ _)
      | (with_reducible exact LeO.refl _)
      | (with_reducible exact LeO.none _)
      | (with_reducible refine LeO.ite ?_ ?_)
      | (with_reducible refine LeO.bind ?_ (fun _ => ?_))
      | exact ih0 _ _ _ _
      | exact LeO.none _
      | refine LeO.ite ?_ ?_
      | refine LeO.bind ?_ (fun _ => ?_)
set_option maxHeartbeats 8000000 in
set_option maxRecDepth 100000 in
theorem fold_Of.calls (k : Nat) (a0 : Int) (r : Int) (w : World) (h : fold_Of.f k a0 = some r) :
    Calls Tryz.prog 29 #[.int .i64 a0] w fun e w' => e = .returned (.int .i64 r) ∧ Below w.heap.size w w' := by
  have hu76 := Tryz.underlying76
  have HB := Aside0.mk (Below.refl w.heap.size w)
  have H : ((fold_stretches.f).bind fun t104 => (fold_Of.l0 k a0 t104 (t104.length : Int) 0)) = some r := h
  clear h
  replace H := Option.bind_eq_some_iff.mp H
  obtain ⟨t104, A20, H⟩ := H
  replace H : (fold_Of.l0 k a0 t104 (t104.length : Int) 0) = some r := H
  have A2 := Aside0.mk A20
  clear A20
  have H' := Aside0.mk H
  clear H
  go_enter Tryz.func29, Tryz.ntmps29
  go_wp2_with (first | ((with_reducible refine gate_callee (f := 54) rfl ?_); refine goesL_ (some 5) rfl rfl Tryz.func54 (by kernel_rfl) rfl #[] rfl (by (try simp only [List.map_toArray, List.map_cons, List.map_nil]); first | done | rfl | (simp only [List.length_drop, List.length_take]; rfl)) ?_; (with_reducible refine (fold_stretches.calls  t104 _ A2.out).mono ?_); rintro e w3 ⟨v105, rfl, ho0, hb⟩; refine ⟨_, rfl, ?_⟩; have n0_ := Aside0.mk (Kd.R_lower ho0 (below_size (by repeat (first | (with_reducible first | exact HB.out | apply below_alloc | apply pw_below_drewN | apply below_drew1) | exact HB.out)))); have n1_ := Aside0.mk (below_step (by repeat (first | (with_reducible first | exact HB.out | apply below_alloc | apply pw_below_drewN | apply below_drew1) | exact HB.out)) hb); clear HB; have HO106 := n0_; have HB := n1_; clear n0_ n1_; (try clear hb); (try clear hb2); (try clear hk); (try clear hi); (try clear ho0); obtain ⟨Ao4, co4, eo4⟩ := Kd.R_slice HO106.out; subst eo4))
  go_loopg [7] k (fun kq v7 w' => ∃ (x7_1 : Int), v7 = .int .i64 x7_1 ∧ Aside0 (fold_Of.l0 kq a0 t104 (t104.length : Int) x7_1 = some r) ∧ Aside0 (kq ≤ k) ∧ Aside0 (Kd.R k76 76 w' w.heap.size (fun _ => True) (.slice Ao4 t104.length co4) t104) ∧ Aside0 (Below w.heap.size w w'))
  case atStart => exact ⟨(0), (by first | rfl | (simp; done) | (simp [*]; done)), H', ⟨Nat.le_refl _⟩, ⟨by (with_reducible repeat (first | apply Kd.R_alloc | apply Kd.R_drewN | apply Kd.R_drew)); exact HO106.out⟩, ⟨by repeat (first | (with_reducible first | exact HB.out | apply below_alloc | apply pw_below_drewN | apply below_drew1) | exact HB.out)⟩⟩
  case round =>
    clear H'
    try clear c2
    try clear p2
    obtain ⟨x7_1, rfl, HA, HK1, HO_5, HB⟩ := hrel
    cases gk with
    | zero => exact absurd HA.out (by simp [fold_Of.l0])
    | succ k1 =>
      have H := HA.out
      clear HA
      simp only [fold_Of.l0] at H
      by_cases c5 : x7_1 < (t104.length : Int)
      · rw [if_pos c5] at H
        have c5b0 : decide (x7_1 < (t104.length : Int)) = true := decide_eq_true c5
        clear c5
        by_cases c6 : 0 ≤ x7_1
        · rw [if_pos c6] at H
          have c6b0 : decide (0 ≤ x7_1) = true := decide_eq_true c6
          clear c6
          by_cases c7 : x7_1 < (t104.length : Int)
          · rw [if_pos c7] at H
            have c7b0 : decide (x7_1 < (t104.length : Int)) = true := decide_eq_true c7
            clear c7
            by_cases c8 : a0 ≥ ((rd_T76 t104 x7_1).f0)
            · rw [if_pos c8] at H
              have c8b0 : decide (((rd_T76 t104 x7_1).f0) ≤ a0) = true := decide_eq_true c8
              clear c8
              by_cases c9 : a0 ≤ ((rd_T76 t104 x7_1).f1)
              · rw [if_pos c9] at H
                have c9b0 : decide (a0 ≤ ((rd_T76 t104 x7_1).f1)) = true := decide_eq_true c9
                clear c9
                obtain rfl := Option.some.inj H
                have p107 : 0 ≤ (x7_1 : Int) := of_decide_eq_true (by first | (with_reducible assumption) | assumption)
                have q107 : x7_1 < (t104.length : Int) := of_decide_eq_true (by first | (with_reducible assumption) | assumption)
                obtain ⟨ad107, e107, hx107_0, hx107_1, hx107_2⟩ := at_T76 (Kd.R_reads' HO_5.out).2.2 x7_1 p107 q107
                cases e107
                replace p107 := eq_true p107
                replace q107 := eq_true q107
                go_wp2_with (first | ((with_reducible refine gate_dst (N := 4) rfl ?_); refine box_event ?hg (N := 4) ?hd (cs := #[.int .i64 0, .int .i64 0, .int .i64 0]) (t := 76) ?hr ?_; (case hd => rfl); (case hg => rfl); (case hr => first | (go_simp; done) | (go_simp; rfl)); intro gb108 hg w10 hbox hb; have n0_ := Aside0.mk (Kd.R_below (Kd.R_elderB (by (with_reducible repeat (first | apply Kd.R_alloc | apply Kd.R_drewN | apply Kd.R_drew)); exact HO_5.out) gb108 (Nat.le_of_eq hg.symm)) hb); have n1_ := Aside0.mk (below_step (by repeat (first | (with_reducible first | exact HB.out | apply below_alloc | apply pw_below_drewN | apply below_drew1) | exact HB.out)) hb); have n2_ := Aside0.mk (hbox); have n3_ := Aside0.mk ((by rw [hg]; exact (below_size (by repeat (first | (with_reducible first | exact HB.out | apply below_alloc | apply pw_below_drewN | apply below_drew1) | exact HB.out))) : w.heap.size ≤ gb108)); have n4_ := Aside0.mk ((by rw [hg]; exact (below_size (by repeat (first | (with_reducible first | exact HB.out | apply below_alloc | apply pw_below_drewN | apply below_drew1) | exact HB.out))) : w.heap.size ≤ gb108)); clear HO_5; clear HB; have HO_5 := n0_; have HB := n1_; have BK108 := n2_; have GW108 := n3_; have GE108 := n4_; clear n0_ n1_ n2_ n3_ n4_; clear hb hbox hg; have hcz11_0 : w10.cell? ⟨gb108, 0, none⟩ = some (.int .i64 0) := (blk_cell BK108.out 0).trans rfl; have hcz11_1 : w10.cell? ⟨gb108, 1, none⟩ = some (.int .i64 0) := (blk_cell BK108.out 1).trans rfl; have hcz11_2 : w10.cell? ⟨gb108, 2, none⟩ = some (.int .i64 0) := (blk_cell BK108.out 2).trans rfl; have hfz11_0 := blk_frozen BK108.out 0; have hfz11_1 := blk_frozen BK108.out 1; have hfz11_2 := blk_frozen BK108.out 2))
                go_ret
                exact ⟨by first | rfl | (simp [errW_none, errW_some] <;> rfl) | (simp [*, errW_none, errW_some] <;> rfl), by repeat (first | (with_reducible first | exact HB.out | apply below_alloc | apply pw_below_drewN | apply below_drew1 | refine below_set ?_ GE108.out) | exact HB.out)⟩
              · rw [if_neg c9] at H
                have c9b0 : decide (a0 ≤ ((rd_T76 t104 x7_1).f1)) = false := decide_eq_false c9
                clear c9
                have H' := Aside0.mk H
                clear H
                have p107 : 0 ≤ (x7_1 : Int) := of_decide_eq_true (by first | (with_reducible assumption) | assumption)
                have q107 : x7_1 < (t104.length : Int) := of_decide_eq_true (by first | (with_reducible assumption) | assumption)
                obtain ⟨ad107, e107, hx107_0, hx107_1, hx107_2⟩ := at_T76 (Kd.R_reads' HO_5.out).2.2 x7_1 p107 q107
                cases e107
                replace p107 := eq_true p107
                replace q107 := eq_true q107
                go_wp2_with (first | ((with_reducible refine gate_dst (N := 4) rfl ?_); refine box_event ?hg (N := 4) ?hd (cs := #[.int .i64 0, .int .i64 0, .int .i64 0]) (t := 76) ?hr ?_; (case hd => rfl); (case hg => rfl); (case hr => first | (go_simp; done) | (go_simp; rfl)); intro gb108 hg w12 hbox hb; have n0_ := Aside0.mk (Kd.R_below (Kd.R_elderB (by (with_reducible repeat (first | apply Kd.R_alloc | apply Kd.R_drewN | apply Kd.R_drew)); exact HO_5.out) gb108 (Nat.le_of_eq hg.symm)) hb); have n1_ := Aside0.mk (below_step (by repeat (first | (with_reducible first | exact HB.out | apply below_alloc | apply pw_below_drewN | apply below_drew1) | exact HB.out)) hb); have n2_ := Aside0.mk (hbox); have n3_ := Aside0.mk ((by rw [hg]; exact (below_size (by repeat (first | (with_reducible first | exact HB.out | apply below_alloc | apply pw_below_drewN | apply below_drew1) | exact HB.out))) : w.heap.size ≤ gb108)); have n4_ := Aside0.mk ((by rw [hg]; exact (below_size (by repeat (first | (with_reducible first | exact HB.out | apply below_alloc | apply pw_below_drewN | apply below_drew1) | exact HB.out))) : w.heap.size ≤ gb108)); clear HO_5; clear HB; have HO_5 := n0_; have HB := n1_; have BK108 := n2_; have GW108 := n3_; have GE108 := n4_; clear n0_ n1_ n2_ n3_ n4_; clear hb hbox hg; have hcz13_0 : w12.cell? ⟨gb108, 0, none⟩ = some (.int .i64 0) := (blk_cell BK108.out 0).trans rfl; have hcz13_1 : w12.cell? ⟨gb108, 1, none⟩ = some (.int .i64 0) := (blk_cell BK108.out 1).trans rfl; have hcz13_2 : w12.cell? ⟨gb108, 2, none⟩ = some (.int .i64 0) := (blk_cell BK108.out 2).trans rfl; have hfz13_0 := blk_frozen BK108.out 0; have hfz13_1 := blk_frozen BK108.out 1; have hfz13_2 := blk_frozen BK108.out 2))
                go_roundg k1
                case measure => have := HK1.out; omega
                case rel => exact ⟨(wrap64 (x7_1 + 1)), (by first | rfl | (simp; done) | (simp [*]; done)), H', ⟨by have := HK1.out; omega⟩, ⟨by (with_reducible repeat (first | apply Kd.R_alloc | apply Kd.R_drewN | apply Kd.R_drew)); exact Kd.R_mono (Kd.R_far (p := ⟨gb108, 2, none⟩) (Kd.R_far (p := ⟨gb108, 1, none⟩) (Kd.R_far (p := ⟨gb108, 0, none⟩) (Kd.R_mono HO_5.out (fun k_ hk => (⟨hk, hk.2⟩ : _ ∧ k_ ≠ gb108))) (fun _ hk => hk.2) (.int .i64 ((rd_T76 t104 x7_1).f0))) (fun _ hk => hk.2) (.int .i64 ((rd_T76 t104 x7_1).f1))) (fun _ hk => hk.2) (.int .i64 ((rd_T76 t104 x7_1).f2))) (fun _ hk => trivial)⟩, ⟨by repeat (first | (with_reducible first | exact HB.out | apply below_alloc | apply pw_below_drewN | apply below_drew1 | refine below_set ?_ GE108.out) | exact HB.out)⟩⟩
            · rw [if_neg c8] at H
              have c8b0 : decide (((rd_T76 t104 x7_1).f0) ≤ a0) = false := decide_eq_false c8
              clear c8
              have H' := Aside0.mk H
              clear H
              have p107 : 0 ≤ (x7_1 : Int) := of_decide_eq_true (by first | (with_reducible assumption) | assumption)
              have q107 : x7_1 < (t104.length : Int) := of_decide_eq_true (by first | (with_reducible assumption) | assumption)
              obtain ⟨ad107, e107, hx107_0, hx107_1, hx107_2⟩ := at_T76 (Kd.R_reads' HO_5.out).2.2 x7_1 p107 q107
              cases e107
              replace p107 := eq_true p107
              replace q107 := eq_true q107
              go_wp2_with (first | ((with_reducible refine gate_dst (N := 4) rfl ?_); refine box_event ?hg (N := 4) ?hd (cs := #[.int .i64 0, .int .i64 0, .int .i64 0]) (t := 76) ?hr ?_; (case hd => rfl); (case hg => rfl); (case hr => first | (go_simp; done) | (go_simp; rfl)); intro gb108 hg w14 hbox hb; have n0_ := Aside0.mk (Kd.R_below (Kd.R_elderB (by (with_reducible repeat (first | apply Kd.R_alloc | apply Kd.R_drewN | apply Kd.R_drew)); exact HO_5.out) gb108 (Nat.le_of_eq hg.symm)) hb); have n1_ := Aside0.mk (below_step (by repeat (first | (with_reducible first | exact HB.out | apply below_alloc | apply pw_below_drewN | apply below_drew1) | exact HB.out)) hb); have n2_ := Aside0.mk (hbox); have n3_ := Aside0.mk ((by rw [hg]; exact (below_size (by repeat (first | (with_reducible first | exact HB.out | apply below_alloc | apply pw_below_drewN | apply below_drew1) | exact HB.out))) : w.heap.size ≤ gb108)); have n4_ := Aside0.mk ((by rw [hg]; exact (below_size (by repeat (first | (with_reducible first | exact HB.out | apply below_alloc | apply pw_below_drewN | apply below_drew1) | exact HB.out))) : w.heap.size ≤ gb108)); clear HO_5; clear HB; have HO_5 := n0_; have HB := n1_; have BK108 := n2_; have GW108 := n3_; have GE108 := n4_; clear n0_ n1_ n2_ n3_ n4_; clear hb hbox hg; have hcz15_0 : w14.cell? ⟨gb108, 0, none⟩ = some (.int .i64 0) := (blk_cell BK108.out 0).trans rfl; have hcz15_1 : w14.cell? ⟨gb108, 1, none⟩ = some (.int .i64 0) := (blk_cell BK108.out 1).trans rfl; have hcz15_2 : w14.cell? ⟨gb108, 2, none⟩ = some (.int .i64 0) := (blk_cell BK108.out 2).trans rfl; have hfz15_0 := blk_frozen BK108.out 0; have hfz15_1 := blk_frozen BK108.out 1; have hfz15_2 := blk_frozen BK108.out 2))
              go_roundg k1
              case measure => have := HK1.out; omega
              case rel => exact ⟨(wrap64 (x7_1 + 1)), (by first | rfl | (simp; done) | (simp [*]; done)), H', ⟨by have := HK1.out; omega⟩, ⟨by (with_reducible repeat (first | apply Kd.R_alloc | apply Kd.R_drewN | apply Kd.R_drew)); exact Kd.R_mono (Kd.R_far (p := ⟨gb108, 2, none⟩) (Kd.R_far (p := ⟨gb108, 1, none⟩) (Kd.R_far (p := ⟨gb108, 0, none⟩) (Kd.R_mono HO_5.out (fun k_ hk => (⟨hk, hk.2⟩ : _ ∧ k_ ≠ gb108))) (fun _ hk => hk.2) (.int .i64 ((rd_T76 t104 x7_1).f0))) (fun _ hk => hk.2) (.int .i64 ((rd_T76 t104 x7_1).f1))) (fun _ hk => hk.2) (.int .i64 ((rd_T76 t104 x7_1).f2))) (fun _ hk => trivial)⟩, ⟨by repeat (first | (with_reducible first | exact HB.out | apply below_alloc | apply pw_below_drewN | apply below_drew1 | refine below_set ?_ GE108.out) | exact HB.out)⟩⟩
          · rw [if_neg c7] at H
            exact absurd H (by simp)
        · rw [if_neg c6] at H
          exact absurd H (by simp)
      · rw [if_neg c5] at H
        have c5b0 : decide (x7_1 < (t104.length : Int)) = false := decide_eq_false c5
        clear c5
        obtain rfl := Option.some.inj H
        go_wp2
        go_ret
        exact ⟨by first | rfl | (simp [errW_none, errW_some] <;> rfl) | (simp [*, errW_none, errW_some] <;> rfl), by repeat (first | (with_reducible first | exact HB.out | apply below_alloc | apply pw_below_drewN | apply below_drew1) | exact HB.out)⟩
def tree_mirrored.f  : Option (List Int) := some (([40, 41, 60, 62, 91, 93, 123, 125, 171, 187, 8804, 8805, 8810, 8811, 9001, 9002, 12296, 12297, 12298, 12299, 12300, 12301, 12302, 12303, 12304, 12305] : List Int))
set_option maxHeartbeats 8000000 in
set_option maxRecDepth 100000 in
theorem tree_mirrored.calls  (r : List Int) (w : World) (h : tree_mirrored.f  = some r) :
    Calls Tryz.prog 34 #[] w fun e w' => ∃ v0_ : Value, e = .returned (v0_) ∧ Kd.R (Kd.int .i64) 3 w' w.heap.size (fun _ => True) v0_ r ∧ Below w.heap.size w w' := by
  have HB := Aside0.mk (Below.refl w.heap.size w)
  have H : (some (([40, 41, 60, 62, 91, 93, 123, 125, 171, 187, 8804, 8805, 8810, 8811, 9001, 9002, 12296, 12297, 12298, 12299, 12300, 12301, 12302, 12303, 12304, 12305] : List Int))) = some r := h
  clear h
  obtain ⟨y241, hy241⟩ : ∃ y_ : List Int, y_ = (([40, 41, 60, 62, 91, 93, 123, 125, 171, 187, 8804, 8805, 8810, 8811, 9001, 9002, 12296, 12297, 12298, 12299, 12300, 12301, 12302, 12303, 12304, 12305] : List Int)) := ⟨_, rfl⟩
  replace H : (some y241) = some r := by first | (rw [hy241]; with_reducible exact H) | (have H2_ := (Option.bind_some _ _).symm.trans H; rw [hy241]; with_reducible exact H2_) | (have H2_ := (Option.bind_some _ _).symm.trans H; with_reducible exact H2_) | with_reducible exact H | (rw [hy241]; exact H) | exact H
  have Ny241 := Aside0.mk hy241
  clear hy241
  obtain rfl := Option.some.inj H
  go_enter Tryz.func34, Tryz.ntmps34
  go_wp2_with (first | ((with_reducible refine gate_dst (N := 1) rfl ?_); refine Kd.R_lit (Kd.int .i64) _ 3 ?hg (N := 1) ?hd (xs := ([40, 41, 60, 62, 91, 93, 123, 125, 171, 187, 8804, 8805, 8810, 8811, 9001, 9002, 12296, 12297, 12298, 12299, 12300, 12301, 12302, 12303, 12304, 12305] : List Int)) (inner := [.int .i64 40, .int .i64 41, .int .i64 60, .int .i64 62, .int .i64 91, .int .i64 93, .int .i64 123, .int .i64 125, .int .i64 171, .int .i64 187, .int .i64 8804, .int .i64 8805, .int .i64 8810, .int .i64 8811, .int .i64 9001, .int .i64 9002, .int .i64 12296, .int .i64 12297, .int .i64 12298, .int .i64 12299, .int .i64 12300, .int .i64 12301, .int .i64 12302, .int .i64 12303, .int .i64 12304, .int .i64 12305]) (ok := fun _ => True) (okp := fun _ => True) ?hr ?hp (fun _ hk => hk) trivial (Below.refl _ _) (Nat.le_refl _) (by simp) ?_; (case hd => rfl); (case hg => rfl); (case hr => first | (go_simp; done) | (go_simp; rfl)); (case hp => exact (Reps.one (show Kd.M (Kd.int .i64) _ _ _ 40 [.int .i64 40] from rfl) (Reps.one (show Kd.M (Kd.int .i64) _ _ _ 41 [.int .i64 41] from rfl) (Reps.one (show Kd.M (Kd.int .i64) _ _ _ 60 [.int .i64 60] from rfl) (Reps.one (show Kd.M (Kd.int .i64) _ _ _ 62 [.int .i64 62] from rfl) (Reps.one (show Kd.M (Kd.int .i64) _ _ _ 91 [.int .i64 91] from rfl) (Reps.one (show Kd.M (Kd.int .i64) _ _ _ 93 [.int .i64 93] from rfl) (Reps.one (show Kd.M (Kd.int .i64) _ _ _ 123 [.int .i64 123] from rfl) (Reps.one (show Kd.M (Kd.int .i64) _ _ _ 125 [.int .i64 125] from rfl) (Reps.one (show Kd.M (Kd.int .i64) _ _ _ 171 [.int .i64 171] from rfl) (Reps.one (show Kd.M (Kd.int .i64) _ _ _ 187 [.int .i64 187] from rfl) (Reps.one (show Kd.M (Kd.int .i64) _ _ _ 8804 [.int .i64 8804] from rfl) (Reps.one (show Kd.M (Kd.int .i64) _ _ _ 8805 [.int .i64 8805] from rfl) (Reps.one (show Kd.M (Kd.int .i64) _ _ _ 8810 [.int .i64 8810] from rfl) (Reps.one (show Kd.M (Kd.int .i64) _ _ _ 8811 [.int .i64 8811] from rfl) (Reps.one (show Kd.M (Kd.int .i64) _ _ _ 9001 [.int .i64 9001] from rfl) (Reps.one (show Kd.M (Kd.int .i64) _ _ _ 9002 [.int .i64 9002] from rfl) (Reps.one (show Kd.M (Kd.int .i64) _ _ _ 12296 [.int .i64 12296] from rfl) (Reps.one (show Kd.M (Kd.int .i64) _ _ _ 12297 [.int .i64 12297] from rfl) (Reps.one (show Kd.M (Kd.int .i64) _ _ _ 12298 [.int .i64 12298] from rfl) (Reps.one (show Kd.M (Kd.int .i64) _ _ _ 12299 [.int .i64 12299] from rfl) (Reps.one (show Kd.M (Kd.int .i64) _ _ _ 12300 [.int .i64 12300] from rfl) (Reps.one (show Kd.M (Kd.int .i64) _ _ _ 12301 [.int .i64 12301] from rfl) (Reps.one (show Kd.M (Kd.int .i64) _ _ _ 12302 [.int .i64 12302] from rfl) (Reps.one (show Kd.M (Kd.int .i64) _ _ _ 12303 [.int .i64 12303] from rfl) (Reps.one (show Kd.M (Kd.int .i64) _ _ _ 12304 [.int .i64 12304] from rfl) (Reps.one (show Kd.M (Kd.int .i64) _ _ _ 12305 [.int .i64 12305] from rfl) (Reps.none _ _)))))))))))))))))))))))))))); intro v242 w1 ho2 hb hg_ hnew_; clear hg_ hnew_; (first | rw [← Ny241.out] at ho2 | (simp only [Int.reduceToNat] at ho2; rw [← Ny241.out] at ho2)); have n0_ := Aside0.mk (Kd.R_lower ho2 (below_size (by repeat (first | (with_reducible first | exact HB.out | apply below_alloc | apply pw_below_drewN | apply below_drew1) | exact HB.out)))); have n1_ := Aside0.mk (below_step (by repeat (first | (with_reducible first | exact HB.out | apply below_alloc | apply pw_below_drewN | apply below_drew1) | exact HB.out)) hb); clear HB; have HO243 := n0_; have HB := n1_; clear n0_ n1_; clear hb ho2))
  go_ret
  exact ⟨_, by first | rfl | (simp [errW_none, errW_some] <;> rfl) | (simp [*, errW_none, errW_some] <;> rfl), by (with_reducible repeat (first | apply Kd.R_alloc | apply Kd.R_drewN | apply Kd.R_drew)); exact HO243.out, by repeat (first | (with_reducible first | exact HB.out | apply below_alloc | apply pw_below_drewN | apply below_drew1) | exact HB.out)⟩
def tree_digits.f  : Option ((List (S30))) := some (([(⟨48, 57⟩ : S30)] : List (S30)))
set_option maxHeartbeats 8000000 in
set_option maxRecDepth 100000 in
theorem tree_digits.calls  (r : List (S30)) (w : World) (h : tree_digits.f  = some r) :
    Calls Tryz.prog 119 #[] w fun e w' => ∃ v0_ : Value, e = .returned (v0_) ∧ Kd.R k30 30 w' w.heap.size (fun _ => True) v0_ r ∧ Below w.heap.size w w' := by
  have hu30 := Tryz.underlying30
  have HB := Aside0.mk (Below.refl w.heap.size w)
  have H : (some (([(⟨48, 57⟩ : S30)] : List (S30)))) = some r := h
  clear h
  obtain ⟨y246, hy246⟩ : ∃ y_ : List (S30), y_ = (([(⟨48, 57⟩ : S30)] : List (S30))) := ⟨_, rfl⟩
  replace H : (some y246) = some r := by first | (rw [hy246]; with_reducible exact H) | (have H2_ := (Option.bind_some _ _).symm.trans H; rw [hy246]; with_reducible exact H2_) | (have H2_ := (Option.bind_some _ _).symm.trans H; with_reducible exact H2_) | with_reducible exact H | (rw [hy246]; exact H) | exact H
  have Ny246 := Aside0.mk hy246
  clear hy246
  obtain rfl := Option.some.inj H
  go_enter Tryz.func119, Tryz.ntmps119
  go_wp2_with (first | ((with_reducible refine gate_dst (N := 2) rfl ?_); refine Kd.R_lit k30 _ 30 ?hg (N := 2) ?hd (xs := ([(⟨48, 57⟩ : S30)] : List (S30))) (inner := [.int .i64 48, .int .i64 57]) (ok := fun _ => True) (okp := fun _ => True) ?hr ?hp (fun _ hk => hk) trivial (Below.refl _ _) (Nat.le_refl _) (by simp) ?_; (case hd => rfl); (case hg => rfl); (case hr => first | (go_simp; done) | (go_simp; rfl)); (case hp => exact (Reps.c2 (show Kd.M k30 _ _ _ (⟨48, 57⟩ : S30) [.int .i64 48, .int .i64 57] from (k30_mkM _ _ _ (⟨48, 57⟩ : S30) )) (Reps.none _ _))); intro v247 w1 ho2 hb hg_ hnew_; clear hg_ hnew_; (first | rw [← Ny246.out] at ho2 | (simp only [Int.reduceToNat] at ho2; rw [← Ny246.out] at ho2)); have n0_ := Aside0.mk (Kd.R_lower ho2 (below_size (by repeat (first | (with_reducible first | exact HB.out | apply below_alloc | apply pw_below_drewN | apply below_drew1) | exact HB.out)))); have n1_ := Aside0.mk (below_step (by repeat (first | (with_reducible first | exact HB.out | apply below_alloc | apply pw_below_drewN | apply below_drew1) | exact HB.out)) hb); clear HB; have HO248 := n0_; have HB := n1_; clear n0_ n1_; clear hb ho2))
  go_ret
  exact ⟨_, by first | rfl | (simp [errW_none, errW_some] <;> rfl) | (simp [*, errW_none, errW_some] <;> rfl), by (with_reducible repeat (first | apply Kd.R_alloc | apply Kd.R_drewN | apply Kd.R_drew)); exact HO248.out, by repeat (first | (with_reducible first | exact HB.out | apply below_alloc | apply pw_below_drewN | apply below_drew1) | exact HB.out)⟩
def tree_single.f (a0 : Int) : Option (Int × Int) := some (a0, a0)
set_option maxHeartbeats 8000000 in
set_option maxRecDepth 100000 in
theorem tree_single.calls (a0 : Int) (r1 : Int) (r2 : Int) (w : World) (h : tree_single.f a0 = some (r1, r2)) :
    Calls Tryz.prog 53 #[.int .i64 a0] w fun e w' => e = .returned (.agg #[.int .i64 r1, .int .i64 r2]) ∧ Below w.heap.size w w' := by
  have hu30 := Tryz.underlying30
  have HB := Aside0.mk (Below.refl w.heap.size w)
  have H : (some (a0, a0)) = some (r1, r2) := h
  clear h
  simp only [Option.some.injEq, Prod.mk.injEq] at H
  obtain ⟨rfl, rfl⟩ := H
  go_enter Tryz.func53, Tryz.ntmps53
  go_wp2_with (first | ((with_reducible refine gate_dst (N := 2) rfl ?_); refine box_event ?hg (N := 2) ?hd (cs := #[.int .i64 0, .int .i64 0]) (t := 30) ?hr ?_; (case hd => rfl); (case hg => rfl); (case hr => first | (go_simp; done) | (go_simp; rfl)); intro gb249 hg w2 hbox hb; have n0_ := Aside0.mk (below_step (by repeat (first | (with_reducible first | exact HB.out | apply below_alloc | apply pw_below_drewN | apply below_drew1) | exact HB.out)) hb); have n1_ := Aside0.mk (hbox); have n2_ := Aside0.mk ((by rw [hg]; exact (below_size (by repeat (first | (with_reducible first | exact HB.out | apply below_alloc | apply pw_below_drewN | apply below_drew1) | exact HB.out))) : w.heap.size ≤ gb249)); have n3_ := Aside0.mk ((by rw [hg]; exact (below_size (by repeat (first | (with_reducible first | exact HB.out | apply below_alloc | apply pw_below_drewN | apply below_drew1) | exact HB.out))) : w.heap.size ≤ gb249)); clear HB; have HB := n0_; have BK249 := n1_; have GW249 := n2_; have GE249 := n3_; clear n0_ n1_ n2_ n3_; clear hb hbox hg; have hcz3_0 : w2.cell? ⟨gb249, 0, none⟩ = some (.int .i64 0) := (blk_cell BK249.out 0).trans rfl; have hcz3_1 : w2.cell? ⟨gb249, 1, none⟩ = some (.int .i64 0) := (blk_cell BK249.out 1).trans rfl; have hfz3_0 := blk_frozen BK249.out 0; have hfz3_1 := blk_frozen BK249.out 1))
  refine bodyPost_ret (results_cell_row rfl _ _ gb249 30 #[.int .i64 a0, .int .i64 a0] (0, 0) _ rfl (by (with_reducible repeat (first | refine blk_drewN ?_ _ | refine blk_drew ?_ | refine blk_alloc ?_ _)); refine blk_put (cs := #[.int .i64 a0, .int .i64 0]) ?_ 1 _ rfl; (with_reducible repeat (first | refine blk_drewN ?_ _ | refine blk_drew ?_ | refine blk_alloc ?_ _)); refine blk_put (cs := #[.int .i64 0, .int .i64 0]) ?_ 0 _ rfl; (with_reducible repeat (first | refine blk_drewN ?_ _ | refine blk_drew ?_ | refine blk_alloc ?_ _)); exact BK249.out) Tryz.underlying30 rfl (by kernel_rfl)) rfl ?_
  exact ⟨by first | rfl | (simp [errW_none, errW_some] <;> rfl) | (simp [*, errW_none, errW_some] <;> rfl), by repeat (first | (with_reducible first | exact HB.out | apply below_alloc | apply pw_below_drewN | apply below_drew1 | refine below_set ?_ GE249.out) | exact HB.out)⟩
def tree_blanks.f  : Option ((List (S30))) := (tree_single.f 32).bind fun bt250 => ((tree_single.f 133).bind fun bt252 => ((tree_single.f 160).bind fun bt254 => (some (([(⟨9, 13⟩ : S30), (⟨bt250.1, bt250.2⟩ : S30), (⟨bt252.1, bt252.2⟩ : S30), (⟨bt254.1, bt254.2⟩ : S30), (⟨8232, 8233⟩ : S30)] : List (S30))))))
set_option maxHeartbeats 8000000 in
set_option maxRecDepth 100000 in
theorem tree_blanks.calls  (r : List (S30)) (w : World) (h : tree_blanks.f  = some r) :
    Calls Tryz.prog 120 #[] w fun e w' => ∃ v0_ : Value, e = .returned (v0_) ∧ Kd.R k30 30 w' w.heap.size (fun _ => True) v0_ r ∧ Below w.heap.size w w' := by
  have hu30 := Tryz.underlying30
  have HB := Aside0.mk (Below.refl w.heap.size w)
  have H : ((tree_single.f 32).bind fun bt250 => ((tree_single.f 133).bind fun bt252 => ((tree_single.f 160).bind fun bt254 => (some (([(⟨9, 13⟩ : S30), (⟨bt250.1, bt250.2⟩ : S30), (⟨bt252.1, bt252.2⟩ : S30), (⟨bt254.1, bt254.2⟩ : S30), (⟨8232, 8233⟩ : S30)] : List (S30))))))) = some r := h
  clear h
  replace H := Option.bind_eq_some_iff.mp H
  obtain ⟨⟨t250, t251⟩, A10, H⟩ := H
  replace H : ((tree_single.f 133).bind fun bt252 => ((tree_single.f 160).bind fun bt254 => (some (([(⟨9, 13⟩ : S30), (⟨t250, t251⟩ : S30), (⟨bt252.1, bt252.2⟩ : S30), (⟨bt254.1, bt254.2⟩ : S30), (⟨8232, 8233⟩ : S30)] : List (S30)))))) = some r := H
  have A1 := Aside0.mk A10
  clear A10
  replace H := Option.bind_eq_some_iff.mp H
  obtain ⟨⟨t252, t253⟩, A20, H⟩ := H
  replace H : ((tree_single.f 160).bind fun bt254 => (some (([(⟨9, 13⟩ : S30), (⟨t250, t251⟩ : S30), (⟨t252, t253⟩ : S30), (⟨bt254.1, bt254.2⟩ : S30), (⟨8232, 8233⟩ : S30)] : List (S30))))) = some r := H
  have A2 := Aside0.mk A20
  clear A20
  replace H := Option.bind_eq_some_iff.mp H
  obtain ⟨⟨t254, t255⟩, A30, H⟩ := H
  replace H : (some (([(⟨9, 13⟩ : S30), (⟨t250, t251⟩ : S30), (⟨t252, t253⟩ : S30), (⟨t254, t255⟩ : S30), (⟨8232, 8233⟩ : S30)] : List (S30)))) = some r := H
  have A3 := Aside0.mk A30
  clear A30
  obtain ⟨y256, hy256⟩ : ∃ y_ : List (S30), y_ = (([(⟨9, 13⟩ : S30), (⟨t250, t251⟩ : S30), (⟨t252, t253⟩ : S30), (⟨t254, t255⟩ : S30), (⟨8232, 8233⟩ : S30)] : List (S30))) := ⟨_, rfl⟩
  replace H : (some y256) = some r := by first | (rw [hy256]; with_reducible exact H) | (have H2_ := (Option.bind_some _ _).symm.trans H; rw [hy256]; with_reducible exact H2_) | (have H2_ := (Option.bind_some _ _).symm.trans H; with_reducible exact H2_) | with_reducible exact H | (rw [hy256]; exact H) | exact H
  have Ny256 := Aside0.mk hy256
  clear hy256
  obtain rfl := Option.some.inj H
  go_enter Tryz.func120, Tryz.ntmps120
  go_wp2_with (first | ((with_reducible refine gate_callee (f := 53) rfl ?_); refine goesL_ (some 2) rfl rfl Tryz.func53 (by kernel_rfl) rfl #[.int .i64 32] rfl (by (try simp only [List.map_toArray, List.map_cons, List.map_nil]); first | done | rfl | (simp only [List.length_drop, List.length_take]; rfl)) ?_; (with_reducible refine (tree_single.calls 32 t250 t251 _ A1.out).mono ?_); rintro e w4 ⟨rfl, hb⟩; refine ⟨_, rfl, ?_⟩; have n0_ := Aside0.mk (below_step (by repeat (first | (with_reducible first | exact HB.out | apply below_alloc | apply pw_below_drewN | apply below_drew1) | exact HB.out)) hb); clear HB; have HB := n0_; clear n0_; (try clear hb); (try clear hb2); (try clear hk); (try clear hi)) | ((with_reducible refine gate_callee (f := 53) rfl ?_); refine goesL_ (some 3) rfl rfl Tryz.func53 (by kernel_rfl) rfl #[.int .i64 133] rfl (by (try simp only [List.map_toArray, List.map_cons, List.map_nil]); first | done | rfl | (simp only [List.length_drop, List.length_take]; rfl)) ?_; (with_reducible refine (tree_single.calls 133 t252 t253 _ A2.out).mono ?_); rintro e w5 ⟨rfl, hb⟩; refine ⟨_, rfl, ?_⟩; have n0_ := Aside0.mk (below_step (by repeat (first | (with_reducible first | exact HB.out | apply below_alloc | apply pw_below_drewN | apply below_drew1) | exact HB.out)) hb); clear HB; have HB := n0_; clear n0_; (try clear hb); (try clear hb2); (try clear hk); (try clear hi)) | ((with_reducible refine gate_callee (f := 53) rfl ?_); refine goesL_ (some 4) rfl rfl Tryz.func53 (by kernel_rfl) rfl #[.int .i64 160] rfl (by (try simp only [List.map_toArray, List.map_cons, List.map_nil]); first | done | rfl | (simp only [List.length_drop, List.length_take]; rfl)) ?_; (with_reducible refine (tree_single.calls 160 t254 t255 _ A3.out).mono ?_); rintro e w6 ⟨rfl, hb⟩; refine ⟨_, rfl, ?_⟩; have n0_ := Aside0.mk (below_step (by repeat (first | (with_reducible first | exact HB.out | apply below_alloc | apply pw_below_drewN | apply below_drew1) | exact HB.out)) hb); clear HB; have HB := n0_; clear n0_; (try clear hb); (try clear hb2); (try clear hk); (try clear hi)) | ((with_reducible refine gate_dst (N := 6) rfl ?_); refine Kd.R_lit k30 _ 30 ?hg (N := 6) ?hd (xs := ([(⟨9, 13⟩ : S30), (⟨t250, t251⟩ : S30), (⟨t252, t253⟩ : S30), (⟨t254, t255⟩ : S30), (⟨8232, 8233⟩ : S30)] : List (S30))) (inner := [.int .i64 9, .int .i64 13, .int .i64 t250, .int .i64 t251, .int .i64 t252, .int .i64 t253, .int .i64 t254, .int .i64 t255, .int .i64 8232, .int .i64 8233]) (ok := fun _ => True) (okp := fun _ => True) ?hr ?hp (fun _ hk => hk) trivial (Below.refl _ _) (Nat.le_refl _) (by simp) ?_; (case hd => rfl); (case hg => rfl); (case hr => first | (go_simp; done) | (go_simp; rfl)); (case hp => exact (Reps.c2 (show Kd.M k30 _ _ _ (⟨9, 13⟩ : S30) [.int .i64 9, .int .i64 13] from (k30_mkM _ _ _ (⟨9, 13⟩ : S30) )) (Reps.c2 (show Kd.M k30 _ _ _ (⟨t250, t251⟩ : S30) [.int .i64 t250, .int .i64 t251] from (k30_mkM _ _ _ (⟨t250, t251⟩ : S30) )) (Reps.c2 (show Kd.M k30 _ _ _ (⟨t252, t253⟩ : S30) [.int .i64 t252, .int .i64 t253] from (k30_mkM _ _ _ (⟨t252, t253⟩ : S30) )) (Reps.c2 (show Kd.M k30 _ _ _ (⟨t254, t255⟩ : S30) [.int .i64 t254, .int .i64 t255] from (k30_mkM _ _ _ (⟨t254, t255⟩ : S30) )) (Reps.c2 (show Kd.M k30 _ _ _ (⟨8232, 8233⟩ : S30) [.int .i64 8232, .int .i64 8233] from (k30_mkM _ _ _ (⟨8232, 8233⟩ : S30) )) (Reps.none _ _))))))); intro v257 w7 ho8 hb hg_ hnew_; clear hg_ hnew_; (first | rw [← Ny256.out] at ho8 | (simp only [Int.reduceToNat] at ho8; rw [← Ny256.out] at ho8)); have n0_ := Aside0.mk (Kd.R_lower ho8 (below_size (by repeat (first | (with_reducible first | exact HB.out | apply below_alloc | apply pw_below_drewN | apply below_drew1) | exact HB.out)))); have n1_ := Aside0.mk (below_step (by repeat (first | (with_reducible first | exact HB.out | apply below_alloc | apply pw_below_drewN | apply below_drew1) | exact HB.out)) hb); clear HB; have HO258 := n0_; have HB := n1_; clear n0_ n1_; clear hb ho8))
  go_ret
  exact ⟨_, by first | rfl | (simp [errW_none, errW_some] <;> rfl) | (simp [*, errW_none, errW_some] <;> rfl), by (with_reducible repeat (first | apply Kd.R_alloc | apply Kd.R_drewN | apply Kd.R_drew)); exact HO258.out, by repeat (first | (with_reducible first | exact HB.out | apply below_alloc | apply pw_below_drewN | apply below_drew1) | exact HB.out)⟩
def tree_letters.f  : Option ((List (S30))) := (tree_single.f 95).bind fun bt259 => (some (([(⟨48, 57⟩ : S30), (⟨65, 90⟩ : S30), (⟨bt259.1, bt259.2⟩ : S30), (⟨97, 122⟩ : S30), (⟨192, 214⟩ : S30), (⟨216, 246⟩ : S30), (⟨248, 591⟩ : S30), (⟨880, 1023⟩ : S30), (⟨1024, 1279⟩ : S30), (⟨1488, 1514⟩ : S30), (⟨1568, 1610⟩ : S30), (⟨1632, 1641⟩ : S30)] : List (S30))))
set_option maxHeartbeats 8000000 in
set_option maxRecDepth 100000 in
theorem tree_letters.calls  (r : List (S30)) (w : World) (h : tree_letters.f  = some r) :
    Calls Tryz.prog 121 #[] w fun e w' => ∃ v0_ : Value, e = .returned (v0_) ∧ Kd.R k30 30 w' w.heap.size (fun _ => True) v0_ r ∧ Below w.heap.size w w' := by
  have hu30 := Tryz.underlying30
  have HB := Aside0.mk (Below.refl w.heap.size w)
  have H : ((tree_single.f 95).bind fun bt259 => (some (([(⟨48, 57⟩ : S30), (⟨65, 90⟩ : S30), (⟨bt259.1, bt259.2⟩ : S30), (⟨97, 122⟩ : S30), (⟨192, 214⟩ : S30), (⟨216, 246⟩ : S30), (⟨248, 591⟩ : S30), (⟨880, 1023⟩ : S30), (⟨1024, 1279⟩ : S30), (⟨1488, 1514⟩ : S30), (⟨1568, 1610⟩ : S30), (⟨1632, 1641⟩ : S30)] : List (S30))))) = some r := h
  clear h
  replace H := Option.bind_eq_some_iff.mp H
  obtain ⟨⟨t259, t260⟩, A10, H⟩ := H
  replace H : (some (([(⟨48, 57⟩ : S30), (⟨65, 90⟩ : S30), (⟨t259, t260⟩ : S30), (⟨97, 122⟩ : S30), (⟨192, 214⟩ : S30), (⟨216, 246⟩ : S30), (⟨248, 591⟩ : S30), (⟨880, 1023⟩ : S30), (⟨1024, 1279⟩ : S30), (⟨1488, 1514⟩ : S30), (⟨1568, 1610⟩ : S30), (⟨1632, 1641⟩ : S30)] : List (S30)))) = some r := H
  have A1 := Aside0.mk A10
  clear A10
  obtain ⟨y261, hy261⟩ : ∃ y_ : List (S30), y_ = (([(⟨48, 57⟩ : S30), (⟨65, 90⟩ : S30), (⟨t259, t260⟩ : S30), (⟨97, 122⟩ : S30), (⟨192, 214⟩ : S30), (⟨216, 246⟩ : S30), (⟨248, 591⟩ : S30), (⟨880, 1023⟩ : S30), (⟨1024, 1279⟩ : S30), (⟨1488, 1514⟩ : S30), (⟨1568, 1610⟩ : S30), (⟨1632, 1641⟩ : S30)] : List (S30))) := ⟨_, rfl⟩
  replace H : (some y261) = some r := by first | (rw [hy261]; with_reducible exact H) | (have H2_ := (Option.bind_some _ _).symm.trans H; rw [hy261]; with_reducible exact H2_) | (have H2_ := (Option.bind_some _ _).symm.trans H; with_reducible exact H2_) | with_reducible exact H | (rw [hy261]; exact H) | exact H
  have Ny261 := Aside0.mk hy261
  clear hy261
  obtain rfl := Option.some.inj H
  go_enter Tryz.func121, Tryz.ntmps121
  go_wp2_with (first | ((with_reducible refine gate_callee (f := 53) rfl ?_); refine goesL_ (some 3) rfl rfl Tryz.func53 (by kernel_rfl) rfl #[.int .i64 95] rfl (by (try simp only [List.map_toArray, List.map_cons, List.map_nil]); first | done | rfl | (simp only [List.length_drop, List.length_take]; rfl)) ?_; (with_reducible refine (tree_single.calls 95 t259 t260 _ A1.out).mono ?_); rintro e w2 ⟨rfl, hb⟩; refine ⟨_, rfl, ?_⟩; have n0_ := Aside0.mk (below_step (by repeat (first | (with_reducible first | exact HB.out | apply below_alloc | apply pw_below_drewN | apply below_drew1) | exact HB.out)) hb); clear HB; have HB := n0_; clear n0_; (try clear hb); (try clear hb2); (try clear hk); (try clear hi)) | ((with_reducible refine gate_dst (N := 13) rfl ?_); refine Kd.R_lit k30 _ 30 ?hg (N := 13) ?hd (xs := ([(⟨48, 57⟩ : S30), (⟨65, 90⟩ : S30), (⟨t259, t260⟩ : S30), (⟨97, 122⟩ : S30), (⟨192, 214⟩ : S30), (⟨216, 246⟩ : S30), (⟨248, 591⟩ : S30), (⟨880, 1023⟩ : S30), (⟨1024, 1279⟩ : S30), (⟨1488, 1514⟩ : S30), (⟨1568, 1610⟩ : S30), (⟨1632, 1641⟩ : S30)] : List (S30))) (inner := [.int .i64 48, .int .i64 57, .int .i64 65, .int .i64 90, .int .i64 t259, .int .i64 t260, .int .i64 97, .int .i64 122, .int .i64 192, .int .i64 214, .int .i64 216, .int .i64 246, .int .i64 248, .int .i64 591, .int .i64 880, .int .i64 1023, .int .i64 1024, .int .i64 1279, .int .i64 1488, .int .i64 1514, .int .i64 1568, .int .i64 1610, .int .i64 1632, .int .i64 1641]) (ok := fun _ => True) (okp := fun _ => True) ?hr ?hp (fun _ hk => hk) trivial (Below.refl _ _) (Nat.le_refl _) (by simp) ?_; (case hd => rfl); (case hg => rfl); (case hr => first | (go_simp; done) | (go_simp; rfl)); (case hp => exact (Reps.c2 (show Kd.M k30 _ _ _ (⟨48, 57⟩ : S30) [.int .i64 48, .int .i64 57] from (k30_mkM _ _ _ (⟨48, 57⟩ : S30) )) (Reps.c2 (show Kd.M k30 _ _ _ (⟨65, 90⟩ : S30) [.int .i64 65, .int .i64 90] from (k30_mkM _ _ _ (⟨65, 90⟩ : S30) )) (Reps.c2 (show Kd.M k30 _ _ _ (⟨t259, t260⟩ : S30) [.int .i64 t259, .int .i64 t260] from (k30_mkM _ _ _ (⟨t259, t260⟩ : S30) )) (Reps.c2 (show Kd.M k30 _ _ _ (⟨97, 122⟩ : S30) [.int .i64 97, .int .i64 122] from (k30_mkM _ _ _ (⟨97, 122⟩ : S30) )) (Reps.c2 (show Kd.M k30 _ _ _ (⟨192, 214⟩ : S30) [.int .i64 192, .int .i64 214] from (k30_mkM _ _ _ (⟨192, 214⟩ : S30) )) (Reps.c2 (show Kd.M k30 _ _ _ (⟨216, 246⟩ : S30) [.int .i64 216, .int .i64 246] from (k30_mkM _ _ _ (⟨216, 246⟩ : S30) )) (Reps.c2 (show Kd.M k30 _ _ _ (⟨248, 591⟩ : S30) [.int .i64 248, .int .i64 591] from (k30_mkM _ _ _ (⟨248, 591⟩ : S30) )) (Reps.c2 (show Kd.M k30 _ _ _ (⟨880, 1023⟩ : S30) [.int .i64 880, .int .i64 1023] from (k30_mkM _ _ _ (⟨880, 1023⟩ : S30) )) (Reps.c2 (show Kd.M k30 _ _ _ (⟨1024, 1279⟩ : S30) [.int .i64 1024, .int .i64 1279] from (k30_mkM _ _ _ (⟨1024, 1279⟩ : S30) )) (Reps.c2 (show Kd.M k30 _ _ _ (⟨1488, 1514⟩ : S30) [.int .i64 1488, .int .i64 1514] from (k30_mkM _ _ _ (⟨1488, 1514⟩ : S30) )) (Reps.c2 (show Kd.M k30 _ _ _ (⟨1568, 1610⟩ : S30) [.int .i64 1568, .int .i64 1610] from (k30_mkM _ _ _ (⟨1568, 1610⟩ : S30) )) (Reps.c2 (show Kd.M k30 _ _ _ (⟨1632, 1641⟩ : S30) [.int .i64 1632, .int .i64 1641] from (k30_mkM _ _ _ (⟨1632, 1641⟩ : S30) )) (Reps.none _ _)))))))))))))); intro v262 w3 ho4 hb hg_ hnew_; clear hg_ hnew_; (first | rw [← Ny261.out] at ho4 | (simp only [Int.reduceToNat] at ho4; rw [← Ny261.out] at ho4)); have n0_ := Aside0.mk (Kd.R_lower ho4 (below_size (by repeat (first | (with_reducible first | exact HB.out | apply below_alloc | apply pw_below_drewN | apply below_drew1) | exact HB.out)))); have n1_ := Aside0.mk (below_step (by repeat (first | (with_reducible first | exact HB.out | apply below_alloc | apply pw_below_drewN | apply below_drew1) | exact HB.out)) hb); clear HB; have HO263 := n0_; have HB := n1_; clear n0_ n1_; clear hb ho4))
  go_ret
  exact ⟨_, by first | rfl | (simp [errW_none, errW_some] <;> rfl) | (simp [*, errW_none, errW_some] <;> rfl), by (with_reducible repeat (first | apply Kd.R_alloc | apply Kd.R_drewN | apply Kd.R_drew)); exact HO263.out, by repeat (first | (with_reducible first | exact HB.out | apply below_alloc | apply pw_below_drewN | apply below_drew1) | exact HB.out)⟩
end Go.Proofs.YtglolcejfbhbdaaGreat.P
end
section
namespace Go.Proofs.YtglolcejfbhbdaaGreat.P
open Go.RowKit Go.Proofs.YtglolcejfbhbdaaGreatW.PrintWords Go.Proofs.YtglolcejfbhbdaaGreatW.PrintLast Go.Proofs.YtglolcejfbhbdaaGreatW.PrintMore
set_option linter.unusedVariables false
set_option linter.unusedSimpArgs false
def stL : List S76 := [(⟨65, 90, 32⟩ : S76), (⟨181, 181, 775⟩ : S76), (⟨192, 214, 32⟩ : S76), (⟨216, 222, 32⟩ : S76), (⟨913, 929, 32⟩ : S76), (⟨931, 937, 32⟩ : S76), (⟨962, 962, 1⟩ : S76), (⟨1024, 1039, 80⟩ : S76), (⟨1040, 1071, 32⟩ : S76), (⟨7838, 7838, (-7615)⟩ : S76)]
def ofP (c : Int) : Int := match stL.find? (fun s => decide (s.f0 ≤ c) && decide (c ≤ s.f1)) with
  | some s => c + s.f2
  | none => c
theorem stretches_f : fold_stretches.f = some stL := rfl
theorem st_small : ∀ s ∈ stL, 0 ≤ s.f0 ∧ s.f1 ≤ 7838 ∧ -7615 ≤ s.f2 ∧ s.f2 ≤ 775 := by
  intro s hs
  simp only [stL, List.mem_cons, List.not_mem_nil, or_false] at hs
  rcases hs with rfl | rfl | rfl | rfl | rfl | rfl | rfl | rfl | rfl | rfl <;> decide
theorem rd76_get (l : List S76) (i : Nat) (h : i < l.length) : rd_T76 l i = l[i] := by simp [rd_T76, List.getD_eq_getElem?_getD, h]
theorem of_l0 (c : Int) (n : Nat) : ∀ (k i : Nat), i + n = stL.length → n < k →
    fold_Of.l0 k c stL (stL.length : Int) i = some (match (stL.drop i).find? (fun s => decide (s.f0 ≤ c) && decide (c ≤ s.f1)) with | some s => c + s.f2 | none => c) := by
  induction n with
  | zero =>
    intro k i h1 h2
    obtain ⟨k, rfl⟩ : ∃ m, k = m + 1 := ⟨k - 1, by omega⟩
    rw [fold_Of.l0, if_neg (by omega), List.drop_of_length_le (by omega)]
    rfl
  | succ n ih =>
    intro k i h1 h2
    obtain ⟨k, rfl⟩ : ∃ m, k = m + 1 := ⟨k - 1, by omega⟩
    have hi : i < stL.length := by omega
    have hlen : stL.length = 10 := rfl
    rw [fold_Of.l0, if_pos (by omega), if_pos (by omega), if_pos (by omega), List.drop_eq_getElem_cons hi, List.find?_cons, rd76_get _ _ hi]
    have hw : wrap64 ((i : Int) + 1) = ((i + 1 : Nat) : Int) := by unfold wrap64; omega
    have hb := st_small _ (List.getElem_mem hi)
    rw [hw, ih k (i + 1) (by omega) (by omega)]
    generalize stL[i] = s at *
    by_cases h3 : s.f0 ≤ c
    · by_cases h4 : c ≤ s.f1
      · rw [if_pos h3, if_pos h4]
        simp only [h3, h4, decide_true, Bool.and_self]
        rw [show wrap64 (c + s.f2) = c + s.f2 by unfold wrap64; omega]
      · rw [if_pos h3, if_neg h4]
        simp only [h3, h4, decide_true, decide_false, Bool.and_false]
    · rw [if_neg h3]
      simp only [h3, decide_false, Bool.false_and]
theorem of_f (c : Int) : fold_Of.f 20 c = some (ofP c) := by
  unfold fold_Of.f
  rw [stretches_f]
  exact of_l0 c 10 20 0 rfl (by omega)
theorem foldOf_calls (c : Int) (w : World) : Calls Tryz.prog 29 #[.int .i64 c] w fun e w' => e = .returned (.int .i64 (ofP c)) ∧ Below w.heap.size w w' := fold_Of.calls 20 c (ofP c) w (of_f c)
theorem ofP_b (c : Int) (h0 : 0 ≤ c) (h1 : c ≤ 1000000) : 0 ≤ ofP c ∧ ofP c ≤ 1000775 := by
  unfold ofP
  cases h : stL.find? (fun s => decide (s.f0 ≤ c) && decide (c ≤ s.f1)) with
  | none => exact ⟨h0, by show c ≤ _; omega⟩
  | some s =>
    have hm := List.mem_of_find?_eq_some h
    have hp := List.find?_some h
    simp only [Bool.and_eq_true, decide_eq_true_eq] at hp
    simp only [stL, List.mem_cons, List.not_mem_nil, or_false] at hm
    show 0 ≤ c + s.f2 ∧ c + s.f2 ≤ 1000775
    rcases hm with rfl | rfl | rfl | rfl | rfl | rfl | rfl | rfl | rfl | rfl <;> (dsimp only at hp ⊢; omega)
def kinGo (tt : Int) (l : List S76) : List Int := l.filterMap (fun s => if s.f0 ≤ tt - s.f2 ∧ tt - s.f2 ≤ s.f1 then some (tt - s.f2) else none)
theorem kinGo_snoc (tt : Int) (l : List S76) (i : Nat) (h : i < l.length) : kinGo tt (l.take (i + 1)) = kinGo tt (l.take i) ++ (if (rd_T76 l i).f0 ≤ tt - (rd_T76 l i).f2 ∧ tt - (rd_T76 l i).f2 ≤ (rd_T76 l i).f1 then [tt - (rd_T76 l i).f2] else []) := by
  unfold kinGo
  rw [List.take_succ_eq_append_getElem h, List.filterMap_append, rd76_get _ _ h]
  congr 1
  by_cases hc : l[i].f0 ≤ tt - l[i].f2 ∧ tt - l[i].f2 ≤ l[i].f1
  · simp [hc]
  · simp [hc]
theorem kinGo_len (tt : Int) (l : List S76) : (kinGo tt l).length ≤ l.length := List.length_filterMap_le _ _
def kinP (c : Int) : List Int := (ofP c :: kinGo (ofP c) stL).mergeSort (fun x y => decide (x ≤ y))
theorem kinP_mem (c k : Int) : k ∈ kinP c ↔ k = ofP c ∨ k ∈ kinGo (ofP c) stL := by
  unfold kinP
  rw [List.mem_mergeSort, List.mem_cons]
theorem kinGo_mem (tt k : Int) : k ∈ kinGo tt stL ↔ ∃ s ∈ stL, s.f0 ≤ k ∧ k ≤ s.f1 ∧ k + s.f2 = tt := by
  unfold kinGo
  rw [List.mem_filterMap]
  constructor
  · rintro ⟨s, hs, h⟩
    split at h
    · injection h with h
      exact ⟨s, hs, by omega, by omega, by omega⟩
    · cases h
  · rintro ⟨s, hs, h1, h2, h3⟩
    exact ⟨s, hs, by rw [if_pos (by omega)]; congr 1; omega⟩
end Go.Proofs.YtglolcejfbhbdaaGreat.P
end
section
namespace Go.Proofs.YtglolcejfbhbdaaGreat.P
open Go.RowKit Go.Proofs.YtglolcejfbhbdaaGreatW.PrintWords Go.Proofs.YtglolcejfbhbdaaGreatW.PrintLast Go.Proofs.YtglolcejfbhbdaaGreatW.PrintMore
set_option linter.unusedVariables false
set_option linter.unusedSimpArgs false
theorem R_litG {α : Type} (d : Kd α) (W : World) (base e : Nat) (xs : List α) (inner : List Value) (hrep : Reps (d.M W base (fun _ => False)) d.sz xs inner) (hbase : base ≤ W.heap.size) (hm : xs.length ≤ 9223372036854775807) :
    Kd.R d e (W.alloc (.cells inner.toArray e)) base (fun _ => True) (.slice (some ⟨W.heap.size, 0, none⟩) xs.length xs.length) xs := by
  refine ⟨fun _ _ => trivial, inner, ?_, ?_⟩
  · have h2 := World.ownsRow_lit (base := base) (e := e) (size := d.sz) W inner.toArray xs.length hbase (by simpa [maxLen] using hm) (by simpa using hrep.1)
    simpa using h2
  · refine hrep.imp_ (fun p c hp => d.M_mono (fun k hk => hk.1.elim) (Kd.M_below (d.M_bound hp) (below_alloc (Below.refl _ _) _)))
theorem R_litI (W : World) (base : Nat) (xs : List Int) (hbase : base ≤ W.heap.size) (hm : xs.length ≤ 9223372036854775807) :
    Kd.R (Kd.int .i64) 3 (W.alloc (.cells (xs.map (fun x => Value.int .i64 x)).toArray 3)) base (fun _ => True) (.slice (some ⟨W.heap.size, 0, none⟩) xs.length xs.length) xs :=
  R_litG (Kd.int .i64) W base 3 xs _ (Kd.reps_scalar xs) hbase hm
theorem C_litI (W : World) (xs : List Int) (hm : xs.length ≤ 9223372036854775807) :
    Kd.C (Kd.int .i64) (W.alloc (.cells (xs.map (fun x => Value.int .i64 x)).toArray 3)) (some ⟨W.heap.size, 0, none⟩) xs.length xs :=
  (Kd.R_reads' (R_litI W 0 xs (Nat.zero_le _) hm)).2.2
theorem R_lit1 (W : World) (base : Nat) (x : S30) (hbase : base ≤ W.heap.size) :
    Kd.R k30 30 (W.alloc (.cells #[.int .i64 x.f0, .int .i64 x.f1] 30)) base (fun _ => True) (.slice (some ⟨W.heap.size, 0, none⟩) 1 1) [x] :=
  R_litG k30 W base 30 [x] [.int .i64 x.f0, .int .i64 x.f1] ((Reps.none _ _).snoc (k30_mkM _ _ _ _) rfl) hbase (by simp)
theorem R_lit2 (W : World) (base : Nat) (x y : S30) (hbase : base ≤ W.heap.size) :
    Kd.R k30 30 (W.alloc (.cells #[.int .i64 x.f0, .int .i64 x.f1, .int .i64 y.f0, .int .i64 y.f1] 30)) base (fun _ => True) (.slice (some ⟨W.heap.size, 0, none⟩) 2 2) [x, y] :=
  R_litG k30 W base 30 [x, y] [.int .i64 x.f0, .int .i64 x.f1, .int .i64 y.f0, .int .i64 y.f1] (((Reps.none _ _).snoc (k30_mkM _ _ _ _) rfl).snoc (k30_mkM _ _ _ _) rfl) hbase (by simp)
theorem R_listR {W : World} {base : Nat} {v : Value} {xs : List S30} {ok : Nat → Prop} (h : Kd.R k30 30 W base ok v xs) : ∃ A c, v = .slice A xs.length c ∧ xs.length ≤ c ∧ Kd.C k30 W A xs.length xs := by
  obtain ⟨A, c, rfl⟩ := Kd.R_slice h
  exact ⟨A, c, rfl, (Kd.R_reads' h).2.1, (Kd.R_reads' h).2.2⟩
theorem R_newApart {α : Type} {d : Kd α} {e N base' : Nat} {w1 : World} {ok : Nat → Prop} {v u : Value} {xs : List α} (h : Kd.R d e w1 N ok v xs) (hu : ∀ k, u.ownBlock = some k → k < N) (hb : base' ≤ N) :
    Kd.R d e w1 base' (fun k => ok k ∧ some k ≠ u.ownBlock) v xs :=
  Kd.R_lower (Kd.R_mono (Kd.R_bound h) (fun k hk => ⟨hk.1, fun he => by have h1 := hu k he.symm; have h2 := hk.2.1; omega⟩)) hb
set_option maxRecDepth 100000 in
set_option maxHeartbeats 2000000 in
/-- Kin up to the sort. -/
theorem Kin_calls (c : Int) (h0 : 0 ≤ c) (h1 : c ≤ 1000000) (w : World)
    (hsort : ∀ (W : World) (base : Nat) (v : Value) (ps : List Int), w.heap.size ≤ base → Kd.R (Kd.int .i64) 3 W base (fun _ => True) v ps → 0 < ps.length → ps.length ≤ 100 → base ≤ W.heap.size →
      Calls Tryz.prog 56 #[v] W fun e w' => e = .returned (.tuple #[]) ∧ Kd.R (Kd.int .i64) 3 w' base (fun _ => True) v (ps.mergeSort (fun x y => decide (x ≤ y))) ∧ Below base W w') :
    Calls Tryz.prog 31 #[.int .i64 c] w fun e w' => ∃ v, e = .returned v ∧ Kd.R (Kd.int .i64) 3 w' w.heap.size (fun _ => True) v (kinP c) ∧ Below w.heap.size w w' := by
  have HOF := Aside0.mk (ofP_b c h0 h1)
  have HS := Aside0.mk hsort
  have HK := Aside0.mk (show kinP c = (ofP c :: kinGo (ofP c) stL).mergeSort (fun x y => decide (x ≤ y)) from rfl)
  have hcall := fun W => foldOf_calls c W
  obtain ⟨tt, htt⟩ : ∃ tt, ofP c = tt := ⟨_, rfl⟩
  rw [htt] at HOF hcall HK
  have hb := HOF.out
  have hu76 := Tryz.underlying76
  clear hsort htt HOF
  go_enter Tryz.func31, Tryz.ntmps31
  go_wp2_with fail
  refine (hcall w).mono ?_
  rintro e w1 ⟨rfl, hb1⟩
  go_wp2_with fail
  refine (fold_stretches.calls stL _ rfl).mono ?_
  rintro e w2 ⟨v2, rfl, hR2, hb2⟩
  have HB2 := Aside0.mk (below_step (below_alloc hb1 (.cells #[.int .i64 tt] 3)) hb2)
  have hk0 : Kd.R (Kd.int .i64) 3 (w1.alloc (.cells #[.int .i64 tt] 3)) w.heap.size (fun _ => True) (.slice (some ⟨w1.heap.size, 0, none⟩) 1 1) [tt] := R_litI w1 w.heap.size [tt] hb1.size (by simp)
  have HK0 := Aside0.mk (Kd.R_below hk0 hb2)
  have HT2 := Aside0.mk (R_newApart hR2 (u := .slice (some ⟨w1.heap.size, 0, none⟩) 1 1) (base' := w.heap.size) (by intro k he; obtain rfl : w1.heap.size = k := by simpa [Value.ownBlock] using he
                                                                                                                    simp) (by have := hb1.size; simp; omega))
  obtain ⟨A2, c2, rfl⟩ := Kd.R_slice hR2
  clear hk0 hR2 hb1 hb2 hcall
  have hlen : stL.length ≤ 10 := Nat.le_refl 10
  have HST := Aside0.mk st_small
  have HK1 := Aside0.mk (show Kd.R (Kd.int .i64) 3 w2 w.heap.size (fun _ => True) (.slice (some ⟨w1.heap.size, 0, none⟩) 1 1) (tt :: kinGo tt (stL.take 0)) from HK0.out)
  clear HK0
  generalize stL = st at *
  generalize (Value.slice (some ⟨w1.heap.size, 0, none⟩) 1 1) = v4 at *
  go_wp2_with fail
  go_loopg [4, 14] st.length (fun kq v4 v14 w' => ∃ i : Nat, v14 = .int .i64 i ∧ i ≤ st.length ∧ st.length - i ≤ kq ∧ Aside0 (Kd.R (Kd.int .i64) 3 w' w.heap.size (fun _ => True) v4 (tt :: kinGo tt (st.take i))) ∧ Aside0 (Kd.R k76 76 w' w.heap.size (fun k => True ∧ some k ≠ v4.ownBlock) (.slice A2 st.length c2) st) ∧ Aside0 (Below w.heap.size w w'))
  case atStart => exact ⟨0, rfl, by omega, by omega, HK1, HT2, HB2⟩
  case round =>
    clear HK1 HT2 HB2
    obtain ⟨i, rfl, hi, hk, HO, HT, HB⟩ := hrel
    by_cases hlt : i < st.length
    · have hlt' : (i : Int) < (st.length : Int) := by omega
      obtain ⟨ad, e1, hx0, hx1, hx2⟩ := at_T76 (Kd.R_reads' HT.out).2.2 i (by omega) hlt'
      cases e1
      rw [Int.toNat_natCast] at hx0 hx1 hx2
      have HSN := Aside0.mk (kinGo_snoc tt st i hlt)
      have hsb := HST.out (rd_T76 st i) (by rw [rd76_get _ _ hlt]; exact List.getElem_mem hlt)
      have HL := Aside0.mk (show (tt :: kinGo tt (st.take i)).length ≤ 11 by have := kinGo_len tt (st.take i); rw [List.length_take] at this; rw [List.length_cons]; omega)
      generalize rd_T76 st i = s at *
      have hadl := World.block_lt_of_cell? _ _ hx0
      by_cases k1 : s.f0 ≤ tt - s.f2
      · by_cases k2 : tt - s.f2 ≤ s.f1
        · rw [if_pos ⟨k1, k2⟩] at HSN
          have q1 : decide (s.f0 ≤ tt - s.f2) = true := decide_eq_true k1
          have q2 : decide (tt - s.f2 ≤ s.f1) = true := decide_eq_true k2
          go_wp2_with (at_builtin; go_loud (refine Kd.R_append (Kd.int .i64) (w0 := w) w.heap.size rfl (.tmp 32) (.tmp 34) 32 3 (.int .i64 0) 8 rfl Tryz.underlying32 info3 rfl (by decide) (by omega) u4 (tt :: kinGo tt (st.take i)) (tt - s.f2) [.int .i64 (tt - s.f2)] (fun _ => True) (fun _ => False) rfl (congrArg (fun n => Value.slice (some ⟨n, 0, none⟩) 1 1) (Array.size_push _).symm) ?aP (fun _ hk => hk.elim) ?aF ?aO ?aB ?aS ?aL ?_; (case aP => exact rfl); (case aF => exact fun _ _ => trivial); (case aO => exact Kd.R_alloc HO.out _); (case aB => exact below_alloc HB.out _); (case aS => exact below_size (below_alloc HB.out _)); (case aL => have q := HL.out; omega); intro v1 w1 ho hb_ hg hat; have HT9 := Aside0.mk (Kd.R_after (Kd.R_alloc HT.out _) hg hat)))
          go_roundg (st.length - (i + 1))
          case measure => omega
          case rel => exact ⟨i + 1, by go_num, by omega, by omega, ⟨by rw [HSN.out]; exact ho⟩, HT9, ⟨hb_⟩⟩
        · rw [if_neg (fun h => k2 h.2), List.append_nil] at HSN
          have q1 : decide (s.f0 ≤ tt - s.f2) = true := decide_eq_true k1
          have q2 : decide (tt - s.f2 ≤ s.f1) = false := decide_eq_false k2
          go_wp2_with fail
          go_roundg (st.length - (i + 1))
          case measure => omega
          case rel => exact ⟨i + 1, by go_num, by omega, by omega, ⟨by rw [HSN.out]; exact Kd.R_alloc HO.out _⟩, ⟨Kd.R_alloc HT.out _⟩, ⟨below_alloc HB.out _⟩⟩
      · rw [if_neg (fun h => k1 h.1), List.append_nil] at HSN
        have q1 : decide (s.f0 ≤ tt - s.f2) = false := decide_eq_false k1
        go_wp2_with fail
        go_roundg (st.length - (i + 1))
        case measure => omega
        case rel => exact ⟨i + 1, by go_num, by omega, by omega, ⟨by rw [HSN.out]; exact Kd.R_alloc HO.out _⟩, ⟨Kd.R_alloc HT.out _⟩, ⟨below_alloc HB.out _⟩⟩
    · have hltz : ¬ (i : Int) < (st.length : Int) := by omega
      obtain rfl : i = st.length := by omega
      have HL := Aside0.mk (show (tt :: kinGo tt (st.take st.length)).length ≤ 100 by have := kinGo_len tt (st.take st.length); rw [List.length_take] at this; rw [List.length_cons]; omega)
      rw [List.take_length] at HO HL
      go_wp2_with fail
      refine (HS.out _ w.heap.size _ _ (Nat.le_refl _) HO.out (by simp) HL.out HB.out.size).mono ?_
      rintro e w3 ⟨rfl, hR3, hb3⟩
      have HR3 := Aside0.mk hR3
      have HB3 := Aside0.mk (show Below w.heap.size w w3 from HB.out.trans hb3)
      clear hR3 hb3
      go_wp2_with fail
      go_ret
      exact ⟨_, rfl, by rw [HK.out]; exact HR3.out, HB3.out⟩
end Go.Proofs.YtglolcejfbhbdaaGreat.P
end
section
namespace Go.Proofs
open Go.Shelf
def Tryz.lays189_ren : Go.Shelf.Ren := ⟨fun | 189 => 56 | 125 => 49 | 257 => 76 | 128 => 74 | 129 => 75 | 294 => 93 | 295 => 94 | 296 => 95 | 297 => 96 | 298 => 97 | 299 => 98 | 216 => 99 | 300 => 100 | 301 => 101 | 328 => 108 | 329 => 89 | 330 => 90 | 331 => 109 | 332 => 110 | 215 => 50 | 343 => 117 | n => n, fun | 28 => 32 | 3 => 3 | 46 => 72 | 0 => 0 | 51 => 101 | 53 => 103 | 4 => 4 | 183 => 94 | 182 => 93 | 131 => 98 | 5 => 5 | 9 => 9 | 218 => 114 | 222 => 118 | 228 => 128 | 229 => 129 | n => n, fun | n => n⟩
theorem Tryz.lays189 : Go.Proofs.Lays.n189 Tryz.prog Tryz.lays189_ren := {
  mixed := by kernel_rfl
  f125 := Tryz.func49.trans (congrArg some (by kernel_rfl))
  f128 := Tryz.func74.trans (congrArg some (by kernel_rfl))
  f129 := Tryz.func75.trans (congrArg some (by kernel_rfl))
  f189 := Tryz.func56.trans (congrArg some (by kernel_rfl))
  f215 := Tryz.func50.trans (congrArg some (by kernel_rfl))
  f216 := Tryz.func99.trans (congrArg some (by kernel_rfl))
  f257 := Tryz.func76.trans (congrArg some (by kernel_rfl))
  f294 := Tryz.func93.trans (congrArg some (by kernel_rfl))
  f295 := Tryz.func94.trans (congrArg some (by kernel_rfl))
  f296 := Tryz.func95.trans (congrArg some (by kernel_rfl))
  f297 := Tryz.func96.trans (congrArg some (by kernel_rfl))
  f298 := Tryz.func97.trans (congrArg some (by kernel_rfl))
  f299 := Tryz.func98.trans (congrArg some (by kernel_rfl))
  f300 := Tryz.func100.trans (congrArg some (by kernel_rfl))
  f301 := Tryz.func101.trans (congrArg some (by kernel_rfl))
  f328 := Tryz.func108.trans (congrArg some (by kernel_rfl))
  f329 := Tryz.func89.trans (congrArg some (by kernel_rfl))
  f330 := Tryz.func90.trans (congrArg some (by kernel_rfl))
  f331 := Tryz.func109.trans (congrArg some (by kernel_rfl))
  f332 := Tryz.func110.trans (congrArg some (by kernel_rfl))
  f343 := Tryz.func117.trans (congrArg some (by kernel_rfl))
  t0 := Tryz.underlying0
  a0 := Tryz.isAgg0
  z0 := Tryz.sizeOf0
  v0 := Tryz.zeroValue0
  t3 := Tryz.underlying3
  a3 := Tryz.isAgg3
  z3 := Tryz.sizeOf3
  v3 := Tryz.zeroValue3
  t4 := Tryz.underlying4
  a4 := Tryz.isAgg4
  z4 := Tryz.sizeOf4
  v4 := Tryz.zeroValue4
  t5 := Tryz.underlying5
  a5 := Tryz.isAgg5
  z5 := Tryz.sizeOf5
  v5 := Tryz.zeroValue5
  t9 := Tryz.underlying9
  a9 := Tryz.isAgg9
  z9 := Tryz.sizeOf9
  v9 := Tryz.zeroValue9
  t28 := Tryz.underlying32
  a28 := Tryz.isAgg32
  z28 := Tryz.sizeOf32
  v28 := Tryz.zeroValue32
  t46 := Tryz.underlying72
  a46 := Tryz.isAgg72
  z46 := Tryz.sizeOf72
  v46 := Tryz.zeroValue72
  t51 := Tryz.underlying101
  a51 := Tryz.isAgg101
  z51 := Tryz.sizeOf101
  v51 := Tryz.zeroValue101
  t53 := Tryz.underlying103
  a53 := Tryz.isAgg103
  z53 := Tryz.sizeOf103
  v53 := Tryz.zeroValue103
  t131 := Tryz.underlying98
  a131 := Tryz.isAgg98
  z131 := Tryz.sizeOf98
  v131 := Tryz.zeroValue98
  t182 := Tryz.underlying93
  a182 := Tryz.isAgg93
  z182 := Tryz.sizeOf93
  v182 := Tryz.zeroValue93
  t183 := Tryz.underlying94
  a183 := Tryz.isAgg94
  z183 := Tryz.sizeOf94
  v183 := Tryz.zeroValue94
  t218 := Tryz.underlying114
  a218 := Tryz.isAgg114
  z218 := Tryz.sizeOf114
  v218 := Tryz.zeroValue114
  t222 := Tryz.underlying118
  a222 := Tryz.isAgg118
  z222 := Tryz.sizeOf118
  v222 := Tryz.zeroValue118
  t228 := Tryz.underlying128
  a228 := Tryz.isAgg128
  z228 := Tryz.sizeOf128
  v228 := Tryz.zeroValue128
  t229 := Tryz.underlying129
  a229 := Tryz.isAgg129
  z229 := Tryz.sizeOf129
  v229 := Tryz.zeroValue129 }
end Go.Proofs
end
section
namespace Go.Proofs
open Go.Shelf
def Tryz.lays137_ren : Go.Shelf.Ren := ⟨fun | 137 => 82 | 217 => 103 | 266 => 112 | n => n, fun | 9 => 9 | 5 => 5 | 3 => 3 | n => n, fun | n => n⟩
theorem Tryz.lays137 : Go.Proofs.Lays.n137 Tryz.prog Tryz.lays137_ren := {
  mixed := by kernel_rfl
  f137 := Tryz.func82.trans (congrArg some (by kernel_rfl))
  f217 := Tryz.func103.trans (congrArg some (by kernel_rfl))
  f266 := Tryz.func112.trans (congrArg some (by kernel_rfl))
  t3 := Tryz.underlying3
  a3 := Tryz.isAgg3
  z3 := Tryz.sizeOf3
  v3 := Tryz.zeroValue3
  t5 := Tryz.underlying5
  a5 := Tryz.isAgg5
  z5 := Tryz.sizeOf5
  v5 := Tryz.zeroValue5
  t9 := Tryz.underlying9
  a9 := Tryz.isAgg9
  z9 := Tryz.sizeOf9
  v9 := Tryz.zeroValue9 }
def Tryz.sortRange_ren : Go.Shelf.Ren := ⟨fun | 6 => 24 | 15 => 49 | 14 => 48 | 28 => 74 | 29 => 75 | 20 => 66 | 21 => 67 | 22 => 68 | 23 => 69 | 24 => 70 | 25 => 71 | 26 => 72 | 27 => 73 | 46 => 88 | 47 => 89 | 48 => 90 | 49 => 91 | 50 => 92 | 57 => 107 | n => n, fun | 22 => 22 | 24 => 30 | 25 => 46 | 3 => 3 | 39 => 72 | 0 => 0 | 53 => 101 | 55 => 103 | 4 => 4 | 46 => 94 | 45 => 93 | 50 => 98 | 5 => 5 | 9 => 9 | 66 => 114 | 70 => 118 | 76 => 128 | 77 => 129 | n => n, fun | n => n⟩
theorem Tryz.sortRange : Go.Proofs.SlLaysF0.n6 Tryz.prog Tryz.sortRange_ren := {
  mixed := by kernel_rfl
  f6 := ⟨Tryz.f24.name, by decide, Tryz.func24.trans (congrArg some (by kernel_rfl))⟩
  f14 := ⟨Tryz.f48.name, by decide, Tryz.func48.trans (congrArg some (by kernel_rfl))⟩
  f15 := Tryz.func49.trans (congrArg some (by kernel_rfl))
  f20 := ⟨Tryz.f66.name, by decide, Tryz.func66.trans (congrArg some (by kernel_rfl))⟩
  f21 := ⟨Tryz.f67.name, by decide, Tryz.func67.trans (congrArg some (by kernel_rfl))⟩
  f22 := ⟨Tryz.f68.name, by decide, Tryz.func68.trans (congrArg some (by kernel_rfl))⟩
  f23 := ⟨Tryz.f69.name, by decide, Tryz.func69.trans (congrArg some (by kernel_rfl))⟩
  f24 := ⟨Tryz.f70.name, by decide, Tryz.func70.trans (congrArg some (by kernel_rfl))⟩
  f25 := ⟨Tryz.f71.name, by decide, Tryz.func71.trans (congrArg some (by kernel_rfl))⟩
  f26 := ⟨Tryz.f72.name, by decide, Tryz.func72.trans (congrArg some (by kernel_rfl))⟩
  f27 := ⟨Tryz.f73.name, by decide, Tryz.func73.trans (congrArg some (by kernel_rfl))⟩
  f28 := Tryz.func74.trans (congrArg some (by kernel_rfl))
  f29 := Tryz.func75.trans (congrArg some (by kernel_rfl))
  f46 := ⟨Tryz.f88.name, by decide, Tryz.func88.trans (congrArg some (by kernel_rfl))⟩
  f47 := Tryz.func89.trans (congrArg some (by kernel_rfl))
  f48 := Tryz.func90.trans (congrArg some (by kernel_rfl))
  f49 := ⟨Tryz.f91.name, by decide, Tryz.func91.trans (congrArg some (by kernel_rfl))⟩
  f50 := ⟨Tryz.f92.name, by decide, Tryz.func92.trans (congrArg some (by kernel_rfl))⟩
  f57 := ⟨Tryz.f107.name, by decide, Tryz.func107.trans (congrArg some (by kernel_rfl))⟩
  t0 := Tryz.underlying0
  a0 := Tryz.isAgg0
  z0 := Tryz.sizeOf0
  v0 := Tryz.zeroValue0
  t3 := Tryz.underlying3
  a3 := Tryz.isAgg3
  z3 := Tryz.sizeOf3
  v3 := Tryz.zeroValue3
  t4 := Tryz.underlying4
  a4 := Tryz.isAgg4
  z4 := Tryz.sizeOf4
  v4 := Tryz.zeroValue4
  t5 := Tryz.underlying5
  a5 := Tryz.isAgg5
  z5 := Tryz.sizeOf5
  v5 := Tryz.zeroValue5
  t9 := Tryz.underlying9
  a9 := Tryz.isAgg9
  z9 := Tryz.sizeOf9
  v9 := Tryz.zeroValue9
  t22 := Tryz.underlying22
  a22 := Tryz.isAgg22
  z22 := Tryz.sizeOf22
  v22 := Tryz.zeroValue22
  t25 := Tryz.underlying46
  a25 := Tryz.isAgg46
  z25 := Tryz.sizeOf46
  v25 := Tryz.zeroValue46
  t39 := Tryz.underlying72
  a39 := Tryz.isAgg72
  z39 := Tryz.sizeOf72
  v39 := Tryz.zeroValue72
  t45 := Tryz.underlying93
  a45 := Tryz.isAgg93
  z45 := Tryz.sizeOf93
  v45 := Tryz.zeroValue93
  t46 := Tryz.underlying94
  a46 := Tryz.isAgg94
  z46 := Tryz.sizeOf94
  v46 := Tryz.zeroValue94
  t50 := Tryz.underlying98
  a50 := Tryz.isAgg98
  z50 := Tryz.sizeOf98
  v50 := Tryz.zeroValue98
  t53 := Tryz.underlying101
  a53 := Tryz.isAgg101
  z53 := Tryz.sizeOf101
  v53 := Tryz.zeroValue101
  t55 := Tryz.underlying103
  a55 := Tryz.isAgg103
  z55 := Tryz.sizeOf103
  v55 := Tryz.zeroValue103
  t66 := Tryz.underlying114
  a66 := Tryz.isAgg114
  z66 := Tryz.sizeOf114
  v66 := Tryz.zeroValue114
  t70 := Tryz.underlying118
  a70 := Tryz.isAgg118
  z70 := Tryz.sizeOf118
  v70 := Tryz.zeroValue118
  t76 := Tryz.underlying128
  a76 := Tryz.isAgg128
  z76 := Tryz.sizeOf128
  v76 := Tryz.zeroValue128
  t77 := Tryz.underlying129
  a77 := Tryz.isAgg129
  z77 := Tryz.sizeOf129
  v77 := Tryz.zeroValue129 }
end Go.Proofs
end
section
namespace Go.Proofs.YtglolcejfbhbdaaGreat.P
open Go.RowKit Go.Shelf Go.Proofs.YtglolcejfbhbdaaGreatW.PrintWords Go.Proofs.YtglolcejfbhbdaaGreatW.PrintLast Go.Proofs.YtglolcejfbhbdaaGreatW.PrintMore
set_option linter.unusedVariables false
set_option linter.unusedSimpArgs false
section
variable {α : Type} [Inhabited α] {d : Kd α} {enc : α → List Value}
theorem flat_cell (hk : ∀ x, (enc x).length = d.sz) {w : World} {base : Nat} {ok : Nat → Prop} (hM : ∀ w base ok x cs, d.M w base ok x cs → cs = enc x) {ps : List α} {cs : List Value}
    (h : Reps (d.M w base ok) d.sz ps cs) (t : Nat) (ht : t < ps.length * d.sz) : cs[t]? = some ((Go.Sort.flatK enc d.sz ps.toArray)[t]!) := by
  have k0 : 0 < d.sz := by
    rcases Nat.eq_zero_or_pos d.sz with h0 | h0
    · rw [h0, Nat.mul_zero] at ht; omega
    · exact h0
  have hj : t / d.sz < ps.length := (Nat.div_lt_iff_lt_mul k0).2 ht
  have hi : t % d.sz < d.sz := Nat.mod_lt _ k0
  have e := h.2 (t / d.sz) ps[t / d.sz] (by simp [hj])
  have e := hM _ _ _ _ _ e
  rw [Go.Sort.get_flatK _ _ _ _ (by simpa using ht)]
  have e2 : (enc ps.toArray[t / d.sz]!) = enc ps[t / d.sz] := by simp [hj]
  rw [e2, ← e]
  have hlen : t < cs.length := by rw [h.1]; exact ht
  have hm : t / d.sz * d.sz + t % d.sz = t := by rw [Nat.mul_comm]; exact Nat.div_add_mod _ _
  have hl2 : t % d.sz < (List.take d.sz (List.drop (t / d.sz * d.sz) cs)).length := by
    rw [List.length_take, List.length_drop]
    omega
  rw [getElem!_pos (List.take d.sz (List.drop (t / d.sz * d.sz) cs)) (t % d.sz) hl2, List.getElem_take, List.getElem_drop]
  simp only [hm]
  exact List.getElem?_eq_getElem hlen
theorem R_sorted (hk : ∀ x, (enc x).length = d.sz) (hM : ∀ w base ok x cs, d.M w base ok x cs → cs = enc x) (hM2 : ∀ w base ok x, d.M w base ok x (enc x)) {e : Nat} {w : World} {base : Nat} {ok : Nat → Prop} {ps : List α} {g cap : Nat}
    (h : Kd.R d e w base ok (.slice (some ⟨g, 0, none⟩) ps.length cap) ps) (d' : Array α) (hs : d'.size = ps.length) (n : Nat) (os : Array Obj) :
    Kd.R d e (Go.Proofs.sortWorldK enc d.sz w g 0 n d' os) base ok (.slice (some ⟨g, 0, none⟩) ps.length cap) d'.toList ∧ (∀ B, B ≤ g → Below B w (Go.Proofs.sortWorldK enc d.sz w g 0 n d' os)) := by
  obtain ⟨h0, inner, ho, hr⟩ := h
  obtain ⟨hl, ho⟩ := ho
  have hg : ∃ cur, base ≤ g ∧ w.heap[g]? = some (.cells cur e (0, 0)) ∧ ps.length ≤ cap ∧ cap ≤ maxLen ∧ cur.size = cap * d.sz ∧ cur.toList.take (ps.length * d.sz) = inner := by
    rcases ho with ⟨hx, _⟩ | ⟨g', cap', cur, hx, r⟩
    · simp at hx
    · injection hx with h1 h2 h3
      injection h1 with h1
      injection h1 with h1
      subst h1; subst h3
      exact ⟨cur, r⟩
  obtain ⟨cur, hb, hcell, hc1, hc2, hsz, htake⟩ := hg
  have hlt : g < w.heap.size := (Array.getElem?_eq_some_iff.1 hcell).1
  have hheap : (Go.Proofs.sortWorldK enc d.sz w g 0 n d' os).heap[g]? = some (.cells (Go.Sort.putCells id 0 (Go.Sort.flatK enc d.sz d') cur) e (0, 0)) := by
    unfold Go.Proofs.sortWorldK Go.Sort.putRowK Go.Sort.putRow Go.Sort.mapBlock Go.Sort.grow Go.Sort.ahead
    simp only [Array.getElem?_append, Array.size_modify, hlt, if_true, Array.getElem?_modify]
    rw [hcell]
    rfl
  have hother : ∀ k, k < w.heap.size → k ≠ g → (Go.Proofs.sortWorldK enc d.sz w g 0 n d' os).heap[k]? = w.heap[k]? := by
    intro k hk hne
    unfold Go.Proofs.sortWorldK Go.Sort.putRowK Go.Sort.putRow Go.Sort.mapBlock Go.Sort.grow Go.Sort.ahead
    simp only [Array.getElem?_append, Array.size_modify, hk, if_true, Array.getElem?_modify]
    rw [if_neg (Ne.symm hne)]
  have hbel : ∀ B, B ≤ g → Below B w (Go.Proofs.sortWorldK enc d.sz w g 0 n d' os) := by
    intro B hB
    refine ⟨rfl, rfl, rfl, ?_, fun k hk => hother k (by omega) (by omega)⟩
    unfold Go.Proofs.sortWorldK Go.Sort.putRowK Go.Sort.putRow Go.Sort.mapBlock Go.Sort.grow Go.Sort.ahead
    simp
  refine ⟨⟨h0, (Go.Sort.putCells id 0 (Go.Sort.flatK enc d.sz d') cur).toList.take (ps.length * d.sz), ⟨?_, .inr ⟨g, cap, _, by simp [hs], hb, hheap, by rw [Array.length_toList, hs]; exact hc1, hc2, by simp [Go.Sort.putCells, hsz], by rw [Array.length_toList, hs]⟩⟩, ?_, ?_⟩, hbel⟩
  · have : ps.length * d.sz ≤ cap * d.sz := Nat.mul_le_mul_right _ hc1
    simp [Go.Sort.putCells, hsz, hs, Nat.min_eq_left hc1]
  · have : ps.length * d.sz ≤ cap * d.sz := Nat.mul_le_mul_right _ hc1
    simp [Go.Sort.putCells, hsz, hs, Nat.min_eq_left hc1]
  · intro j p hp
    have hj : j < ps.length := by
      have := (List.getElem?_eq_some_iff.1 hp).1
      rw [Array.length_toList, hs] at this
      exact this
    have hb1 : j * d.sz + d.sz ≤ ps.length * d.sz := by
      have := Nat.mul_le_mul_right d.sz (show j + 1 ≤ ps.length from hj)
      rwa [Nat.add_mul, Nat.one_mul] at this
    have hb2 : ps.length * d.sz ≤ cap * d.sz := Nat.mul_le_mul_right _ hc1
    have : (List.take d.sz (List.drop (j * d.sz) ((Go.Sort.putCells id 0 (Go.Sort.flatK enc d.sz d') cur).toList.take (ps.length * d.sz)))) = enc p := by
      apply List.ext_getElem?
      intro i
      by_cases hi : i < d.sz
      · rw [List.getElem?_take_of_lt hi, List.getElem?_drop, List.getElem?_take_of_lt (by omega)]
        have hlt2 : j * d.sz + i < cur.size := by omega
        rw [Array.getElem?_toList]
        unfold Go.Sort.putCells
        rw [Array.getElem?_mapIdx, Array.getElem?_eq_getElem hlt2, Option.map_some, if_pos ⟨Nat.zero_le _, by rw [Go.Sort.size_flatK, hs]; omega⟩]
        have k0 : 0 < d.sz := by omega
        rw [Nat.sub_zero, id, Go.Sort.get_flatK _ _ _ _ (by rw [hs]; omega)]
        have e1 : (j * d.sz + i) / d.sz = j := by rw [Nat.mul_comm, Nat.mul_add_div k0, Nat.div_eq_of_lt hi, Nat.add_zero]
        have e2 : (j * d.sz + i) % d.sz = i := by rw [Nat.mul_comm, Nat.mul_add_mod, Nat.mod_eq_of_lt hi]
        rw [e1, e2]
        have : d'[j]! = p := by
          rw [Array.getElem?_toList] at hp
          obtain ⟨h1, h2⟩ := Array.getElem?_eq_some_iff.1 hp
          rw [getElem!_pos d' j h1, h2]
        rw [this, getElem!_pos (enc p) i (by rw [hk]; exact hi), List.getElem?_eq_getElem]
      · rw [List.getElem?_eq_none (by rw [List.length_take]; omega), List.getElem?_eq_none (by rw [hk]; omega)]
    rw [this]
    exact hM2 _ _ _ _
end
instance : Inhabited S30 := ⟨z30⟩
def enc30 (x : S30) : List Value := [.int .i64 x.f0, .int .i64 x.f1]
theorem k30_M (w : World) (base : Nat) (ok : Nat → Prop) (x : S30) (cs : List Value) (h : k30.M w base ok x cs) : cs = enc30 x := k30_openM h
theorem isNaN.calls (x : Int) (w : World) : Calls Tryz.prog 50 #[.int .i64 x] w fun e w' => e = .returned (.bool false) ∧ w = w' := by
  have hb : (x != x) = false := by simp
  go_enter Tryz.func50, Tryz.ntmps50
  go_wp2
  go_ret
  exact ⟨rfl, rfl⟩
def cmpI (x y : Int) : Int := if x < y then -1 else if y < x then 1 else 0
set_option maxRecDepth 100000 in
theorem Compare.calls (x y : Int) (w : World) : Calls Tryz.prog 26 #[.int .i64 x, .int .i64 y] w fun e w' => e = .returned (.int .i64 (cmpI x y)) ∧ w = w' := by
  by_cases h1 : x < y
  · have hc : cmpI x y = -1 := by unfold cmpI; rw [if_pos h1]
    have HC := Aside0.mk hc
    clear hc
    go_enter Tryz.func26, Tryz.ntmps26
    go_wp2_with (go_at_call 50; refine (isNaN.calls _ _).mono ?_; rintro e w' ⟨rfl, rfl⟩)
    go_ret
    exact ⟨by rw [HC.out]; rfl, rfl⟩
  · by_cases h2 : y < x
    · have hc : cmpI x y = 1 := by unfold cmpI; rw [if_neg h1, if_pos h2]
      have HC := Aside0.mk hc
      clear hc
      go_enter Tryz.func26, Tryz.ntmps26
      go_wp2_with (go_at_call 50; refine (isNaN.calls _ _).mono ?_; rintro e w' ⟨rfl, rfl⟩)
      go_ret
      exact ⟨by rw [HC.out]; rfl, rfl⟩
    · have hc : cmpI x y = 0 := by unfold cmpI; rw [if_neg h1, if_neg h2]
      have HC := Aside0.mk hc
      clear hc
      go_enter Tryz.func26, Tryz.ntmps26
      go_wp2_with (go_at_call 50; refine (isNaN.calls _ _).mono ?_; rintro e w' ⟨rfl, rfl⟩)
      go_ret
      exact ⟨by rw [HC.out]; rfl, rfl⟩
theorem Set1.calls (x y : S30) (w : World) : Calls Tryz.prog 25 #[.agg #[.int .i64 x.f0, .int .i64 x.f1], .agg #[.int .i64 y.f0, .int .i64 y.f1]] w fun e w' => e = .returned (.int .i64 (cmpI x.f0 y.f0)) ∧ ∃ q os', w' = Go.Sort.grow (w.drewN q) os' := by
  have hcon := fun W' => Compare.calls x.f0 y.f0 W'
  generalize cmpI x.f0 y.f0 = r at hcon ⊢
  go_enter Tryz.func25, Tryz.ntmps25
  go_wp2_with (go_at_call 26; refine (hcon _).mono ?_; rintro e w' ⟨rfl, rfl⟩)
  go_ret
  exact ⟨rfl, 0, _, by rw [Go.Sort.alloc_eq_grow, Go.Sort.alloc_eq_grow, Go.Sort.grow_grow]; rfl⟩
theorem ltOf_lo (x y : S30) : ltOf (fun x y : S30 => cmpI x.f0 y.f0) x y = decide (x.f0 < y.f0) := by
  unfold ltOf cmpI
  by_cases h1 : x.f0 < y.f0
  · simp [h1]
  · by_cases h2 : y.f0 < x.f0 <;> simp [h1, h2]
theorem swo_lo : Go.Sort.SWO (ltOf (fun x y : S30 => cmpI x.f0 y.f0)) where
  irrefl x := by rw [ltOf_lo]; simp
  trans x y z h1 h2 := by rw [ltOf_lo] at *; simp at *; omega
  ntrans x y z h1 h2 := by rw [ltOf_lo] at *; simp at *; omega
theorem holds_of_R {w : World} {base : Nat} {ok : Nat → Prop} {g cap : Nat} {ps : List S30} (h : Kd.R k30 30 w base ok (.slice (some ⟨g, 0, none⟩) ps.length cap) ps) (h0 : 0 < ps.length) :
    Go.Sort.HoldsK enc30 2 w g 0 ps.toArray ∧ g < w.heap.size := by
  obtain ⟨h0', inner, ho, hr⟩ := h
  have hr' := hr
  obtain ⟨hl, ho⟩ := ho
  rcases ho with ⟨hx, _⟩ | ⟨g', cap', cur, hx, hb, hcell, hc1, hc2, hsz, htake⟩
  · simp at hx
  · injection hx with h1 h2 h3
    injection h1 with h1
    injection h1 with h1
    subst h1; subst h3
    refine ⟨?_, (Array.getElem?_eq_some_iff.1 hcell).1⟩
    · intro j hj
      rw [Go.Sort.size_flatK, List.size_toArray] at hj
      have := flat_cell (d := k30) (enc := enc30) (fun _ => rfl) k30_M hr j hj
      rw [← htake] at this
      rw [show k30.sz = 2 from rfl] at this hsz
      have hj2 : j < cur.size := by
        rw [hsz]
        have : ps.length * 2 ≤ cap * 2 := Nat.mul_le_mul_right _ hc1
        show j < cap * 2
        omega
      rw [List.getElem?_take_of_lt hj, Array.getElem?_toList] at this
      refine ⟨?_, ?_⟩
      · rw [Nat.zero_add]
        unfold World.cell?
        simp only [hcell]
        exact this
      · rw [Nat.zero_add]
        unfold World.frozen?
        simp only [hcell]
        simp
def sortR (l : List S30) : List S30 := (Go.Sort.pdq (ltOf (fun x y : S30 => cmpI x.f0 y.f0)) l.toArray 0 l.length (Lib.bitLen l.length) true true).toList
theorem sortR_spec (l : List S30) : (sortR l).Perm l ∧ (sortR l).Pairwise (fun a b => a.f0 ≤ b.f0) := by
  have h := Go.Sort.pdq_sorts (ltOf (fun x y : S30 => cmpI x.f0 y.f0)) swo_lo l.toArray 0 l.length (Lib.bitLen l.length) true true (Nat.zero_le _) (by simp) (Or.inl rfl)
  obtain ⟨hp, hs⟩ := h
  unfold sortR
  generalize (Go.Sort.pdq (ltOf (fun x y : S30 => cmpI x.f0 y.f0)) l.toArray 0 l.length (Lib.bitLen l.length) true true) = d' at hp hs
  have hs0 : d'.size = l.length := by rw [hp.1]; simp
  constructor
  · have := hp.2.2
    rw [show (d'.extract 0 l.length) = d' from Array.extract_eq_self_of_le (by omega), show (l.toArray.extract 0 l.length) = l.toArray from Array.extract_eq_self_of_le (by simp)] at this
    exact this
  · rw [List.pairwise_iff_getElem]
    intro i j hi hj hij
    rw [Array.length_toList] at hi hj
    have := hs i j (Nat.zero_le _) hij (by omega)
    rw [ltOf_lo] at this
    rw [getElem!_pos d' i hi, getElem!_pos d' j hj] at this
    simp at this ⊢
    exact this
theorem sortR_nil : sortR [] = [] := by
  have := (sortR_spec []).1
  simpa using this
def slices_SortFunc_R.f (l : List S30) : Option (List S30) := if l.length < 4611686018427387904 then some (sortR l) else none
set_option maxHeartbeats 1000000 in
/-- slices.SortFunc at ranges, by their lows. -/
theorem slices_SortFunc_R.calls (P0_ : Nat → Prop) (u9000_ : Value) (l0 : List S30) (r : List S30) (w0 w : World) (hB : Below w0.heap.size w0 w) (ho0 : Kd.R k30 30 w w0.heap.size P0_ u9000_ l0) (h : slices_SortFunc_R.f l0 = some r) :
    Calls Tryz.prog 24 #[u9000_, .func (.func 25) #[] #[]] w fun e w' => e = .returned (.tuple #[]) ∧ Kd.R k30 30 w' w0.heap.size (fun k_ => (P0_ k_ ∨ w.heap.size ≤ k_)) u9000_ r ∧ Below w0.heap.size w0 w' ∧ Kept w w' (fun k_ => P0_ k_) := by
  unfold slices_SortFunc_R.f at h
  by_cases hsz : l0.length < 4611686018427387904
  · rw [if_pos hsz] at h
    obtain rfl := Option.some.inj h
    by_cases h0 : 0 < l0.length
    · have hform : ∃ g cap, u9000_ = .slice (some ⟨g, 0, none⟩) l0.length cap ∧ w0.heap.size ≤ g := by
        obtain ⟨_, inner, ⟨_, ho⟩, _⟩ := ho0
        rcases ho with ⟨_, hn⟩ | ⟨g, cap, cur, hx, hb, _⟩
        · omega
        · exact ⟨g, cap, hx, hb⟩
      obtain ⟨g, cap, rfl, hbg⟩ := hform
      obtain ⟨hH, hg⟩ := holds_of_R ho0 h0
      have eg : ∀ args w, (callFunc 25 args).run Tryz.prog w = .ok (.enter 25 args) w := enters_of Tryz.func25 (by kernel_rfl) rfl
      have hcon := AnyQ.slices_SortFunc_eq Tryz.sortRange 2 Tryz.isAgg30 Tryz.sizeOf30 enc30 (fun _ => rfl) (fun x v hv => by simp [enc30] at hv; rcases hv with rfl | rfl <;> rfl) (fun x y => cmpI x.f0 y.f0) swo_lo 25 #[] g 0 cap l0.toArray w eg (fun _ _ _ _ x y => Set1.calls x y _) hH hg (by simpa using hsz)
      change Calls Tryz.prog 24 #[.slice (some ⟨g, 0, none⟩) l0.length cap, .func (.func 25) #[] #[]] w _ at hcon
      refine hcon.mono ?_
      rintro e w' ⟨rfl, n, os, rfl⟩
      have hs0 : (sortR l0).length = l0.length := (sortR_spec l0).1.length_eq
      obtain ⟨r1, r2⟩ := R_sorted (d := k30) (enc := enc30) (fun _ => rfl) k30_M (fun w base ok x => k30_mkM w base ok x) ho0 (sortR l0).toArray (by simpa using hs0) n os
      have hP : P0_ g := ho0.1 g rfl
      refine ⟨rfl, Kd.R_mono r1 (fun k hk => .inl hk), (hB.trans (r2 _ hbg)), ⟨(r2 _ hbg).size, fun i hi hn => ?_⟩⟩
      have hne : i ≠ g := fun e => hn (e ▸ hP)
      show (Go.Proofs.sortWorldK enc30 k30.sz w g 0 n (sortR l0).toArray os).heap[i]? = _
      unfold Go.Proofs.sortWorldK Go.Sort.putRowK Go.Sort.putRow Go.Sort.mapBlock Go.Sort.grow Go.Sort.ahead
      simp only [Array.getElem?_append, Array.size_modify, hi, if_true, Array.getElem?_modify]
      rw [if_neg (Ne.symm hne)]
    · have he : l0 = [] := List.length_eq_zero_iff.1 (by omega)
      subst he
      obtain ⟨A, c, rfl⟩ := Kd.R_slice ho0
      have hcon := AnyF.slices_SortFunc_none Tryz.sortRange A c (.func (.func 25) #[] #[]) w
      change Calls Tryz.prog 24 #[.slice A ([] : List S30).length c, .func (.func 25) #[] #[]] w _ at hcon
      refine hcon.mono ?_
      rintro e w' ⟨rfl, rfl⟩
      rw [sortR_nil]
      exact ⟨rfl, Kd.R_mono ho0 (fun k hk => .inl hk), hB, ⟨Nat.le_refl _, fun _ _ _ => rfl⟩⟩
  · rw [if_neg hsz] at h
    exact absurd h (by simp)
end Go.Proofs.YtglolcejfbhbdaaGreat.P
end
section
namespace Go.Proofs.YtglolcejfbhbdaaGreat.P
open Go.RowKit Go.Shelf Go.Proofs.YtglolcejfbhbdaaGreatW.PrintWords Go.Proofs.YtglolcejfbhbdaaGreatW.PrintLast Go.Proofs.YtglolcejfbhbdaaGreatW.PrintMore
set_option linter.unusedVariables false
set_option linter.unusedSimpArgs false
def encI (x : Int) : List Value := [.int .i64 x]
theorem flat_encI (d : Array Int) (k : Nat) (hk : k < d.size) : (Go.Sort.flatK encI 1 d)[k]! = .int .i64 (d[k]!) := by
  rw [Go.Sort.get_flatK _ _ _ _ (by simpa using hk)]
  simp [encI, Nat.mod_one]
theorem putRow_int (w : World) (blk off : Nat) (d : Array Int) : Go.Sort.putRow (Value.int .i64) w blk off d = Go.Sort.putRowK encI 1 w blk off d := by
  unfold Go.Sort.putRowK Go.Sort.putRow
  congr 1
  funext c
  unfold Go.Sort.putCells
  apply Array.ext
  · simp
  · intro i h1 h2
    simp only [Array.getElem_mapIdx, Go.Sort.size_flatK, Nat.mul_one, id]
    by_cases h : off ≤ i ∧ i < off + d.size
    · rw [if_pos h, if_pos h, flat_encI d _ (by omega)]
    · rw [if_neg h, if_neg h]
theorem sortI_calls (W : World) (base : Nat) (v : Value) (ps : List Int) (hR : Kd.R (Kd.int .i64) 3 W base (fun _ => True) v ps) (h0 : 0 < ps.length) (hl : ps.length ≤ 100) (hb : base ≤ W.heap.size) :
    Calls Tryz.prog 56 #[v] W fun e w' => e = .returned (.tuple #[]) ∧ Kd.R (Kd.int .i64) 3 w' base (fun _ => True) v (ps.mergeSort (fun x y => decide (x ≤ y))) ∧ Below base W w' := by
  have hR' := hR
  obtain ⟨_, inner, ho, hr⟩ := hR
  obtain ⟨hl2, ho⟩ := ho
  rcases ho with ⟨hx, hn⟩ | ⟨g, cap, cur, rfl, hbg, hcell, hc1, hc2, hsz, htake⟩
  · omega
  · have hlt : g < W.heap.size := (Array.getElem?_eq_some_iff.1 hcell).1
    have hH : Go.Sort.Holds (Value.int .i64) W g 0 ps.toArray := by
      intro j hj
      simp only [List.size_toArray] at hj
      have hx := (Kd.R_celln (0 : Int) hR' (j : Int) (by omega) (by omega))
      simp only [Int.toNat_natCast, Nat.zero_add] at hx ⊢
      have e : rdOf (0 : Int) ps (j : Int) = ps.toArray[j]! := by simp [rdOf, hj, List.getD_eq_getElem?_getD]
      rw [e] at hx
      exact hx
    refine (Any.slices_Sort_int Tryz.lays189 g 0 cap ps W hH hlt (by omega)).mono ?_
    rintro e w' ⟨rfl, n, os, rfl⟩
    have h3 := R_sorted (d := Kd.int .i64) (enc := encI) (fun _ => rfl) (fun _ _ _ _ _ h => h) (fun _ _ _ _ => rfl) hR' (ps.mergeSort (fun x y => decide (x ≤ y))).toArray (by simp) n os
    rw [putRow_int]
    exact ⟨rfl, h3.1, h3.2 base hbg⟩
theorem fold_Kin_calls (c : Int) (h0 : 0 ≤ c) (h1 : c ≤ 1000000) (w : World) :
    Calls Tryz.prog 31 #[.int .i64 c] w fun e w' => ∃ v, e = .returned v ∧ Kd.R (Kd.int .i64) 3 w' w.heap.size (fun _ => True) v (kinP c) ∧ Below w.heap.size w w' :=
  Kin_calls c h0 h1 w (fun W base v ps _ hR h0 hl hb => sortI_calls W base v ps hR h0 hl hb)
end Go.Proofs.YtglolcejfbhbdaaGreat.P
end
section
namespace Go.Proofs.YtglolcejfbhbdaaGreat.P
open Go.RowKit Go.Proofs.YtglolcejfbhbdaaGreatW.PrintWords Go.Proofs.YtglolcejfbhbdaaGreatW.PrintLast Go.Proofs.YtglolcejfbhbdaaGreatW.PrintMore
set_option linter.unusedVariables false
set_option linter.unusedSimpArgs false
def inR (c : Int) (r : S30) : Bool := decide (r.f0 ≤ c) && decide (c ≤ r.f1)
set_option maxRecDepth 100000 in
set_option maxHeartbeats 1000000 in
theorem Has1.calls (r : S30) (B : Nat) (c : Int) (w : World) (hB : w.cell? ⟨B, 0, none⟩ = some (.int .i64 c)) :
    Calls Tryz.prog 40 #[.agg #[.int .i64 r.f0, .int .i64 r.f1], .pointer (some ⟨B, 0, none⟩)] w fun e w' => e = .returned (.bool (inR c r)) ∧ Below w.heap.size w w' := by
  have hlt := World.block_lt_of_cell? w _ hB
  by_cases h1 : r.f0 ≤ c
  · have h1b : decide (r.f0 ≤ c) = true := decide_eq_true h1
    have hin : inR c r = decide (c ≤ r.f1) := by simp [inR, h1]
    have HI := Aside0.mk hin
    clear hin
    go_enter Tryz.func40, Tryz.ntmps40
    go_wp2
    repeat (go_quiet (fail); try go_wp2)
    go_ret
    exact ⟨by rw [HI.out]; rfl, (Below.refl _ _).alloc (Nat.le_refl _) _⟩
  · have h1b : decide (r.f0 ≤ c) = false := decide_eq_false h1
    have hin : inR c r = false := by simp [inR, h1]
    have HI := Aside0.mk hin
    clear hin
    go_enter Tryz.func40, Tryz.ntmps40
    go_wp2
    repeat (go_quiet (fail); try go_wp2)
    go_ret
    exact ⟨by rw [HI.out]; rfl, (Below.refl _ _).alloc (Nat.le_refl _) _⟩
theorem any_take_succ {α : Type} (p : α → Bool) (l : List α) (i : Nat) (h : i < l.length) (d : α) : (l.take (i + 1)).any p = ((l.take i).any p || p (l.getD i d)) := by
  rw [List.take_succ_eq_append_getElem h, List.any_append]
  simp [List.getD_eq_getElem?_getD, h]
set_option maxRecDepth 100000 in
set_option maxHeartbeats 1000000 in
/-- slices.IndexFunc at ranges, by the closure of Has. -/
theorem IndexFunc.calls (A0 : Option Addr) (c0 : Nat) (l0 : List S30) (B : Nat) (c : Int) (w : World) (hr0 : Kd.C k30 w A0 l0.length l0) (hB : w.cell? ⟨B, 0, none⟩ = some (.int .i64 c)) :
    Calls Tryz.prog 58 #[.slice A0 l0.length c0, .func (.func 40) #[] #[.pointer (some ⟨B, 0, none⟩)]] w fun e w' => ∃ i : Int, e = .returned (.int .i64 i) ∧ Aside0 (decide (0 ≤ i) = l0.any (inR c)) ∧ Below w.heap.size w w' := by
  have HR := Aside0.mk hr0
  have HL : l0.length ≤ 9223372036854775807 := hr0.2.1
  have hl := World.block_lt_of_cell? w _ hB
  clear hr0
  have eg : ∀ args w, (callFunc 40 args).run Tryz.prog w = .ok (.enter 40 args) w := enters_of Tryz.func40 (by kernel_rfl) rfl
  have hu30 := Tryz.underlying30
  go_enter Tryz.func58, Tryz.ntmps58
  go_wp2
  go_loopg [5, 8] l0.length (fun kq v5 v8 w' => ∃ i : Nat, v8 = .int .i64 i ∧ i ≤ l0.length ∧ l0.length - i ≤ kq ∧ Aside0 ((l0.take i).any (inR c) = false) ∧ Aside0 (Below w.heap.size w w'))
  case atStart => exact ⟨0, rfl, by omega, by omega, ⟨by simp⟩, ⟨Below.refl _ _⟩⟩
  case round =>
    obtain ⟨i, rfl, hi, hk, HA, HB⟩ := hrel
    by_cases hlt : i < l0.length
    · have hlt' : (i : Int) < (l0.length : Int) := by omega
      obtain ⟨ad, e1, hx0, hx1⟩ := at_T30 (Kd.C_below HR.out HB.out) i (by omega) hlt'
      cases e1
      rw [Int.toNat_natCast] at hx0 hx1
      have hcall := Has1.calls (rd_T30 l0 i) B c _ ((HB.out.cell (p := ⟨B, 0, none⟩) hl).trans hB)
      have hst := any_take_succ (inR c) l0 i hlt z30
      have HS := Aside0.mk (show (l0.take (i + 1)).any (inR c) = inR c (rd_T30 l0 i) by rw [hst, HA.out]; simp [rd_T30])
      clear hst
      generalize rd_T30 l0 i = r at *
      cases hq : inR c r with
      | true =>
        rw [hq] at hcall
        have HQ := Aside0.mk hq
        clear hq
        go_wp2_with (go_at_fn 40; refine hcall.mono ?_; rintro e w' ⟨rfl, hb'⟩)
        go_ret
        refine ⟨_, rfl, ⟨?_⟩, HB.out.trans (hb'.mono HB.out.size)⟩
        have : l0.any (inR c) = true := by
          rw [← List.take_append_drop (i + 1) l0, List.any_append, HS.out, HQ.out]; rfl
        rw [this]
        simp
      | false =>
        rw [hq] at hcall
        have HQ := Aside0.mk hq
        clear hq
        go_wp2_with (go_at_fn 40; refine hcall.mono ?_; rintro e w' ⟨rfl, hb'⟩)
        go_roundg (l0.length - (i + 1))
        case measure => omega
        case rel => exact ⟨i + 1, by go_num, by omega, by omega, ⟨by rw [HS.out, HQ.out]⟩, ⟨HB.out.trans (hb'.mono HB.out.size)⟩⟩
    · have hltz : ¬ (i : Int) < (l0.length : Int) := by omega
      have hi' : i = l0.length := by omega
      subst hi'
      go_wp2
      go_ret
      refine ⟨_, rfl, ⟨?_⟩, HB.out⟩
      have := HA.out
      rw [List.take_length] at this
      rw [this]
      rfl
set_option maxRecDepth 100000 in
set_option maxHeartbeats 1000000 in
theorem ContainsFunc.calls (A0 : Option Addr) (c0 : Nat) (l0 : List S30) (B : Nat) (c : Int) (w : World) (hr0 : Kd.C k30 w A0 l0.length l0) (hB : w.cell? ⟨B, 0, none⟩ = some (.int .i64 c)) :
    Calls Tryz.prog 39 #[.slice A0 l0.length c0, .func (.func 40) #[] #[.pointer (some ⟨B, 0, none⟩)]] w fun e w' => e = .returned (.bool (l0.any (inR c))) ∧ Below w.heap.size w w' := by
  have hcall := IndexFunc.calls A0 c0 l0 B c w hr0 hB
  clear hr0 hB
  go_enter Tryz.func39, Tryz.ntmps39
  go_wp2_with (go_at_call 58; refine hcall.mono ?_; rintro e w' ⟨i, rfl, HI, hb'⟩)
  go_ret
  exact ⟨by rw [← HI.out]; rfl, hb'⟩
def tree_Has.f (l : List S30) (c : Int) : Option Bool := some (l.any (inR c))
set_option maxRecDepth 100000 in
set_option maxHeartbeats 1000000 in
theorem tree_Has.calls (A0 : Option Addr) (c0 : Nat) (l0 : List S30) (a1 : Int) (r : Bool) (w : World) (hr0 : Kd.C k30 w A0 l0.length l0) (hc0 : l0.length ≤ c0) (h : tree_Has.f l0 a1 = some r) :
    Calls Tryz.prog 16 #[.slice A0 l0.length c0, .int .i64 a1] w fun e w' => e = .returned (.bool r) ∧ Below w.heap.size w w' := by
  obtain rfl := Option.some.inj h
  have HR := Aside0.mk hr0
  clear hr0
  go_enter Tryz.func16, Tryz.ntmps16
  go_wp2_with (go_at_call 39; refine (ContainsFunc.calls A0 c0 l0 w.heap.size a1 _ (Kd.C_below HR.out ((Below.refl _ _).alloc (Nat.le_refl _) _)) (by go_simp)).mono ?_; rintro e w' ⟨rfl, hb'⟩)
  go_ret
  exact ⟨rfl, ((Below.refl _ _).alloc (Nat.le_refl _) _).trans (hb'.mono (by simp))⟩
end Go.Proofs.YtglolcejfbhbdaaGreat.P
end
section
namespace Go.Proofs.YtglolcejfbhbdaaGreat.P
open Go.RowKit Go.Proofs.YtglolcejfbhbdaaGreatW.PrintWords Go.Proofs.YtglolcejfbhbdaaGreatW.PrintLast Go.Proofs.YtglolcejfbhbdaaGreatW.PrintMore
def rm (l : List S30) (c : Int) : Prop := ∃ r ∈ l, r.f0 ≤ c ∧ c ≤ r.f1
theorem rm_nil (c : Int) : ¬ rm [] c := by rintro ⟨r, h, _⟩; simp at h
theorem rm_cons (a : S30) (l : List S30) (c : Int) : rm (a :: l) c ↔ (a.f0 ≤ c ∧ c ≤ a.f1) ∨ rm l c := by
  constructor
  · rintro ⟨r, h, h1⟩
    rcases List.mem_cons.1 h with rfl | h
    · exact .inl h1
    · exact .inr ⟨r, h, h1⟩
  · rintro (h | ⟨r, h, h1⟩)
    · exact ⟨a, List.mem_cons_self, h⟩
    · exact ⟨r, List.mem_cons_of_mem _ h, h1⟩
theorem rm_append (a b : List S30) (c : Int) : rm (a ++ b) c ↔ rm a c ∨ rm b c := by
  induction a with
  | nil => simp [rm_nil]
  | cons x a ih => rw [List.cons_append, rm_cons, rm_cons, ih, or_assoc]
theorem rm_perm {a b : List S30} (h : a.Perm b) (c : Int) : rm a c ↔ rm b c :=
  ⟨fun ⟨r, h1, h2⟩ => ⟨r, h.mem_iff.1 h1, h2⟩, fun ⟨r, h1, h2⟩ => ⟨r, h.mem_iff.2 h1, h2⟩⟩
theorem any_rm (l : List S30) (c : Int) : l.any (inR c) = true ↔ rm l c := by
  rw [List.any_eq_true]
  unfold rm inR
  simp
def Norm (l : List S30) : Prop := l.Pairwise (fun a b => a.f1 + 1 < b.f0) ∧ ∀ r ∈ l, 0 ≤ r.f0 ∧ r.f0 ≤ r.f1 ∧ r.f1 ≤ 1114111
theorem Norm.nil : Norm [] := ⟨List.Pairwise.nil, fun r h => by simp at h⟩
theorem Norm.tail {a : S30} {l : List S30} (h : Norm (a :: l)) : Norm l := ⟨(List.pairwise_cons.1 h.1).2, fun r hr => h.2 r (List.mem_cons_of_mem _ hr)⟩
theorem Norm.gt {a : S30} {l : List S30} (h : Norm (a :: l)) {c : Int} (hc : rm l c) : a.f1 + 1 < c := by
  obtain ⟨r, h1, h2, h3⟩ := hc
  have := (List.pairwise_cons.1 h.1).1 r h1
  omega
theorem Norm.bound {l : List S30} (h : Norm l) {c : Int} (hc : rm l c) : 0 ≤ c ∧ c ≤ 1114111 := by
  obtain ⟨r, h1, h2, h3⟩ := hc
  have := h.2 r h1
  omega
theorem Norm.uniq : ∀ {a b : List S30}, Norm a → Norm b → (∀ c, rm a c ↔ rm b c) → a = b
  | [], [], _, _, _ => rfl
  | [], y :: b, _, hb, h => by
    have := hb.2 y List.mem_cons_self
    exact absurd ((h y.f0).2 ((rm_cons _ _ _).2 (.inl ⟨by omega, by omega⟩))) (rm_nil _)
  | x :: a, [], ha, _, h => by
    have := ha.2 x List.mem_cons_self
    exact absurd ((h x.f0).1 ((rm_cons _ _ _).2 (.inl ⟨by omega, by omega⟩))) (rm_nil _)
  | x :: a, y :: b, ha, hb, h => by
    have hx := ha.2 x List.mem_cons_self
    have hy := hb.2 y List.mem_cons_self
    have e0 : x.f0 = y.f0 := by
      have h1 := (h x.f0).1 ((rm_cons _ _ _).2 (.inl ⟨by omega, by omega⟩))
      have h2 := (h y.f0).2 ((rm_cons _ _ _).2 (.inl ⟨by omega, by omega⟩))
      rcases (rm_cons _ _ _).1 h1 with h1 | h1
      · rcases (rm_cons _ _ _).1 h2 with h2 | h2
        · omega
        · have := ha.gt h2; omega
      · have := hb.gt h1
        rcases (rm_cons _ _ _).1 h2 with h2 | h2
        · omega
        · have := ha.gt h2; omega
    have e1 : x.f1 = y.f1 := by
      rcases Int.lt_trichotomy x.f1 y.f1 with hlt | he | hlt
      · have h2 := (h (x.f1 + 1)).2 ((rm_cons _ _ _).2 (.inl ⟨by omega, by omega⟩))
        rcases (rm_cons _ _ _).1 h2 with h2 | h2
        · omega
        · have := ha.gt h2; omega
      · exact he
      · have h2 := (h (y.f1 + 1)).1 ((rm_cons _ _ _).2 (.inl ⟨by omega, by omega⟩))
        rcases (rm_cons _ _ _).1 h2 with h2 | h2
        · omega
        · have := hb.gt h2; omega
    have exy : x = y := by cases x; cases y; simp_all
    subst exy
    have : a = b := Norm.uniq ha.tail hb.tail (fun c => by
      have hc := h c
      rw [rm_cons, rm_cons] at hc
      constructor
      · intro h1
        have := ha.gt h1
        rcases hc.1 (.inr h1) with h2 | h2
        · omega
        · exact h2
      · intro h1
        have := hb.gt h1
        rcases hc.2 (.inr h1) with h2 | h2
        · omega
        · exact h2)
    rw [this]
def cutR (r : S30) : S30 := ⟨mx 0 r.f0, mn 1114111 r.f1⟩
def cutl (l : List S30) : List S30 := (l.map cutR).filter (fun r => decide (r.f0 ≤ r.f1))
theorem cutl_mem (l : List S30) (r : S30) (h : r ∈ cutl l) : 0 ≤ r.f0 ∧ r.f0 ≤ r.f1 ∧ r.f1 ≤ 1114111 := by
  unfold cutl at h
  rw [List.mem_filter] at h
  obtain ⟨h1, h2⟩ := h
  obtain ⟨x, _, rfl⟩ := List.mem_map.1 h1
  have h2 := of_decide_eq_true h2
  unfold cutR at *
  unfold mx mn at *
  dsimp only at *
  refine ⟨?_, h2, ?_⟩ <;> split <;> omega
theorem cutl_rm (l : List S30) (c : Int) : rm (cutl l) c ↔ 0 ≤ c ∧ c ≤ 1114111 ∧ rm l c := by
  constructor
  · rintro ⟨r, h, h1, h2⟩
    have hb := cutl_mem l r h
    unfold cutl at h
    rw [List.mem_filter] at h
    obtain ⟨x, hx, rfl⟩ := List.mem_map.1 h.1
    refine ⟨by omega, by omega, x, hx, ?_⟩
    unfold cutR mx mn at h1 h2
    dsimp only at h1 h2
    split at h1 <;> split at h2 <;> omega
  · rintro ⟨h0, h1, x, hx, h2, h3⟩
    refine ⟨cutR x, ?_, ?_⟩
    · unfold cutl
      rw [List.mem_filter]
      refine ⟨List.mem_map.2 ⟨x, hx, rfl⟩, decide_eq_true ?_⟩
      unfold cutR mx mn
      dsimp only
      split <;> split <;> omega
    · unfold cutR mx mn
      dsimp only
      constructor <;> split <;> omega
def stepR (out : List S30) (r : S30) : List S30 :=
  if 0 < out.length ∧ r.f0 ≤ (rd_T30 out ((out.length : Int) - 1)).f1 + 1 then out.set (out.length - 1) ⟨(rd_T30 out ((out.length : Int) - 1)).f0, mx (rd_T30 out ((out.length : Int) - 1)).f1 r.f1⟩
  else out ++ [r]
theorem stepR_nil (r : S30) : stepR [] r = [r] := by unfold stepR; simp
theorem rd_last (i : List S30) (p : S30) : rd_T30 (i ++ [p]) (((i ++ [p]).length : Int) - 1) = p := by
  unfold rd_T30
  have : ((((i ++ [p]).length : Int) - 1)).toNat = i.length := by simp
  rw [this]
  simp [List.getD_eq_getElem?_getD]
theorem stepR_snoc (i : List S30) (p r : S30) : stepR (i ++ [p]) r = if r.f0 ≤ p.f1 + 1 then i ++ [⟨p.f0, mx p.f1 r.f1⟩] else i ++ [p] ++ [r] := by
  unfold stepR
  rw [rd_last]
  by_cases h : r.f0 ≤ p.f1 + 1
  · rw [if_pos ⟨by simp, h⟩, if_pos h]
    simp
  · rw [if_neg (fun h' => h h'.2), if_neg h]
theorem norm_snoc {i : List S30} {p : S30} : Norm (i ++ [p]) ↔ Norm i ∧ (∀ x ∈ i, x.f1 + 1 < p.f0) ∧ 0 ≤ p.f0 ∧ p.f0 ≤ p.f1 ∧ p.f1 ≤ 1114111 := by
  unfold Norm
  rw [List.pairwise_append]
  simp only [List.pairwise_cons, List.mem_append, List.mem_cons, List.not_mem_nil, or_false, List.Pairwise.nil, and_true, false_implies, implies_true, true_and]
  constructor
  · rintro ⟨⟨h1, h2⟩, h3⟩
    exact ⟨⟨h1, fun r hr => h3 r (.inl hr)⟩, fun x hx => h2 x hx p rfl, h3 p (.inr rfl)⟩
  · rintro ⟨⟨h1, h2⟩, h3, h4⟩
    refine ⟨⟨h1, fun a ha b hb => by subst hb; exact h3 a ha⟩, ?_⟩
    rintro r (hr | rfl)
    · exact h2 r hr
    · exact h4
theorem stepR_spec (out : List S30) (r : S30) (hN : Norm out) (hs : ∀ x ∈ out, x.f0 ≤ r.f0) (hr : 0 ≤ r.f0 ∧ r.f0 ≤ r.f1 ∧ r.f1 ≤ 1114111) :
    Norm (stepR out r) ∧ (∀ c, rm (stepR out r) c ↔ rm out c ∨ (r.f0 ≤ c ∧ c ≤ r.f1)) ∧ ∀ x ∈ stepR out r, x.f0 ≤ r.f0 := by
  rcases List.eq_nil_or_concat out with rfl | ⟨i, p, rfl⟩
  · rw [stepR_nil]
    refine ⟨by rw [show [r] = [] ++ [r] from rfl, norm_snoc]; exact ⟨Norm.nil, by simp, hr⟩, fun c => by rw [rm_cons]; simp [rm_nil], fun x hx => by simp at hx; subst hx; exact Int.le_refl _⟩
  · rw [List.concat_eq_append] at *
    rw [stepR_snoc]
    have hN' := norm_snoc.1 hN
    have hp := hs p (by simp)
    by_cases h : r.f0 ≤ p.f1 + 1
    · rw [if_pos h]
      refine ⟨?_, ?_, ?_⟩
      · rw [norm_snoc]
        refine ⟨hN'.1, hN'.2.1, hN'.2.2.1, ?_⟩
        unfold mx
        dsimp only
        split <;> omega
      · intro c
        rw [rm_append, rm_append, rm_cons, rm_cons]
        have h0 := rm_nil c
        unfold mx
        dsimp only
        constructor
        · rintro (h1 | h1 | h1)
          · exact .inl (.inl h1)
          · by_cases hc : c ≤ p.f1
            · exact .inl (.inr (.inl ⟨h1.1, hc⟩))
            · refine .inr ⟨by omega, ?_⟩
              have := h1.2
              split at this <;> omega
          · exact absurd h1 h0
        · rintro ((h1 | h1 | h1) | h1)
          · exact .inl h1
          · refine .inr (.inl ⟨h1.1, ?_⟩)
            split <;> omega
          · exact absurd h1 h0
          · refine .inr (.inl ⟨by omega, ?_⟩)
            split <;> omega
      · intro x hx
        rcases List.mem_append.1 hx with hx | hx
        · exact hs x (List.mem_append_left _ hx)
        · simp at hx
          subst hx
          exact hp
    · rw [if_neg h]
      refine ⟨?_, ?_, ?_⟩
      · rw [norm_snoc]
        refine ⟨hN, ?_, hr⟩
        intro x hx
        rcases List.mem_append.1 hx with hx | hx
        · have := hN'.2.1 x hx; omega
        · simp at hx; subst hx; omega
      · intro c
        rw [rm_append, rm_cons]
        have h0 := rm_nil c
        constructor
        · rintro (h1 | h1 | h1)
          · exact .inl h1
          · exact .inr h1
          · exact absurd h1 h0
        · rintro (h1 | h1)
          · exact .inl h1
          · exact .inr (.inl h1)
      · intro x hx
        rcases List.mem_append.1 hx with hx | hx
        · exact hs x hx
        · simp at hx; subst hx; exact Int.le_refl _
theorem foldl_spec : ∀ (l out : List S30), Norm out → l.Pairwise (fun a b => a.f0 ≤ b.f0) → (∀ r ∈ l, 0 ≤ r.f0 ∧ r.f0 ≤ r.f1 ∧ r.f1 ≤ 1114111) → (∀ x ∈ out, ∀ r ∈ l, x.f0 ≤ r.f0) →
    Norm (l.foldl stepR out) ∧ ∀ c, rm (l.foldl stepR out) c ↔ rm out c ∨ rm l c
  | [], out, hN, _, _, _ => ⟨hN, fun c => by simp [rm_nil]⟩
  | r :: l, out, hN, hp, hb, hs => by
    obtain ⟨h1, h2, h3⟩ := stepR_spec out r hN (fun x hx => hs x hx r List.mem_cons_self) (hb r List.mem_cons_self)
    have hp' := List.pairwise_cons.1 hp
    obtain ⟨h4, h5⟩ := foldl_spec l (stepR out r) h1 hp'.2 (fun x hx => hb x (List.mem_cons_of_mem _ hx)) (fun x hx y hy => by have := h3 x hx; have := hp'.1 y hy; omega)
    refine ⟨h4, fun c => ?_⟩
    rw [List.foldl_cons, h5 c, h2 c, rm_cons, or_assoc]
def setL (l : List S30) : List S30 := if l.length > 500 then [] else (sortR (cutl l)).foldl stepR []
theorem setL_spec (l : List S30) (hl : l.length ≤ 500) : Norm (setL l) ∧ ∀ c, rm (setL l) c ↔ 0 ≤ c ∧ c ≤ 1114111 ∧ rm l c := by
  unfold setL
  rw [if_neg (by omega)]
  have hs := sortR_spec (cutl l)
  obtain ⟨h1, h2⟩ := foldl_spec (sortR (cutl l)) [] Norm.nil hs.2 (fun r hr => cutl_mem l r (hs.1.mem_iff.1 hr)) (fun x hx => by simp at hx)
  refine ⟨h1, fun c => ?_⟩
  rw [h2 c, rm_perm hs.1 c, cutl_rm]
  simp [rm_nil]
theorem setL_norm (l : List S30) : Norm (setL l) := by
  by_cases h : l.length ≤ 500
  · exact (setL_spec l h).1
  · unfold setL
    rw [if_pos (by omega)]
    exact Norm.nil
theorem setL_eq {l m : List S30} (hl : l.length ≤ 500) (hm : Norm m) (h : ∀ c, rm m c ↔ 0 ≤ c ∧ c ≤ 1114111 ∧ rm l c) : setL l = m :=
  Norm.uniq (setL_spec l hl).1 hm (fun c => by rw [(setL_spec l hl).2 c, h c])
end Go.Proofs.YtglolcejfbhbdaaGreat.P
end
