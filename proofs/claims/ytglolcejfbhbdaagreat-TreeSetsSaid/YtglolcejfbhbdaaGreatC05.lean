/- Part 5 of what the three laws on sets of ranges share: the words of the walks, contracts of the functions that they reach, and plain lemmas. No conditions. -/
import Derived.Test.YtglolcejfbhbdaaGreatC04
import Derived.IntWalk
section
namespace Go.Proofs.YtglolcejfbhbdaaGreat.P
open Go.RowKit Go.Shelf Go.Proofs.YtglolcejfbhbdaaGreatW.PrintWords Go.Proofs.YtglolcejfbhbdaaGreatW.PrintLast Go.Proofs.YtglolcejfbhbdaaGreatW.PrintMore
set_option linter.unusedVariables false
set_option linter.unusedSimpArgs false
set_option maxRecDepth 100000 in
set_option maxHeartbeats 1000000 in
theorem clone_calls (v : Value) (s : List S30) (w w0 : World) (base : Nat) (ok : Nat → Prop) (hR : Kd.R k30 30 w base ok v s) (hl : s.length ≤ 100000) :
    Calls Tryz.prog 51 #[v] w fun e w' => ∃ v', e = .returned v' ∧ Kd.R k30 30 w' w.heap.size (fun _ => True) v' s ∧ Below w.heap.size w w' := by
  have hR2 := hR
  obtain ⟨_, inner, ho, hr⟩ := hR
  obtain ⟨hl2, ho⟩ := ho
  rcases ho with ⟨rfl, hn⟩ | ⟨g, cap, cur, rfl, hbg, hcell, hc1, hc2, hsz, htake⟩
  · obtain rfl : s = [] := List.length_eq_zero_iff.1 hn
    clear hr hR2 hl2 hl
    have heq : (binOp .eql 22 (.slice none 0 0) (.slice none 0 0)).run Tryz.prog w = .ok (.bool true) w := by kernel_rfl
    go_enter Tryz.func51, Tryz.ntmps51
    go_wp2_with fail
    go_ret
    exact ⟨_, rfl, Kd.R_nil _ _ _ _ _, Below.refl _ _⟩
  · have HC := Aside0.mk (Kd.R_reads' hR2).2.2
    have HE := Aside0.mk (R_litG k30 w w.heap.size 30 [] [] (Reps.none _ _) (Nat.le_refl _) (by simp))
    clear hr hR2 hl2 hcell hsz htake hbg
    have heq : (binOp .eql 22 (.slice (some ⟨g, 0, none⟩) s.length cap) (.slice none 0 0)).run Tryz.prog w = .ok (.bool false) w := by kernel_rfl
    go_enter Tryz.func51, Tryz.ntmps51
    go_wp2_with (first
      | (at_builtin; refine Kd.R_append_rows k30 (Rr := fun x cs => cs = [.int .i64 x.f0, .int .i64 x.f1]) (w0 := w) w.heap.size rfl (.tmp 5) (.tmp 6) 22 30 (.agg #[(.int .i64 0), (.int .i64 0)]) 16 rfl Tryz.underlying22 info30 rfl (by decide) (by decide) (.slice (some ⟨w.heap.size, 0, none⟩) 0 0) [] s (some ⟨g, 0, none⟩) s.length cap (fun _ => True) (fun _ => False) (by rfl) (by rfl) HE.out (Kd.C_below HC.out (below_alloc (Below.refl _ _) _) |>.imp_ (Below.refl _ _) (fun _ _ h => k30_open h)) (fun x cs h => by subst h; exact k30_mkM _ _ _ _) (fun _ h => h.elim) (fun _ _ => trivial) (below_alloc (Below.refl _ _) _) (by simp) (by simp; omega) ?_; intro v1 w1 ho hb hg hat)
      | fail)
    go_ret
    exact ⟨_, rfl, by simpa using ho, hb⟩
set_option maxRecDepth 100000 in
set_option maxHeartbeats 1000000 in
theorem add28_calls (B : Nat) (ys : List Int) (v : Value) (s : List S30) (w0 : World) (base : Nat) (ok : Nat → Prop) (hR : Kd.R k30 30 w0 base ok v s) (hl : s.length ≤ 500)
    (hdeed : ∀ (w : World) (g : Nat) (m : List S30), Box w0 g m w → m.length ≤ 500 → Calls Tryz.prog 28 #[.func (.func 52) #[] #[.pointer (some ⟨g, 0, none⟩)], .pointer (some ⟨B, 0, none⟩)] w fun e w' => e = .returned (.tuple #[]) ∧ Box w0 g (addAll m ys) w') :
    Calls Tryz.prog 27 #[v, .func (.func 28) #[] #[.pointer (some ⟨B, 0, none⟩)]] w0 fun e w' => ∃ v', e = .returned v' ∧ Kd.R k30 30 w' w0.heap.size (fun _ => True) v' (setL (addAll s ys)) ∧ Below w0.heap.size w0 w' := by
  have hclone := clone_calls v s w0 w0 base ok hR (by omega)
  obtain ⟨r, hr⟩ : ∃ r, setL (addAll s ys) = r := ⟨_, rfl⟩
  rw [hr]
  have HRR := Aside0.mk hr
  have HD := Aside0.mk hdeed
  have HL := Aside0.mk hl
  have HLA := Aside0.mk (addAll_len s ys hl)
  clear hR hdeed hl hr
  go_enter Tryz.func27, Tryz.ntmps27
  go_wp2_with fail
  refine hclone.mono ?_
  rintro e w1 ⟨v1, rfl, hr1, hb1⟩
  have hX : Box w0 w1.heap.size s (w1.alloc (.cells #[v1] 22)) := ⟨below_alloc hb1 _, hb1.size, v1, blk_new _ _, Kd.R_alloc (Kd.R_mono (Kd.R_bound hr1) (fun k hk => by have := hk.2.2.1; omega)) _⟩
  have HX := Aside0.mk hX
  obtain ⟨A1, c1, rfl⟩ := Kd.R_slice hr1
  clear hX hr1 hb1 hclone
  go_wp2_with fail
  refine (HD.out _ _ _ HX.out HL.out).mono ?_
  rintro e w2 ⟨rfl, hX2⟩
  have HX2 := Aside0.mk hX2
  obtain ⟨hB2, hge2, v2, hb2, hr2⟩ := hX2
  have hc2 : w2.cell? ⟨w1.heap.size, 0, none⟩ = some v2 := by simpa using blk_cell hb2 0
  have HR2 := Aside0.mk hr2
  have HB2 := Aside0.mk hB2
  obtain ⟨A2, c2, rfl⟩ := Kd.R_slice hr2
  generalize addAll s ys = t at *
  have hset := tree_Set.calls A2 c2 t r w2 (Kd.R_reads' hr2).2.2 (Kd.R_reads' hr2).2.1 (by rw [← HRR.out]; rfl)
  clear hr2 hb2 hB2 hge2
  go_wp2_with fail
  refine hset.mono ?_
  rintro e w3 ⟨v3, rfl, ho3, hb3⟩
  have HO3 := Aside0.mk ho3
  have HB3 := Aside0.mk hb3
  clear ho3 hb3
  go_wp2_with fail
  go_ret
  exact ⟨_, rfl, Kd.R_lower HO3.out HB2.out.size, HB2.out.trans (HB3.out.mono HB2.out.size)⟩
set_option maxRecDepth 100000 in
set_option maxHeartbeats 1000000 in
theorem add33_calls (B : Nat) (ys : List Int) (v : Value) (s : List S30) (w0 : World) (base : Nat) (ok : Nat → Prop) (hR : Kd.R k30 30 w0 base ok v s) (hl : s.length ≤ 500)
    (hdeed : ∀ (w : World) (g : Nat) (m : List S30), Box w0 g m w → m.length ≤ 500 → Calls Tryz.prog 33 #[.func (.func 52) #[] #[.pointer (some ⟨g, 0, none⟩)], .pointer (some ⟨B, 0, none⟩)] w fun e w' => e = .returned (.tuple #[]) ∧ Box w0 g (addAll m ys) w') :
    Calls Tryz.prog 27 #[v, .func (.func 33) #[] #[.pointer (some ⟨B, 0, none⟩)]] w0 fun e w' => ∃ v', e = .returned v' ∧ Kd.R k30 30 w' w0.heap.size (fun _ => True) v' (setL (addAll s ys)) ∧ Below w0.heap.size w0 w' := by
  have hclone := clone_calls v s w0 w0 base ok hR (by omega)
  obtain ⟨r, hr⟩ : ∃ r, setL (addAll s ys) = r := ⟨_, rfl⟩
  rw [hr]
  have HRR := Aside0.mk hr
  have HD := Aside0.mk hdeed
  have HL := Aside0.mk hl
  have HLA := Aside0.mk (addAll_len s ys hl)
  clear hR hdeed hl hr
  go_enter Tryz.func27, Tryz.ntmps27
  go_wp2_with fail
  refine hclone.mono ?_
  rintro e w1 ⟨v1, rfl, hr1, hb1⟩
  have hX : Box w0 w1.heap.size s (w1.alloc (.cells #[v1] 22)) := ⟨below_alloc hb1 _, hb1.size, v1, blk_new _ _, Kd.R_alloc (Kd.R_mono (Kd.R_bound hr1) (fun k hk => by have := hk.2.2.1; omega)) _⟩
  have HX := Aside0.mk hX
  obtain ⟨A1, c1, rfl⟩ := Kd.R_slice hr1
  clear hX hr1 hb1 hclone
  go_wp2_with fail
  refine (HD.out _ _ _ HX.out HL.out).mono ?_
  rintro e w2 ⟨rfl, hX2⟩
  have HX2 := Aside0.mk hX2
  obtain ⟨hB2, hge2, v2, hb2, hr2⟩ := hX2
  have hc2 : w2.cell? ⟨w1.heap.size, 0, none⟩ = some v2 := by simpa using blk_cell hb2 0
  have HR2 := Aside0.mk hr2
  have HB2 := Aside0.mk hB2
  obtain ⟨A2, c2, rfl⟩ := Kd.R_slice hr2
  generalize addAll s ys = t at *
  have hset := tree_Set.calls A2 c2 t r w2 (Kd.R_reads' hr2).2.2 (Kd.R_reads' hr2).2.1 (by rw [← HRR.out]; rfl)
  clear hr2 hb2 hB2 hge2
  go_wp2_with fail
  refine hset.mono ?_
  rintro e w3 ⟨v3, rfl, ho3, hb3⟩
  have HO3 := Aside0.mk ho3
  have HB3 := Aside0.mk hb3
  clear ho3 hb3
  go_wp2_with fail
  go_ret
  exact ⟨_, rfl, Kd.R_lower HO3.out HB2.out.size, HB2.out.trans (HB3.out.mono HB2.out.size)⟩
def mirL26 : List Int := [40, 41, 60, 62, 91, 93, 123, 125, 171, 187, 8804, 8805, 8810, 8811, 9001, 9002, 12296, 12297, 12298, 12299, 12300, 12301, 12302, 12303, 12304, 12305]
theorem mirrored_f : tree_mirrored.f = some mirL26 := rfl
theorem mir26_b : ∀ c ∈ mirL26, 0 ≤ c ∧ c ≤ 20000 := by
  intro c hc
  simp only [mirL26, List.mem_cons, List.not_mem_nil, or_false] at hc
  omega
def yields2 (s : List S30) (l : List Int) : List Int := (l.filter (hasS s)).map mirrorP
theorem yields2_snoc (s : List S30) (l : List Int) (i : Nat) (h : i < l.length) : yields2 s (l.take (i + 1)) = yields2 s (l.take i) ++ (if hasS s (rd l i) = true then [mirrorP (rd l i)] else []) := by
  have e : rd l i = l[i] := by simp [rd, List.getD_eq_getElem?_getD, h]
  unfold yields2
  rw [List.take_succ_eq_append_getElem h, List.filter_append, List.map_append, e]
  congr 1
  cases h5 : hasS s l[i] <;> simp [h5]
set_option maxRecDepth 100000 in
set_option maxHeartbeats 1000000 in
theorem close2_ok (B : Nat) (s : List S30) {w0 w : World} {g : Nat} {m : List S30} (hC : Cap B s w0) (hX : Box w0 g m w) (hm : m.length ≤ 500) :
    Calls Tryz.prog 33 #[.func (.func 52) #[] #[.pointer (some ⟨g, 0, none⟩)], .pointer (some ⟨B, 0, none⟩)] w fun e w' => e = .returned (.tuple #[]) ∧ Box w0 g (addAll m (yields2 s mirL26)) w' := by
  have HC := Aside0.mk hC
  have HX := Aside0.mk hX
  have HM := Aside0.mk hm
  have HMB := Aside0.mk mir26_b
  have hmir := tree_mirrored.calls mirL26 w mirrored_f
  clear hC hX hm
  have hlen : mirL26.length ≤ 26 := Nat.le_refl _
  generalize mirL26 = ml at *
  go_enter Tryz.func33, Tryz.ntmps33
  go_wp2_with fail
  refine hmir.mono ?_
  rintro e w1 ⟨v1, rfl, hr1, hb1⟩
  have HX1 := Aside0.mk (HX.out.grow hb1)
  have HR1 := Aside0.mk (show Kd.R (Kd.int .i64) 3 w1 w.heap.size (fun k => k ≠ g) v1 ml from Kd.R_mono (Kd.R_bound hr1) (fun k hk => by have h5 := hk.2.1; obtain ⟨_, _, u, h6, _⟩ := HX.out; have := blk_lt h6; omega))
  obtain ⟨A1, c1, rfl⟩ := Kd.R_slice hr1
  have HY := Aside0.mk (show addAll m (yields2 s (ml.take 0)) = m from rfl)
  have HX2 := Aside0.mk (show Box w0 g (addAll m (yields2 s (ml.take 0))) w1 from HX1.out)
  have HC1 := Aside0.mk (HC.out)
  clear hr1 hb1 hmir HX1 HX
  go_wp2_with fail
  go_loopg [7] ml.length (fun kq v7 w' => ∃ i : Nat, v7 = .int .i64 i ∧ i ≤ ml.length ∧ ml.length - i ≤ kq ∧ Aside0 (Box w0 g (addAll m (yields2 s (ml.take i))) w') ∧ Aside0 (Kd.R (Kd.int .i64) 3 w' w.heap.size (fun k => k ≠ g) (.slice A1 ml.length c1) ml))
  case atStart => exact ⟨0, rfl, by omega, by omega, HX2, HR1⟩
  case round =>
    clear HX2 HR1
    obtain ⟨i, rfl, hi, hk, HB, HR⟩ := hrel
    by_cases hlt : i < ml.length
    · have hlt' : (i : Int) < (ml.length : Int) := by omega
      obtain ⟨ad, e1, hx⟩ := Kd.at_int (Kd.R_reads' HR.out).2.2 (i : Int) (by omega) hlt'
      cases e1
      rw [Int.toNat_natCast] at hx
      have HS := Aside0.mk (show addAll m (yields2 s (ml.take (i + 1))) = addAll (addAll m (yields2 s (ml.take i))) (if hasS s (rd ml i) = true then [mirrorP (rd ml i)] else []) by rw [yields2_snoc s ml i hlt, addAll_append])
      have HL := Aside0.mk (addAll_len m (yields2 s (ml.take i)) HM.out)
      have hcb := HMB.out (rd ml i) (by have : rd ml i = ml[i] := by simp [rd, List.getD_eq_getElem?_getD, hlt]
                                        rw [this]; exact List.getElem_mem hlt)
      have hmir := fun W => mirror_calls (rd ml i) (by omega) (by omega) W
      generalize addAll m (yields2 s (ml.take i)) = mi at *
      generalize rd ml i = cc at *
      have HMIR := Aside0.mk hmir
      clear hmir
      obtain ⟨A, cs, hA1, hA2, hA3⟩ := HC.out
      have hc0 := pw_cell_below HB.out.below hA1
      have hhas := has_calls A cs s cc wr (Kd.C_below hA3 HB.out.below) hA2
      clear hA1 hA2 hA3
      cases hq : hasS s cc with
      | true =>
        rw [hq] at hhas
        have HE := Aside0.mk (show (if hasS s cc = true then [mirrorP cc] else []) = [mirrorP cc] by rw [if_pos hq])
        clear hq
        go_wp2_with fail
        refine hhas.mono ?_
        rintro e w2 ⟨rfl, hb2⟩
        have HB2 := Aside0.mk (HB.out.grow hb2)
        have HR2 := Aside0.mk (Kd.R_below HR.out hb2)
        clear hb2
        go_wp2_with fail
        refine (HMIR.out w2).mono ?_
        rintro e w3 ⟨rfl, hb3⟩
        have HB3 := Aside0.mk (HB2.out.grow hb3)
        have HR3 := Aside0.mk (Kd.R_below HR2.out hb3)
        clear hb3
        go_wp2_with fail
        refine (add1_ok HB3.out (mirrorP cc) (by have := HL.out; omega)).mono ?_
        rintro e w4 ⟨rfl, hX4, hk4⟩
        have HB4 := Aside0.mk hX4
        have HR4 := Aside0.mk (R_keepT HR3.out hk4 (fun _ h => h))
        clear hX4 hk4
        go_wp2_with fail
        go_roundg (ml.length - (i + 1))
        case measure => omega
        case rel => exact ⟨i + 1, by go_num, by omega, by omega, ⟨by rw [HS.out, HE.out]; exact HB4.out⟩, HR4⟩
      | false =>
        rw [hq] at hhas
        have HE := Aside0.mk (show (if hasS s cc = true then [mirrorP cc] else []) = [] by rw [if_neg (by rw [hq]; decide)])
        clear hq
        go_wp2_with fail
        refine hhas.mono ?_
        rintro e w2 ⟨rfl, hb2⟩
        have HB2 := Aside0.mk (HB.out.grow hb2)
        have HR2 := Aside0.mk (Kd.R_below HR.out hb2)
        clear hb2
        go_wp2_with fail
        go_roundg (ml.length - (i + 1))
        case measure => omega
        case rel => exact ⟨i + 1, by go_num, by omega, by omega, ⟨by rw [HS.out, HE.out]; exact HB2.out⟩, HR2⟩
    · have hltz : ¬ (i : Int) < (ml.length : Int) := by omega
      obtain rfl : i = ml.length := by omega
      rw [List.take_length] at HB
      go_wp2_with fail
      go_end0
      exact ⟨rfl, HB.out⟩
end Go.Proofs.YtglolcejfbhbdaaGreat.P
end
section
namespace Go.Proofs.YtglolcejfbhbdaaGreat.P
open Go.RowKit Go.Shelf Go.Proofs.YtglolcejfbhbdaaGreatW.PrintWords Go.Proofs.YtglolcejfbhbdaaGreatW.PrintLast Go.Proofs.YtglolcejfbhbdaaGreatW.PrintMore
set_option linter.unusedVariables false
set_option linter.unusedSimpArgs false
def fold1 (s : List S30) : List S30 := setL (addAll s (yields1 s 7936))
def mirr1 (s : List S30) : List S30 := setL (addAll s (yields2 s mirL26))
def closeL (l : List S30) (fl : Int) : List S30 :=
  let s := setL l
  let s1 := if (Go.bits .and .i64 fl 1 != 0) = true then fold1 s else s
  if (Go.bits .and .i64 fl 2 != 0) = true then mirr1 s1 else s1
def tree_Close.f (l : List S30) (fl : Int) : Option (List S30) := some (closeL l fl)
set_option maxRecDepth 100000 in
set_option maxHeartbeats 1000000 in
theorem close_00 (A0 : Option Addr) (c0 : Nat) (l : List S30) (fl : Int) (w : World) (hr0 : Kd.C k30 w A0 l.length l) (hc0 : l.length ≤ c0)
    (h1 : (Go.bits .and .i64 fl 1 != 0) = false) (h2 : (Go.bits .and .i64 fl 2 != 0) = false) :
    Calls Tryz.prog 12 #[.slice A0 l.length c0, .int .i64 fl] w fun e w' => ∃ v, e = .returned v ∧ Kd.R k30 30 w' w.heap.size (fun _ => True) v (closeL l fl) ∧ Below w.heap.size w w' := by
  have hset := tree_Set.calls A0 c0 l (setL l) w hr0 hc0 rfl
  have HE := Aside0.mk (show closeL l fl = ((setL l)) by unfold closeL; simp only [h1, h2, Bool.false_eq_true, if_false])
  have hsl := setL_len l
  generalize closeL l fl = R at *
  generalize setL l = s at *
  clear hr0 hc0
  go_enter Tryz.func12, Tryz.ntmps12
  go_wp2_with fail
  refine hset.mono ?_
  rintro e w1 ⟨v1, rfl, hR1, hb1⟩
  have HR1 := Aside0.mk (Kd.R_alloc hR1 (.cells #[v1] 22))
  have HB1 := Aside0.mk (below_alloc hb1 (.cells #[v1] 22))
  have hg1 : (w1.alloc (.cells #[v1] 22)).heap[w1.heap.size]? = some (.cells #[v1] 22 (0, 0)) := blk_new _ _
  have HG1 := Aside0.mk hg1
  have hz1 : w.heap.size ≤ w1.heap.size := hb1.size
  obtain ⟨A1, c1, rfl⟩ := Kd.R_slice hR1
  clear hR1 hb1 hset hg1
  go_wp2_with fail
  go_ret
  exact ⟨_, rfl, by rw [HE.out]; exact Kd.R_mono HR1.out (fun _ _ => trivial), HB1.out⟩
set_option maxRecDepth 100000 in
set_option maxHeartbeats 1000000 in
theorem close_01 (A0 : Option Addr) (c0 : Nat) (l : List S30) (fl : Int) (w : World) (hr0 : Kd.C k30 w A0 l.length l) (hc0 : l.length ≤ c0)
    (h1 : (Go.bits .and .i64 fl 1 != 0) = false) (h2 : (Go.bits .and .i64 fl 2 != 0) = true) :
    Calls Tryz.prog 12 #[.slice A0 l.length c0, .int .i64 fl] w fun e w' => ∃ v, e = .returned v ∧ Kd.R k30 30 w' w.heap.size (fun _ => True) v (closeL l fl) ∧ Below w.heap.size w w' := by
  have hset := tree_Set.calls A0 c0 l (setL l) w hr0 hc0 rfl
  have HE := Aside0.mk (show closeL l fl = mirr1 ((setL l)) by unfold closeL; simp only [h1, h2, if_true, Bool.false_eq_true, if_false])
  have hsl := setL_len l
  generalize closeL l fl = R at *
  generalize setL l = s at *
  clear hr0 hc0
  go_enter Tryz.func12, Tryz.ntmps12
  go_wp2_with fail
  refine hset.mono ?_
  rintro e w1 ⟨v1, rfl, hR1, hb1⟩
  have HR1 := Aside0.mk (Kd.R_alloc hR1 (.cells #[v1] 22))
  have HB1 := Aside0.mk (below_alloc hb1 (.cells #[v1] 22))
  have hg1 : (w1.alloc (.cells #[v1] 22)).heap[w1.heap.size]? = some (.cells #[v1] 22 (0, 0)) := blk_new _ _
  have HG1 := Aside0.mk hg1
  have hz1 : w.heap.size ≤ w1.heap.size := hb1.size
  obtain ⟨A1, c1, rfl⟩ := Kd.R_slice hR1
  clear hR1 hb1 hset hg1
  go_wp2_with fail
  have hcap : Cap (w1.heap.size + 1) s ((w1.alloc (.cells #[.slice A1 s.length c1] 22)).alloc (.cells #[(.slice A1 s.length c1)] 22)) := ⟨_, _, by simp, (Kd.R_reads' HR1.out).2.1, Kd.C_below (Kd.R_reads' HR1.out).2.2 (below_alloc (Below.refl _ _) _)⟩
  have HCAP3 := Aside0.mk hcap
  refine (add33_calls (w1.heap.size + 1) (yields2 s mirL26) _ s ((w1.alloc (.cells #[.slice A1 s.length c1] 22)).alloc (.cells #[(.slice A1 s.length c1)] 22)) w.heap.size _ (Kd.R_alloc HR1.out _) hsl (fun w' g m hX hm => close2_ok (w1.heap.size + 1) s HCAP3.out hX hm)).mono ?_
  rintro e w4 ⟨v4, rfl, hR4, hb4⟩
  have hg4 := blk_below (blk_alloc HG1.out (.cells #[(.slice A1 s.length c1)] 22)) hb4
  have hc4 : w4.cell? ⟨w1.heap.size, 0, none⟩ = some (.slice A1 s.length c1) := by simpa using blk_cell hg4 0
  have hf4 : w4.frozen? ⟨w1.heap.size, 0, none⟩ = false := blk_frozen hg4 0
  have hlt4 := blk_lt hg4
  have HR4 := Aside0.mk (show Kd.R k30 30 (w4.setCell ⟨w1.heap.size, 0, none⟩ v4) w.heap.size (fun _ => True) v4 (mirr1 s) from Kd.R_mono (Kd.R_far (Kd.R_lower (Kd.R_mono (Kd.R_bound hR4) (ok' := fun k => k ≠ w1.heap.size) (fun k hk => by have h5 := hk.2.1; have h6 := blk_lt HG1.out; simp at h5 h6; omega)) (by have := HB1.out.size; simp at this ⊢; omega)) (fun k hk => hk) _) (fun _ _ => trivial))
  have HB4 := Aside0.mk (show Below w.heap.size w (w4.setCell ⟨w1.heap.size, 0, none⟩ v4) from ((below_alloc HB1.out (.cells #[(.slice A1 s.length c1)] 22)).trans (hb4.mono (by have := HB1.out.size; simp at this ⊢; omega))).setCell hz1 _)
  obtain ⟨A4, c4, rfl⟩ := Kd.R_slice hR4
  clear hR4 hb4 hg4 hcap
  go_wp2_with fail
  go_ret
  exact ⟨_, rfl, by rw [HE.out]; exact HR4.out, HB4.out⟩
set_option maxRecDepth 100000 in
set_option maxHeartbeats 1000000 in
theorem close_10 (A0 : Option Addr) (c0 : Nat) (l : List S30) (fl : Int) (w : World) (hr0 : Kd.C k30 w A0 l.length l) (hc0 : l.length ≤ c0)
    (h1 : (Go.bits .and .i64 fl 1 != 0) = true) (h2 : (Go.bits .and .i64 fl 2 != 0) = false) :
    Calls Tryz.prog 12 #[.slice A0 l.length c0, .int .i64 fl] w fun e w' => ∃ v, e = .returned v ∧ Kd.R k30 30 w' w.heap.size (fun _ => True) v (closeL l fl) ∧ Below w.heap.size w w' := by
  have hset := tree_Set.calls A0 c0 l (setL l) w hr0 hc0 rfl
  have HE := Aside0.mk (show closeL l fl = (fold1 (setL l)) by unfold closeL; simp only [h1, h2, if_true, Bool.false_eq_true, if_false])
  have hsl := setL_len l
  generalize closeL l fl = R at *
  generalize setL l = s at *
  clear hr0 hc0
  go_enter Tryz.func12, Tryz.ntmps12
  go_wp2_with fail
  refine hset.mono ?_
  rintro e w1 ⟨v1, rfl, hR1, hb1⟩
  have HR1 := Aside0.mk (Kd.R_alloc hR1 (.cells #[v1] 22))
  have HB1 := Aside0.mk (below_alloc hb1 (.cells #[v1] 22))
  have hg1 : (w1.alloc (.cells #[v1] 22)).heap[w1.heap.size]? = some (.cells #[v1] 22 (0, 0)) := blk_new _ _
  have HG1 := Aside0.mk hg1
  have hz1 : w.heap.size ≤ w1.heap.size := hb1.size
  obtain ⟨A1, c1, rfl⟩ := Kd.R_slice hR1
  clear hR1 hb1 hset hg1
  go_wp2_with fail
  have hcap : Cap w1.heap.size s (w1.alloc (.cells #[.slice A1 s.length c1] 22)) := ⟨A1, c1, by simp, (Kd.R_reads' HR1.out).2.1, (Kd.R_reads' HR1.out).2.2⟩
  have HCAP := Aside0.mk hcap
  refine (add28_calls w1.heap.size (yields1 s 7936) _ s (w1.alloc (.cells #[.slice A1 s.length c1] 22)) w.heap.size _ HR1.out hsl (fun w' g m hX hm => close1_ok w1.heap.size s HCAP.out hX hm)).mono ?_
  rintro e w2 ⟨v2, rfl, hR2, hb2⟩
  have hg2 := blk_below HG1.out hb2
  have hc2 : w2.cell? ⟨w1.heap.size, 0, none⟩ = some (.slice A1 s.length c1) := by simpa using blk_cell hg2 0
  have hf2 : w2.frozen? ⟨w1.heap.size, 0, none⟩ = false := blk_frozen hg2 0
  have hlt2 := blk_lt hg2
  have hgs : (w2.setCell ⟨w1.heap.size, 0, none⟩ v2).heap[w1.heap.size]? = some (.cells #[v2] 22 (0, 0)) := by simpa using blk_set hg2 0 v2
  have HG2 := Aside0.mk hgs
  have HR2 := Aside0.mk (show Kd.R k30 30 (w2.setCell ⟨w1.heap.size, 0, none⟩ v2) w.heap.size (fun k => k ≠ w1.heap.size) v2 (fold1 s) from Kd.R_far (Kd.R_lower (Kd.R_mono (Kd.R_bound hR2) (ok' := fun k => k ≠ w1.heap.size) (fun k hk => by have h5 := hk.2.1; simp at h5; omega)) HB1.out.size) (fun k hk => hk) _)
  have HB2 := Aside0.mk (show Below w.heap.size w (w2.setCell ⟨w1.heap.size, 0, none⟩ v2) from (HB1.out.trans (hb2.mono HB1.out.size)).setCell hz1 _)
  have hfl : (fold1 s).length ≤ 500 := setL_len _
  obtain ⟨A2, c2, rfl⟩ := Kd.R_slice hR2
  clear hR2 hb2 hg2 hgs hcap
  have HE2 := Aside0.mk (show R = (fold1 s) from HE.out)
  have HR2 := Aside0.mk (show Kd.R k30 30 (w2.setCell ⟨w1.heap.size, 0, none⟩ (.slice A2 (fold1 s).length c2)) w.heap.size (fun k => k ≠ w1.heap.size) (.slice A2 (fold1 s).length c2) (fold1 s) from HR2.out)
  clear HE
  change _ at HG2
  obtain ⟨s2, hs2⟩ : ∃ s2, fold1 s = s2 := ⟨_, rfl⟩
  have hs3 : setL (addAll s (yields1 s 7936)) = s2 := hs2
  simp only [hs2, hs3] at HG2 HR2 HB2 HE2 hfl ⊢
  clear hs2 hs3
  go_wp2_with fail
  go_ret
  exact ⟨_, rfl, by rw [HE2.out]; exact Kd.R_mono HR2.out (fun _ _ => trivial), HB2.out⟩
set_option maxRecDepth 100000 in
set_option maxHeartbeats 1000000 in
theorem close_11 (A0 : Option Addr) (c0 : Nat) (l : List S30) (fl : Int) (w : World) (hr0 : Kd.C k30 w A0 l.length l) (hc0 : l.length ≤ c0)
    (h1 : (Go.bits .and .i64 fl 1 != 0) = true) (h2 : (Go.bits .and .i64 fl 2 != 0) = true) :
    Calls Tryz.prog 12 #[.slice A0 l.length c0, .int .i64 fl] w fun e w' => ∃ v, e = .returned v ∧ Kd.R k30 30 w' w.heap.size (fun _ => True) v (closeL l fl) ∧ Below w.heap.size w w' := by
  have hset := tree_Set.calls A0 c0 l (setL l) w hr0 hc0 rfl
  have HE := Aside0.mk (show closeL l fl = mirr1 (fold1 (setL l)) by unfold closeL; simp only [h1, h2, if_true])
  have hsl := setL_len l
  generalize closeL l fl = R at *
  generalize setL l = s at *
  clear hr0 hc0
  go_enter Tryz.func12, Tryz.ntmps12
  go_wp2_with fail
  refine hset.mono ?_
  rintro e w1 ⟨v1, rfl, hR1, hb1⟩
  have HR1 := Aside0.mk (Kd.R_alloc hR1 (.cells #[v1] 22))
  have HB1 := Aside0.mk (below_alloc hb1 (.cells #[v1] 22))
  have hg1 : (w1.alloc (.cells #[v1] 22)).heap[w1.heap.size]? = some (.cells #[v1] 22 (0, 0)) := blk_new _ _
  have HG1 := Aside0.mk hg1
  have hz1 : w.heap.size ≤ w1.heap.size := hb1.size
  obtain ⟨A1, c1, rfl⟩ := Kd.R_slice hR1
  clear hR1 hb1 hset hg1
  go_wp2_with fail
  have hcap : Cap w1.heap.size s (w1.alloc (.cells #[.slice A1 s.length c1] 22)) := ⟨A1, c1, by simp, (Kd.R_reads' HR1.out).2.1, (Kd.R_reads' HR1.out).2.2⟩
  have HCAP := Aside0.mk hcap
  refine (add28_calls w1.heap.size (yields1 s 7936) _ s (w1.alloc (.cells #[.slice A1 s.length c1] 22)) w.heap.size _ HR1.out hsl (fun w' g m hX hm => close1_ok w1.heap.size s HCAP.out hX hm)).mono ?_
  rintro e w2 ⟨v2, rfl, hR2, hb2⟩
  have hg2 := blk_below HG1.out hb2
  have hc2 : w2.cell? ⟨w1.heap.size, 0, none⟩ = some (.slice A1 s.length c1) := by simpa using blk_cell hg2 0
  have hf2 : w2.frozen? ⟨w1.heap.size, 0, none⟩ = false := blk_frozen hg2 0
  have hlt2 := blk_lt hg2
  have hgs : (w2.setCell ⟨w1.heap.size, 0, none⟩ v2).heap[w1.heap.size]? = some (.cells #[v2] 22 (0, 0)) := by simpa using blk_set hg2 0 v2
  have HG2 := Aside0.mk hgs
  have HR2 := Aside0.mk (show Kd.R k30 30 (w2.setCell ⟨w1.heap.size, 0, none⟩ v2) w.heap.size (fun k => k ≠ w1.heap.size) v2 (fold1 s) from Kd.R_far (Kd.R_lower (Kd.R_mono (Kd.R_bound hR2) (ok' := fun k => k ≠ w1.heap.size) (fun k hk => by have h5 := hk.2.1; simp at h5; omega)) HB1.out.size) (fun k hk => hk) _)
  have HB2 := Aside0.mk (show Below w.heap.size w (w2.setCell ⟨w1.heap.size, 0, none⟩ v2) from (HB1.out.trans (hb2.mono HB1.out.size)).setCell hz1 _)
  have hfl : (fold1 s).length ≤ 500 := setL_len _
  obtain ⟨A2, c2, rfl⟩ := Kd.R_slice hR2
  clear hR2 hb2 hg2 hgs hcap
  have HE2 := Aside0.mk (show R = mirr1 (fold1 s) from HE.out)
  have HR2 := Aside0.mk (show Kd.R k30 30 (w2.setCell ⟨w1.heap.size, 0, none⟩ (.slice A2 (fold1 s).length c2)) w.heap.size (fun k => k ≠ w1.heap.size) (.slice A2 (fold1 s).length c2) (fold1 s) from HR2.out)
  clear HE
  change _ at HG2
  obtain ⟨s2, hs2⟩ : ∃ s2, fold1 s = s2 := ⟨_, rfl⟩
  have hs3 : setL (addAll s (yields1 s 7936)) = s2 := hs2
  simp only [hs2, hs3] at HG2 HR2 HB2 HE2 hfl ⊢
  clear hs2 hs3
  go_wp2_with fail
  have hcap : Cap w2.heap.size s2 ((w2.setCell ⟨w1.heap.size, 0, none⟩ (.slice A2 s2.length c2)).alloc (.cells #[(.slice A2 s2.length c2)] 22)) := ⟨_, _, by simpa using blk_cell (blk_new (w2.setCell ⟨w1.heap.size, 0, none⟩ (.slice A2 s2.length c2)) (.cells #[(.slice A2 s2.length c2)] 22)) 0, (Kd.R_reads' HR2.out).2.1, Kd.C_below (Kd.R_reads' HR2.out).2.2 (below_alloc (Below.refl _ _) _)⟩
  have HCAP3 := Aside0.mk hcap
  refine (add33_calls w2.heap.size (yields2 s2 mirL26) _ s2 ((w2.setCell ⟨w1.heap.size, 0, none⟩ (.slice A2 s2.length c2)).alloc (.cells #[(.slice A2 s2.length c2)] 22)) w.heap.size _ (Kd.R_alloc HR2.out _) hfl (fun w' g m hX hm => close2_ok w2.heap.size s2 HCAP3.out hX hm)).mono ?_
  rintro e w4 ⟨v4, rfl, hR4, hb4⟩
  have hg4 := blk_below (blk_alloc HG2.out (.cells #[(.slice A2 s2.length c2)] 22)) hb4
  have hc4 : w4.cell? ⟨w1.heap.size, 0, none⟩ = some (.slice A2 s2.length c2) := by simpa using blk_cell hg4 0
  have hf4 : w4.frozen? ⟨w1.heap.size, 0, none⟩ = false := blk_frozen hg4 0
  have hlt4 := blk_lt hg4
  have HR4 := Aside0.mk (show Kd.R k30 30 (w4.setCell ⟨w1.heap.size, 0, none⟩ v4) w.heap.size (fun _ => True) v4 (mirr1 s2) from Kd.R_mono (Kd.R_far (Kd.R_lower (Kd.R_mono (Kd.R_bound hR4) (ok' := fun k => k ≠ w1.heap.size) (fun k hk => by have h5 := hk.2.1; have h6 := blk_lt HG2.out; simp at h5 h6; omega)) (by have := HB2.out.size; simp at this ⊢; omega)) (fun k hk => hk) _) (fun _ _ => trivial))
  have HB4 := Aside0.mk (show Below w.heap.size w (w4.setCell ⟨w1.heap.size, 0, none⟩ v4) from ((below_alloc HB2.out (.cells #[(.slice A2 s2.length c2)] 22)).trans (hb4.mono (by have := HB2.out.size; simp at this ⊢; omega))).setCell hz1 _)
  obtain ⟨A4, c4, rfl⟩ := Kd.R_slice hR4
  clear hR4 hb4 hg4 hcap
  go_wp2_with fail
  go_ret
  exact ⟨_, rfl, by rw [HE2.out]; exact HR4.out, HB4.out⟩
theorem tree_Close.calls (A0 : Option Addr) (c0 : Nat) (l0 : List S30) (a1 : Int) (r : List S30) (w : World) (hr0 : Kd.C k30 w A0 l0.length l0) (hc0 : l0.length ≤ c0) (h : tree_Close.f l0 a1 = some r) :
    Calls Tryz.prog 12 #[.slice A0 l0.length c0, .int .i64 a1] w fun e w' => ∃ v0_ : Value, e = .returned (v0_) ∧ Kd.R k30 30 w' w.heap.size (fun _ => True) v0_ r ∧ Below w.heap.size w w' := by
  obtain rfl := Option.some.inj h
  cases h1 : (Go.bits .and .i64 a1 1 != 0) with
  | false => cases h2 : (Go.bits .and .i64 a1 2 != 0) with
    | false => exact close_00 A0 c0 l0 a1 w hr0 hc0 h1 h2
    | true => exact close_01 A0 c0 l0 a1 w hr0 hc0 h1 h2
  | true => cases h2 : (Go.bits .and .i64 a1 2 != 0) with
    | false => exact close_10 A0 c0 l0 a1 w hr0 hc0 h1 h2
    | true => exact close_11 A0 c0 l0 a1 w hr0 hc0 h1 h2
end Go.Proofs.YtglolcejfbhbdaaGreat.P
end
section
namespace Go.Proofs.YtglolcejfbhbdaaGreat.P
open Go.RowKit Go.Shelf Go.Proofs.YtglolcejfbhbdaaGreatW.PrintWords Go.Proofs.YtglolcejfbhbdaaGreatW.PrintLast Go.Proofs.YtglolcejfbhbdaaGreatW.PrintMore
set_option linter.unusedVariables false
set_option linter.unusedSimpArgs false
theorem indexByte_lift (s : ByteArray) (c : Int) (w : World) :
    Calls Tryz.prog 82 #[.string s, .int .u8 c] w fun e w' => e = .returned (.int .i64 (Lib.indexByte s.data.toList c.toNat.toUInt8)) ∧ w = w' :=
  (Any.strings_IndexByte Tryz.lays137 s c w).mono fun _ _ ⟨h1, h2⟩ => ⟨h1, h2.symm⟩
def inB (c : Int) (s : ByteArray) : Bool := decide (0 ≤ c) && decide (c < 128) && decide (0 ≤ Lib.indexByte s.data.toList c.toNat.toUInt8)
set_option maxRecDepth 100000 in
theorem token_in.calls (c : Int) (s : ByteArray) (w : World) : Calls Tryz.prog 111 #[.int .i64 c, .string s] w fun e w' => e = .returned (.bool (inB c s)) ∧ w = w' := by
  by_cases h1 : 0 ≤ c
  · by_cases h2 : c < 128
    · have hb : inB c s = decide (0 ≤ Lib.indexByte s.data.toList c.toNat.toUInt8) := by simp [inB, h1, h2]
      have HB := Aside0.mk hb
      clear hb
      have hw : IntKind.u8.wrap c = c := by simp [IntKind.wrap, IntKind.bits, IntKind.signed]; omega
      have hcon := fun W => indexByte_lift s c W
      generalize Lib.indexByte s.data.toList c.toNat.toUInt8 = r at hcon HB
      have h1b : decide (0 ≤ c) = true := decide_eq_true h1
      have h2b : decide (c < 128) = true := decide_eq_true h2
      go_enter Tryz.func111, Tryz.ntmps111
      go_wp2_with (go_at_call 82; refine (hcon _).mono ?_; rintro e w' ⟨rfl, rfl⟩)
      go_ret
      exact ⟨by rw [HB.out]; rfl, rfl⟩
    · have hb : inB c s = false := by simp [inB, h2]
      have HB := Aside0.mk hb
      clear hb
      have h1b : decide (0 ≤ c) = true := decide_eq_true h1
      have h2b : decide (c < 128) = false := decide_eq_false h2
      go_enter Tryz.func111, Tryz.ntmps111
      go_wp2
      go_ret
      exact ⟨by rw [HB.out]; rfl, rfl⟩
  · have hb : inB c s = false := by simp [inB, h1]
    have HB := Aside0.mk hb
    clear hb
    have h1b : decide (0 ≤ c) = false := decide_eq_false h1
    go_enter Tryz.func111, Tryz.ntmps111
    go_wp2
    go_ret
    exact ⟨by rw [HB.out]; rfl, rfl⟩
def signL : List Int := [46, 40, 41, 124, 94, 36, 63, 42, 43, 123, 125, 91, 93, 45, 47, 92]
def groupL : List Int := [100, 119, 115, 68, 87, 83]
def digitL : List Int := [48, 49, 50, 51, 52, 53, 54, 55, 56, 57]
def bytesA (l : List Int) : ByteArray := ⟨(l.map fun x => x.toNat.toUInt8).toArray⟩
theorem inB_list (l : List Int) (h : (List.range 128).all (fun n => (decide (0 ≤ Lib.indexByte (l.map fun x => x.toNat.toUInt8) n.toUInt8)) == l.contains (n : Int)) = true) (hl : l.all (fun x => decide (0 ≤ x) && decide (x < 128)) = true) (c : Int) :
    inB c (bytesA l) = l.contains c := by
  unfold inB bytesA
  by_cases h1 : 0 ≤ c ∧ c < 128
  · obtain ⟨n, rfl⟩ := Int.eq_ofNat_of_zero_le h1.1
    have h2 : n < 128 := by omega
    have := (List.all_eq_true.1 h) n (List.mem_range.2 h2)
    have := eq_of_beq this
    simp only [Int.toNat_natCast]
    rw [this]
    simp [h1.2]
  · have : l.contains c = false := by
      rw [Bool.eq_false_iff]
      intro hc
      have := (List.all_eq_true.1 hl) c (by simpa using hc)
      simp at this
      omega
    rw [this]
    by_cases h3 : 0 ≤ c
    · have : ¬ c < 128 := fun h4 => h1 ⟨h3, h4⟩
      simp [this]
    · simp [h3]
theorem inB_sign (c : Int) : inB c (bytesA signL) = signL.contains c := inB_list signL (by decide +kernel) (by decide +kernel) c
theorem inB_group (c : Int) : inB c (bytesA groupL) = groupL.contains c := inB_list groupL (by decide +kernel) (by decide +kernel) c
theorem inB_digit (c : Int) : inB c (bytesA digitL) = digitL.contains c := inB_list digitL (by decide +kernel) (by decide +kernel) c
theorem signB : bytesA signL = ⟨#[46, 40, 41, 124, 94, 36, 63, 42, 43, 123, 125, 91, 93, 45, 47, 92]⟩ := by
  unfold bytesA signL
  simp only [List.map]
  congr 1
set_option maxRecDepth 100000 in
theorem token_Sign.calls (c : Int) (w : World) : Calls Tryz.prog 118 #[.int .i64 c] w fun e w' => e = .returned (.bool (signL.contains c)) ∧ w = w' := by
  have hcon := fun W => token_in.calls c (bytesA signL) W
  rw [inB_sign, signB] at hcon
  generalize signL.contains c = r at hcon ⊢
  go_enter Tryz.func118, Tryz.ntmps118
  go_wp2_with (go_at_call 111; refine (hcon _).mono ?_; rintro e w' ⟨rfl, rfl⟩)
  go_ret
  exact ⟨rfl, rfl⟩
def escF (c : Int) : Int × Bool × Bool := if c = 110 then (10, false, true) else if c = 116 then (9, false, true) else if groupL.contains c then (c, true, true) else if signL.contains c then (c, false, true) else (0, false, false)
set_option maxRecDepth 100000 in
theorem token_Escape.calls (c : Int) (w : World) : Calls Tryz.prog 113 #[.int .i64 c] w fun e w' => e = .returned (.tuple #[.int .i64 (escF c).1, .bool (escF c).2.1, .bool (escF c).2.2]) ∧ w = w' := by
  by_cases h1 : c = 110
  · have hf : escF c = (10, false, true) := by unfold escF; rw [if_pos h1]
    have HF := Aside0.mk hf
    clear hf
    have hb : (c == 110) = true := by rw [h1]; rfl
    clear h1
    go_enter Tryz.func113, Tryz.ntmps113
    go_wp2
    go_ret3
    exact ⟨by rw [HF.out]; rfl, rfl⟩
  · have hb : (c == 110) = false := beq_eq_false_iff_ne.2 h1
    by_cases h2 : c = 116
    · have hf : escF c = (9, false, true) := by unfold escF; rw [if_neg h1, if_pos h2]
      have HF := Aside0.mk hf
      clear hf h1
      have hb : (c == 116) = true := by rw [h2]; rfl
      clear h2
      go_enter Tryz.func113, Tryz.ntmps113
      go_wp2
      go_ret3
      exact ⟨by rw [HF.out]; rfl, rfl⟩
    · have hb2 : (c == 116) = false := beq_eq_false_iff_ne.2 h2
      have hcon := fun W => token_in.calls c (bytesA groupL) W
      rw [inB_group] at hcon
      have hcon2 := fun W => token_Sign.calls c W
      cases h3 : groupL.contains c with
      | true =>
        have hf : escF c = (c, true, true) := by unfold escF; rw [if_neg h1, if_neg h2, h3]; rfl
        have HF := Aside0.mk hf
        rw [h3] at hcon
        clear hf h1 h2 h3 hcon2
        go_enter Tryz.func113, Tryz.ntmps113
        go_wp2_with (go_at_call 111; refine (hcon _).mono ?_; rintro e w' ⟨rfl, rfl⟩)
        go_ret3
        exact ⟨by rw [HF.out]; rfl, rfl⟩
      | false =>
        rw [h3] at hcon
        cases h4 : signL.contains c with
        | true =>
          have hf : escF c = (c, false, true) := by unfold escF; rw [if_neg h1, if_neg h2, h3, h4]; rfl
          have HF := Aside0.mk hf
          rw [h4] at hcon2
          clear hf h1 h2 h3 h4
          go_enter Tryz.func113, Tryz.ntmps113
          go_wp2_with (first | (go_at_call 111; refine (hcon _).mono ?_; rintro e w' ⟨rfl, rfl⟩) | (go_at_call 118; refine (hcon2 _).mono ?_; rintro e w' ⟨rfl, rfl⟩))
          go_ret3
          exact ⟨by rw [HF.out]; rfl, rfl⟩
        | false =>
          have hf : escF c = (0, false, false) := by unfold escF; rw [if_neg h1, if_neg h2, h3, h4]; rfl
          have HF := Aside0.mk hf
          rw [h4] at hcon2
          clear hf h1 h2 h3 h4
          go_enter Tryz.func113, Tryz.ntmps113
          go_wp2_with (first | (go_at_call 111; refine (hcon _).mono ?_; rintro e w' ⟨rfl, rfl⟩) | (go_at_call 118; refine (hcon2 _).mono ?_; rintro e w' ⟨rfl, rfl⟩))
          go_ret3
          exact ⟨by rw [HF.out]; rfl, rfl⟩
end Go.Proofs.YtglolcejfbhbdaaGreat.P
end
section
namespace Go.Proofs.YtglolcejfbhbdaaGreat.P
open Go.RowKit Go.Shelf Go.Proofs.YtglolcejfbhbdaaGreatW.PrintWords Go.Proofs.YtglolcejfbhbdaaGreatW.PrintLast Go.Proofs.YtglolcejfbhbdaaGreatW.PrintMore
set_option linter.unusedVariables false
set_option linter.unusedSimpArgs false
structure Tok (w0 : World) (g : Nat) (A : Option Addr) (c : Nat) (l : List Int) (i : Nat) (tv : Value) (w : World) : Prop where
  below : Below w0.heap.size w0 w
  ge : w0.heap.size ≤ g
  reads : Kd.C (Kd.int .i64) w0 A l.length l
  blk : w.heap[g]? = some (.cells #[.slice A l.length c, .int .i64 (i : Int), tv] 87 (0, 0))
section
variable {w0 : World} {g : Nat} {A : Option Addr} {c : Nat} {l : List Int} {i : Nat} {tv : Value} {w : World}
theorem Tok.grow (h : Tok w0 g A c l i tv w) {w' : World} (hb : Below w.heap.size w w') : Tok w0 g A c l i tv w' := by
  obtain ⟨h1, h2, h3, h4⟩ := h
  exact ⟨h1.trans (hb.mono h1.size), h2, h3, blk_below h4 hb⟩
theorem Tok.far (h : Tok w0 g A c l i tv w) (a : Addr) (ha : g ≠ a.block) (hw : w0.heap.size ≤ a.block) (v : Value) : Tok w0 g A c l i tv (w.setCell a v) := by
  obtain ⟨h1, h2, h3, h4⟩ := h
  exact ⟨h1.setCell hw _, h2, h3, blk_far h4 ha v⟩
theorem Tok.drewN (h : Tok w0 g A c l i tv w) (n : Nat) : Tok w0 g A c l i tv (w.drewN n) := h.grow (pw_below_drewN (Below.refl _ _) n)
theorem keepN (w : World) (g : Nat) (n : Nat) : KeepBut w (w.drewN n) g none := KeepBut.of_below (pw_below_drewN (Below.refl _ _) n) g none
theorem keepTr {w w1 w2 : World} {g : Nat} (h : KeepBut w w1 g none) (k : KeepBut w1 w2 g none) : KeepBut w w2 g none := h.trans k (.inl rfl)
theorem keepNew {w w1 : World} {g : Nat} (h : KeepBut w w1 g none) (a : Addr) (ha : w.heap.size ≤ a.block) (v : Value) : KeepBut w (w1.setCell a v) g none :=
  ⟨by simpa using h.1, fun i hi h1 h2 => (Below.heap_setCell w1 a v i (by omega)).trans (h.2 i hi h1 h2)⟩
theorem keepAlloc {w w1 : World} {g : Nat} (h : KeepBut w w1 g none) (o : Obj) : KeepBut w (w1.alloc o) g none := keepTr h (KeepBut.of_below (below_alloc (Below.refl _ _) o) g none)
theorem Tok.set1 (h : Tok w0 g A c l i tv w) (j : Nat) : Tok w0 g A c l j tv (w.setCell ⟨g, 1, none⟩ (.int .i64 (j : Int))) := by
  obtain ⟨h1, h2, h3, h4⟩ := h
  exact ⟨h1.setCell h2 _, h2, h3, by simpa using blk_set h4 1 (.int .i64 (j : Int))⟩
end
def wrongT (at_ e : Int) : List PanicEntry := [{ v := .iface 83 (.agg #[.int .i64 at_, .int .i64 e]), recovered := false }]
structure TokOk (w0 : World) (g : Nat) (A : Option Addr) (c : Nat) (l : List Int) (i : Nat) (tv : Value) (W : World) (v : Value) (e : Ending) (w : World) : Prop where
  ret : e = .returned v
  st : Tok w0 g A c l i tv w
  keep : KeepBut W w g none
structure TokBad (w0 : World) (at_ er : Int) (e : Ending) (w : World) : Prop where
  pan : e = .panicked (wrongT at_ er)
  st : Below w0.heap.size w0 w
section
variable {w0 : World} {g : Nat} {A : Option Addr} {c : Nat} {l : List Int} {i : Nat} {tv : Value} {w : World}
set_option maxRecDepth 100000 in
theorem peek_ok (h : Tok w0 g A c l i tv w) (hi : i < l.length) :
    Calls Tryz.prog 84 #[.pointer (some ⟨g, 0, none⟩)] w (TokOk w0 g A c l i tv w (.int .i64 (rd l i))) := by
  have HT := Aside0.mk h
  obtain ⟨h1, h2, h3, h4⟩ := h
  have hc0 := blk_cell h4 0
  have hc1 := blk_cell h4 1
  simp at hc0 hc1
  obtain ⟨ad, e1, hx⟩ := Kd.at_int h3 (i : Int) (by omega) (by omega)
  replace hx := pw_cell_below h1 hx
  cases e1
  rw [Int.toNat_natCast] at hx
  have hlt : decide (l.length ≤ i) = false := decide_eq_false (by omega)
  have hlt2 : (i : Int) < (l.length : Int) := by omega
  clear h1 h2 h3 h4
  generalize rd l i = x at *
  go_enter Tryz.func84, Tryz.ntmps84
  go_wp2
  repeat (go_quiet (fail); try go_wp2)
  go_ret
  exact ⟨rfl, by first | exact HT.out | exact HT.out.drewN _ | exact (HT.out.drewN _).drewN _, by first | exact KeepBut.refl _ _ _ | exact keepN _ _ _⟩
set_option maxRecDepth 100000 in
theorem peek_end (h : Tok w0 g A c l i tv w) (hi : l.length ≤ i) :
    Calls Tryz.prog 84 #[.pointer (some ⟨g, 0, none⟩)] w (TokBad w0 i 4) := by
  have HT := Aside0.mk h
  obtain ⟨h1, h2, h3, h4⟩ := h
  have hc0 := blk_cell h4 0
  have hc1 := blk_cell h4 1
  simp at hc0 hc1
  have hlt : decide (l.length ≤ i) = true := decide_eq_true (by omega)
  have hlt2 : (l.length : Int) ≤ (i : Int) := by omega
  clear h1 h2 h3 h4
  go_enter Tryz.func84, Tryz.ntmps84
  go_wp2
  repeat (go_quiet (fail); try go_wp2)
  exact ⟨rfl, rfl, by first | exact HT.out.below | exact (HT.out.drewN _).below⟩
theorem Tok.cells (h : Tok w0 g A c l i tv w) : w.cell? ⟨g, 0, none⟩ = some (.slice A l.length c) ∧ w.cell? ⟨g, 1, none⟩ = some (.int .i64 (i : Int)) ∧ w.frozen? ⟨g, 1, none⟩ = false := by
  obtain ⟨h1, h2, h3, h4⟩ := h
  exact ⟨by simpa using blk_cell h4 0, by simpa using blk_cell h4 1, blk_frozen h4 1⟩
theorem Tok.cell2 (h : Tok w0 g A c l i tv w) : w.cell? ⟨g, 2, none⟩ = some tv ∧ w.frozen? ⟨g, 2, none⟩ = false := by
  obtain ⟨h1, h2, h3, h4⟩ := h
  exact ⟨by simpa using blk_cell h4 2, blk_frozen h4 2⟩
theorem Tok.char_ (h : Tok w0 g A c l i tv w) (hi : i < l.length) : ∃ ad, A = some ad ∧ w.cell? (ad.add i) = some (.int .i64 (rd l i)) := by
  obtain ⟨ad, e1, hx⟩ := Kd.at_int h.reads (i : Int) (by omega) (by omega)
  replace hx := pw_cell_below h.below hx
  rw [Int.toNat_natCast] at hx
  exact ⟨ad, e1, hx⟩
set_option maxRecDepth 100000 in
theorem is_yes (h : Tok w0 g A c l i tv w) (hl : l.length ≤ 1000000) (ch : Int) (hi : i < l.length) (hc : rd l i = ch) :
    Calls Tryz.prog 78 #[.pointer (some ⟨g, 0, none⟩), .int .i64 ch] w (TokOk w0 g A c l (i + 1) tv w (.bool true)) := by
  have HT := Aside0.mk h
  obtain ⟨hc0, hc1, hf1⟩ := h.cells
  obtain ⟨ad, e1, hx⟩ := h.char_ hi
  cases e1
  clear h
  have hlt : decide (i < l.length) = true := decide_eq_true hi
  have hlt2 : (i : Int) < (l.length : Int) := by omega
  have hq : (rd l i == ch) = true := by rw [hc]; simp
  generalize rd l i = x at *
  clear hc
  go_enter Tryz.func78, Tryz.ntmps78
  go_wp2
  repeat (go_quiet (fail); try go_wp2)
  go_ret
  exact ⟨rfl, by first | exact HT.out.set1 (i + 1) | exact (HT.out.drewN _).set1 (i + 1), by first | exact (KeepBut.refl _ _ _).set_ _ _ | exact (keepN _ _ _).set_ _ _⟩
set_option maxRecDepth 100000 in
theorem is_no (h : Tok w0 g A c l i tv w) (ch : Int) (hc : i < l.length → rd l i ≠ ch) :
    Calls Tryz.prog 78 #[.pointer (some ⟨g, 0, none⟩), .int .i64 ch] w (TokOk w0 g A c l i tv w (.bool false)) := by
  have HT := Aside0.mk h
  obtain ⟨hc0, hc1, hf1⟩ := h.cells
  by_cases hi : i < l.length
  · obtain ⟨ad, e1, hx⟩ := h.char_ hi
    cases e1
    clear h
    have hlt : decide (i < l.length) = true := decide_eq_true hi
    have hlt2 : (i : Int) < (l.length : Int) := by omega
    have hq : (rd l i == ch) = false := beq_eq_false_iff_ne.2 (hc hi)
    clear hc
    generalize rd l i = x at *
    go_enter Tryz.func78, Tryz.ntmps78
    go_wp2
    repeat (go_quiet (fail); try go_wp2)
    go_ret
    exact ⟨rfl, by first | exact HT.out | exact (HT.out.drewN _), by first | exact KeepBut.refl _ _ _ | exact keepN _ _ _⟩
  · clear h hc
    have hlt : decide (i < l.length) = false := decide_eq_false hi
    go_enter Tryz.func78, Tryz.ntmps78
    go_wp2
    repeat (go_quiet (fail); try go_wp2)
    go_ret
    exact ⟨rfl, by first | exact HT.out | exact (HT.out.drewN _), by first | exact KeepBut.refl _ _ _ | exact keepN _ _ _⟩
set_option maxRecDepth 100000 in
theorem char_plain (h : Tok w0 g A c l i tv w) (hl : l.length ≤ 1000000) (hi : i < l.length) (hc : rd l i ≠ 92) :
    Calls Tryz.prog 104 #[.pointer (some ⟨g, 0, none⟩)] w (TokOk w0 g A c l (i + 1) tv w (.tuple #[.int .i64 (rd l i), .bool false])) := by
  have HT := Aside0.mk h
  obtain ⟨hc0, hc1, hf1⟩ := h.cells
  have hpk := fun W (hW : Tok w0 g A c l i tv W) => peek_ok (w := W) hW hi
  have hq : (rd l i != 92) = true := bne_iff_ne.2 hc
  clear h hc
  generalize rd l i = x at *
  go_enter Tryz.func104, Tryz.ntmps104
  go_wp2_with fail
  refine (hpk _ HT.out).mono ?_
  rintro e w1 ⟨rfl, hst, hk1⟩
  obtain ⟨hc0', hc1', hf1'⟩ := hst.cells
  have HS := Aside0.mk hst
  clear hst
  go_wp2
  go_ret2
  exact ⟨rfl, HS.out.set1 (i + 1), hk1.set_ _ _⟩
set_option maxRecDepth 100000 in
theorem char_end (h : Tok w0 g A c l i tv w) (hi : l.length ≤ i) :
    Calls Tryz.prog 104 #[.pointer (some ⟨g, 0, none⟩)] w (TokBad w0 i 4) := by
  have HT := Aside0.mk h
  obtain ⟨hc0, hc1, hf1⟩ := h.cells
  have hpk := fun W (hW : Tok w0 g A c l i tv W) => peek_end (w := W) hW hi
  clear h
  go_enter Tryz.func104, Tryz.ntmps104
  go_wp2_with fail
  refine (hpk _ HT.out).mono ?_
  rintro e w1 ⟨rfl, hst⟩
  exact ⟨rfl, rfl, hst⟩
set_option maxRecDepth 100000 in
theorem char_end2 (h : Tok w0 g A c l i tv w) (hl : l.length ≤ 1000000) (hi : i < l.length) (hc : rd l i = 92) (hi2 : l.length ≤ i + 1) :
    Calls Tryz.prog 104 #[.pointer (some ⟨g, 0, none⟩)] w (TokBad w0 (i + 1 : Nat) 4) := by
  have HT := Aside0.mk h
  obtain ⟨hc0, hc1, hf1⟩ := h.cells
  have hpk := fun W (hW : Tok w0 g A c l i tv W) => peek_ok (w := W) hW hi
  have hpk2 := fun W (hW : Tok w0 g A c l (i + 1) tv W) => peek_end (w := W) hW hi2
  have hq : (rd l i != 92) = false := bne_eq_false_iff_eq.2 hc
  clear h hc
  generalize rd l i = x at *
  go_enter Tryz.func104, Tryz.ntmps104
  go_wp2_with fail
  refine (hpk _ HT.out).mono ?_
  rintro e w1 ⟨rfl, hst, hk1⟩
  obtain ⟨hc0', hc1', hf1'⟩ := hst.cells
  have HS := Aside0.mk hst
  clear hst
  go_wp2_with fail
  refine (hpk2 _ (HS.out.set1 (i + 1))).mono ?_
  rintro e w2 ⟨rfl, hst⟩
  exact ⟨rfl, rfl, hst⟩
set_option maxRecDepth 100000 in
theorem char_esc (h : Tok w0 g A c l i tv w) (hl : l.length ≤ 1000000) (hi : i + 1 < l.length) (hc : rd l i = 92) (he : (escF (rd l (i + 1 : Nat))).2.2 = true) :
    Calls Tryz.prog 104 #[.pointer (some ⟨g, 0, none⟩)] w (TokOk w0 g A c l (i + 2) tv w (.tuple #[.int .i64 (escF (rd l (i + 1 : Nat))).1, .bool (escF (rd l (i + 1 : Nat))).2.1])) := by
  have HT := Aside0.mk h
  obtain ⟨hc0, hc1, hf1⟩ := h.cells
  have hpk := fun W (hW : Tok w0 g A c l i tv W) => peek_ok (w := W) hW (show i < l.length by omega)
  have hpk2 := fun W (hW : Tok w0 g A c l (i + 1) tv W) => peek_ok (w := W) hW hi
  have hesc := fun W => token_Escape.calls (rd l (i + 1 : Nat)) W
  rw [he] at hesc
  have hq : (rd l i != 92) = false := bne_eq_false_iff_eq.2 hc
  clear h hc he
  generalize (escF (rd l (i + 1 : Nat))).1 = e1 at *
  generalize (escF (rd l (i + 1 : Nat))).2.1 = e2 at *
  generalize rd l (i + 1 : Nat) = y at *
  generalize rd l i = x at *
  go_enter Tryz.func104, Tryz.ntmps104
  go_wp2_with fail
  refine (hpk _ HT.out).mono ?_
  rintro e w1 ⟨rfl, hst, hk1⟩
  obtain ⟨hc0', hc1', hf1'⟩ := hst.cells
  have HS := Aside0.mk hst
  clear hst
  go_wp2_with fail
  refine (hpk2 _ (HS.out.set1 (i + 1))).mono ?_
  rintro e w2 ⟨rfl, hst, hk2⟩
  clear hc0' hc1' hf1' hc0 hc1 hf1
  obtain ⟨hc0', hc1', hf1'⟩ := hst.cells
  have HS2 := Aside0.mk hst
  clear hst
  go_wp2_with (go_at_call 113; refine (hesc _).mono ?_; rintro e w' ⟨rfl, rfl⟩)
  go_ret2
  exact ⟨rfl, HS2.out.set1 (i + 2), (keepTr (hk1.set_ _ _) hk2).set_ _ _⟩
set_option maxRecDepth 100000 in
theorem char_noesc (h : Tok w0 g A c l i tv w) (hl : l.length ≤ 1000000) (hi : i + 1 < l.length) (hc : rd l i = 92) (he : (escF (rd l (i + 1 : Nat))).2.2 = false) :
    Calls Tryz.prog 104 #[.pointer (some ⟨g, 0, none⟩)] w (TokBad w0 i 6) := by
  have HT := Aside0.mk h
  obtain ⟨hc0, hc1, hf1⟩ := h.cells
  have hpk := fun W (hW : Tok w0 g A c l i tv W) => peek_ok (w := W) hW (show i < l.length by omega)
  have hpk2 := fun W (hW : Tok w0 g A c l (i + 1) tv W) => peek_ok (w := W) hW hi
  have hesc := fun W => token_Escape.calls (rd l (i + 1 : Nat)) W
  rw [he] at hesc
  have hq : (rd l i != 92) = false := bne_eq_false_iff_eq.2 hc
  clear h hc he
  generalize (escF (rd l (i + 1 : Nat))).1 = e1 at *
  generalize (escF (rd l (i + 1 : Nat))).2.1 = e2 at *
  generalize rd l (i + 1 : Nat) = y at *
  generalize rd l i = x at *
  go_enter Tryz.func104, Tryz.ntmps104
  go_wp2_with fail
  refine (hpk _ HT.out).mono ?_
  rintro e w1 ⟨rfl, hst, hk1⟩
  obtain ⟨hc0', hc1', hf1'⟩ := hst.cells
  have HS := Aside0.mk hst
  clear hst
  go_wp2_with fail
  refine (hpk2 _ (HS.out.set1 (i + 1))).mono ?_
  rintro e w2 ⟨rfl, hst, hk2⟩
  have HS2 := Aside0.mk hst
  clear hst
  go_wp2_with (go_at_call 113; refine (hesc _).mono ?_; rintro e w' ⟨rfl, rfl⟩)
  exact ⟨rfl, rfl, HS2.out.below⟩
inductive TP (α : Type) where
  | ok (a : α) (i : Nat)
  | bad (at_ : Int) (er : Int)
def charF (l : List Int) (i : Nat) : TP (Int × Bool) :=
  if i < l.length then
    if rd l (i : Nat) = 92 then
      if i + 1 < l.length then
        if (escF (rd l (i + 1 : Nat))).2.2 = true then .ok ((escF (rd l (i + 1 : Nat))).1, (escF (rd l (i + 1 : Nat))).2.1) (i + 2) else .bad i 6
      else .bad (i + 1 : Nat) 4
    else .ok (rd l (i : Nat), false) (i + 1)
  else .bad i 4
theorem char_ok (h : Tok w0 g A c l i tv w) (hl : l.length ≤ 1000000) {a : Int × Bool} {i' : Nat} (hf : charF l i = .ok a i') :
    Calls Tryz.prog 104 #[.pointer (some ⟨g, 0, none⟩)] w (TokOk w0 g A c l i' tv w (.tuple #[.int .i64 a.1, .bool a.2])) := by
  unfold charF at hf
  by_cases h1 : i < l.length
  · rw [if_pos h1] at hf
    by_cases h2 : rd l (i : Nat) = 92
    · rw [if_pos h2] at hf
      by_cases h3 : i + 1 < l.length
      · rw [if_pos h3] at hf
        by_cases h4 : (escF (rd l (i + 1 : Nat))).2.2 = true
        · rw [if_pos h4] at hf
          injection hf with e1 e2
          subst e1; subst e2
          exact char_esc h hl h3 h2 h4
        · rw [if_neg h4] at hf
          cases hf
      · rw [if_neg h3] at hf
        cases hf
    · rw [if_neg h2] at hf
      injection hf with e1 e2
      subst e1; subst e2
      exact char_plain h hl h1 h2
  · rw [if_neg h1] at hf
    cases hf
theorem char_bad (h : Tok w0 g A c l i tv w) (hl : l.length ≤ 1000000) {a e : Int} (hf : charF l i = .bad a e) :
    Calls Tryz.prog 104 #[.pointer (some ⟨g, 0, none⟩)] w (TokBad w0 a e) := by
  unfold charF at hf
  by_cases h1 : i < l.length
  · rw [if_pos h1] at hf
    by_cases h2 : rd l (i : Nat) = 92
    · rw [if_pos h2] at hf
      by_cases h3 : i + 1 < l.length
      · rw [if_pos h3] at hf
        by_cases h4 : (escF (rd l (i + 1 : Nat))).2.2 = true
        · rw [if_pos h4] at hf
          cases hf
        · rw [if_neg h4] at hf
          injection hf with e1 e2
          subst e1; subst e2
          exact char_noesc h hl h3 h2 (by simpa using h4)
      · rw [if_neg h3] at hf
        injection hf with e1 e2
        subst e1; subst e2
        exact char_end2 h hl h1 h2 (by omega)
    · rw [if_neg h2] at hf
      cases hf
  · rw [if_neg h1] at hf
    injection hf with e1 e2
    subst e1; subst e2
    exact char_end h (by omega)
end
end Go.Proofs.YtglolcejfbhbdaaGreat.P
end
section
namespace Go.Proofs.YtglolcejfbhbdaaGreat.P
open Go.RowKit Go.Shelf Go.Proofs.YtglolcejfbhbdaaGreatW.PrintWords Go.Proofs.YtglolcejfbhbdaaGreatW.PrintLast Go.Proofs.YtglolcejfbhbdaaGreatW.PrintMore
set_option linter.unusedVariables false
set_option linter.unusedSimpArgs false
section
variable {w0 : World} {g : Nat} {A : Option Addr} {c : Nat} {l : List Int} {i : Nat} {tv : Value} {w : World}
def tokV (t : S68) : Value := .agg #[.int .i64 t.f0, .int .i64 t.f1, .int .i64 t.f2, .int .i64 t.f3, .int .i64 t.f4]
def singleF (l : List Int) (i : Nat) : TP S68 :=
  match charF l i with
  | .ok a i' => .ok ⟨if a.2 = true then 12 else 1, a.1, 0, 0, (i : Int)⟩ i'
  | .bad a e => .bad a e
set_option maxRecDepth 100000 in
theorem single_ok (h : Tok w0 g A c l i tv w) (hl : l.length ≤ 1000000) {t : S68} {i' : Nat} (hf : singleF l i = .ok t i') :
    Calls Tryz.prog 83 #[.pointer (some ⟨g, 0, none⟩)] w (TokOk w0 g A c l i' tv w (tokV t)) := by
  unfold singleF at hf
  cases hc : charF l i with
  | bad a e => rw [hc] at hf; cases hf
  | ok a j =>
    rw [hc] at hf
    injection hf with e1 e2
    subst e1; subst e2
    have HT := Aside0.mk h
    obtain ⟨hc0, hc1, hf1⟩ := h.cells
    have hch := fun W (hW : Tok w0 g A c l i tv W) => char_ok (w := W) hW hl hc
    have hglt : g < w.heap.size := World.block_lt_of_cell? w _ hc1
    have hw0 : w0.heap.size ≤ w.heap.size := h.below.size
    clear h hc
    obtain ⟨ch, gr⟩ := a
    cases gr
    all_goals
      go_enter Tryz.func83, Tryz.ntmps83
      go_wp2_with fail
      refine (hch _ (HT.out.grow (below_alloc (below_alloc (Below.refl _ _) _) _))).mono ?_
      rintro e w1 ⟨rfl, hst, hk1⟩
      have hb1 := KeepBut.blk hk1 (blk_alloc (blk_new _ _) _) (by omega) (by simp)
      have hb2 := KeepBut.blk hk1 (blk_new _ _) (by simp; omega) (by simp)
      simp only [World.size_alloc] at hb2
      have z1 := blk_lt hb2
      have d0 := blk_cell hb1 0
      have d1 := blk_cell hb1 1
      have d2 := blk_cell hb1 2
      have d3 := blk_cell hb1 3
      have d4 := blk_cell hb1 4
      have e0 := blk_cell hb2 0
      have e1 := blk_cell hb2 1
      have e2 := blk_cell hb2 2
      have e3 := blk_cell hb2 3
      have e4 := blk_cell hb2 4
      simp at d0 d1 d2 d3 d4 e0 e1 e2 e3 e4
      have q1 := fun j => blk_frozen hb1 j
      have q2 := fun j => blk_frozen hb2 j
      have HS := Aside0.mk hst
      clear hb1 hb2 hst
      go_wp2
      refine bodyPost_ret (v := tokV ⟨_, ch, 0, 0, (i : Int)⟩) (by simp [results, Tryz.results83, go_sem, tokV, d0, d1, d2, d3, d4]) rfl ⟨rfl, ?_, ?_⟩
      · repeat (refine Tok.far ?_ _ (by simp; omega) (by simp; omega) _)
        exact HS.out
      · repeat (refine keepNew ?_ _ (by simp) _)
        exact keepTr (keepAlloc (keepAlloc (KeepBut.refl _ _ _) _) _) hk1
set_option maxRecDepth 100000 in
theorem single_bad (h : Tok w0 g A c l i tv w) (hl : l.length ≤ 1000000) {a e : Int} (hf : singleF l i = .bad a e) :
    Calls Tryz.prog 83 #[.pointer (some ⟨g, 0, none⟩)] w (TokBad w0 a e) := by
  unfold singleF at hf
  cases hc : charF l i with
  | ok a j => rw [hc] at hf; cases hf
  | bad a e =>
    rw [hc] at hf
    injection hf with e1 e2
    subst e1; subst e2
    have HT := Aside0.mk h
    obtain ⟨hc0, hc1, hf1⟩ := h.cells
    have hch := fun W (hW : Tok w0 g A c l i tv W) => char_bad (w := W) hW hl hc
    have hglt : g < w.heap.size := World.block_lt_of_cell? w _ hc1
    clear h hc
    go_enter Tryz.func83, Tryz.ntmps83
    go_wp2_with fail
    refine (hch _ (HT.out.grow (below_alloc (below_alloc (Below.refl _ _) _) _))).mono ?_
    rintro e w1 ⟨rfl, hst⟩
    exact ⟨rfl, rfl, hst⟩
end
end Go.Proofs.YtglolcejfbhbdaaGreat.P
end
section
namespace Go.Proofs.YtglolcejfbhbdaaGreat.P
open Go.RowKit Go.Shelf Go.Proofs.YtglolcejfbhbdaaGreatW.PrintWords Go.Proofs.YtglolcejfbhbdaaGreatW.PrintLast Go.Proofs.YtglolcejfbhbdaaGreatW.PrintMore
set_option linter.unusedVariables false
set_option linter.unusedSimpArgs false
section
variable {w0 : World} {g : Nat} {A : Option Addr} {c : Nat} {l : List Int} {i : Nat} {tv : Value} {w : World}
theorem Tok.charAt (h : Tok w0 g A c l i tv w) {j : Nat} (hi : j < l.length) : ∃ ad, A = some ad ∧ w.cell? (ad.add j) = some (.int .i64 (rd l j)) := by
  obtain ⟨ad, e1, hx⟩ := Kd.at_int h.reads (j : Int) (by omega) (by omega)
  replace hx := pw_cell_below h.below hx
  rw [Int.toNat_natCast] at hx
  exact ⟨ad, e1, hx⟩
def itemStop (l : List Int) (t : S68) (i : Nat) : Prop := t.f0 = 12 ∨ l.length ≤ i + 1 ∨ rd l (i : Nat) ≠ 45 ∨ rd l (i + 1 : Nat) = 93
instance (l : List Int) (t : S68) (i : Nat) : Decidable (itemStop l t i) := by unfold itemStop; infer_instance
def itemF (l : List Int) (i : Nat) : TP S68 :=
  match singleF l i with
  | .bad a e => .bad a e
  | .ok t j =>
    if itemStop l t j then .ok t j
    else match singleF l (j + 1) with
      | .bad a e => .bad a e
      | .ok u m => if u.f0 = 12 then .bad u.f4 7 else if u.f1 < t.f1 then .bad t.f4 7 else .ok ⟨9, 0, t.f1, u.f1, t.f4⟩ m
set_option maxRecDepth 100000 in
set_option maxHeartbeats 1000000 in
theorem item_1 (h : Tok w0 g A c l i tv w) (hl : l.length ≤ 1000000) {t : S68} {j : Nat} (hs : singleF l i = .ok t j) (hj : j ≤ l.length) (k1 : t.f0 = 12) :
    Calls Tryz.prog 85 #[.pointer (some ⟨g, 0, none⟩)] w (TokOk w0 g A c l j tv w (tokV t)) := by
    have HT := Aside0.mk h
    have hglt : g < w.heap.size := World.block_lt_of_cell? w _ h.cells.2.1
    have hw0 : w0.heap.size ≤ w.heap.size := h.below.size
    have hch := fun W (hW : Tok w0 g A c l i tv W) => single_ok (w := W) hW hl hs
    unfold tokV at hch
    clear h hs
    go_enter Tryz.func85, Tryz.ntmps85
    go_wp2_with fail
    refine (hch _ (HT.out.grow (below_alloc (Below.refl _ _) _))).mono ?_
    rintro e w1 ⟨rfl, hst, hk1⟩
    have hb1 := KeepBut.blk hk1 (blk_new _ _) (by omega) (by simp)
    have z1 := blk_lt hb1
    have d0 := blk_cell hb1 0
    have d1 := blk_cell hb1 1
    have d2 := blk_cell hb1 2
    have d3 := blk_cell hb1 3
    have d4 := blk_cell hb1 4
    simp at d0 d1 d2 d3 d4
    have q1 := fun j => blk_frozen hb1 j
    obtain ⟨hc0, hc1, hf1⟩ := hst.cells
    have b1 : (t.f0 == 12) = true := by rw [k1]; rfl
    clear k1
    have z2 := Nat.ne_of_lt z1
    have gw1 : g < w1.heap.size := blk_lt hst.blk
    have w1_ : IntKind.i64.wrap ((j : Int) + 1) = (j : Int) + 1 := IntWalk.i64_in _ (by omega)
    have w2_ : 0 ≤ (j : Int) + 1 := by omega
    have w3_ : ((j : Int) + 1).toNat = j + 1 := by omega
    have HS := Aside0.mk hst
    clear hst hb1
    go_wp2
    repeat (go_quiet (fail); try go_wp2)
    refine bodyPost_ret (v := tokV t) (by simp [results, Tryz.results85, go_sem, tokV, d0, d1, d2, d3, d4, z1, Nat.ne_of_lt z1]) rfl ⟨rfl, ?_, ?_⟩
    · repeat (refine Tok.far ?_ _ (by simp; omega) (by simp; omega) _)
      first | exact HS.out.grow (below_alloc (Below.refl _ _) _) | exact (HS.out.grow (below_alloc (Below.refl _ _) _)).drewN _ | exact (HS.out.grow (below_alloc (pw_below_drewN (Below.refl _ _) _) _))
    · repeat (refine keepNew ?_ _ (by simp) _)
      first
      | exact keepAlloc (keepTr (keepAlloc (KeepBut.refl _ _ _) _) hk1) _
      | exact keepTr (keepAlloc (keepTr (keepAlloc (KeepBut.refl _ _ _) _) hk1) _) (keepN _ _ _)
set_option maxRecDepth 100000 in
set_option maxHeartbeats 1000000 in
theorem item_2 (h : Tok w0 g A c l i tv w) (hl : l.length ≤ 1000000) {t : S68} {j : Nat} (hs : singleF l i = .ok t j) (hj : j ≤ l.length) (k1 : ¬ t.f0 = 12) (k2 : l.length ≤ j + 1) :
    Calls Tryz.prog 85 #[.pointer (some ⟨g, 0, none⟩)] w (TokOk w0 g A c l j tv w (tokV t)) := by
    have HT := Aside0.mk h
    have hglt : g < w.heap.size := World.block_lt_of_cell? w _ h.cells.2.1
    have hw0 : w0.heap.size ≤ w.heap.size := h.below.size
    have hch := fun W (hW : Tok w0 g A c l i tv W) => single_ok (w := W) hW hl hs
    unfold tokV at hch
    clear h hs
    go_enter Tryz.func85, Tryz.ntmps85
    go_wp2_with fail
    refine (hch _ (HT.out.grow (below_alloc (Below.refl _ _) _))).mono ?_
    rintro e w1 ⟨rfl, hst, hk1⟩
    have hb1 := KeepBut.blk hk1 (blk_new _ _) (by omega) (by simp)
    have z1 := blk_lt hb1
    have d0 := blk_cell hb1 0
    have d1 := blk_cell hb1 1
    have d2 := blk_cell hb1 2
    have d3 := blk_cell hb1 3
    have d4 := blk_cell hb1 4
    simp at d0 d1 d2 d3 d4
    have q1 := fun j => blk_frozen hb1 j
    obtain ⟨hc0, hc1, hf1⟩ := hst.cells
    have b1 : (t.f0 == 12) = false := beq_eq_false_iff_ne.2 k1
    have b2 : decide (l.length ≤ j + 1) = true := decide_eq_true k2
    have b2' : decide ((l.length : Int) ≤ (j : Int) + 1) = true := decide_eq_true (by omega)
    have z2 := Nat.ne_of_lt z1
    have gw1 : g < w1.heap.size := blk_lt hst.blk
    have w1_ : IntKind.i64.wrap ((j : Int) + 1) = (j : Int) + 1 := IntWalk.i64_in _ (by omega)
    have w2_ : 0 ≤ (j : Int) + 1 := by omega
    have w3_ : ((j : Int) + 1).toNat = j + 1 := by omega
    have HS := Aside0.mk hst
    clear hst hb1
    go_wp2
    repeat (go_quiet (fail); try go_wp2)
    refine bodyPost_ret (v := tokV t) (by simp [results, Tryz.results85, go_sem, tokV, d0, d1, d2, d3, d4, z1, Nat.ne_of_lt z1]) rfl ⟨rfl, ?_, ?_⟩
    · repeat (refine Tok.far ?_ _ (by simp; omega) (by simp; omega) _)
      first | exact HS.out.grow (below_alloc (Below.refl _ _) _) | exact (HS.out.grow (below_alloc (Below.refl _ _) _)).drewN _ | exact (HS.out.grow (below_alloc (pw_below_drewN (Below.refl _ _) _) _))
    · repeat (refine keepNew ?_ _ (by simp) _)
      first
      | exact keepAlloc (keepTr (keepAlloc (KeepBut.refl _ _ _) _) hk1) _
      | exact keepTr (keepAlloc (keepTr (keepAlloc (KeepBut.refl _ _ _) _) hk1) _) (keepN _ _ _)
set_option maxRecDepth 100000 in
set_option maxHeartbeats 1000000 in
theorem item_3 (h : Tok w0 g A c l i tv w) (hl : l.length ≤ 1000000) {t : S68} {j : Nat} (hs : singleF l i = .ok t j) (hj : j ≤ l.length) (k1 : ¬ t.f0 = 12) (k2 : ¬ l.length ≤ j + 1) (k3 : ¬ rd l (j : Nat) = 45) :
    Calls Tryz.prog 85 #[.pointer (some ⟨g, 0, none⟩)] w (TokOk w0 g A c l j tv w (tokV t)) := by
    have HT := Aside0.mk h
    have hglt : g < w.heap.size := World.block_lt_of_cell? w _ h.cells.2.1
    have hw0 : w0.heap.size ≤ w.heap.size := h.below.size
    have hch := fun W (hW : Tok w0 g A c l i tv W) => single_ok (w := W) hW hl hs
    unfold tokV at hch
    clear h hs
    go_enter Tryz.func85, Tryz.ntmps85
    go_wp2_with fail
    refine (hch _ (HT.out.grow (below_alloc (Below.refl _ _) _))).mono ?_
    rintro e w1 ⟨rfl, hst, hk1⟩
    have hb1 := KeepBut.blk hk1 (blk_new _ _) (by omega) (by simp)
    have z1 := blk_lt hb1
    have d0 := blk_cell hb1 0
    have d1 := blk_cell hb1 1
    have d2 := blk_cell hb1 2
    have d3 := blk_cell hb1 3
    have d4 := blk_cell hb1 4
    simp at d0 d1 d2 d3 d4
    have q1 := fun j => blk_frozen hb1 j
    obtain ⟨hc0, hc1, hf1⟩ := hst.cells
    have b1 : (t.f0 == 12) = false := beq_eq_false_iff_ne.2 k1
    have b2 : decide (l.length ≤ j + 1) = false := decide_eq_false k2
    have b2' : decide ((l.length : Int) ≤ (j : Int) + 1) = false := decide_eq_false (by omega)
    obtain ⟨ad, e1, hx⟩ := hst.char_ (show j < l.length by omega)
    cases e1
    have j1 : (j : Int) < (l.length : Int) := by omega
    have aw1 := World.block_lt_of_cell? w1 _ hx
    have b3 : (rd l (j : Nat) != 45) = true := bne_iff_ne.2 k3
    clear k3
    generalize rd l (j : Nat) = y at *
    have z2 := Nat.ne_of_lt z1
    have gw1 : g < w1.heap.size := blk_lt hst.blk
    have w1_ : IntKind.i64.wrap ((j : Int) + 1) = (j : Int) + 1 := IntWalk.i64_in _ (by omega)
    have w2_ : 0 ≤ (j : Int) + 1 := by omega
    have w3_ : ((j : Int) + 1).toNat = j + 1 := by omega
    have HS := Aside0.mk hst
    clear hst hb1
    go_wp2
    repeat (go_quiet (fail); try go_wp2)
    refine bodyPost_ret (v := tokV t) (by simp [results, Tryz.results85, go_sem, tokV, d0, d1, d2, d3, d4, z1, Nat.ne_of_lt z1]) rfl ⟨rfl, ?_, ?_⟩
    · repeat (refine Tok.far ?_ _ (by simp; omega) (by simp; omega) _)
      first | exact HS.out.grow (below_alloc (Below.refl _ _) _) | exact (HS.out.grow (below_alloc (Below.refl _ _) _)).drewN _ | exact (HS.out.grow (below_alloc (pw_below_drewN (Below.refl _ _) _) _))
    · repeat (refine keepNew ?_ _ (by simp) _)
      first
      | exact keepAlloc (keepTr (keepAlloc (KeepBut.refl _ _ _) _) hk1) _
      | exact keepTr (keepAlloc (keepTr (keepAlloc (KeepBut.refl _ _ _) _) hk1) _) (keepN _ _ _)
set_option maxRecDepth 100000 in
set_option maxHeartbeats 1000000 in
theorem item_4 (h : Tok w0 g A c l i tv w) (hl : l.length ≤ 1000000) {t : S68} {j : Nat} (hs : singleF l i = .ok t j) (hj : j ≤ l.length) (k1 : ¬ t.f0 = 12) (k2 : ¬ l.length ≤ j + 1) (k3 : rd l (j : Nat) = 45) (k4 : rd l (j + 1 : Nat) = 93) :
    Calls Tryz.prog 85 #[.pointer (some ⟨g, 0, none⟩)] w (TokOk w0 g A c l j tv w (tokV t)) := by
    have HT := Aside0.mk h
    have hglt : g < w.heap.size := World.block_lt_of_cell? w _ h.cells.2.1
    have hw0 : w0.heap.size ≤ w.heap.size := h.below.size
    have hch := fun W (hW : Tok w0 g A c l i tv W) => single_ok (w := W) hW hl hs
    unfold tokV at hch
    clear h hs
    go_enter Tryz.func85, Tryz.ntmps85
    go_wp2_with fail
    refine (hch _ (HT.out.grow (below_alloc (Below.refl _ _) _))).mono ?_
    rintro e w1 ⟨rfl, hst, hk1⟩
    have hb1 := KeepBut.blk hk1 (blk_new _ _) (by omega) (by simp)
    have z1 := blk_lt hb1
    have d0 := blk_cell hb1 0
    have d1 := blk_cell hb1 1
    have d2 := blk_cell hb1 2
    have d3 := blk_cell hb1 3
    have d4 := blk_cell hb1 4
    simp at d0 d1 d2 d3 d4
    have q1 := fun j => blk_frozen hb1 j
    obtain ⟨hc0, hc1, hf1⟩ := hst.cells
    have b1 : (t.f0 == 12) = false := beq_eq_false_iff_ne.2 k1
    have b2 : decide (l.length ≤ j + 1) = false := decide_eq_false k2
    have b2' : decide ((l.length : Int) ≤ (j : Int) + 1) = false := decide_eq_false (by omega)
    obtain ⟨ad, e1, hx⟩ := hst.char_ (show j < l.length by omega)
    cases e1
    obtain ⟨ad', e1', hx2⟩ := Tok.charAt hst (show j + 1 < l.length by omega)
    injection e1' with e1'
    subst e1'
    have j1 : (j : Int) < (l.length : Int) := by omega
    have aw1 := World.block_lt_of_cell? w1 _ hx
    have j2 : (j : Int) + 1 < (l.length : Int) := by omega
    have aw2 := World.block_lt_of_cell? w1 _ hx2
    have b3 : (rd l (j : Nat) != 45) = false := bne_eq_false_iff_eq.2 k3
    have b4 : (rd l (j + 1 : Nat) == 93) = true := by rw [k4]; rfl
    clear k3
    generalize rd l (j : Nat) = y at *
    have hx3 : w1.cell? ⟨ad.block, ad.off + (j + 1), none⟩ = some (.int .i64 (rd l (j + 1 : Nat))) := by have := hx2; simpa [Addr.add] using this
    have aw3 : ad.block < w1.heap.size := World.block_lt_of_cell? w1 ⟨ad.block, ad.off + (j + 1), none⟩ hx3
    clear k4
    generalize rd l (j + 1 : Nat) = y2 at *
    have z2 := Nat.ne_of_lt z1
    have gw1 : g < w1.heap.size := blk_lt hst.blk
    have w1_ : IntKind.i64.wrap ((j : Int) + 1) = (j : Int) + 1 := IntWalk.i64_in _ (by omega)
    have w2_ : 0 ≤ (j : Int) + 1 := by omega
    have w3_ : ((j : Int) + 1).toNat = j + 1 := by omega
    have HS := Aside0.mk hst
    clear hst hb1
    go_wp2
    repeat (go_quiet (fail); try go_wp2)
    refine bodyPost_ret (v := tokV t) (by simp [results, Tryz.results85, go_sem, tokV, d0, d1, d2, d3, d4, z1, Nat.ne_of_lt z1]) rfl ⟨rfl, ?_, ?_⟩
    · repeat (refine Tok.far ?_ _ (by simp; omega) (by simp; omega) _)
      first | exact HS.out.grow (below_alloc (Below.refl _ _) _) | exact (HS.out.grow (below_alloc (Below.refl _ _) _)).drewN _ | exact (HS.out.grow (below_alloc (pw_below_drewN (Below.refl _ _) _) _))
    · repeat (refine keepNew ?_ _ (by simp) _)
      first
      | exact keepAlloc (keepTr (keepAlloc (KeepBut.refl _ _ _) _) hk1) _
      | exact keepTr (keepAlloc (keepTr (keepAlloc (KeepBut.refl _ _ _) _) hk1) _) (keepN _ _ _)
end
end Go.Proofs.YtglolcejfbhbdaaGreat.P
end
section
namespace Go.Proofs.YtglolcejfbhbdaaGreat.P
open Go.RowKit Go.Shelf Go.Proofs.YtglolcejfbhbdaaGreatW.PrintWords Go.Proofs.YtglolcejfbhbdaaGreatW.PrintLast Go.Proofs.YtglolcejfbhbdaaGreatW.PrintMore
set_option linter.unusedVariables false
set_option linter.unusedSimpArgs false
section
variable {w0 : World} {g : Nat} {A : Option Addr} {c : Nat} {l : List Int} {i : Nat} {tv : Value} {w : World}
set_option maxRecDepth 100000 in
theorem item_0 (h : Tok w0 g A c l i tv w) (hl : l.length ≤ 1000000) {a e : Int} (hs : singleF l i = .bad a e) :
    Calls Tryz.prog 85 #[.pointer (some ⟨g, 0, none⟩)] w (TokBad w0 a e) := by
    have HT := Aside0.mk h
    have hch := fun W (hW : Tok w0 g A c l i tv W) => single_bad (w := W) hW hl hs
    clear h hs
    go_enter Tryz.func85, Tryz.ntmps85
    go_wp2_with fail
    refine (hch _ (HT.out.grow (below_alloc (Below.refl _ _) _))).mono ?_
    rintro e w1 ⟨rfl, hst⟩
    exact ⟨rfl, rfl, hst⟩
set_option maxRecDepth 100000 in
set_option maxHeartbeats 2000000 in
theorem item_5a (h : Tok w0 g A c l i tv w) (hl : l.length ≤ 1000000) {t : S68} {j : Nat} (hs : singleF l i = .ok t j) (hj : j ≤ l.length) (k1 : ¬ t.f0 = 12) (k2 : ¬ l.length ≤ j + 1) (k3 : rd l (j : Nat) = 45) (k4 : ¬ rd l (j + 1 : Nat) = 93) {a e : Int} (hs2 : singleF l (j + 1) = .bad a e) :
    Calls Tryz.prog 85 #[.pointer (some ⟨g, 0, none⟩)] w (TokBad w0 a e) := by
    have HT := Aside0.mk h
    have hglt : g < w.heap.size := World.block_lt_of_cell? w _ h.cells.2.1
    have hw0 : w0.heap.size ≤ w.heap.size := h.below.size
    have hch := fun W (hW : Tok w0 g A c l i tv W) => single_ok (w := W) hW hl hs
    unfold tokV at hch
    have hch2 := fun W (hW : Tok w0 g A c l (j + 1) tv W) => single_bad (w := W) hW hl hs2
    clear h hs hs2
    go_enter Tryz.func85, Tryz.ntmps85
    go_wp2_with fail
    refine (hch _ (HT.out.grow (below_alloc (Below.refl _ _) _))).mono ?_
    rintro e w1 ⟨rfl, hst, hk1⟩
    have hb1 := KeepBut.blk hk1 (blk_new _ _) (by omega) (by simp)
    have z1 := blk_lt hb1
    have d0 := blk_cell hb1 0
    have d1 := blk_cell hb1 1
    have d2 := blk_cell hb1 2
    have d3 := blk_cell hb1 3
    have d4 := blk_cell hb1 4
    simp at d0 d1 d2 d3 d4
    have q1 := fun j => blk_frozen hb1 j
    obtain ⟨hc0, hc1, hf1⟩ := hst.cells
    have b1 : (t.f0 == 12) = false := beq_eq_false_iff_ne.2 k1
    have b2 : decide (l.length ≤ j + 1) = false := decide_eq_false k2
    have b2' : decide ((l.length : Int) ≤ (j : Int) + 1) = false := decide_eq_false (by omega)
    obtain ⟨ad, e1, hx⟩ := hst.char_ (show j < l.length by omega)
    cases e1
    obtain ⟨ad', e1', hx2⟩ := Tok.charAt hst (show j + 1 < l.length by omega)
    injection e1' with e1'
    subst e1'
    have j1 : (j : Int) < (l.length : Int) := by omega
    have aw1 := World.block_lt_of_cell? w1 _ hx
    have j2 : (j : Int) + 1 < (l.length : Int) := by omega
    have aw2 := World.block_lt_of_cell? w1 _ hx2
    have b3 : (rd l (j : Nat) != 45) = false := bne_eq_false_iff_eq.2 k3
    have b4 : (rd l (j + 1 : Nat) == 93) = false := beq_eq_false_iff_ne.2 k4
    clear k3
    generalize rd l (j : Nat) = y at *
    have hx3 : w1.cell? ⟨ad.block, ad.off + (j + 1), none⟩ = some (.int .i64 (rd l (j + 1 : Nat))) := by have := hx2; simpa [Addr.add] using this
    have aw3 : ad.block < w1.heap.size := World.block_lt_of_cell? w1 ⟨ad.block, ad.off + (j + 1), none⟩ hx3
    clear k4
    generalize rd l (j + 1 : Nat) = y2 at *
    have z2 := Nat.ne_of_lt z1
    have gw1 : g < w1.heap.size := blk_lt hst.blk
    have w1_ : IntKind.i64.wrap ((j : Int) + 1) = (j : Int) + 1 := IntWalk.i64_in _ (by omega)
    have w2_ : 0 ≤ (j : Int) + 1 := by omega
    have w3_ : ((j : Int) + 1).toNat = j + 1 := by omega
    have HS := Aside0.mk hst
    clear hst
    go_wp2
    go_quiet (fail)
    go_wp2_with fail
    refine (hch2 _ (((HS.out.grow (below_alloc (Below.refl _ _) _)).drewN _).set1 (j + 1))).mono ?_
    rintro e w2 ⟨rfl, hst2⟩
    exact ⟨rfl, rfl, hst2⟩
set_option maxRecDepth 100000 in
set_option maxHeartbeats 2000000 in
theorem item_5b (h : Tok w0 g A c l i tv w) (hl : l.length ≤ 1000000) {t : S68} {j : Nat} (hs : singleF l i = .ok t j) (hj : j ≤ l.length) (k1 : ¬ t.f0 = 12) (k2 : ¬ l.length ≤ j + 1) (k3 : rd l (j : Nat) = 45) (k4 : ¬ rd l (j + 1 : Nat) = 93) {u : S68} {m : Nat} (hs2 : singleF l (j + 1) = .ok u m) (k5 : u.f0 = 12) :
    Calls Tryz.prog 85 #[.pointer (some ⟨g, 0, none⟩)] w (TokBad w0 u.f4 7) := by
    have HT := Aside0.mk h
    have hglt : g < w.heap.size := World.block_lt_of_cell? w _ h.cells.2.1
    have hw0 : w0.heap.size ≤ w.heap.size := h.below.size
    have hch := fun W (hW : Tok w0 g A c l i tv W) => single_ok (w := W) hW hl hs
    unfold tokV at hch
    have hch2 := fun W (hW : Tok w0 g A c l (j + 1) tv W) => single_ok (w := W) hW hl hs2
    unfold tokV at hch2
    clear h hs hs2
    go_enter Tryz.func85, Tryz.ntmps85
    go_wp2_with fail
    refine (hch _ (HT.out.grow (below_alloc (Below.refl _ _) _))).mono ?_
    rintro e w1 ⟨rfl, hst, hk1⟩
    have hb1 := KeepBut.blk hk1 (blk_new _ _) (by omega) (by simp)
    have z1 := blk_lt hb1
    have d0 := blk_cell hb1 0
    have d1 := blk_cell hb1 1
    have d2 := blk_cell hb1 2
    have d3 := blk_cell hb1 3
    have d4 := blk_cell hb1 4
    simp at d0 d1 d2 d3 d4
    have q1 := fun j => blk_frozen hb1 j
    obtain ⟨hc0, hc1, hf1⟩ := hst.cells
    have b1 : (t.f0 == 12) = false := beq_eq_false_iff_ne.2 k1
    have b2 : decide (l.length ≤ j + 1) = false := decide_eq_false k2
    have b2' : decide ((l.length : Int) ≤ (j : Int) + 1) = false := decide_eq_false (by omega)
    obtain ⟨ad, e1, hx⟩ := hst.char_ (show j < l.length by omega)
    cases e1
    obtain ⟨ad', e1', hx2⟩ := Tok.charAt hst (show j + 1 < l.length by omega)
    injection e1' with e1'
    subst e1'
    have j1 : (j : Int) < (l.length : Int) := by omega
    have aw1 := World.block_lt_of_cell? w1 _ hx
    have j2 : (j : Int) + 1 < (l.length : Int) := by omega
    have aw2 := World.block_lt_of_cell? w1 _ hx2
    have b3 : (rd l (j : Nat) != 45) = false := bne_eq_false_iff_eq.2 k3
    have b4 : (rd l (j + 1 : Nat) == 93) = false := beq_eq_false_iff_ne.2 k4
    clear k3
    generalize rd l (j : Nat) = y at *
    have hx3 : w1.cell? ⟨ad.block, ad.off + (j + 1), none⟩ = some (.int .i64 (rd l (j + 1 : Nat))) := by have := hx2; simpa [Addr.add] using this
    have aw3 : ad.block < w1.heap.size := World.block_lt_of_cell? w1 ⟨ad.block, ad.off + (j + 1), none⟩ hx3
    clear k4
    generalize rd l (j + 1 : Nat) = y2 at *
    have z2 := Nat.ne_of_lt z1
    have gw1 : g < w1.heap.size := blk_lt hst.blk
    have w1_ : IntKind.i64.wrap ((j : Int) + 1) = (j : Int) + 1 := IntWalk.i64_in _ (by omega)
    have w2_ : 0 ≤ (j : Int) + 1 := by omega
    have w3_ : ((j : Int) + 1).toNat = j + 1 := by omega
    have HS := Aside0.mk hst
    clear hst
    go_wp2
    go_quiet (fail)
    go_wp2_with fail
    refine (hch2 _ (((HS.out.grow (below_alloc (Below.refl _ _) _)).drewN _).set1 (j + 1))).mono ?_
    rintro e w2 ⟨rfl, hst2, hk2⟩
    have hk3 := keepTr (keepTr (keepAlloc hk1 _) (keepN _ _ _)) (keepTr ((KeepBut.refl _ _ _).set_ _ _) hk2)
    have hb2 := KeepBut.blk hk3 (blk_new _ _) (by omega) (by simp)
    have hk4 := keepTr (keepN _ _ _) (keepTr ((KeepBut.refl _ _ _).set_ _ _) hk2)
    have hb3 := KeepBut.blk hk4 (blk_new _ _) (by omega) (by simp)
    have z3 := blk_lt hb2
    have z4 := blk_lt hb3
    have z5 := Nat.ne_of_lt z3
    have z6 := Nat.ne_of_lt z4
    clear d0 d1 d2 d3 d4 q1
    have d0 := blk_cell hb2 0
    have d1 := blk_cell hb2 1
    have d2 := blk_cell hb2 2
    have d3 := blk_cell hb2 3
    have d4 := blk_cell hb2 4
    have f0 := blk_cell hb3 0
    have f1 := blk_cell hb3 1
    have f2 := blk_cell hb3 2
    have f3 := blk_cell hb3 3
    have f4 := blk_cell hb3 4
    simp at d0 d1 d2 d3 d4 f0 f1 f2 f3 f4
    have q1 := fun j => blk_frozen hb2 j
    have gw2 : g < w2.heap.size := blk_lt hst2.blk
    have HS2 := Aside0.mk hst2
    clear hst2 hb1 hb2 hb3 hc0 hc1 hf1
    have b5 : (u.f0 == 12) = true := by rw [k5]; rfl
    clear k5
    go_wp2
    exact ⟨rfl, rfl, (HS2.out.grow (below_alloc (Below.refl _ _) _)).below⟩
set_option maxRecDepth 100000 in
set_option maxHeartbeats 2000000 in
theorem item_5c (h : Tok w0 g A c l i tv w) (hl : l.length ≤ 1000000) {t : S68} {j : Nat} (hs : singleF l i = .ok t j) (hj : j ≤ l.length) (k1 : ¬ t.f0 = 12) (k2 : ¬ l.length ≤ j + 1) (k3 : rd l (j : Nat) = 45) (k4 : ¬ rd l (j + 1 : Nat) = 93) {u : S68} {m : Nat} (hs2 : singleF l (j + 1) = .ok u m) (k5 : ¬ u.f0 = 12) (k6 : u.f1 < t.f1) :
    Calls Tryz.prog 85 #[.pointer (some ⟨g, 0, none⟩)] w (TokBad w0 t.f4 7) := by
    have HT := Aside0.mk h
    have hglt : g < w.heap.size := World.block_lt_of_cell? w _ h.cells.2.1
    have hw0 : w0.heap.size ≤ w.heap.size := h.below.size
    have hch := fun W (hW : Tok w0 g A c l i tv W) => single_ok (w := W) hW hl hs
    unfold tokV at hch
    have hch2 := fun W (hW : Tok w0 g A c l (j + 1) tv W) => single_ok (w := W) hW hl hs2
    unfold tokV at hch2
    clear h hs hs2
    go_enter Tryz.func85, Tryz.ntmps85
    go_wp2_with fail
    refine (hch _ (HT.out.grow (below_alloc (Below.refl _ _) _))).mono ?_
    rintro e w1 ⟨rfl, hst, hk1⟩
    have hb1 := KeepBut.blk hk1 (blk_new _ _) (by omega) (by simp)
    have z1 := blk_lt hb1
    have d0 := blk_cell hb1 0
    have d1 := blk_cell hb1 1
    have d2 := blk_cell hb1 2
    have d3 := blk_cell hb1 3
    have d4 := blk_cell hb1 4
    simp at d0 d1 d2 d3 d4
    have q1 := fun j => blk_frozen hb1 j
    obtain ⟨hc0, hc1, hf1⟩ := hst.cells
    have b1 : (t.f0 == 12) = false := beq_eq_false_iff_ne.2 k1
    have b2 : decide (l.length ≤ j + 1) = false := decide_eq_false k2
    have b2' : decide ((l.length : Int) ≤ (j : Int) + 1) = false := decide_eq_false (by omega)
    obtain ⟨ad, e1, hx⟩ := hst.char_ (show j < l.length by omega)
    cases e1
    obtain ⟨ad', e1', hx2⟩ := Tok.charAt hst (show j + 1 < l.length by omega)
    injection e1' with e1'
    subst e1'
    have j1 : (j : Int) < (l.length : Int) := by omega
    have aw1 := World.block_lt_of_cell? w1 _ hx
    have j2 : (j : Int) + 1 < (l.length : Int) := by omega
    have aw2 := World.block_lt_of_cell? w1 _ hx2
    have b3 : (rd l (j : Nat) != 45) = false := bne_eq_false_iff_eq.2 k3
    have b4 : (rd l (j + 1 : Nat) == 93) = false := beq_eq_false_iff_ne.2 k4
    clear k3
    generalize rd l (j : Nat) = y at *
    have hx3 : w1.cell? ⟨ad.block, ad.off + (j + 1), none⟩ = some (.int .i64 (rd l (j + 1 : Nat))) := by have := hx2; simpa [Addr.add] using this
    have aw3 : ad.block < w1.heap.size := World.block_lt_of_cell? w1 ⟨ad.block, ad.off + (j + 1), none⟩ hx3
    clear k4
    generalize rd l (j + 1 : Nat) = y2 at *
    have z2 := Nat.ne_of_lt z1
    have gw1 : g < w1.heap.size := blk_lt hst.blk
    have w1_ : IntKind.i64.wrap ((j : Int) + 1) = (j : Int) + 1 := IntWalk.i64_in _ (by omega)
    have w2_ : 0 ≤ (j : Int) + 1 := by omega
    have w3_ : ((j : Int) + 1).toNat = j + 1 := by omega
    have HS := Aside0.mk hst
    clear hst
    go_wp2
    go_quiet (fail)
    go_wp2_with fail
    refine (hch2 _ (((HS.out.grow (below_alloc (Below.refl _ _) _)).drewN _).set1 (j + 1))).mono ?_
    rintro e w2 ⟨rfl, hst2, hk2⟩
    have hk3 := keepTr (keepTr (keepAlloc hk1 _) (keepN _ _ _)) (keepTr ((KeepBut.refl _ _ _).set_ _ _) hk2)
    have hb2 := KeepBut.blk hk3 (blk_new _ _) (by omega) (by simp)
    have hk4 := keepTr (keepN _ _ _) (keepTr ((KeepBut.refl _ _ _).set_ _ _) hk2)
    have hb3 := KeepBut.blk hk4 (blk_new _ _) (by omega) (by simp)
    have z3 := blk_lt hb2
    have z4 := blk_lt hb3
    have z5 := Nat.ne_of_lt z3
    have z6 := Nat.ne_of_lt z4
    clear d0 d1 d2 d3 d4 q1
    have d0 := blk_cell hb2 0
    have d1 := blk_cell hb2 1
    have d2 := blk_cell hb2 2
    have d3 := blk_cell hb2 3
    have d4 := blk_cell hb2 4
    have f0 := blk_cell hb3 0
    have f1 := blk_cell hb3 1
    have f2 := blk_cell hb3 2
    have f3 := blk_cell hb3 3
    have f4 := blk_cell hb3 4
    simp at d0 d1 d2 d3 d4 f0 f1 f2 f3 f4
    have q1 := fun j => blk_frozen hb2 j
    have gw2 : g < w2.heap.size := blk_lt hst2.blk
    have HS2 := Aside0.mk hst2
    clear hst2 hb1 hb2 hb3 hc0 hc1 hf1
    have b5 : (u.f0 == 12) = false := beq_eq_false_iff_ne.2 k5
    have b6 : decide (u.f1 < t.f1) = true := decide_eq_true k6
    clear k5 k6
    go_wp2
    exact ⟨rfl, rfl, (HS2.out.grow (below_alloc (Below.refl _ _) _)).below⟩
end
end Go.Proofs.YtglolcejfbhbdaaGreat.P
end
section
namespace Go.Proofs.YtglolcejfbhbdaaGreat.P
open Go.RowKit Go.Shelf Go.Proofs.YtglolcejfbhbdaaGreatW.PrintWords Go.Proofs.YtglolcejfbhbdaaGreatW.PrintLast Go.Proofs.YtglolcejfbhbdaaGreatW.PrintMore
set_option linter.unusedVariables false
set_option linter.unusedSimpArgs false
section
variable {w0 : World} {g : Nat} {A : Option Addr} {c : Nat} {l : List Int} {i : Nat} {tv : Value} {w : World}
set_option maxRecDepth 100000 in
set_option maxHeartbeats 2000000 in
theorem item_5d (h : Tok w0 g A c l i tv w) (hl : l.length ≤ 1000000) {t : S68} {j : Nat} (hs : singleF l i = .ok t j) (hj : j ≤ l.length) (k1 : ¬ t.f0 = 12) (k2 : ¬ l.length ≤ j + 1) (k3 : rd l (j : Nat) = 45) (k4 : ¬ rd l (j + 1 : Nat) = 93) {u : S68} {m : Nat} (hs2 : singleF l (j + 1) = .ok u m) (k5 : ¬ u.f0 = 12) (k6 : ¬ u.f1 < t.f1) :
    Calls Tryz.prog 85 #[.pointer (some ⟨g, 0, none⟩)] w (TokOk w0 g A c l m tv w (tokV ⟨9, 0, t.f1, u.f1, t.f4⟩)) := by
    have HT := Aside0.mk h
    have hglt : g < w.heap.size := World.block_lt_of_cell? w _ h.cells.2.1
    have hw0 : w0.heap.size ≤ w.heap.size := h.below.size
    have hch := fun W (hW : Tok w0 g A c l i tv W) => single_ok (w := W) hW hl hs
    unfold tokV at hch
    have hch2 := fun W (hW : Tok w0 g A c l (j + 1) tv W) => single_ok (w := W) hW hl hs2
    unfold tokV at hch2
    clear h hs hs2
    go_enter Tryz.func85, Tryz.ntmps85
    go_wp2_with fail
    refine (hch _ (HT.out.grow (below_alloc (Below.refl _ _) _))).mono ?_
    rintro e w1 ⟨rfl, hst, hk1⟩
    have hb1 := KeepBut.blk hk1 (blk_new _ _) (by omega) (by simp)
    have z1 := blk_lt hb1
    have d0 := blk_cell hb1 0
    have d1 := blk_cell hb1 1
    have d2 := blk_cell hb1 2
    have d3 := blk_cell hb1 3
    have d4 := blk_cell hb1 4
    simp at d0 d1 d2 d3 d4
    have q1 := fun j => blk_frozen hb1 j
    obtain ⟨hc0, hc1, hf1⟩ := hst.cells
    have b1 : (t.f0 == 12) = false := beq_eq_false_iff_ne.2 k1
    have b2 : decide (l.length ≤ j + 1) = false := decide_eq_false k2
    have b2' : decide ((l.length : Int) ≤ (j : Int) + 1) = false := decide_eq_false (by omega)
    obtain ⟨ad, e1, hx⟩ := hst.char_ (show j < l.length by omega)
    cases e1
    obtain ⟨ad', e1', hx2⟩ := Tok.charAt hst (show j + 1 < l.length by omega)
    injection e1' with e1'
    subst e1'
    have j1 : (j : Int) < (l.length : Int) := by omega
    have aw1 := World.block_lt_of_cell? w1 _ hx
    have j2 : (j : Int) + 1 < (l.length : Int) := by omega
    have aw2 := World.block_lt_of_cell? w1 _ hx2
    have b3 : (rd l (j : Nat) != 45) = false := bne_eq_false_iff_eq.2 k3
    have b4 : (rd l (j + 1 : Nat) == 93) = false := beq_eq_false_iff_ne.2 k4
    clear k3
    generalize rd l (j : Nat) = y at *
    have hx3 : w1.cell? ⟨ad.block, ad.off + (j + 1), none⟩ = some (.int .i64 (rd l (j + 1 : Nat))) := by have := hx2; simpa [Addr.add] using this
    have aw3 : ad.block < w1.heap.size := World.block_lt_of_cell? w1 ⟨ad.block, ad.off + (j + 1), none⟩ hx3
    clear k4
    generalize rd l (j + 1 : Nat) = y2 at *
    have z2 := Nat.ne_of_lt z1
    have gw1 : g < w1.heap.size := blk_lt hst.blk
    have w1_ : IntKind.i64.wrap ((j : Int) + 1) = (j : Int) + 1 := IntWalk.i64_in _ (by omega)
    have w2_ : 0 ≤ (j : Int) + 1 := by omega
    have w3_ : ((j : Int) + 1).toNat = j + 1 := by omega
    have HS := Aside0.mk hst
    clear hst
    go_wp2
    go_quiet (fail)
    go_wp2_with fail
    refine (hch2 _ (((HS.out.grow (below_alloc (Below.refl _ _) _)).drewN _).set1 (j + 1))).mono ?_
    rintro e w2 ⟨rfl, hst2, hk2⟩
    have hk3 := keepTr (keepTr (keepAlloc hk1 _) (keepN _ _ _)) (keepTr ((KeepBut.refl _ _ _).set_ _ _) hk2)
    have hb2 := KeepBut.blk hk3 (blk_new _ _) (by omega) (by simp)
    have hk4 := keepTr (keepN _ _ _) (keepTr ((KeepBut.refl _ _ _).set_ _ _) hk2)
    have hb3 := KeepBut.blk hk4 (blk_new _ _) (by omega) (by simp)
    have z3 := blk_lt hb2
    have z4 := blk_lt hb3
    have z5 := Nat.ne_of_lt z3
    have z6 := Nat.ne_of_lt z4
    clear d0 d1 d2 d3 d4 q1
    have d0 := blk_cell hb2 0
    have d1 := blk_cell hb2 1
    have d2 := blk_cell hb2 2
    have d3 := blk_cell hb2 3
    have d4 := blk_cell hb2 4
    have f0 := blk_cell hb3 0
    have f1 := blk_cell hb3 1
    have f2 := blk_cell hb3 2
    have f3 := blk_cell hb3 3
    have f4 := blk_cell hb3 4
    simp at d0 d1 d2 d3 d4 f0 f1 f2 f3 f4
    have q1 := fun j => blk_frozen hb2 j
    have gw2 : g < w2.heap.size := blk_lt hst2.blk
    have HS2 := Aside0.mk hst2
    clear hst2 hb1 hb2 hb3 hc0 hc1 hf1
    have b5 : (u.f0 == 12) = false := beq_eq_false_iff_ne.2 k5
    have b6 : decide (u.f1 < t.f1) = false := decide_eq_false (by omega)
    clear k5 k6
    go_wp2
    repeat (go_quiet (fail); try go_wp2)
    refine bodyPost_ret (v := tokV ⟨9, 0, t.f1, u.f1, t.f4⟩) ?_ ?_ ?_
    · simp [results, Tryz.results85, go_sem, tokV, d0, d1, d2, d3, d4, z3, z5]
    · rfl
    · refine ⟨rfl, ?_, ?_⟩
      · refine Tok.grow ?_ (below_alloc (Below.refl _ _) _)
        iterate 5 (refine Tok.far ?_ _ (by simp; omega) (by simp; omega) _)
        exact HS2.out
      · refine keepAlloc ?_ _
        iterate 5 (refine keepNew ?_ _ (by simp) _)
        exact keepTr (keepAlloc (KeepBut.refl _ _ _) _) hk3
theorem charF_le {l : List Int} {i : Nat} {a : Int × Bool} {j : Nat} (h : charF l i = .ok a j) : i < j ∧ j ≤ l.length := by
  unfold charF at h
  split at h
  · split at h
    · split at h
      · split at h
        · injection h with _ e; omega
        · cases h
      · cases h
    · injection h with _ e; omega
  · cases h
theorem singleF_le {l : List Int} {i : Nat} {t : S68} {j : Nat} (h : singleF l i = .ok t j) : i < j ∧ j ≤ l.length := by
  unfold singleF at h
  cases hc : charF l i with
  | bad a e => rw [hc] at h; cases h
  | ok a m =>
    rw [hc] at h
    injection h with _ e
    subst e
    exact charF_le hc
theorem itemF_le {l : List Int} {i : Nat} {t : S68} {j : Nat} (h : itemF l i = .ok t j) : i < j ∧ j ≤ l.length := by
  unfold itemF at h
  cases hc : singleF l i with
  | bad a e => rw [hc] at h; cases h
  | ok t' m =>
    rw [hc] at h
    have := singleF_le hc
    dsimp only at h
    split at h
    · injection h with _ e; omega
    · cases hd : singleF l (m + 1) with
      | bad a e => rw [hd] at h; cases h
      | ok u n =>
        rw [hd] at h
        have := singleF_le hd
        dsimp only at h
        split at h
        · cases h
        · split at h
          · cases h
          · injection h with _ e; omega
theorem item_ok (h : Tok w0 g A c l i tv w) (hl : l.length ≤ 1000000) {t : S68} {j : Nat} (hf : itemF l i = .ok t j) :
    Calls Tryz.prog 85 #[.pointer (some ⟨g, 0, none⟩)] w (TokOk w0 g A c l j tv w (tokV t)) := by
  unfold itemF at hf
  cases hc : singleF l i with
  | bad a e => rw [hc] at hf; cases hf
  | ok t' m =>
    rw [hc] at hf
    have hle := singleF_le hc
    dsimp only at hf
    by_cases k1 : t'.f0 = 12
    · rw [if_pos (show itemStop l t' m from Or.inl k1)] at hf
      injection hf with e1 e2
      subst e1; subst e2
      exact item_1 h hl hc hle.2 k1
    · by_cases k2 : l.length ≤ m + 1
      · rw [if_pos (show itemStop l t' m from Or.inr (Or.inl k2))] at hf
        injection hf with e1 e2
        subst e1; subst e2
        exact item_2 h hl hc hle.2 k1 k2
      · by_cases k3 : rd l (m : Nat) = 45
        · by_cases k4 : rd l (m + 1 : Nat) = 93
          · rw [if_pos (show itemStop l t' m from Or.inr (Or.inr (Or.inr k4)))] at hf
            injection hf with e1 e2
            subst e1; subst e2
            exact item_4 h hl hc hle.2 k1 k2 k3 k4
          · have hn : ¬ itemStop l t' m := by
              rintro (h1 | h1 | h1 | h1)
              · exact k1 h1
              · exact k2 h1
              · exact h1 k3
              · exact k4 h1
            rw [if_neg hn] at hf
            cases hd : singleF l (m + 1) with
            | bad a e => rw [hd] at hf; cases hf
            | ok u n =>
              rw [hd] at hf
              dsimp only at hf
              by_cases k5 : u.f0 = 12
              · rw [if_pos k5] at hf; cases hf
              · rw [if_neg k5] at hf
                by_cases k6 : u.f1 < t'.f1
                · rw [if_pos k6] at hf; cases hf
                · rw [if_neg k6] at hf
                  injection hf with e1 e2
                  subst e1; subst e2
                  exact item_5d h hl hc hle.2 k1 k2 k3 k4 hd k5 k6
        · rw [if_pos (show itemStop l t' m from Or.inr (Or.inr (Or.inl k3)))] at hf
          injection hf with e1 e2
          subst e1; subst e2
          exact item_3 h hl hc hle.2 k1 k2 k3
theorem item_bad (h : Tok w0 g A c l i tv w) (hl : l.length ≤ 1000000) {a e : Int} (hf : itemF l i = .bad a e) :
    Calls Tryz.prog 85 #[.pointer (some ⟨g, 0, none⟩)] w (TokBad w0 a e) := by
  unfold itemF at hf
  cases hc : singleF l i with
  | bad a' e' =>
    rw [hc] at hf
    injection hf with e1 e2
    subst e1; subst e2
    exact item_0 h hl hc
  | ok t' m =>
    rw [hc] at hf
    have hle := singleF_le hc
    dsimp only at hf
    by_cases hn : itemStop l t' m
    · rw [if_pos hn] at hf; cases hf
    · rw [if_neg hn] at hf
      have k1 : ¬ t'.f0 = 12 := fun h => hn (Or.inl h)
      have k2 : ¬ l.length ≤ m + 1 := fun h => hn (Or.inr (Or.inl h))
      have k3 : rd l (m : Nat) = 45 := by
        apply Classical.byContradiction
        intro h
        exact hn (Or.inr (Or.inr (Or.inl h)))
      have k4 : ¬ rd l (m + 1 : Nat) = 93 := fun h => hn (Or.inr (Or.inr (Or.inr h)))
      cases hd : singleF l (m + 1) with
      | bad a' e' =>
        rw [hd] at hf
        injection hf with e1 e2
        subst e1; subst e2
        exact item_5a h hl hc hle.2 k1 k2 k3 k4 hd
      | ok u n =>
        rw [hd] at hf
        dsimp only at hf
        by_cases k5 : u.f0 = 12
        · rw [if_pos k5] at hf
          injection hf with e1 e2
          subst e1; subst e2
          exact item_5b h hl hc hle.2 k1 k2 k3 k4 hd k5
        · rw [if_neg k5] at hf
          by_cases k6 : u.f1 < t'.f1
          · rw [if_pos k6] at hf
            injection hf with e1 e2
            subst e1; subst e2
            exact item_5c h hl hc hle.2 k1 k2 k3 k4 hd k5 k6
          · rw [if_neg k6] at hf; cases hf
end
end Go.Proofs.YtglolcejfbhbdaaGreat.P
end
section
namespace Go.Proofs.YtglolcejfbhbdaaGreat.P
open Go.RowKit Go.Shelf Go.Proofs.YtglolcejfbhbdaaGreatW.PrintWords Go.Proofs.YtglolcejfbhbdaaGreatW.PrintLast Go.Proofs.YtglolcejfbhbdaaGreatW.PrintMore
set_option linter.unusedVariables false
set_option linter.unusedSimpArgs false
section
variable {w0 : World} {g : Nat} {A : Option Addr} {c : Nat} {l : List Int} {i : Nat} {tv : Value} {w : World}
def isDig (x : Int) : Bool := digitL.contains x
theorem isDig_iff (x : Int) : isDig x = true ↔ 48 ≤ x ∧ x ≤ 57 := by
  unfold isDig digitL
  simp
  omega
def digS (n x : Int) : Int := if 10 * n + x - 48 > 20 then 21 else 10 * n + x - 48
def digL (l : List Int) : Nat → Nat → Int → Int × Nat
  | 0, i, n => (n, i)
  | f + 1, i, n => if isDig (rd l (i : Nat)) = true then digL l f (i + 1) (digS n (rd l (i : Nat))) else (n, i)
def digitsF (l : List Int) (i : Nat) : Int × Bool × Nat :=
  let r := digL l (l.length - i) i 0
  (if r.1 > 20 ∨ (r.2 > i + 1 ∧ rd l (i : Nat) = 48) then -1 else r.1, decide (r.2 > i), r.2)
theorem digL_le (l : List Int) : ∀ f i n, i ≤ (digL l f i n).2 ∧ (digL l f i n).2 ≤ i + f
  | 0, i, n => by simp [digL]
  | f + 1, i, n => by
    unfold digL
    split
    · have := digL_le l f (i + 1) (digS n (rd l (i : Nat)))
      omega
    · simp
theorem digitsF_le (l : List Int) (i : Nat) (h : i ≤ l.length) : i ≤ (digitsF l i).2.2 ∧ (digitsF l i).2.2 ≤ l.length := by
  have := digL_le l (l.length - i) i 0
  unfold digitsF
  dsimp only
  omega
theorem in_digit (x : Int) (b : Bool) (hb : isDig x = b) (W : World) : Calls Tryz.prog 111 #[.int .i64 x, .string ⟨#[48, 49, 50, 51, 52, 53, 54, 55, 56, 57]⟩] W fun e w' => e = .returned (.bool b) ∧ w' = W := by
  have h := token_in.calls x (bytesA digitL) W
  rw [inB_digit, show digitL.contains x = b from hb] at h
  exact h.mono fun _ _ ⟨h1, h2⟩ => ⟨h1, h2.symm⟩
set_option maxRecDepth 100000 in
set_option maxHeartbeats 2000000 in
theorem digits_ok (h : Tok w0 g A c l i tv w) (hl : l.length ≤ 1000000) (hi : i ≤ l.length) :
    Calls Tryz.prog 102 #[.pointer (some ⟨g, 0, none⟩)] w (TokOk w0 g A c l (digitsF l i).2.2 tv w (.tuple #[.int .i64 (digitsF l i).1, .bool (digitsF l i).2.1])) := by
  have HT := Aside0.mk h
  obtain ⟨hc0, hc1, hf1⟩ := h.cells
  have hr : digL l (l.length - i) i 0 = digL l (l.length - i) i 0 := rfl
  obtain ⟨r, hr⟩ : ∃ r, digL l (l.length - i) i 0 = r := ⟨_, rfl⟩
  have hrle := digL_le l (l.length - i) i 0
  rw [hr] at hrle
  have HF := Aside0.mk (show digitsF l i = (if r.1 > 20 ∨ (r.2 > i + 1 ∧ rd l (i : Nat) = 48) then -1 else r.1, decide (r.2 > i), r.2) by unfold digitsF; rw [hr])
  have HRR := Aside0.mk hr
  clear hr h
  go_enter Tryz.func102, Tryz.ntmps102
  go_wp2
  go_loopg [2] l.length (fun kq v2 w' => ∃ (j : Nat) (n : Int), v2 = .int .i64 n ∧ i ≤ j ∧ j ≤ l.length ∧ l.length - j ≤ kq ∧ 0 ≤ n ∧ n ≤ 21 ∧ Aside0 (digL l (l.length - j) j n = r) ∧ Aside0 (Tok w0 g A c l j tv w') ∧ Aside0 (KeepBut w w' g none))
  case atStart => exact ⟨i, 0, rfl, Nat.le_refl _, hi, by omega, by omega, by omega, HRR, HT, ⟨KeepBut.refl _ _ _⟩⟩
  case round =>
    clear hc0 hc1 hf1
    obtain ⟨j, n, rfl, hij, hj, hk, hn0, hn1, HR, HS, HK⟩ := hrel
    obtain ⟨hc0, hc1, hf1⟩ := HS.out.cells
    by_cases hlt : j < l.length
    · have hx := Tok.charAt HS.out hlt
      obtain ⟨ad, e1, hx⟩ := hx
      cases e1
      have j1 : decide ((j : Int) < (l.length : Int)) = true := decide_eq_true (by omega)
      have j1' : (j : Int) < (l.length : Int) := by omega
      cases hd : isDig (rd l (j : Nat)) with
      | true =>
        have hin := fun W => in_digit (rd l (j : Nat)) true hd W
        have hrng := (isDig_iff _).1 hd
        have HR2 := Aside0.mk (show digL l (l.length - (j + 1)) (j + 1) (digS n (rd l (j : Nat))) = r by
          have := HR.out
          rw [show l.length - j = (l.length - (j + 1)) + 1 by omega] at this
          unfold digL at this
          rw [if_pos hd] at this
          exact this)
        clear hd HRR
        generalize rd l (j : Nat) = x at *
        obtain ⟨x1, x2⟩ := hrng
        by_cases hbig : 20 < 10 * n + x - 48
        · have hs : digS n x = 21 := by unfold digS; rw [if_pos hbig]
          rw [hs] at HR2
          have hbb : decide (20 < 10 * n + x - 48) = true := decide_eq_true hbig
          clear hs hbig
          have HW := Aside0.mk (IntWalk.i64_in (10 * n) (by omega) : IntKind.i64.wrap (10 * n) = 10 * n)
          have wj : IntKind.i64.wrap ((j : Int) + 1) = (j : Int) + 1 := IntWalk.i64_in _ (by omega)
          have wa : IntKind.i64.wrap (10 * n) = 10 * n := IntWalk.i64_in _ (by omega)
          have wb : IntKind.i64.wrap (10 * n + x) = 10 * n + x := IntWalk.i64_in _ (by omega)
          have wc : IntKind.i64.wrap (10 * n + x - 48) = 10 * n + x - 48 := IntWalk.i64_in _ (by omega)
          go_wp2
          go_quiet ((go_at_call 111; exact Calls.quiet_of_same (hin _)))
          go_wp2
          go_quiet (fail)
          go_wp2
          go_roundg (l.length - (j + 1))
          case measure => omega
          case rel => exact ⟨j + 1, 21, rfl, by omega, by omega, by omega, by omega, by omega, HR2, ⟨(HS.out.drewN _).set1 (j + 1)⟩, ⟨keepTr HK.out ((keepN _ _ _).set_ _ _)⟩⟩
        · have hs : digS n x = 10 * n + x - 48 := by unfold digS; rw [if_neg hbig]
          rw [hs] at HR2
          have hbb : decide (20 < 10 * n + x - 48) = false := decide_eq_false hbig
          clear hs
          have HW := Aside0.mk (IntWalk.i64_in (10 * n) (by omega) : IntKind.i64.wrap (10 * n) = 10 * n)
          have wj : IntKind.i64.wrap ((j : Int) + 1) = (j : Int) + 1 := IntWalk.i64_in _ (by omega)
          have wa : IntKind.i64.wrap (10 * n) = 10 * n := IntWalk.i64_in _ (by omega)
          have wb : IntKind.i64.wrap (10 * n + x) = 10 * n + x := IntWalk.i64_in _ (by omega)
          have wc : IntKind.i64.wrap (10 * n + x - 48) = 10 * n + x - 48 := IntWalk.i64_in _ (by omega)
          go_wp2
          go_quiet ((go_at_call 111; exact Calls.quiet_of_same (hin _)))
          go_wp2
          go_quiet (fail)
          go_wp2
          go_roundg (l.length - (j + 1))
          case measure => omega
          case rel => exact ⟨j + 1, 10 * n + x - 48, rfl, by omega, by omega, by omega, by omega, by omega, HR2, ⟨(HS.out.drewN _).set1 (j + 1)⟩, ⟨keepTr HK.out ((keepN _ _ _).set_ _ _)⟩⟩
      | false =>
        have hin := fun W => in_digit (rd l (j : Nat)) false hd W
        have HQ := Aside0.mk (show (n, j) = r by
          have := HR.out
          rw [show l.length - j = (l.length - (j + 1)) + 1 by omega] at this
          unfold digL at this
          rw [if_neg (by rw [hd]; simp)] at this
          exact this)
        have wi : IntKind.i64.wrap ((i : Int) + 1) = (i : Int) + 1 := IntWalk.i64_in _ (by omega)
        clear hd HRR HR
        have hxx := hx
        generalize hy : rd l (j : Nat) = x at hx hin
        clear hy hxx
        by_cases t1 : 20 < n
        · have t1b : decide (20 < n) = true := decide_eq_true t1
          have HV := Aside0.mk (show digitsF l i = (-1, decide (i < j), j) by rw [HF.out, ← HQ.out]; simp [t1])
          clear HF HQ t1
          go_wp2
          go_quiet ((go_at_call 111; exact Calls.quiet_of_same (hin _)))
          go_wp2
          go_quiet (fail)
          go_wp2
          go_ret2
          exact ⟨by rw [HV.out]; rfl, by rw [HV.out]; exact (HS.out.drewN _).drewN _, keepTr HK.out (keepTr (keepN _ _ _) (keepN _ _ _))⟩
        · have t1b : decide (20 < n) = false := decide_eq_false t1
          by_cases t2 : i + 1 < j
          · have t2b : decide ((i : Int) + 1 < (j : Int)) = true := decide_eq_true (by omega)
            have t2c : decide (i + 1 < j) = true := decide_eq_true t2
            obtain ⟨ad0, e10, hx0⟩ := Tok.charAt HS.out (show i < l.length by omega)
            have i1' : (i : Int) < (l.length : Int) := by omega
            injection e10 with e10
            subst e10
            by_cases t3 : rd l (i : Nat) = 48
            · have t3b : (rd l (i : Nat) == 48) = true := by rw [t3]; rfl
              have HV := Aside0.mk (show digitsF l i = (-1, decide (i < j), j) by rw [HF.out, ← HQ.out]; simp [t2, t3])
              clear HF HQ t1 t3
              generalize rd l (i : Nat) = x0 at *
              go_wp2
              go_quiet ((go_at_call 111; exact Calls.quiet_of_same (hin _)))
              go_wp2
              go_quiet (fail)
              go_wp2
              go_ret2
              exact ⟨by rw [HV.out]; rfl, by rw [HV.out]; exact (HS.out.drewN _).drewN _, keepTr HK.out (keepTr (keepN _ _ _) (keepN _ _ _))⟩
            · have t3b : (rd l (i : Nat) == 48) = false := beq_eq_false_iff_ne.2 t3
              have HV := Aside0.mk (show digitsF l i = (n, decide (i < j), j) by rw [HF.out, ← HQ.out]; simp [t1, t3])
              clear HF HQ t1 t3
              generalize rd l (i : Nat) = x0 at *
              go_wp2
              go_quiet ((go_at_call 111; exact Calls.quiet_of_same (hin _)))
              go_wp2
              go_quiet (fail)
              go_wp2
              go_ret2
              exact ⟨by rw [HV.out]; rfl, by rw [HV.out]; exact (HS.out.drewN _).drewN _, keepTr HK.out (keepTr (keepN _ _ _) (keepN _ _ _))⟩
          · have t2b : decide ((i : Int) + 1 < (j : Int)) = false := decide_eq_false (by omega)
            have t2c : decide (i + 1 < j) = false := decide_eq_false t2
            have HV := Aside0.mk (show digitsF l i = (n, decide (i < j), j) by rw [HF.out, ← HQ.out]; simp [t1, t2])
            clear HF HQ t1
            go_wp2
            go_quiet ((go_at_call 111; exact Calls.quiet_of_same (hin _)))
            go_wp2
            go_quiet (fail)
            go_wp2
            go_ret2
            exact ⟨by rw [HV.out]; rfl, by rw [HV.out]; exact (HS.out.drewN _).drewN _, keepTr HK.out (keepTr (keepN _ _ _) (keepN _ _ _))⟩
    · have HQ := Aside0.mk (show (n, j) = r by
        have := HR.out
        rw [show l.length - j = 0 by omega] at this
        exact this)
      have j1 : decide ((j : Int) < (l.length : Int)) = false := decide_eq_false (by omega)
      have j1' : ¬ (j : Int) < (l.length : Int) := by omega
      have wi : IntKind.i64.wrap ((i : Int) + 1) = (i : Int) + 1 := IntWalk.i64_in _ (by omega)
      clear HRR HR
      by_cases t1 : 20 < n
      · have t1b : decide (20 < n) = true := decide_eq_true t1
        have HV := Aside0.mk (show digitsF l i = (-1, decide (i < j), j) by rw [HF.out, ← HQ.out]; simp [t1])
        clear HF HQ t1
        go_wp2
        go_quiet (fail)
        go_wp2
        go_quiet (fail)
        go_wp2
        go_ret2
        exact ⟨by rw [HV.out]; rfl, by rw [HV.out]; exact (HS.out.drewN _).drewN _, keepTr HK.out (keepTr (keepN _ _ _) (keepN _ _ _))⟩
      · have t1b : decide (20 < n) = false := decide_eq_false t1
        by_cases t2 : i + 1 < j
        · have t2b : decide ((i : Int) + 1 < (j : Int)) = true := decide_eq_true (by omega)
          have t2c : decide (i + 1 < j) = true := decide_eq_true t2
          obtain ⟨ad0, e10, hx0⟩ := Tok.charAt HS.out (show i < l.length by omega)
          have i1' : (i : Int) < (l.length : Int) := by omega
          cases e10
          by_cases t3 : rd l (i : Nat) = 48
          · have t3b : (rd l (i : Nat) == 48) = true := by rw [t3]; rfl
            have HV := Aside0.mk (show digitsF l i = (-1, decide (i < j), j) by rw [HF.out, ← HQ.out]; simp [t2, t3])
            clear HF HQ t1 t3
            generalize rd l (i : Nat) = x0 at *
            go_wp2
            go_quiet (fail)
            go_wp2
            go_quiet (fail)
            go_wp2
            go_ret2
            exact ⟨by rw [HV.out]; rfl, by rw [HV.out]; exact (HS.out.drewN _).drewN _, keepTr HK.out (keepTr (keepN _ _ _) (keepN _ _ _))⟩
          · have t3b : (rd l (i : Nat) == 48) = false := beq_eq_false_iff_ne.2 t3
            have HV := Aside0.mk (show digitsF l i = (n, decide (i < j), j) by rw [HF.out, ← HQ.out]; simp [t1, t3])
            clear HF HQ t1 t3
            generalize rd l (i : Nat) = x0 at *
            go_wp2
            go_quiet (fail)
            go_wp2
            go_quiet (fail)
            go_wp2
            go_ret2
            exact ⟨by rw [HV.out]; rfl, by rw [HV.out]; exact (HS.out.drewN _).drewN _, keepTr HK.out (keepTr (keepN _ _ _) (keepN _ _ _))⟩
        · have t2b : decide ((i : Int) + 1 < (j : Int)) = false := decide_eq_false (by omega)
          have t2c : decide (i + 1 < j) = false := decide_eq_false t2
          have HV := Aside0.mk (show digitsF l i = (n, decide (i < j), j) by rw [HF.out, ← HQ.out]; simp [t1, t2])
          clear HF HQ t1
          go_wp2
          go_quiet (fail)
          go_wp2
          go_quiet (fail)
          go_wp2
          go_ret2
          exact ⟨by rw [HV.out]; rfl, by rw [HV.out]; exact (HS.out.drewN _).drewN _, keepTr HK.out (keepTr (keepN _ _ _) (keepN _ _ _))⟩
end
end Go.Proofs.YtglolcejfbhbdaaGreat.P
end
