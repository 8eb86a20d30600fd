/- Part 8 of what the three laws on sets of ranges share: the words of the walks, contracts of the functions that they reach, and plain lemmas. No conditions. -/
import Derived.Test.YtglolcejfbhbdaaGreatC07
section
namespace Go.Proofs.YtglolcejfbhbdaaGreat.P
open Go.RowKit Go.Shelf Go.Maps Go.Proofs.YtglolcejfbhbdaaGreatW.PrintWords Go.Proofs.YtglolcejfbhbdaaGreatW.PrintLast Go.Proofs.YtglolcejfbhbdaaGreatW.PrintMore
set_option linter.unusedVariables false
set_option linter.unusedSimpArgs false
theorem gr_look {m W : World} {b : Nat} (h : m.ownsMap Tryz.prog 3 fnElem b 3 grD) (hW : Below m.heap.size m W) (k : Int) (f : Nat) (hk : (k = 100 ∧ f = 119) ∨ (k = 115 ∧ f = 120) ∨ (k = 119 ∧ f = 121)) :
    (Instr.lookup 137 (.map (some b)) (.int .i64 k) false).run Tryz.prog W = .ok (.func (.func f) #[] #[]) W := by
  have h2 := h.kept (grown_of_below hW none) (by simp)
  have hkey : keyOf Tryz.prog 3 (.int .i64 k) = some (.int .i64 k) := key3 k (by rcases hk with ⟨rfl, _⟩ | ⟨rfl, _⟩ | ⟨rfl, _⟩ <;> decide)
  obtain ⟨v, ps, hrun, hv⟩ := h2.lookup law3 Tryz.underlying137 (zero134 _) (zd := .lit (.int .i64 0)) (zp := []) (by rfl) hkey
  rw [(gr_at k f hk).1] at hv
  rw [hrun, fnElem_inv hv (by rcases hk with ⟨_, rfl⟩ | ⟨_, rfl⟩ | ⟨_, rfl⟩ <;> decide)]
set_option maxRecDepth 100000 in
set_option maxHeartbeats 1000000 in
theorem set_100 {w0 : World} {g : Nat} {en fl : Int} {ts : List S68} {w : World} (h : Rdr w0 g en fl ts w) (f0 f2 f3 f4 : Int) (h1 : ¬ f0 = 1) (h9 : ¬ f0 = 9) :
    Calls Tryz.prog 116 #[.pointer (some ⟨g, 0, none⟩), tokV ⟨f0, 100, f2, f3, f4⟩] w (RowOk w0 g en fl ts w (closeL digitsL fl)) := by
  have HT := Aside0.mk h
  have hg2 := h.fl_cell
  have hglt := h.lt
  clear h
  have hx0 := tok_cells (t := ⟨f0, 100, f2, f3, f4⟩) (w := w) (Below.refl _ _)
  have hgx := (HT.out.grow (below_alloc (Below.refl _ _) (tokB ⟨f0, 100, f2, f3, f4⟩))).fl_cell
  try dsimp only at hx0
  have hmm := @run_makeMap Tryz.prog
  have e9 : (w.alloc (tokB ⟨f0, 100, f2, f3, f4⟩)).heap.size = w.heap.size + 1 := by simp
  have HT0 := Aside0.mk (HT.out.grow (below_alloc (Below.refl _ _) (tokB ⟨f0, 100, f2, f3, f4⟩)))
  have HO0 := Aside0.mk (World.ownsMap_made (H := Unit) (w.alloc (tokB ⟨f0, 100, f2, f3, f4⟩)) Tryz.prog 3 fnElem)
  have HB0 := Aside0.mk (below_alloc (Below.refl (w.alloc (tokB ⟨f0, 100, f2, f3, f4⟩)).heap.size (w.alloc (tokB ⟨f0, 100, f2, f3, f4⟩))) (.map #[] 0))
  rw [e9] at HO0
  have q1 : (f0 == 1) = false := by simpa using h1
  have q9 : (f0 == 9) = false := by simpa using h9
  clear h1 h9
  unfold tokV
  go_enter Tryz.func116, Tryz.ntmps116
  unfold tokB at HO0
  go_wp2_with (first
    | ((with_reducible refine gate_insert 137 (.tmp 34) (.const (.int .i64 100)) (.func 119) rfl ?_); refine wpList_insert_own _ rfl (.tmp 34) (.const (.int .i64 100)) (.func 119) 137 rfl 3 134 law3 Tryz.underlying137 fnElem (w.heap.size + 1) 0 _ (by rfl) HO0.out (by decide) (.int .i64 100) (.func (.func 119) #[] #[]) (.int .i64 100) (by rfl) (by rfl) (key3 100 (by decide)) (.lit (.int .i64 119)) [] (by rfl) ?_; intro m1 ho1 hg1; have HO1 := Aside0.mk ho1; have HB1 := Aside0.mk (HB0.out.grown hg1 (Nat.le_trans (by simp) HB0.out.size) (fun k hk => by cases hk; simp)); clear ho1 hg1)
    | ((with_reducible refine gate_insert 137 (.tmp 34) (.const (.int .i64 115)) (.func 120) rfl ?_); refine wpList_insert_own _ rfl (.tmp 34) (.const (.int .i64 115)) (.func 120) 137 rfl 3 134 law3 Tryz.underlying137 fnElem (w.heap.size + 1) 1 _ (by rfl) HO1.out (by decide) (.int .i64 115) (.func (.func 120) #[] #[]) (.int .i64 115) (by rfl) (by rfl) (key3 115 (by decide)) (.lit (.int .i64 120)) [] (by rfl) ?_; intro m2 ho2 hg2; have HO2 := Aside0.mk ho2; have HB2 := Aside0.mk (HB1.out.grown hg2 (Nat.le_trans (by simp) HB1.out.size) (fun k hk => by cases hk; simp)); clear ho2 hg2)
    | ((with_reducible refine gate_insert 137 (.tmp 34) (.const (.int .i64 119)) (.func 121) rfl ?_); refine wpList_insert_own _ rfl (.tmp 34) (.const (.int .i64 119)) (.func 121) 137 rfl 3 134 law3 Tryz.underlying137 fnElem (w.heap.size + 1) 2 _ (by rfl) HO2.out (by decide) (.int .i64 119) (.func (.func 121) #[] #[]) (.int .i64 119) (by rfl) (by rfl) (key3 119 (by decide)) (.lit (.int .i64 121)) [] (by rfl) ?_; intro m3 ho3 hg3; have HO3 := Aside0.mk ho3; have HB3 := Aside0.mk (HB2.out.grown hg3 (Nat.le_trans (by simp) HB2.out.size) (fun k hk => by cases hk; simp)); clear ho3 hg3; have hx3 := tok_cells HB3.out; dsimp only at hx3)
    | (at_lookup; refine wpList_lookup_own_ok _ rfl (.tmp 37) (.tmp 39) 137 rfl 3 134 law3 Tryz.underlying137 fnElem (zero134 _) (.lit (.int .i64 0)) [] (by rfl) (w.heap.size + 1) 3 grD (by rfl) HO3.out (.int .i64 100) (.int .i64 100) (by rfl) (key3 100 (by decide)) ?_; intro v ps hv; obtain rfl := fnElem_inv (n := 119) (show fnElem v = some (.lit (.int .i64 (119 : Nat)), ps) from hv) (by decide); rw [show Maps.has grD (.int .i64 100) = true from rfl])
    | fail)
  clear hmm
  have HT3 := Aside0.mk (HT0.out.grow HB3.out)
  have hg3 := HT3.out.fl_cell
  have HBw := Aside0.mk (show Below w.heap.size w m3 from (below_alloc (Below.refl _ _) (tokB ⟨f0, 100, f2, f3, f4⟩)).trans (HB3.out.mono (by simp)))
  refine start_ (n := 8) (S := fun w' => w'.cell? ⟨g, 2, none⟩ = some (.int .i64 fl)) (ds := []) #[false, false, false, false, false, false, false, false] (by kernel_rfl) rfl rfl (hg3) (fun hHeld => ?_)
  refine pure_ (i := 0) (N := some 44) (v := ?_) (a' := ?_) #[true, false, false, false, false, false, false, false] rfl rfl (by kernel_rfl) (fun _ _ _ h => h) (Or.inl ⟨by rfl, ?_⟩) ?_ ?_
  rotate_left
  · intro w'
    go_simp
    with_reducible rfl
  rotate_left
  · simp only [Act.put, List.setIfInBounds_toArray, List.set_cons_zero, List.set_cons_succ, i64_w, i32_w]
    rfl
  refine pure_ (i := 2) (N := some 46) (v := ?_) (a' := ?_) #[true, false, true, false, false, false, false, false] rfl rfl (by kernel_rfl) (fun _ _ _ h => h) (Or.inl ⟨by rfl, ?_⟩) ?_ ?_
  rotate_left
  · intro w'
    go_simp
    with_reducible rfl
  rotate_left
  · simp only [Act.put, List.setIfInBounds_toArray, List.set_cons_zero, List.set_cons_succ, i64_w, i32_w]
    rfl
  refine pure_ (i := 3) (N := some 47) (v := ?_) (a' := ?_) #[true, false, true, true, false, false, false, false] rfl rfl (by kernel_rfl) (fun _ _ _ h => h) (Or.inl ⟨by rfl, ?_⟩) ?_ ?_
  rotate_left
  · intro w'
    go_simp
    with_reducible rfl
  rotate_left
  · simp only [Act.put, List.setIfInBounds_toArray, List.set_cons_zero, List.set_cons_succ, i64_w, i32_w]
    rfl
  refine pure_ (i := 4) (N := some 48) (v := ?_) (a' := ?_) #[true, false, true, true, true, false, false, false] rfl rfl (by kernel_rfl) (fun _ _ _ h => h) (Or.inl ⟨by rfl, ?_⟩) ?_ ?_
  rotate_left
  · intro w'
    go_simp
    with_reducible rfl
  rotate_left
  · simp only [Act.put, List.setIfInBounds_toArray, List.set_cons_zero, List.set_cons_succ, i64_w, i32_w]
    rfl
  refine take_ (i := 5) (N := some 49) (v := ?_) (a' := ?_) #[true, false, true, true, true, true, false, false] rfl rfl (by kernel_rfl) (fun _ _ _ h => h) (Or.inl ⟨by rfl, ?_⟩) hHeld ?_ ?_
  rotate_left
  · intro w' s0
    go_simp
    with_reducible rfl
  rotate_left
  · simp only [Act.put, List.setIfInBounds_toArray, List.set_cons_zero, List.set_cons_succ, i64_w, i32_w]
    rfl
  refine one_ (i := 1) (N := some 45) #[true, true, true, true, true, true, false, false] rfl rfl (by kernel_rfl) (by decide) (fun K hK => ?_)
  refine goesV_ Tryz.func119 (by kernel_rfl) rfl #[] (by rfl) rfl rfl (by rfl) (by simp only [List.map_toArray, List.map_nil]) ?_
  with_reducible refine (tree_digits.calls digitsL _ digits_f).mono ?_
  rintro e w1 ⟨v1, rfl, hR1, hb1⟩
  refine ⟨_, rfl, ?_⟩
  have HT4 := Aside0.mk (HT3.out.grow (below_step (below_drew1 (Below.refl _ _)) hb1))
  have HB4 := Aside0.mk (HBw.out.trans ((below_step (below_drew1 (Below.refl _ _)) hb1).mono HBw.out.size))
  obtain ⟨A1, c1, rfl⟩ := Kd.R_slice hR1
  have hcl := close_of_R fl hR1
  skip
  clear hR1 hb1
  refine hK.out _ _ (HT4.out.fl_cell) (fun hHeld => ?_)
  clear hK K
  refine norm_ (a' := ?_) ?_ ?_
  rotate_left
  · show Act.put _ (some 45) _ = _
    simp only [Act.put, List.setIfInBounds_toArray, List.set_cons_zero, List.set_cons_succ, i64_w, i32_w]
    rfl
  refine one_ (i := 6) (N := some 50) #[true, true, true, true, true, true, true, false] rfl rfl (by kernel_rfl) (by decide) (fun K hK => ?_)
  refine goes_ Tryz.func12 (by kernel_rfl) rfl #[.slice A1 digitsL.length c1, .int .i64 fl] (by rfl) rfl rfl (by simp only [List.map_toArray, List.map_cons, List.map_nil]; rfl) ?_
  with_reducible refine (hcl).mono ?_
  rintro e w2 ⟨v2, rfl, hR2, hb2⟩
  refine ⟨_, rfl, ?_⟩
  have HT5 := Aside0.mk (HT4.out.grow hb2)
  have HR2 := Aside0.mk (Kd.R_lower hR2 HB4.out.size)
  have HB5 := Aside0.mk (HB4.out.trans (hb2.mono HB4.out.size))
  clear hR2 hb2
  refine hK.out _ _ (HT5.out.fl_cell) (fun hHeld => ?_)
  clear hK K
  refine norm_ (a' := ?_) ?_ ?_
  rotate_left
  · show Act.put _ (some 50) _ = _
    simp only [Act.put, List.setIfInBounds_toArray, List.set_cons_zero, List.set_cons_succ, i64_w, i32_w]
    rfl
  refine pure_ (i := 7) (N := some 4) (v := ?_) (a' := ?_) #[true, true, true, true, true, true, true, true] rfl rfl (by kernel_rfl) (fun _ _ _ h => h) (Or.inl ⟨by rfl, ?_⟩) ?_ ?_
  rotate_left
  · intro w'
    go_simp
    with_reducible rfl
  rotate_left
  · simp only [Act.put, List.setIfInBounds_toArray, List.set_cons_zero, List.set_cons_succ, i64_w, i32_w]
    rfl
  refine done_ (by kernel_rfl) ?_

  go_wp2_with fail
  go_ret
  exact ⟨⟨_, rfl, HR2.out⟩, HT5.out, KeepBut.of_below HB5.out g none, HB5.out⟩
set_option maxRecDepth 100000 in
set_option maxHeartbeats 1000000 in
theorem set_115 {w0 : World} {g : Nat} {en fl : Int} {ts : List S68} {w : World} (h : Rdr w0 g en fl ts w) (f0 f2 f3 f4 : Int) (h1 : ¬ f0 = 1) (h9 : ¬ f0 = 9) :
    Calls Tryz.prog 116 #[.pointer (some ⟨g, 0, none⟩), tokV ⟨f0, 115, f2, f3, f4⟩] w (RowOk w0 g en fl ts w (closeL blanksL fl)) := by
  have HT := Aside0.mk h
  have hg2 := h.fl_cell
  have hglt := h.lt
  clear h
  have hx0 := tok_cells (t := ⟨f0, 115, f2, f3, f4⟩) (w := w) (Below.refl _ _)
  have hgx := (HT.out.grow (below_alloc (Below.refl _ _) (tokB ⟨f0, 115, f2, f3, f4⟩))).fl_cell
  try dsimp only at hx0
  have hmm := @run_makeMap Tryz.prog
  have e9 : (w.alloc (tokB ⟨f0, 115, f2, f3, f4⟩)).heap.size = w.heap.size + 1 := by simp
  have HT0 := Aside0.mk (HT.out.grow (below_alloc (Below.refl _ _) (tokB ⟨f0, 115, f2, f3, f4⟩)))
  have HO0 := Aside0.mk (World.ownsMap_made (H := Unit) (w.alloc (tokB ⟨f0, 115, f2, f3, f4⟩)) Tryz.prog 3 fnElem)
  have HB0 := Aside0.mk (below_alloc (Below.refl (w.alloc (tokB ⟨f0, 115, f2, f3, f4⟩)).heap.size (w.alloc (tokB ⟨f0, 115, f2, f3, f4⟩))) (.map #[] 0))
  rw [e9] at HO0
  have q1 : (f0 == 1) = false := by simpa using h1
  have q9 : (f0 == 9) = false := by simpa using h9
  clear h1 h9
  unfold tokV
  go_enter Tryz.func116, Tryz.ntmps116
  unfold tokB at HO0
  go_wp2_with (first
    | ((with_reducible refine gate_insert 137 (.tmp 34) (.const (.int .i64 100)) (.func 119) rfl ?_); refine wpList_insert_own _ rfl (.tmp 34) (.const (.int .i64 100)) (.func 119) 137 rfl 3 134 law3 Tryz.underlying137 fnElem (w.heap.size + 1) 0 _ (by rfl) HO0.out (by decide) (.int .i64 100) (.func (.func 119) #[] #[]) (.int .i64 100) (by rfl) (by rfl) (key3 100 (by decide)) (.lit (.int .i64 119)) [] (by rfl) ?_; intro m1 ho1 hg1; have HO1 := Aside0.mk ho1; have HB1 := Aside0.mk (HB0.out.grown hg1 (Nat.le_trans (by simp) HB0.out.size) (fun k hk => by cases hk; simp)); clear ho1 hg1)
    | ((with_reducible refine gate_insert 137 (.tmp 34) (.const (.int .i64 115)) (.func 120) rfl ?_); refine wpList_insert_own _ rfl (.tmp 34) (.const (.int .i64 115)) (.func 120) 137 rfl 3 134 law3 Tryz.underlying137 fnElem (w.heap.size + 1) 1 _ (by rfl) HO1.out (by decide) (.int .i64 115) (.func (.func 120) #[] #[]) (.int .i64 115) (by rfl) (by rfl) (key3 115 (by decide)) (.lit (.int .i64 120)) [] (by rfl) ?_; intro m2 ho2 hg2; have HO2 := Aside0.mk ho2; have HB2 := Aside0.mk (HB1.out.grown hg2 (Nat.le_trans (by simp) HB1.out.size) (fun k hk => by cases hk; simp)); clear ho2 hg2)
    | ((with_reducible refine gate_insert 137 (.tmp 34) (.const (.int .i64 119)) (.func 121) rfl ?_); refine wpList_insert_own _ rfl (.tmp 34) (.const (.int .i64 119)) (.func 121) 137 rfl 3 134 law3 Tryz.underlying137 fnElem (w.heap.size + 1) 2 _ (by rfl) HO2.out (by decide) (.int .i64 119) (.func (.func 121) #[] #[]) (.int .i64 119) (by rfl) (by rfl) (key3 119 (by decide)) (.lit (.int .i64 121)) [] (by rfl) ?_; intro m3 ho3 hg3; have HO3 := Aside0.mk ho3; have HB3 := Aside0.mk (HB2.out.grown hg3 (Nat.le_trans (by simp) HB2.out.size) (fun k hk => by cases hk; simp)); clear ho3 hg3; have hx3 := tok_cells HB3.out; dsimp only at hx3)
    | (at_lookup; refine wpList_lookup_own_ok _ rfl (.tmp 37) (.tmp 39) 137 rfl 3 134 law3 Tryz.underlying137 fnElem (zero134 _) (.lit (.int .i64 0)) [] (by rfl) (w.heap.size + 1) 3 grD (by rfl) HO3.out (.int .i64 115) (.int .i64 115) (by rfl) (key3 115 (by decide)) ?_; intro v ps hv; obtain rfl := fnElem_inv (n := 120) (show fnElem v = some (.lit (.int .i64 (120 : Nat)), ps) from hv) (by decide); rw [show Maps.has grD (.int .i64 115) = true from rfl])
    | fail)
  clear hmm
  have HT3 := Aside0.mk (HT0.out.grow HB3.out)
  have hg3 := HT3.out.fl_cell
  have HBw := Aside0.mk (show Below w.heap.size w m3 from (below_alloc (Below.refl _ _) (tokB ⟨f0, 115, f2, f3, f4⟩)).trans (HB3.out.mono (by simp)))
  refine start_ (n := 8) (S := fun w' => w'.cell? ⟨g, 2, none⟩ = some (.int .i64 fl)) (ds := []) #[false, false, false, false, false, false, false, false] (by kernel_rfl) rfl rfl (hg3) (fun hHeld => ?_)
  refine pure_ (i := 0) (N := some 44) (v := ?_) (a' := ?_) #[true, false, false, false, false, false, false, false] rfl rfl (by kernel_rfl) (fun _ _ _ h => h) (Or.inl ⟨by rfl, ?_⟩) ?_ ?_
  rotate_left
  · intro w'
    go_simp
    with_reducible rfl
  rotate_left
  · simp only [Act.put, List.setIfInBounds_toArray, List.set_cons_zero, List.set_cons_succ, i64_w, i32_w]
    rfl
  refine pure_ (i := 2) (N := some 46) (v := ?_) (a' := ?_) #[true, false, true, false, false, false, false, false] rfl rfl (by kernel_rfl) (fun _ _ _ h => h) (Or.inl ⟨by rfl, ?_⟩) ?_ ?_
  rotate_left
  · intro w'
    go_simp
    with_reducible rfl
  rotate_left
  · simp only [Act.put, List.setIfInBounds_toArray, List.set_cons_zero, List.set_cons_succ, i64_w, i32_w]
    rfl
  refine pure_ (i := 3) (N := some 47) (v := ?_) (a' := ?_) #[true, false, true, true, false, false, false, false] rfl rfl (by kernel_rfl) (fun _ _ _ h => h) (Or.inl ⟨by rfl, ?_⟩) ?_ ?_
  rotate_left
  · intro w'
    go_simp
    with_reducible rfl
  rotate_left
  · simp only [Act.put, List.setIfInBounds_toArray, List.set_cons_zero, List.set_cons_succ, i64_w, i32_w]
    rfl
  refine pure_ (i := 4) (N := some 48) (v := ?_) (a' := ?_) #[true, false, true, true, true, false, false, false] rfl rfl (by kernel_rfl) (fun _ _ _ h => h) (Or.inl ⟨by rfl, ?_⟩) ?_ ?_
  rotate_left
  · intro w'
    go_simp
    with_reducible rfl
  rotate_left
  · simp only [Act.put, List.setIfInBounds_toArray, List.set_cons_zero, List.set_cons_succ, i64_w, i32_w]
    rfl
  refine take_ (i := 5) (N := some 49) (v := ?_) (a' := ?_) #[true, false, true, true, true, true, false, false] rfl rfl (by kernel_rfl) (fun _ _ _ h => h) (Or.inl ⟨by rfl, ?_⟩) hHeld ?_ ?_
  rotate_left
  · intro w' s0
    go_simp
    with_reducible rfl
  rotate_left
  · simp only [Act.put, List.setIfInBounds_toArray, List.set_cons_zero, List.set_cons_succ, i64_w, i32_w]
    rfl
  refine one_ (i := 1) (N := some 45) #[true, true, true, true, true, true, false, false] rfl rfl (by kernel_rfl) (by decide) (fun K hK => ?_)
  refine goesV_ Tryz.func120 (by kernel_rfl) rfl #[] (by rfl) rfl rfl (by rfl) (by simp only [List.map_toArray, List.map_nil]) ?_
  with_reducible refine (tree_blanks.calls blanksL _ blanks_f).mono ?_
  rintro e w1 ⟨v1, rfl, hR1, hb1⟩
  refine ⟨_, rfl, ?_⟩
  have HT4 := Aside0.mk (HT3.out.grow (below_step (below_drew1 (Below.refl _ _)) hb1))
  have HB4 := Aside0.mk (HBw.out.trans ((below_step (below_drew1 (Below.refl _ _)) hb1).mono HBw.out.size))
  obtain ⟨A1, c1, rfl⟩ := Kd.R_slice hR1
  have hcl := close_of_R fl hR1
  skip
  clear hR1 hb1
  refine hK.out _ _ (HT4.out.fl_cell) (fun hHeld => ?_)
  clear hK K
  refine norm_ (a' := ?_) ?_ ?_
  rotate_left
  · show Act.put _ (some 45) _ = _
    simp only [Act.put, List.setIfInBounds_toArray, List.set_cons_zero, List.set_cons_succ, i64_w, i32_w]
    rfl
  refine one_ (i := 6) (N := some 50) #[true, true, true, true, true, true, true, false] rfl rfl (by kernel_rfl) (by decide) (fun K hK => ?_)
  refine goes_ Tryz.func12 (by kernel_rfl) rfl #[.slice A1 blanksL.length c1, .int .i64 fl] (by rfl) rfl rfl (by simp only [List.map_toArray, List.map_cons, List.map_nil]; rfl) ?_
  with_reducible refine (hcl).mono ?_
  rintro e w2 ⟨v2, rfl, hR2, hb2⟩
  refine ⟨_, rfl, ?_⟩
  have HT5 := Aside0.mk (HT4.out.grow hb2)
  have HR2 := Aside0.mk (Kd.R_lower hR2 HB4.out.size)
  have HB5 := Aside0.mk (HB4.out.trans (hb2.mono HB4.out.size))
  clear hR2 hb2
  refine hK.out _ _ (HT5.out.fl_cell) (fun hHeld => ?_)
  clear hK K
  refine norm_ (a' := ?_) ?_ ?_
  rotate_left
  · show Act.put _ (some 50) _ = _
    simp only [Act.put, List.setIfInBounds_toArray, List.set_cons_zero, List.set_cons_succ, i64_w, i32_w]
    rfl
  refine pure_ (i := 7) (N := some 4) (v := ?_) (a' := ?_) #[true, true, true, true, true, true, true, true] rfl rfl (by kernel_rfl) (fun _ _ _ h => h) (Or.inl ⟨by rfl, ?_⟩) ?_ ?_
  rotate_left
  · intro w'
    go_simp
    with_reducible rfl
  rotate_left
  · simp only [Act.put, List.setIfInBounds_toArray, List.set_cons_zero, List.set_cons_succ, i64_w, i32_w]
    rfl
  refine done_ (by kernel_rfl) ?_

  go_wp2_with fail
  go_ret
  exact ⟨⟨_, rfl, HR2.out⟩, HT5.out, KeepBut.of_below HB5.out g none, HB5.out⟩
set_option maxRecDepth 100000 in
set_option maxHeartbeats 1000000 in
theorem set_119 {w0 : World} {g : Nat} {en fl : Int} {ts : List S68} {w : World} (h : Rdr w0 g en fl ts w) (f0 f2 f3 f4 : Int) (h1 : ¬ f0 = 1) (h9 : ¬ f0 = 9) :
    Calls Tryz.prog 116 #[.pointer (some ⟨g, 0, none⟩), tokV ⟨f0, 119, f2, f3, f4⟩] w (RowOk w0 g en fl ts w (closeL lettersL fl)) := by
  have HT := Aside0.mk h
  have hg2 := h.fl_cell
  have hglt := h.lt
  clear h
  have hx0 := tok_cells (t := ⟨f0, 119, f2, f3, f4⟩) (w := w) (Below.refl _ _)
  have hgx := (HT.out.grow (below_alloc (Below.refl _ _) (tokB ⟨f0, 119, f2, f3, f4⟩))).fl_cell
  try dsimp only at hx0
  have hmm := @run_makeMap Tryz.prog
  have e9 : (w.alloc (tokB ⟨f0, 119, f2, f3, f4⟩)).heap.size = w.heap.size + 1 := by simp
  have HT0 := Aside0.mk (HT.out.grow (below_alloc (Below.refl _ _) (tokB ⟨f0, 119, f2, f3, f4⟩)))
  have HO0 := Aside0.mk (World.ownsMap_made (H := Unit) (w.alloc (tokB ⟨f0, 119, f2, f3, f4⟩)) Tryz.prog 3 fnElem)
  have HB0 := Aside0.mk (below_alloc (Below.refl (w.alloc (tokB ⟨f0, 119, f2, f3, f4⟩)).heap.size (w.alloc (tokB ⟨f0, 119, f2, f3, f4⟩))) (.map #[] 0))
  rw [e9] at HO0
  have q1 : (f0 == 1) = false := by simpa using h1
  have q9 : (f0 == 9) = false := by simpa using h9
  clear h1 h9
  unfold tokV
  go_enter Tryz.func116, Tryz.ntmps116
  unfold tokB at HO0
  go_wp2_with (first
    | ((with_reducible refine gate_insert 137 (.tmp 34) (.const (.int .i64 100)) (.func 119) rfl ?_); refine wpList_insert_own _ rfl (.tmp 34) (.const (.int .i64 100)) (.func 119) 137 rfl 3 134 law3 Tryz.underlying137 fnElem (w.heap.size + 1) 0 _ (by rfl) HO0.out (by decide) (.int .i64 100) (.func (.func 119) #[] #[]) (.int .i64 100) (by rfl) (by rfl) (key3 100 (by decide)) (.lit (.int .i64 119)) [] (by rfl) ?_; intro m1 ho1 hg1; have HO1 := Aside0.mk ho1; have HB1 := Aside0.mk (HB0.out.grown hg1 (Nat.le_trans (by simp) HB0.out.size) (fun k hk => by cases hk; simp)); clear ho1 hg1)
    | ((with_reducible refine gate_insert 137 (.tmp 34) (.const (.int .i64 115)) (.func 120) rfl ?_); refine wpList_insert_own _ rfl (.tmp 34) (.const (.int .i64 115)) (.func 120) 137 rfl 3 134 law3 Tryz.underlying137 fnElem (w.heap.size + 1) 1 _ (by rfl) HO1.out (by decide) (.int .i64 115) (.func (.func 120) #[] #[]) (.int .i64 115) (by rfl) (by rfl) (key3 115 (by decide)) (.lit (.int .i64 120)) [] (by rfl) ?_; intro m2 ho2 hg2; have HO2 := Aside0.mk ho2; have HB2 := Aside0.mk (HB1.out.grown hg2 (Nat.le_trans (by simp) HB1.out.size) (fun k hk => by cases hk; simp)); clear ho2 hg2)
    | ((with_reducible refine gate_insert 137 (.tmp 34) (.const (.int .i64 119)) (.func 121) rfl ?_); refine wpList_insert_own _ rfl (.tmp 34) (.const (.int .i64 119)) (.func 121) 137 rfl 3 134 law3 Tryz.underlying137 fnElem (w.heap.size + 1) 2 _ (by rfl) HO2.out (by decide) (.int .i64 119) (.func (.func 121) #[] #[]) (.int .i64 119) (by rfl) (by rfl) (key3 119 (by decide)) (.lit (.int .i64 121)) [] (by rfl) ?_; intro m3 ho3 hg3; have HO3 := Aside0.mk ho3; have HB3 := Aside0.mk (HB2.out.grown hg3 (Nat.le_trans (by simp) HB2.out.size) (fun k hk => by cases hk; simp)); clear ho3 hg3; have hx3 := tok_cells HB3.out; dsimp only at hx3)
    | (at_lookup; refine wpList_lookup_own_ok _ rfl (.tmp 37) (.tmp 39) 137 rfl 3 134 law3 Tryz.underlying137 fnElem (zero134 _) (.lit (.int .i64 0)) [] (by rfl) (w.heap.size + 1) 3 grD (by rfl) HO3.out (.int .i64 119) (.int .i64 119) (by rfl) (key3 119 (by decide)) ?_; intro v ps hv; obtain rfl := fnElem_inv (n := 121) (show fnElem v = some (.lit (.int .i64 (121 : Nat)), ps) from hv) (by decide); rw [show Maps.has grD (.int .i64 119) = true from rfl])
    | fail)
  clear hmm
  have HT3 := Aside0.mk (HT0.out.grow HB3.out)
  have hg3 := HT3.out.fl_cell
  have HBw := Aside0.mk (show Below w.heap.size w m3 from (below_alloc (Below.refl _ _) (tokB ⟨f0, 119, f2, f3, f4⟩)).trans (HB3.out.mono (by simp)))
  refine start_ (n := 8) (S := fun w' => w'.cell? ⟨g, 2, none⟩ = some (.int .i64 fl)) (ds := []) #[false, false, false, false, false, false, false, false] (by kernel_rfl) rfl rfl (hg3) (fun hHeld => ?_)
  refine pure_ (i := 0) (N := some 44) (v := ?_) (a' := ?_) #[true, false, false, false, false, false, false, false] rfl rfl (by kernel_rfl) (fun _ _ _ h => h) (Or.inl ⟨by rfl, ?_⟩) ?_ ?_
  rotate_left
  · intro w'
    go_simp
    with_reducible rfl
  rotate_left
  · simp only [Act.put, List.setIfInBounds_toArray, List.set_cons_zero, List.set_cons_succ, i64_w, i32_w]
    rfl
  refine pure_ (i := 2) (N := some 46) (v := ?_) (a' := ?_) #[true, false, true, false, false, false, false, false] rfl rfl (by kernel_rfl) (fun _ _ _ h => h) (Or.inl ⟨by rfl, ?_⟩) ?_ ?_
  rotate_left
  · intro w'
    go_simp
    with_reducible rfl
  rotate_left
  · simp only [Act.put, List.setIfInBounds_toArray, List.set_cons_zero, List.set_cons_succ, i64_w, i32_w]
    rfl
  refine pure_ (i := 3) (N := some 47) (v := ?_) (a' := ?_) #[true, false, true, true, false, false, false, false] rfl rfl (by kernel_rfl) (fun _ _ _ h => h) (Or.inl ⟨by rfl, ?_⟩) ?_ ?_
  rotate_left
  · intro w'
    go_simp
    with_reducible rfl
  rotate_left
  · simp only [Act.put, List.setIfInBounds_toArray, List.set_cons_zero, List.set_cons_succ, i64_w, i32_w]
    rfl
  refine pure_ (i := 4) (N := some 48) (v := ?_) (a' := ?_) #[true, false, true, true, true, false, false, false] rfl rfl (by kernel_rfl) (fun _ _ _ h => h) (Or.inl ⟨by rfl, ?_⟩) ?_ ?_
  rotate_left
  · intro w'
    go_simp
    with_reducible rfl
  rotate_left
  · simp only [Act.put, List.setIfInBounds_toArray, List.set_cons_zero, List.set_cons_succ, i64_w, i32_w]
    rfl
  refine take_ (i := 5) (N := some 49) (v := ?_) (a' := ?_) #[true, false, true, true, true, true, false, false] rfl rfl (by kernel_rfl) (fun _ _ _ h => h) (Or.inl ⟨by rfl, ?_⟩) hHeld ?_ ?_
  rotate_left
  · intro w' s0
    go_simp
    with_reducible rfl
  rotate_left
  · simp only [Act.put, List.setIfInBounds_toArray, List.set_cons_zero, List.set_cons_succ, i64_w, i32_w]
    rfl
  refine one_ (i := 1) (N := some 45) #[true, true, true, true, true, true, false, false] rfl rfl (by kernel_rfl) (by decide) (fun K hK => ?_)
  refine goesV_ Tryz.func121 (by kernel_rfl) rfl #[] (by rfl) rfl rfl (by rfl) (by simp only [List.map_toArray, List.map_nil]) ?_
  with_reducible refine (tree_letters.calls lettersL _ letters_f).mono ?_
  rintro e w1 ⟨v1, rfl, hR1, hb1⟩
  refine ⟨_, rfl, ?_⟩
  have HT4 := Aside0.mk (HT3.out.grow (below_step (below_drew1 (Below.refl _ _)) hb1))
  have HB4 := Aside0.mk (HBw.out.trans ((below_step (below_drew1 (Below.refl _ _)) hb1).mono HBw.out.size))
  obtain ⟨A1, c1, rfl⟩ := Kd.R_slice hR1
  have hcl := close_of_R fl hR1
  skip
  clear hR1 hb1
  refine hK.out _ _ (HT4.out.fl_cell) (fun hHeld => ?_)
  clear hK K
  refine norm_ (a' := ?_) ?_ ?_
  rotate_left
  · show Act.put _ (some 45) _ = _
    simp only [Act.put, List.setIfInBounds_toArray, List.set_cons_zero, List.set_cons_succ, i64_w, i32_w]
    rfl
  refine one_ (i := 6) (N := some 50) #[true, true, true, true, true, true, true, false] rfl rfl (by kernel_rfl) (by decide) (fun K hK => ?_)
  refine goes_ Tryz.func12 (by kernel_rfl) rfl #[.slice A1 lettersL.length c1, .int .i64 fl] (by rfl) rfl rfl (by simp only [List.map_toArray, List.map_cons, List.map_nil]; rfl) ?_
  with_reducible refine (hcl).mono ?_
  rintro e w2 ⟨v2, rfl, hR2, hb2⟩
  refine ⟨_, rfl, ?_⟩
  have HT5 := Aside0.mk (HT4.out.grow hb2)
  have HR2 := Aside0.mk (Kd.R_lower hR2 HB4.out.size)
  have HB5 := Aside0.mk (HB4.out.trans (hb2.mono HB4.out.size))
  clear hR2 hb2
  refine hK.out _ _ (HT5.out.fl_cell) (fun hHeld => ?_)
  clear hK K
  refine norm_ (a' := ?_) ?_ ?_
  rotate_left
  · show Act.put _ (some 50) _ = _
    simp only [Act.put, List.setIfInBounds_toArray, List.set_cons_zero, List.set_cons_succ, i64_w, i32_w]
    rfl
  refine pure_ (i := 7) (N := some 4) (v := ?_) (a' := ?_) #[true, true, true, true, true, true, true, true] rfl rfl (by kernel_rfl) (fun _ _ _ h => h) (Or.inl ⟨by rfl, ?_⟩) ?_ ?_
  rotate_left
  · intro w'
    go_simp
    with_reducible rfl
  rotate_left
  · simp only [Act.put, List.setIfInBounds_toArray, List.set_cons_zero, List.set_cons_succ, i64_w, i32_w]
    rfl
  refine done_ (by kernel_rfl) ?_

  go_wp2_with fail
  go_ret
  exact ⟨⟨_, rfl, HR2.out⟩, HT5.out, KeepBut.of_below HB5.out g none, HB5.out⟩
set_option maxRecDepth 100000 in
set_option maxHeartbeats 1000000 in
theorem set_68 {w0 : World} {g : Nat} {en fl : Int} {ts : List S68} {w : World} (h : Rdr w0 g en fl ts w) (f0 f2 f3 f4 : Int) (h1 : ¬ f0 = 1) (h9 : ¬ f0 = 9) :
    Calls Tryz.prog 116 #[.pointer (some ⟨g, 0, none⟩), tokV ⟨f0, 68, f2, f3, f4⟩] w (RowOk w0 g en fl ts w (turnL (closeL digitsL fl))) := by
  have HT := Aside0.mk h
  have hg2 := h.fl_cell
  have hglt := h.lt
  clear h
  have hx0 := tok_cells (t := ⟨f0, 68, f2, f3, f4⟩) (w := w) (Below.refl _ _)
  have hgx := (HT.out.grow (below_alloc (Below.refl _ _) (tokB ⟨f0, 68, f2, f3, f4⟩))).fl_cell
  try dsimp only at hx0
  have hmm := @run_makeMap Tryz.prog
  have e9 : (w.alloc (tokB ⟨f0, 68, f2, f3, f4⟩)).heap.size = w.heap.size + 1 := by simp
  have HT0 := Aside0.mk (HT.out.grow (below_alloc (Below.refl _ _) (tokB ⟨f0, 68, f2, f3, f4⟩)))
  have HO0 := Aside0.mk (World.ownsMap_made (H := Unit) (w.alloc (tokB ⟨f0, 68, f2, f3, f4⟩)) Tryz.prog 3 fnElem)
  have HB0 := Aside0.mk (below_alloc (Below.refl (w.alloc (tokB ⟨f0, 68, f2, f3, f4⟩)).heap.size (w.alloc (tokB ⟨f0, 68, f2, f3, f4⟩))) (.map #[] 0))
  rw [e9] at HO0
  have q1 : (f0 == 1) = false := by simpa using h1
  have q9 : (f0 == 9) = false := by simpa using h9
  clear h1 h9
  unfold tokV
  go_enter Tryz.func116, Tryz.ntmps116
  unfold tokB at HO0
  go_wp2_with (first
    | ((with_reducible refine gate_insert 137 (.tmp 34) (.const (.int .i64 100)) (.func 119) rfl ?_); refine wpList_insert_own _ rfl (.tmp 34) (.const (.int .i64 100)) (.func 119) 137 rfl 3 134 law3 Tryz.underlying137 fnElem (w.heap.size + 1) 0 _ (by rfl) HO0.out (by decide) (.int .i64 100) (.func (.func 119) #[] #[]) (.int .i64 100) (by rfl) (by rfl) (key3 100 (by decide)) (.lit (.int .i64 119)) [] (by rfl) ?_; intro m1 ho1 hg1; have HO1 := Aside0.mk ho1; have HB1 := Aside0.mk (HB0.out.grown hg1 (Nat.le_trans (by simp) HB0.out.size) (fun k hk => by cases hk; simp)); clear ho1 hg1)
    | ((with_reducible refine gate_insert 137 (.tmp 34) (.const (.int .i64 115)) (.func 120) rfl ?_); refine wpList_insert_own _ rfl (.tmp 34) (.const (.int .i64 115)) (.func 120) 137 rfl 3 134 law3 Tryz.underlying137 fnElem (w.heap.size + 1) 1 _ (by rfl) HO1.out (by decide) (.int .i64 115) (.func (.func 120) #[] #[]) (.int .i64 115) (by rfl) (by rfl) (key3 115 (by decide)) (.lit (.int .i64 120)) [] (by rfl) ?_; intro m2 ho2 hg2; have HO2 := Aside0.mk ho2; have HB2 := Aside0.mk (HB1.out.grown hg2 (Nat.le_trans (by simp) HB1.out.size) (fun k hk => by cases hk; simp)); clear ho2 hg2)
    | ((with_reducible refine gate_insert 137 (.tmp 34) (.const (.int .i64 119)) (.func 121) rfl ?_); refine wpList_insert_own _ rfl (.tmp 34) (.const (.int .i64 119)) (.func 121) 137 rfl 3 134 law3 Tryz.underlying137 fnElem (w.heap.size + 1) 2 _ (by rfl) HO2.out (by decide) (.int .i64 119) (.func (.func 121) #[] #[]) (.int .i64 119) (by rfl) (by rfl) (key3 119 (by decide)) (.lit (.int .i64 121)) [] (by rfl) ?_; intro m3 ho3 hg3; have HO3 := Aside0.mk ho3; have HB3 := Aside0.mk (HB2.out.grown hg3 (Nat.le_trans (by simp) HB2.out.size) (fun k hk => by cases hk; simp)); clear ho3 hg3; have hx3 := tok_cells HB3.out; dsimp only at hx3)
    | (at_lookup; refine wpList_lookup_own_ok _ rfl (.tmp 37) (.tmp 39) 137 rfl 3 134 law3 Tryz.underlying137 fnElem (zero134 _) (.lit (.int .i64 0)) [] (by rfl) (w.heap.size + 1) 3 grD (by rfl) HO3.out (.int .i64 68) (.int .i64 68) (by rfl) (key3 68 (by decide)) ?_; intro v ps hv; rw [show Maps.has grD (.int .i64 68) = false from rfl])
    | fail)
  clear hmm
  have HT3 := Aside0.mk (HT0.out.grow HB3.out)
  have hg3 := HT3.out.fl_cell
  have HBw := Aside0.mk (show Below w.heap.size w m3 from (below_alloc (Below.refl _ _) (tokB ⟨f0, 68, f2, f3, f4⟩)).trans (HB3.out.mono (by simp)))
  have HLK := Aside0.mk (fun (W : World) (hW : Below m3.heap.size m3 W) => gr_look HO3.out hW 100 119 (by decide))
  have hl3 := HLK.out _ (below_drew1 (Below.refl _ _))
  have hwz : wrap64 (wrap64 165 - 65) = 100 := by unfold wrap64; omega
  refine start_ (n := 14) (S := fun w' => w'.cell? ⟨w.heap.size, 1, none⟩ = some (.int .i64 68) ∧ w'.cell? ⟨g, 2, none⟩ = some (.int .i64 fl) ∧ (Instr.lookup 137 (.map (some (w.heap.size + 1))) (.int .i64 100) false).run Tryz.prog w' = .ok (.func (.func 119) #[] #[]) w') (ds := []) #[false, false, false, false, false, false, false, false, false, false, false, false, false, false] (by kernel_rfl) rfl rfl ⟨hx3.2.1, hg3, hl3⟩ (fun hHeld => ?_)
  refine pure_ (i := 0) (N := some 51) (v := ?_) (a' := ?_) #[true, false, false, false, false, false, false, false, false, false, false, false, false, false] rfl rfl (by kernel_rfl) (fun _ _ _ h => h) (Or.inl ⟨by rfl, ?_⟩) ?_ ?_
  rotate_left
  · intro w'
    go_simp
    with_reducible rfl
  rotate_left
  · simp only [Act.put, List.setIfInBounds_toArray, List.set_cons_zero, List.set_cons_succ, i64_w, i32_w]
    rfl
  refine pure_ (i := 1) (N := some 52) (v := ?_) (a' := ?_) #[true, true, false, false, false, false, false, false, false, false, false, false, false, false] rfl rfl (by kernel_rfl) (fun _ _ _ h => h) (Or.inl ⟨by rfl, ?_⟩) ?_ ?_
  rotate_left
  · intro w'
    go_simp
    with_reducible rfl
  rotate_left
  · simp only [Act.put, List.setIfInBounds_toArray, List.set_cons_zero, List.set_cons_succ, i64_w, i32_w]
    rfl
  refine pure_ (i := 7) (N := some 58) (v := ?_) (a' := ?_) #[true, true, false, false, false, false, false, true, false, false, false, false, false, false] rfl rfl (by kernel_rfl) (fun _ _ _ h => h) (Or.inl ⟨by rfl, ?_⟩) ?_ ?_
  rotate_left
  · intro w'
    go_simp
    with_reducible rfl
  rotate_left
  · simp only [Act.put, List.setIfInBounds_toArray, List.set_cons_zero, List.set_cons_succ, i64_w, i32_w]
    rfl
  refine pure_ (i := 8) (N := some 59) (v := ?_) (a' := ?_) #[true, true, false, false, false, false, false, true, true, false, false, false, false, false] rfl rfl (by kernel_rfl) (fun _ _ _ h => h) (Or.inl ⟨by rfl, ?_⟩) ?_ ?_
  rotate_left
  · intro w'
    go_simp
    with_reducible rfl
  rotate_left
  · simp only [Act.put, List.setIfInBounds_toArray, List.set_cons_zero, List.set_cons_succ, i64_w, i32_w]
    rfl
  refine pure_ (i := 9) (N := some 60) (v := ?_) (a' := ?_) #[true, true, false, false, false, false, false, true, true, true, false, false, false, false] rfl rfl (by kernel_rfl) (fun _ _ _ h => h) (Or.inl ⟨by rfl, ?_⟩) ?_ ?_
  rotate_left
  · intro w'
    go_simp
    with_reducible rfl
  rotate_left
  · simp only [Act.put, List.setIfInBounds_toArray, List.set_cons_zero, List.set_cons_succ, i64_w, i32_w]
    rfl
  refine take_ (i := 2) (N := some 53) (v := ?_) (a' := ?_) #[true, true, true, false, false, false, false, true, true, true, false, false, false, false] rfl rfl (by kernel_rfl) (fun _ _ _ h => h) (Or.inl ⟨by rfl, ?_⟩) hHeld ?_ ?_
  rotate_left
  · rintro w' ⟨s0, s1, s2⟩
    go_simp
    with_reducible rfl
  rotate_left
  · simp only [Act.put, List.setIfInBounds_toArray, List.set_cons_zero, List.set_cons_succ, i64_w, i32_w]
    rfl
  refine pure_ (i := 3) (N := some 54) (v := ?_) (a' := ?_) #[true, true, true, true, false, false, false, true, true, true, false, false, false, false] rfl rfl (by kernel_rfl) (fun _ _ _ h => h) (Or.inl ⟨by rfl, ?_⟩) ?_ ?_
  rotate_left
  · intro w'
    go_simp
    with_reducible rfl
  rotate_left
  · simp only [Act.put, List.setIfInBounds_toArray, List.set_cons_zero, List.set_cons_succ, i64_w, i32_w]
    rfl
  refine pure_ (i := 4) (N := some 55) (v := ?_) (a' := ?_) #[true, true, true, true, true, false, false, true, true, true, false, false, false, false] rfl rfl (by kernel_rfl) (fun _ _ _ h => h) (Or.inl ⟨by rfl, ?_⟩) ?_ ?_
  rotate_left
  · intro w'
    go_simp
    with_reducible rfl
  rotate_left
  · simp only [Act.put, List.setIfInBounds_toArray, List.set_cons_zero, List.set_cons_succ, i64_w, i32_w]
    rfl
  refine take_ (i := 5) (N := some 56) (v := ?_) (a' := ?_) #[true, true, true, true, true, true, false, true, true, true, false, false, false, false] rfl rfl (by kernel_rfl) (fun _ _ _ h => h) (Or.inl ⟨by rfl, ?_⟩) hHeld ?_ ?_
  rotate_left
  · rintro w' ⟨s0, s1, s2⟩
    go_simp
    with_reducible rfl
  rotate_left
  · simp only [Act.put, List.setIfInBounds_toArray, List.set_cons_zero, List.set_cons_succ, i64_w, i32_w]
    rfl
  refine take_ (i := 10) (N := some 61) (v := ?_) (a' := ?_) #[true, true, true, true, true, true, false, true, true, true, true, false, false, false] rfl rfl (by kernel_rfl) (fun _ _ _ h => h) (Or.inl ⟨by rfl, ?_⟩) hHeld ?_ ?_
  rotate_left
  · rintro w' ⟨s0, s1, s2⟩
    go_simp
    with_reducible rfl
  rotate_left
  · simp only [Act.put, List.setIfInBounds_toArray, List.set_cons_zero, List.set_cons_succ, i64_w, i32_w]
    rfl
  refine one_ (i := 6) (N := some 57) #[true, true, true, true, true, true, true, true, true, true, true, false, false, false] rfl rfl (by kernel_rfl) (by decide) (fun K hK => ?_)
  refine goesV_ Tryz.func119 (by kernel_rfl) rfl #[] (by rfl) rfl rfl (by rfl) (by simp only [List.map_toArray, List.map_nil]) ?_
  with_reducible refine (tree_digits.calls digitsL _ digits_f).mono ?_
  rintro e w1 ⟨v1, rfl, hR1, hb1⟩
  refine ⟨_, rfl, ?_⟩
  have HM4 := Aside0.mk (below_step (below_drew1 (Below.refl m3.heap.size m3)) hb1)
  have HT4 := Aside0.mk (HT3.out.grow HM4.out)
  have HB4 := Aside0.mk (HBw.out.trans (HM4.out.mono HBw.out.size))
  have hy4 := tok_cells (below_step HB3.out HM4.out)
  obtain ⟨A1, c1, rfl⟩ := Kd.R_slice hR1
  have hcl := close_of_R fl hR1
  clear hR1 hb1
  refine hK.out _ _ ⟨hy4.2.1, HT4.out.fl_cell, (HLK.out _ HM4.out)⟩ (fun hHeld => ?_)
  clear hK K
  refine norm_ (a' := ?_) ?_ ?_
  rotate_left
  · show Act.put _ (some 57) _ = _
    simp only [Act.put, List.setIfInBounds_toArray, List.set_cons_zero, List.set_cons_succ, i64_w, i32_w]
    rfl
  refine one_ (i := 11) (N := some 62) #[true, true, true, true, true, true, true, true, true, true, true, true, false, false] rfl rfl (by kernel_rfl) (by decide) (fun K hK => ?_)
  refine goes_ Tryz.func12 (by kernel_rfl) rfl #[.slice A1 digitsL.length c1, .int .i64 fl] (by rfl) rfl rfl (by simp only [List.map_toArray, List.map_cons, List.map_nil]; rfl) ?_
  with_reducible refine (hcl).mono ?_
  rintro e w2 ⟨v2, rfl, hR2, hb2⟩
  refine ⟨_, rfl, ?_⟩
  have HM5 := Aside0.mk (below_step HM4.out hb2)
  have HT5 := Aside0.mk (HT4.out.grow hb2)
  have HB5 := Aside0.mk (HB4.out.trans (hb2.mono HB4.out.size))
  have hy5 := tok_cells (below_step HB3.out HM5.out)
  obtain ⟨A2, c2, rfl⟩ := Kd.R_slice hR2
  have htn := tree_Turn.calls A2 c2 _ _ w2 (Kd.R_reads' hR2).2.2 (Kd.R_reads' hR2).2.1 rfl
  clear hR2 hb2
  refine hK.out _ _ ⟨hy5.2.1, HT5.out.fl_cell, (HLK.out _ HM5.out)⟩ (fun hHeld => ?_)
  clear hK K
  refine norm_ (a' := ?_) ?_ ?_
  rotate_left
  · show Act.put _ (some 62) _ = _
    simp only [Act.put, List.setIfInBounds_toArray, List.set_cons_zero, List.set_cons_succ, i64_w, i32_w]
    rfl
  refine one_ (i := 12) (N := some 63) #[true, true, true, true, true, true, true, true, true, true, true, true, true, false] rfl rfl (by kernel_rfl) (by decide) (fun K hK => ?_)
  refine goes_ Tryz.func14 (by kernel_rfl) rfl #[.slice A2 (closeL digitsL fl).length c2] (by rfl) rfl rfl (by simp only [List.map_toArray, List.map_cons, List.map_nil]; rfl) ?_
  with_reducible refine (htn).mono ?_
  rintro e w5 ⟨v2, rfl, hR2, hb2⟩
  refine ⟨_, rfl, ?_⟩
  have HM6 := Aside0.mk (below_step HM5.out hb2)
  have HT6 := Aside0.mk (HT5.out.grow hb2)
  have HR2 := Aside0.mk (Kd.R_lower hR2 HB5.out.size)
  have HB6 := Aside0.mk (HB5.out.trans (hb2.mono HB5.out.size))
  have hy6 := tok_cells (below_step HB3.out HM6.out)
  clear hR2 hb2
  refine hK.out _ _ ⟨hy6.2.1, HT6.out.fl_cell, (HLK.out _ HM6.out)⟩ (fun hHeld => ?_)
  clear hK K
  refine norm_ (a' := ?_) ?_ ?_
  rotate_left
  · show Act.put _ (some 63) _ = _
    simp only [Act.put, List.setIfInBounds_toArray, List.set_cons_zero, List.set_cons_succ, i64_w, i32_w]
    rfl
  refine pure_ (i := 13) (N := some 4) (v := ?_) (a' := ?_) #[true, true, true, true, true, true, true, true, true, true, true, true, true, true] rfl rfl (by kernel_rfl) (fun _ _ _ h => h) (Or.inl ⟨by rfl, ?_⟩) ?_ ?_
  rotate_left
  · intro w'
    go_simp
    with_reducible rfl
  rotate_left
  · simp only [Act.put, List.setIfInBounds_toArray, List.set_cons_zero, List.set_cons_succ, i64_w, i32_w]
    rfl
  refine done_ (by kernel_rfl) ?_

  go_wp2_with fail
  go_ret
  exact ⟨⟨_, rfl, HR2.out⟩, HT6.out, KeepBut.of_below HB6.out g none, HB6.out⟩
set_option maxRecDepth 100000 in
set_option maxHeartbeats 1000000 in
theorem set_83 {w0 : World} {g : Nat} {en fl : Int} {ts : List S68} {w : World} (h : Rdr w0 g en fl ts w) (f0 f2 f3 f4 : Int) (h1 : ¬ f0 = 1) (h9 : ¬ f0 = 9) :
    Calls Tryz.prog 116 #[.pointer (some ⟨g, 0, none⟩), tokV ⟨f0, 83, f2, f3, f4⟩] w (RowOk w0 g en fl ts w (turnL (closeL blanksL fl))) := by
  have HT := Aside0.mk h
  have hg2 := h.fl_cell
  have hglt := h.lt
  clear h
  have hx0 := tok_cells (t := ⟨f0, 83, f2, f3, f4⟩) (w := w) (Below.refl _ _)
  have hgx := (HT.out.grow (below_alloc (Below.refl _ _) (tokB ⟨f0, 83, f2, f3, f4⟩))).fl_cell
  try dsimp only at hx0
  have hmm := @run_makeMap Tryz.prog
  have e9 : (w.alloc (tokB ⟨f0, 83, f2, f3, f4⟩)).heap.size = w.heap.size + 1 := by simp
  have HT0 := Aside0.mk (HT.out.grow (below_alloc (Below.refl _ _) (tokB ⟨f0, 83, f2, f3, f4⟩)))
  have HO0 := Aside0.mk (World.ownsMap_made (H := Unit) (w.alloc (tokB ⟨f0, 83, f2, f3, f4⟩)) Tryz.prog 3 fnElem)
  have HB0 := Aside0.mk (below_alloc (Below.refl (w.alloc (tokB ⟨f0, 83, f2, f3, f4⟩)).heap.size (w.alloc (tokB ⟨f0, 83, f2, f3, f4⟩))) (.map #[] 0))
  rw [e9] at HO0
  have q1 : (f0 == 1) = false := by simpa using h1
  have q9 : (f0 == 9) = false := by simpa using h9
  clear h1 h9
  unfold tokV
  go_enter Tryz.func116, Tryz.ntmps116
  unfold tokB at HO0
  go_wp2_with (first
    | ((with_reducible refine gate_insert 137 (.tmp 34) (.const (.int .i64 100)) (.func 119) rfl ?_); refine wpList_insert_own _ rfl (.tmp 34) (.const (.int .i64 100)) (.func 119) 137 rfl 3 134 law3 Tryz.underlying137 fnElem (w.heap.size + 1) 0 _ (by rfl) HO0.out (by decide) (.int .i64 100) (.func (.func 119) #[] #[]) (.int .i64 100) (by rfl) (by rfl) (key3 100 (by decide)) (.lit (.int .i64 119)) [] (by rfl) ?_; intro m1 ho1 hg1; have HO1 := Aside0.mk ho1; have HB1 := Aside0.mk (HB0.out.grown hg1 (Nat.le_trans (by simp) HB0.out.size) (fun k hk => by cases hk; simp)); clear ho1 hg1)
    | ((with_reducible refine gate_insert 137 (.tmp 34) (.const (.int .i64 115)) (.func 120) rfl ?_); refine wpList_insert_own _ rfl (.tmp 34) (.const (.int .i64 115)) (.func 120) 137 rfl 3 134 law3 Tryz.underlying137 fnElem (w.heap.size + 1) 1 _ (by rfl) HO1.out (by decide) (.int .i64 115) (.func (.func 120) #[] #[]) (.int .i64 115) (by rfl) (by rfl) (key3 115 (by decide)) (.lit (.int .i64 120)) [] (by rfl) ?_; intro m2 ho2 hg2; have HO2 := Aside0.mk ho2; have HB2 := Aside0.mk (HB1.out.grown hg2 (Nat.le_trans (by simp) HB1.out.size) (fun k hk => by cases hk; simp)); clear ho2 hg2)
    | ((with_reducible refine gate_insert 137 (.tmp 34) (.const (.int .i64 119)) (.func 121) rfl ?_); refine wpList_insert_own _ rfl (.tmp 34) (.const (.int .i64 119)) (.func 121) 137 rfl 3 134 law3 Tryz.underlying137 fnElem (w.heap.size + 1) 2 _ (by rfl) HO2.out (by decide) (.int .i64 119) (.func (.func 121) #[] #[]) (.int .i64 119) (by rfl) (by rfl) (key3 119 (by decide)) (.lit (.int .i64 121)) [] (by rfl) ?_; intro m3 ho3 hg3; have HO3 := Aside0.mk ho3; have HB3 := Aside0.mk (HB2.out.grown hg3 (Nat.le_trans (by simp) HB2.out.size) (fun k hk => by cases hk; simp)); clear ho3 hg3; have hx3 := tok_cells HB3.out; dsimp only at hx3)
    | (at_lookup; refine wpList_lookup_own_ok _ rfl (.tmp 37) (.tmp 39) 137 rfl 3 134 law3 Tryz.underlying137 fnElem (zero134 _) (.lit (.int .i64 0)) [] (by rfl) (w.heap.size + 1) 3 grD (by rfl) HO3.out (.int .i64 83) (.int .i64 83) (by rfl) (key3 83 (by decide)) ?_; intro v ps hv; rw [show Maps.has grD (.int .i64 83) = false from rfl])
    | fail)
  clear hmm
  have HT3 := Aside0.mk (HT0.out.grow HB3.out)
  have hg3 := HT3.out.fl_cell
  have HBw := Aside0.mk (show Below w.heap.size w m3 from (below_alloc (Below.refl _ _) (tokB ⟨f0, 83, f2, f3, f4⟩)).trans (HB3.out.mono (by simp)))
  have HLK := Aside0.mk (fun (W : World) (hW : Below m3.heap.size m3 W) => gr_look HO3.out hW 115 120 (by decide))
  have hl3 := HLK.out _ (below_drew1 (Below.refl _ _))
  have hwz : wrap64 (wrap64 180 - 65) = 115 := by unfold wrap64; omega
  refine start_ (n := 14) (S := fun w' => w'.cell? ⟨w.heap.size, 1, none⟩ = some (.int .i64 83) ∧ w'.cell? ⟨g, 2, none⟩ = some (.int .i64 fl) ∧ (Instr.lookup 137 (.map (some (w.heap.size + 1))) (.int .i64 115) false).run Tryz.prog w' = .ok (.func (.func 120) #[] #[]) w') (ds := []) #[false, false, false, false, false, false, false, false, false, false, false, false, false, false] (by kernel_rfl) rfl rfl ⟨hx3.2.1, hg3, hl3⟩ (fun hHeld => ?_)
  refine pure_ (i := 0) (N := some 51) (v := ?_) (a' := ?_) #[true, false, false, false, false, false, false, false, false, false, false, false, false, false] rfl rfl (by kernel_rfl) (fun _ _ _ h => h) (Or.inl ⟨by rfl, ?_⟩) ?_ ?_
  rotate_left
  · intro w'
    go_simp
    with_reducible rfl
  rotate_left
  · simp only [Act.put, List.setIfInBounds_toArray, List.set_cons_zero, List.set_cons_succ, i64_w, i32_w]
    rfl
  refine pure_ (i := 1) (N := some 52) (v := ?_) (a' := ?_) #[true, true, false, false, false, false, false, false, false, false, false, false, false, false] rfl rfl (by kernel_rfl) (fun _ _ _ h => h) (Or.inl ⟨by rfl, ?_⟩) ?_ ?_
  rotate_left
  · intro w'
    go_simp
    with_reducible rfl
  rotate_left
  · simp only [Act.put, List.setIfInBounds_toArray, List.set_cons_zero, List.set_cons_succ, i64_w, i32_w]
    rfl
  refine pure_ (i := 7) (N := some 58) (v := ?_) (a' := ?_) #[true, true, false, false, false, false, false, true, false, false, false, false, false, false] rfl rfl (by kernel_rfl) (fun _ _ _ h => h) (Or.inl ⟨by rfl, ?_⟩) ?_ ?_
  rotate_left
  · intro w'
    go_simp
    with_reducible rfl
  rotate_left
  · simp only [Act.put, List.setIfInBounds_toArray, List.set_cons_zero, List.set_cons_succ, i64_w, i32_w]
    rfl
  refine pure_ (i := 8) (N := some 59) (v := ?_) (a' := ?_) #[true, true, false, false, false, false, false, true, true, false, false, false, false, false] rfl rfl (by kernel_rfl) (fun _ _ _ h => h) (Or.inl ⟨by rfl, ?_⟩) ?_ ?_
  rotate_left
  · intro w'
    go_simp
    with_reducible rfl
  rotate_left
  · simp only [Act.put, List.setIfInBounds_toArray, List.set_cons_zero, List.set_cons_succ, i64_w, i32_w]
    rfl
  refine pure_ (i := 9) (N := some 60) (v := ?_) (a' := ?_) #[true, true, false, false, false, false, false, true, true, true, false, false, false, false] rfl rfl (by kernel_rfl) (fun _ _ _ h => h) (Or.inl ⟨by rfl, ?_⟩) ?_ ?_
  rotate_left
  · intro w'
    go_simp
    with_reducible rfl
  rotate_left
  · simp only [Act.put, List.setIfInBounds_toArray, List.set_cons_zero, List.set_cons_succ, i64_w, i32_w]
    rfl
  refine take_ (i := 2) (N := some 53) (v := ?_) (a' := ?_) #[true, true, true, false, false, false, false, true, true, true, false, false, false, false] rfl rfl (by kernel_rfl) (fun _ _ _ h => h) (Or.inl ⟨by rfl, ?_⟩) hHeld ?_ ?_
  rotate_left
  · rintro w' ⟨s0, s1, s2⟩
    go_simp
    with_reducible rfl
  rotate_left
  · simp only [Act.put, List.setIfInBounds_toArray, List.set_cons_zero, List.set_cons_succ, i64_w, i32_w]
    rfl
  refine pure_ (i := 3) (N := some 54) (v := ?_) (a' := ?_) #[true, true, true, true, false, false, false, true, true, true, false, false, false, false] rfl rfl (by kernel_rfl) (fun _ _ _ h => h) (Or.inl ⟨by rfl, ?_⟩) ?_ ?_
  rotate_left
  · intro w'
    go_simp
    with_reducible rfl
  rotate_left
  · simp only [Act.put, List.setIfInBounds_toArray, List.set_cons_zero, List.set_cons_succ, i64_w, i32_w]
    rfl
  refine pure_ (i := 4) (N := some 55) (v := ?_) (a' := ?_) #[true, true, true, true, true, false, false, true, true, true, false, false, false, false] rfl rfl (by kernel_rfl) (fun _ _ _ h => h) (Or.inl ⟨by rfl, ?_⟩) ?_ ?_
  rotate_left
  · intro w'
    go_simp
    with_reducible rfl
  rotate_left
  · simp only [Act.put, List.setIfInBounds_toArray, List.set_cons_zero, List.set_cons_succ, i64_w, i32_w]
    rfl
  refine take_ (i := 5) (N := some 56) (v := ?_) (a' := ?_) #[true, true, true, true, true, true, false, true, true, true, false, false, false, false] rfl rfl (by kernel_rfl) (fun _ _ _ h => h) (Or.inl ⟨by rfl, ?_⟩) hHeld ?_ ?_
  rotate_left
  · rintro w' ⟨s0, s1, s2⟩
    go_simp
    with_reducible rfl
  rotate_left
  · simp only [Act.put, List.setIfInBounds_toArray, List.set_cons_zero, List.set_cons_succ, i64_w, i32_w]
    rfl
  refine take_ (i := 10) (N := some 61) (v := ?_) (a' := ?_) #[true, true, true, true, true, true, false, true, true, true, true, false, false, false] rfl rfl (by kernel_rfl) (fun _ _ _ h => h) (Or.inl ⟨by rfl, ?_⟩) hHeld ?_ ?_
  rotate_left
  · rintro w' ⟨s0, s1, s2⟩
    go_simp
    with_reducible rfl
  rotate_left
  · simp only [Act.put, List.setIfInBounds_toArray, List.set_cons_zero, List.set_cons_succ, i64_w, i32_w]
    rfl
  refine one_ (i := 6) (N := some 57) #[true, true, true, true, true, true, true, true, true, true, true, false, false, false] rfl rfl (by kernel_rfl) (by decide) (fun K hK => ?_)
  refine goesV_ Tryz.func120 (by kernel_rfl) rfl #[] (by rfl) rfl rfl (by rfl) (by simp only [List.map_toArray, List.map_nil]) ?_
  with_reducible refine (tree_blanks.calls blanksL _ blanks_f).mono ?_
  rintro e w1 ⟨v1, rfl, hR1, hb1⟩
  refine ⟨_, rfl, ?_⟩
  have HM4 := Aside0.mk (below_step (below_drew1 (Below.refl m3.heap.size m3)) hb1)
  have HT4 := Aside0.mk (HT3.out.grow HM4.out)
  have HB4 := Aside0.mk (HBw.out.trans (HM4.out.mono HBw.out.size))
  have hy4 := tok_cells (below_step HB3.out HM4.out)
  obtain ⟨A1, c1, rfl⟩ := Kd.R_slice hR1
  have hcl := close_of_R fl hR1
  clear hR1 hb1
  refine hK.out _ _ ⟨hy4.2.1, HT4.out.fl_cell, (HLK.out _ HM4.out)⟩ (fun hHeld => ?_)
  clear hK K
  refine norm_ (a' := ?_) ?_ ?_
  rotate_left
  · show Act.put _ (some 57) _ = _
    simp only [Act.put, List.setIfInBounds_toArray, List.set_cons_zero, List.set_cons_succ, i64_w, i32_w]
    rfl
  refine one_ (i := 11) (N := some 62) #[true, true, true, true, true, true, true, true, true, true, true, true, false, false] rfl rfl (by kernel_rfl) (by decide) (fun K hK => ?_)
  refine goes_ Tryz.func12 (by kernel_rfl) rfl #[.slice A1 blanksL.length c1, .int .i64 fl] (by rfl) rfl rfl (by simp only [List.map_toArray, List.map_cons, List.map_nil]; rfl) ?_
  with_reducible refine (hcl).mono ?_
  rintro e w2 ⟨v2, rfl, hR2, hb2⟩
  refine ⟨_, rfl, ?_⟩
  have HM5 := Aside0.mk (below_step HM4.out hb2)
  have HT5 := Aside0.mk (HT4.out.grow hb2)
  have HB5 := Aside0.mk (HB4.out.trans (hb2.mono HB4.out.size))
  have hy5 := tok_cells (below_step HB3.out HM5.out)
  obtain ⟨A2, c2, rfl⟩ := Kd.R_slice hR2
  have htn := tree_Turn.calls A2 c2 _ _ w2 (Kd.R_reads' hR2).2.2 (Kd.R_reads' hR2).2.1 rfl
  clear hR2 hb2
  refine hK.out _ _ ⟨hy5.2.1, HT5.out.fl_cell, (HLK.out _ HM5.out)⟩ (fun hHeld => ?_)
  clear hK K
  refine norm_ (a' := ?_) ?_ ?_
  rotate_left
  · show Act.put _ (some 62) _ = _
    simp only [Act.put, List.setIfInBounds_toArray, List.set_cons_zero, List.set_cons_succ, i64_w, i32_w]
    rfl
  refine one_ (i := 12) (N := some 63) #[true, true, true, true, true, true, true, true, true, true, true, true, true, false] rfl rfl (by kernel_rfl) (by decide) (fun K hK => ?_)
  refine goes_ Tryz.func14 (by kernel_rfl) rfl #[.slice A2 (closeL blanksL fl).length c2] (by rfl) rfl rfl (by simp only [List.map_toArray, List.map_cons, List.map_nil]; rfl) ?_
  with_reducible refine (htn).mono ?_
  rintro e w5 ⟨v2, rfl, hR2, hb2⟩
  refine ⟨_, rfl, ?_⟩
  have HM6 := Aside0.mk (below_step HM5.out hb2)
  have HT6 := Aside0.mk (HT5.out.grow hb2)
  have HR2 := Aside0.mk (Kd.R_lower hR2 HB5.out.size)
  have HB6 := Aside0.mk (HB5.out.trans (hb2.mono HB5.out.size))
  have hy6 := tok_cells (below_step HB3.out HM6.out)
  clear hR2 hb2
  refine hK.out _ _ ⟨hy6.2.1, HT6.out.fl_cell, (HLK.out _ HM6.out)⟩ (fun hHeld => ?_)
  clear hK K
  refine norm_ (a' := ?_) ?_ ?_
  rotate_left
  · show Act.put _ (some 63) _ = _
    simp only [Act.put, List.setIfInBounds_toArray, List.set_cons_zero, List.set_cons_succ, i64_w, i32_w]
    rfl
  refine pure_ (i := 13) (N := some 4) (v := ?_) (a' := ?_) #[true, true, true, true, true, true, true, true, true, true, true, true, true, true] rfl rfl (by kernel_rfl) (fun _ _ _ h => h) (Or.inl ⟨by rfl, ?_⟩) ?_ ?_
  rotate_left
  · intro w'
    go_simp
    with_reducible rfl
  rotate_left
  · simp only [Act.put, List.setIfInBounds_toArray, List.set_cons_zero, List.set_cons_succ, i64_w, i32_w]
    rfl
  refine done_ (by kernel_rfl) ?_

  go_wp2_with fail
  go_ret
  exact ⟨⟨_, rfl, HR2.out⟩, HT6.out, KeepBut.of_below HB6.out g none, HB6.out⟩
set_option maxRecDepth 100000 in
set_option maxHeartbeats 1000000 in
theorem set_87 {w0 : World} {g : Nat} {en fl : Int} {ts : List S68} {w : World} (h : Rdr w0 g en fl ts w) (f0 f2 f3 f4 : Int) (h1 : ¬ f0 = 1) (h9 : ¬ f0 = 9) :
    Calls Tryz.prog 116 #[.pointer (some ⟨g, 0, none⟩), tokV ⟨f0, 87, f2, f3, f4⟩] w (RowOk w0 g en fl ts w (turnL (closeL lettersL fl))) := by
  have HT := Aside0.mk h
  have hg2 := h.fl_cell
  have hglt := h.lt
  clear h
  have hx0 := tok_cells (t := ⟨f0, 87, f2, f3, f4⟩) (w := w) (Below.refl _ _)
  have hgx := (HT.out.grow (below_alloc (Below.refl _ _) (tokB ⟨f0, 87, f2, f3, f4⟩))).fl_cell
  try dsimp only at hx0
  have hmm := @run_makeMap Tryz.prog
  have e9 : (w.alloc (tokB ⟨f0, 87, f2, f3, f4⟩)).heap.size = w.heap.size + 1 := by simp
  have HT0 := Aside0.mk (HT.out.grow (below_alloc (Below.refl _ _) (tokB ⟨f0, 87, f2, f3, f4⟩)))
  have HO0 := Aside0.mk (World.ownsMap_made (H := Unit) (w.alloc (tokB ⟨f0, 87, f2, f3, f4⟩)) Tryz.prog 3 fnElem)
  have HB0 := Aside0.mk (below_alloc (Below.refl (w.alloc (tokB ⟨f0, 87, f2, f3, f4⟩)).heap.size (w.alloc (tokB ⟨f0, 87, f2, f3, f4⟩))) (.map #[] 0))
  rw [e9] at HO0
  have q1 : (f0 == 1) = false := by simpa using h1
  have q9 : (f0 == 9) = false := by simpa using h9
  clear h1 h9
  unfold tokV
  go_enter Tryz.func116, Tryz.ntmps116
  unfold tokB at HO0
  go_wp2_with (first
    | ((with_reducible refine gate_insert 137 (.tmp 34) (.const (.int .i64 100)) (.func 119) rfl ?_); refine wpList_insert_own _ rfl (.tmp 34) (.const (.int .i64 100)) (.func 119) 137 rfl 3 134 law3 Tryz.underlying137 fnElem (w.heap.size + 1) 0 _ (by rfl) HO0.out (by decide) (.int .i64 100) (.func (.func 119) #[] #[]) (.int .i64 100) (by rfl) (by rfl) (key3 100 (by decide)) (.lit (.int .i64 119)) [] (by rfl) ?_; intro m1 ho1 hg1; have HO1 := Aside0.mk ho1; have HB1 := Aside0.mk (HB0.out.grown hg1 (Nat.le_trans (by simp) HB0.out.size) (fun k hk => by cases hk; simp)); clear ho1 hg1)
    | ((with_reducible refine gate_insert 137 (.tmp 34) (.const (.int .i64 115)) (.func 120) rfl ?_); refine wpList_insert_own _ rfl (.tmp 34) (.const (.int .i64 115)) (.func 120) 137 rfl 3 134 law3 Tryz.underlying137 fnElem (w.heap.size + 1) 1 _ (by rfl) HO1.out (by decide) (.int .i64 115) (.func (.func 120) #[] #[]) (.int .i64 115) (by rfl) (by rfl) (key3 115 (by decide)) (.lit (.int .i64 120)) [] (by rfl) ?_; intro m2 ho2 hg2; have HO2 := Aside0.mk ho2; have HB2 := Aside0.mk (HB1.out.grown hg2 (Nat.le_trans (by simp) HB1.out.size) (fun k hk => by cases hk; simp)); clear ho2 hg2)
    | ((with_reducible refine gate_insert 137 (.tmp 34) (.const (.int .i64 119)) (.func 121) rfl ?_); refine wpList_insert_own _ rfl (.tmp 34) (.const (.int .i64 119)) (.func 121) 137 rfl 3 134 law3 Tryz.underlying137 fnElem (w.heap.size + 1) 2 _ (by rfl) HO2.out (by decide) (.int .i64 119) (.func (.func 121) #[] #[]) (.int .i64 119) (by rfl) (by rfl) (key3 119 (by decide)) (.lit (.int .i64 121)) [] (by rfl) ?_; intro m3 ho3 hg3; have HO3 := Aside0.mk ho3; have HB3 := Aside0.mk (HB2.out.grown hg3 (Nat.le_trans (by simp) HB2.out.size) (fun k hk => by cases hk; simp)); clear ho3 hg3; have hx3 := tok_cells HB3.out; dsimp only at hx3)
    | (at_lookup; refine wpList_lookup_own_ok _ rfl (.tmp 37) (.tmp 39) 137 rfl 3 134 law3 Tryz.underlying137 fnElem (zero134 _) (.lit (.int .i64 0)) [] (by rfl) (w.heap.size + 1) 3 grD (by rfl) HO3.out (.int .i64 87) (.int .i64 87) (by rfl) (key3 87 (by decide)) ?_; intro v ps hv; rw [show Maps.has grD (.int .i64 87) = false from rfl])
    | fail)
  clear hmm
  have HT3 := Aside0.mk (HT0.out.grow HB3.out)
  have hg3 := HT3.out.fl_cell
  have HBw := Aside0.mk (show Below w.heap.size w m3 from (below_alloc (Below.refl _ _) (tokB ⟨f0, 87, f2, f3, f4⟩)).trans (HB3.out.mono (by simp)))
  have HLK := Aside0.mk (fun (W : World) (hW : Below m3.heap.size m3 W) => gr_look HO3.out hW 119 121 (by decide))
  have hl3 := HLK.out _ (below_drew1 (Below.refl _ _))
  have hwz : wrap64 (wrap64 184 - 65) = 119 := by unfold wrap64; omega
  refine start_ (n := 14) (S := fun w' => w'.cell? ⟨w.heap.size, 1, none⟩ = some (.int .i64 87) ∧ w'.cell? ⟨g, 2, none⟩ = some (.int .i64 fl) ∧ (Instr.lookup 137 (.map (some (w.heap.size + 1))) (.int .i64 119) false).run Tryz.prog w' = .ok (.func (.func 121) #[] #[]) w') (ds := []) #[false, false, false, false, false, false, false, false, false, false, false, false, false, false] (by kernel_rfl) rfl rfl ⟨hx3.2.1, hg3, hl3⟩ (fun hHeld => ?_)
  refine pure_ (i := 0) (N := some 51) (v := ?_) (a' := ?_) #[true, false, false, false, false, false, false, false, false, false, false, false, false, false] rfl rfl (by kernel_rfl) (fun _ _ _ h => h) (Or.inl ⟨by rfl, ?_⟩) ?_ ?_
  rotate_left
  · intro w'
    go_simp
    with_reducible rfl
  rotate_left
  · simp only [Act.put, List.setIfInBounds_toArray, List.set_cons_zero, List.set_cons_succ, i64_w, i32_w]
    rfl
  refine pure_ (i := 1) (N := some 52) (v := ?_) (a' := ?_) #[true, true, false, false, false, false, false, false, false, false, false, false, false, false] rfl rfl (by kernel_rfl) (fun _ _ _ h => h) (Or.inl ⟨by rfl, ?_⟩) ?_ ?_
  rotate_left
  · intro w'
    go_simp
    with_reducible rfl
  rotate_left
  · simp only [Act.put, List.setIfInBounds_toArray, List.set_cons_zero, List.set_cons_succ, i64_w, i32_w]
    rfl
  refine pure_ (i := 7) (N := some 58) (v := ?_) (a' := ?_) #[true, true, false, false, false, false, false, true, false, false, false, false, false, false] rfl rfl (by kernel_rfl) (fun _ _ _ h => h) (Or.inl ⟨by rfl, ?_⟩) ?_ ?_
  rotate_left
  · intro w'
    go_simp
    with_reducible rfl
  rotate_left
  · simp only [Act.put, List.setIfInBounds_toArray, List.set_cons_zero, List.set_cons_succ, i64_w, i32_w]
    rfl
  refine pure_ (i := 8) (N := some 59) (v := ?_) (a' := ?_) #[true, true, false, false, false, false, false, true, true, false, false, false, false, false] rfl rfl (by kernel_rfl) (fun _ _ _ h => h) (Or.inl ⟨by rfl, ?_⟩) ?_ ?_
  rotate_left
  · intro w'
    go_simp
    with_reducible rfl
  rotate_left
  · simp only [Act.put, List.setIfInBounds_toArray, List.set_cons_zero, List.set_cons_succ, i64_w, i32_w]
    rfl
  refine pure_ (i := 9) (N := some 60) (v := ?_) (a' := ?_) #[true, true, false, false, false, false, false, true, true, true, false, false, false, false] rfl rfl (by kernel_rfl) (fun _ _ _ h => h) (Or.inl ⟨by rfl, ?_⟩) ?_ ?_
  rotate_left
  · intro w'
    go_simp
    with_reducible rfl
  rotate_left
  · simp only [Act.put, List.setIfInBounds_toArray, List.set_cons_zero, List.set_cons_succ, i64_w, i32_w]
    rfl
  refine take_ (i := 2) (N := some 53) (v := ?_) (a' := ?_) #[true, true, true, false, false, false, false, true, true, true, false, false, false, false] rfl rfl (by kernel_rfl) (fun _ _ _ h => h) (Or.inl ⟨by rfl, ?_⟩) hHeld ?_ ?_
  rotate_left
  · rintro w' ⟨s0, s1, s2⟩
    go_simp
    with_reducible rfl
  rotate_left
  · simp only [Act.put, List.setIfInBounds_toArray, List.set_cons_zero, List.set_cons_succ, i64_w, i32_w]
    rfl
  refine pure_ (i := 3) (N := some 54) (v := ?_) (a' := ?_) #[true, true, true, true, false, false, false, true, true, true, false, false, false, false] rfl rfl (by kernel_rfl) (fun _ _ _ h => h) (Or.inl ⟨by rfl, ?_⟩) ?_ ?_
  rotate_left
  · intro w'
    go_simp
    with_reducible rfl
  rotate_left
  · simp only [Act.put, List.setIfInBounds_toArray, List.set_cons_zero, List.set_cons_succ, i64_w, i32_w]
    rfl
  refine pure_ (i := 4) (N := some 55) (v := ?_) (a' := ?_) #[true, true, true, true, true, false, false, true, true, true, false, false, false, false] rfl rfl (by kernel_rfl) (fun _ _ _ h => h) (Or.inl ⟨by rfl, ?_⟩) ?_ ?_
  rotate_left
  · intro w'
    go_simp
    with_reducible rfl
  rotate_left
  · simp only [Act.put, List.setIfInBounds_toArray, List.set_cons_zero, List.set_cons_succ, i64_w, i32_w]
    rfl
  refine take_ (i := 5) (N := some 56) (v := ?_) (a' := ?_) #[true, true, true, true, true, true, false, true, true, true, false, false, false, false] rfl rfl (by kernel_rfl) (fun _ _ _ h => h) (Or.inl ⟨by rfl, ?_⟩) hHeld ?_ ?_
  rotate_left
  · rintro w' ⟨s0, s1, s2⟩
    go_simp
    with_reducible rfl
  rotate_left
  · simp only [Act.put, List.setIfInBounds_toArray, List.set_cons_zero, List.set_cons_succ, i64_w, i32_w]
    rfl
  refine take_ (i := 10) (N := some 61) (v := ?_) (a' := ?_) #[true, true, true, true, true, true, false, true, true, true, true, false, false, false] rfl rfl (by kernel_rfl) (fun _ _ _ h => h) (Or.inl ⟨by rfl, ?_⟩) hHeld ?_ ?_
  rotate_left
  · rintro w' ⟨s0, s1, s2⟩
    go_simp
    with_reducible rfl
  rotate_left
  · simp only [Act.put, List.setIfInBounds_toArray, List.set_cons_zero, List.set_cons_succ, i64_w, i32_w]
    rfl
  refine one_ (i := 6) (N := some 57) #[true, true, true, true, true, true, true, true, true, true, true, false, false, false] rfl rfl (by kernel_rfl) (by decide) (fun K hK => ?_)
  refine goesV_ Tryz.func121 (by kernel_rfl) rfl #[] (by rfl) rfl rfl (by rfl) (by simp only [List.map_toArray, List.map_nil]) ?_
  with_reducible refine (tree_letters.calls lettersL _ letters_f).mono ?_
  rintro e w1 ⟨v1, rfl, hR1, hb1⟩
  refine ⟨_, rfl, ?_⟩
  have HM4 := Aside0.mk (below_step (below_drew1 (Below.refl m3.heap.size m3)) hb1)
  have HT4 := Aside0.mk (HT3.out.grow HM4.out)
  have HB4 := Aside0.mk (HBw.out.trans (HM4.out.mono HBw.out.size))
  have hy4 := tok_cells (below_step HB3.out HM4.out)
  obtain ⟨A1, c1, rfl⟩ := Kd.R_slice hR1
  have hcl := close_of_R fl hR1
  clear hR1 hb1
  refine hK.out _ _ ⟨hy4.2.1, HT4.out.fl_cell, (HLK.out _ HM4.out)⟩ (fun hHeld => ?_)
  clear hK K
  refine norm_ (a' := ?_) ?_ ?_
  rotate_left
  · show Act.put _ (some 57) _ = _
    simp only [Act.put, List.setIfInBounds_toArray, List.set_cons_zero, List.set_cons_succ, i64_w, i32_w]
    rfl
  refine one_ (i := 11) (N := some 62) #[true, true, true, true, true, true, true, true, true, true, true, true, false, false] rfl rfl (by kernel_rfl) (by decide) (fun K hK => ?_)
  refine goes_ Tryz.func12 (by kernel_rfl) rfl #[.slice A1 lettersL.length c1, .int .i64 fl] (by rfl) rfl rfl (by simp only [List.map_toArray, List.map_cons, List.map_nil]; rfl) ?_
  with_reducible refine (hcl).mono ?_
  rintro e w2 ⟨v2, rfl, hR2, hb2⟩
  refine ⟨_, rfl, ?_⟩
  have HM5 := Aside0.mk (below_step HM4.out hb2)
  have HT5 := Aside0.mk (HT4.out.grow hb2)
  have HB5 := Aside0.mk (HB4.out.trans (hb2.mono HB4.out.size))
  have hy5 := tok_cells (below_step HB3.out HM5.out)
  obtain ⟨A2, c2, rfl⟩ := Kd.R_slice hR2
  have htn := tree_Turn.calls A2 c2 _ _ w2 (Kd.R_reads' hR2).2.2 (Kd.R_reads' hR2).2.1 rfl
  clear hR2 hb2
  refine hK.out _ _ ⟨hy5.2.1, HT5.out.fl_cell, (HLK.out _ HM5.out)⟩ (fun hHeld => ?_)
  clear hK K
  refine norm_ (a' := ?_) ?_ ?_
  rotate_left
  · show Act.put _ (some 62) _ = _
    simp only [Act.put, List.setIfInBounds_toArray, List.set_cons_zero, List.set_cons_succ, i64_w, i32_w]
    rfl
  refine one_ (i := 12) (N := some 63) #[true, true, true, true, true, true, true, true, true, true, true, true, true, false] rfl rfl (by kernel_rfl) (by decide) (fun K hK => ?_)
  refine goes_ Tryz.func14 (by kernel_rfl) rfl #[.slice A2 (closeL lettersL fl).length c2] (by rfl) rfl rfl (by simp only [List.map_toArray, List.map_cons, List.map_nil]; rfl) ?_
  with_reducible refine (htn).mono ?_
  rintro e w5 ⟨v2, rfl, hR2, hb2⟩
  refine ⟨_, rfl, ?_⟩
  have HM6 := Aside0.mk (below_step HM5.out hb2)
  have HT6 := Aside0.mk (HT5.out.grow hb2)
  have HR2 := Aside0.mk (Kd.R_lower hR2 HB5.out.size)
  have HB6 := Aside0.mk (HB5.out.trans (hb2.mono HB5.out.size))
  have hy6 := tok_cells (below_step HB3.out HM6.out)
  clear hR2 hb2
  refine hK.out _ _ ⟨hy6.2.1, HT6.out.fl_cell, (HLK.out _ HM6.out)⟩ (fun hHeld => ?_)
  clear hK K
  refine norm_ (a' := ?_) ?_ ?_
  rotate_left
  · show Act.put _ (some 63) _ = _
    simp only [Act.put, List.setIfInBounds_toArray, List.set_cons_zero, List.set_cons_succ, i64_w, i32_w]
    rfl
  refine pure_ (i := 13) (N := some 4) (v := ?_) (a' := ?_) #[true, true, true, true, true, true, true, true, true, true, true, true, true, true] rfl rfl (by kernel_rfl) (fun _ _ _ h => h) (Or.inl ⟨by rfl, ?_⟩) ?_ ?_
  rotate_left
  · intro w'
    go_simp
    with_reducible rfl
  rotate_left
  · simp only [Act.put, List.setIfInBounds_toArray, List.set_cons_zero, List.set_cons_succ, i64_w, i32_w]
    rfl
  refine done_ (by kernel_rfl) ?_

  go_wp2_with fail
  go_ret
  exact ⟨⟨_, rfl, HR2.out⟩, HT6.out, KeepBut.of_below HB6.out g none, HB6.out⟩
end Go.Proofs.YtglolcejfbhbdaaGreat.P
end
section
namespace Go.Proofs.YtglolcejfbhbdaaGreat.P
open Go.RowKit Go.Shelf Go.Maps Go.Proofs.YtglolcejfbhbdaaGreatW.PrintWords Go.Proofs.YtglolcejfbhbdaaGreatW.PrintLast Go.Proofs.YtglolcejfbhbdaaGreatW.PrintMore
set_option linter.unusedVariables false
set_option linter.unusedSimpArgs false
theorem turnGo_len : ∀ (l : List S30) (a : Int) (acc : List S30), (turnGo l a acc).length ≤ acc.length + l.length
  | [], a, acc => by rw [turnGo]; exact Nat.le_refl _
  | r :: l, a, acc => by
    rw [turnGo]
    refine Nat.le_trans (turnGo_len l _ _) ?_
    split
    · simp; omega
    · simp
theorem turnL_len (l : List S30) : (turnL l).length ≤ 501 := by
  unfold turnL
  have h := turnGo_len (setL l ++ [topR]) 0 []
  have h2 := setL_len l
  simp at h
  omega
theorem closeL_len (l : List S30) (fl : Int) : (closeL l fl).length ≤ 500 := by
  unfold closeL
  dsimp only
  unfold mirr1 fold1
  repeat' split
  all_goals exact setL_len _
def setP (fl : Int) (t : S68) : List S30 :=
  if t.f0 = 1 then closeL [⟨t.f1, t.f1⟩] fl
  else if t.f0 = 9 then closeL [⟨t.f2, t.f3⟩] fl
  else if t.f1 = 100 then closeL digitsL fl
  else if t.f1 = 115 then closeL blanksL fl
  else if t.f1 = 119 then closeL lettersL fl
  else if t.f1 = 68 then turnL (closeL digitsL fl)
  else if t.f1 = 83 then turnL (closeL blanksL fl)
  else turnL (closeL lettersL fl)
def okSet (t : S68) : Prop := t.f0 = 1 ∨ t.f0 = 9 ∨ t.f1 = 100 ∨ t.f1 = 115 ∨ t.f1 = 119 ∨ t.f1 = 68 ∨ t.f1 = 83 ∨ t.f1 = 87
theorem setP_len (fl : Int) (t : S68) : (setP fl t).length ≤ 501 := by
  unfold setP
  repeat' split
  all_goals first
    | exact Nat.le_trans (closeL_len _ _) (by omega)
    | exact turnL_len _
theorem set_ok {w0 : World} {g : Nat} {en fl : Int} {ts : List S68} {w : World} (h : Rdr w0 g en fl ts w) (t : S68) (ht : okSet t) :
    Calls Tryz.prog 116 #[.pointer (some ⟨g, 0, none⟩), tokV t] w (RowOk w0 g en fl ts w (setP fl t)) := by
  unfold setP
  by_cases h1 : t.f0 = 1
  · rw [if_pos h1]; exact set_char h t h1
  rw [if_neg h1]
  by_cases h9 : t.f0 = 9
  · rw [if_pos h9]; exact set_range h t h9
  rw [if_neg h9]
  obtain ⟨f0, f1, f2, f3, f4⟩ := t
  dsimp only at h1 h9 ⊢
  rcases ht with ht | ht | ht | ht | ht | ht | ht | ht
  · exact absurd ht h1
  · exact absurd ht h9
  all_goals (dsimp only at ht; subst ht)
  · rw [if_pos rfl]; exact set_100 h f0 f2 f3 f4 h1 h9
  · rw [if_neg (by decide), if_pos rfl]; exact set_115 h f0 f2 f3 f4 h1 h9
  · rw [if_neg (by decide), if_neg (by decide), if_pos rfl]; exact set_119 h f0 f2 f3 f4 h1 h9
  · rw [if_neg (by decide), if_neg (by decide), if_neg (by decide), if_pos rfl]; exact set_68 h f0 f2 f3 f4 h1 h9
  · rw [if_neg (by decide), if_neg (by decide), if_neg (by decide), if_neg (by decide), if_pos rfl]; exact set_83 h f0 f2 f3 f4 h1 h9
  · rw [if_neg (by decide), if_neg (by decide), if_neg (by decide), if_neg (by decide), if_neg (by decide)]; exact set_87 h f0 f2 f3 f4 h1 h9
def anyP (fl : Int) : List S30 := if (Go.bits .and .i64 fl 4 != 0) = true then turnL [] else turnL [⟨10, 10⟩]
set_option maxRecDepth 100000 in
set_option maxHeartbeats 1000000 in
theorem any_ok {w0 : World} {g : Nat} {en fl : Int} {ts : List S68} {w : World} (h : Rdr w0 g en fl ts w) :
    Calls Tryz.prog 115 #[.pointer (some ⟨g, 0, none⟩)] w (RowOk w0 g en fl ts w (anyP fl)) := by
  have HT := Aside0.mk h
  have hg2 := h.fl_cell
  have hglt := h.lt
  clear h
  unfold anyP
  cases hb : (Go.bits .and .i64 fl 4 != 0) with
  | true =>
    have htn := tree_Turn.calls none 0 [] (turnL []) w (Kd.C_nil _ _) (Nat.le_refl _) rfl
    rw [if_pos rfl]
    go_enter Tryz.func115, Tryz.ntmps115
    go_wp2_with fail
    refine htn.mono ?_
    rintro e w1 ⟨v1, rfl, hR1, hb1⟩
    have HR1 := Aside0.mk hR1
    have HB1 := Aside0.mk hb1
    clear hR1 hb1 htn
    go_wp2_with fail
    go_ret
    exact ⟨⟨_, rfl, HR1.out⟩, HT.out.grow HB1.out, KeepBut.of_below HB1.out g none, HB1.out⟩
  | false =>
    rw [if_neg (by decide)]
    go_enter Tryz.func115, Tryz.ntmps115
    go_wp2_with fail
    refine (tree_single.calls 10 10 10 _ rfl).mono ?_
    rintro e w1 ⟨rfl, hb1⟩
    have HB1 := Aside0.mk hb1
    have hRl := R_lit1 w1 0 ⟨10, 10⟩ (Nat.zero_le _)
    have htn := tree_Turn.calls (some ⟨w1.heap.size, 0, none⟩) 1 [⟨10, 10⟩] (turnL [⟨10, 10⟩]) _ (Kd.R_reads' hRl).2.2 (Nat.le_refl _) rfl
    change Calls Tryz.prog 14 #[.slice (some ⟨w1.heap.size, 0, none⟩) 1 1] _ _ at htn
    clear hb1 hRl
    go_wp2_with fail
    refine htn.mono ?_
    rintro e w2 ⟨v1, rfl, hR1, hb1⟩
    have HB2 := Aside0.mk (show Below w.heap.size w w2 from (below_alloc HB1.out _).trans (hb1.mono (by have := HB1.out.size; simp; omega)))
    have HR2 := Aside0.mk (Kd.R_lower hR1 (show w.heap.size ≤ _ by have := HB1.out.size; simp; omega))
    clear hR1 hb1 htn
    go_wp2_with fail
    go_ret
    exact ⟨⟨_, rfl, HR2.out⟩, HT.out.grow HB2.out, KeepBut.of_below HB2.out g none, HB2.out⟩
theorem Rdr.growB {w0 : World} {g B : Nat} {en fl : Int} {ts : List S68} {w w1 : World} (h : Rdr w0 g en fl ts w) (hb : Below B w w1) (hg : g < B) (h0 : w0.heap.size ≤ B) : Rdr w0 g en fl ts w1 := by
  obtain ⟨h1, h2, A, c, h3, h4, h5⟩ := h
  exact ⟨h1.trans (hb.mono h0), h2, A, c, h3, h4, (hb.block g hg).trans h5⟩
theorem keepB {w W w1 : World} {g : Nat} (h : KeepBut w W g none) (hb : Below w.heap.size W w1) (hs : W.heap.size ≤ w1.heap.size) : KeepBut w w1 g none :=
  ⟨Nat.le_trans h.1 hs, fun i hi h1 h2 => (hb.block i hi).trans (h.2 i hi h1 h2)⟩
structure RowC (w0 : World) (g : Nat) (en fl : Int) (ts : List S68) (W : World) (l : List S30) (e : Ending) (w : World) : Prop where
  ret : ∃ v, e = .returned v ∧ Kd.R k30 30 w W.heap.size (fun _ => True) v l
  st : Rdr w0 g en fl ts w
  keep : KeepBut W w g none
theorem RowOk.c {w0 : World} {g : Nat} {en fl : Int} {ts : List S68} {W : World} {l : List S30} {e : Ending} {w : World} (h : RowOk w0 g en fl ts W l e w) : RowC w0 g en fl ts W l e w := ⟨h.1, h.2, h.3⟩
theorem is1_ok {w0 : World} {g : Nat} {en fl : Int} {ts : List S68} {w : World} (h : Rdr w0 g en fl ts w) (a : Int) :
    Calls Tryz.prog 62 #[.pointer (some ⟨g, 0, none⟩), .slice (some ⟨w.heap.size, 0, none⟩) 1 1] (w.alloc (.cells #[.int .i64 a] 3)) (RdrOk w0 g en fl ts (w.alloc (.cells #[.int .i64 a] 3)) (.bool (isTok [a] ts))) :=
  ris_ok (h.grow (below_alloc (Below.refl _ _) _)) [a] _ 1 (C_litI w [a] (by simp))
theorem is2_ok {w0 : World} {g : Nat} {en fl : Int} {ts : List S68} {w : World} (h : Rdr w0 g en fl ts w) (a b : Int) :
    Calls Tryz.prog 62 #[.pointer (some ⟨g, 0, none⟩), .slice (some ⟨w.heap.size, 0, none⟩) 2 2] (w.alloc (.cells #[.int .i64 a, .int .i64 b] 3)) (RdrOk w0 g en fl ts (w.alloc (.cells #[.int .i64 a, .int .i64 b] 3)) (.bool (isTok [a, b] ts))) :=
  ris_ok (h.grow (below_alloc (Below.refl _ _) _)) [a, b] _ 2 (C_litI w [a, b] (by simp))
theorem isTok1 (a : Int) (t : S68) (r : List S68) : isTok [a] (t :: r) = decide (t.f0 = a) := by
  show hasI [a] t.f0 = _
  unfold hasI
  simp [eq_comm]
def classP (fl : Int) : List S68 → List S30 → List S30 × List S68
  | [], all => (all, [])
  | t :: ts, all => if t.f0 = 8 then (all, ts) else classP fl ts (setL (all ++ setP fl t))
def clsT : List S68 → Prop
  | [] => False
  | t :: ts => t.f0 = 8 ∨ (okSet t ∧ clsT ts)
def roundP (fl : Int) (round : Bool) (ts : List S68) : List S30 := if round = true then turnL (classP fl ts []).1 else (classP fl ts []).1
set_option maxRecDepth 100000 in
set_option maxHeartbeats 1000000 in
theorem class_ok {w0 : World} {g : Nat} {en fl : Int} {ts : List S68} {w : World} (h : Rdr w0 g en fl ts w) (round : Bool) (hc : clsT ts) :
    Calls Tryz.prog 114 #[.pointer (some ⟨g, 0, none⟩), .bool round] w (RowC w0 g en fl (classP fl ts []).2 w (roundP fl round ts)) := by
  have HT := Aside0.mk h
  have HC := Aside0.mk hc
  have hglt := h.lt
  have HRP := Aside0.mk (show roundP fl round ts = if round = true then turnL (classP fl ts []).1 else (classP fl ts []).1 from rfl)
  generalize roundP fl round ts = RP at *
  obtain ⟨rr, hrr⟩ : ∃ rr, classP fl ts [] = rr := ⟨_, rfl⟩
  rw [hrr] at HRP ⊢
  have HRR := Aside0.mk hrr
  clear h hc hrr
  go_enter Tryz.func114, Tryz.ntmps114
  go_wp2_with fail
  go_loopg [5] ts.length (fun kq v5 w' => ∃ (us : List S68) (all : List S30), us.length ≤ kq ∧ Aside0 (clsT us) ∧ Aside0 (classP fl us all = rr) ∧ Aside0 (all.length ≤ 500) ∧ Aside0 (Rdr w0 g en fl us w') ∧ Aside0 (KeepBut w w' g none) ∧ Aside0 (Kd.R k30 30 w' w.heap.size (fun k => k ≠ g) v5 all))
  case atStart => exact ⟨ts, [], Nat.le_refl _, HC, HRR, ⟨by simp⟩, HT, ⟨KeepBut.refl _ _ _⟩, ⟨Kd.R_nil _ _ _ _ _⟩⟩
  case round =>
    clear HT HC HRR
    obtain ⟨us, all, hk, HC, HRR, HAL, HT, HK, HR⟩ := hrel
    cases us with
    | nil => exact absurd HC.out (by simp [clsT])
    | cons t r =>
      have HI := Aside0.mk (isTok1 8 t r)
      obtain ⟨A5, c5, rfl⟩ := Kd.R_slice HR.out
      by_cases h8 : t.f0 = 8
      · have HRE := Aside0.mk (show (all, r) = rr by rw [← HRR.out, classP, if_pos h8])
        have HV := Aside0.mk (show isTok [8] (t :: r) = true by rw [HI.out]; simpa using h8)
        clear h8
        go_wp2_with fail
        refine (is1_ok HT.out 8).mono ?_
        rintro e w1 ⟨rfl, hT1, hk1⟩
        rw [HV.out]
        have HT1 := Aside0.mk hT1
        have HK1 := Aside0.mk (keepTr (keepAlloc HK.out _) hk1)
        have HR1 := Aside0.mk (Kd.R_keep (Kd.R_alloc HR.out _) hk1 (fun _ h => h))
        clear hT1 hk1
        go_wp2_with fail
        refine (rnext_ok HT1.out).mono ?_
        rintro e w2 ⟨rfl, hT2, hk2⟩
        have HT2 := Aside0.mk hT2
        have HK2 := Aside0.mk (keepTr HK1.out hk2)
        have HR2 := Aside0.mk (Kd.R_keep HR1.out hk2 (fun _ h => h))
        clear hT2 hk2
        obtain rfl := HRE.out
        cases round with
        | true =>
          have HRP := Aside0.mk (show RP = turnL all by rw [HRP.out]; rfl)
          have htn := tree_Turn.calls A5 c5 all (turnL all) w2 (Kd.R_reads' HR2.out).2.2 (Kd.R_reads' HR2.out).2.1 rfl
          go_wp2_with fail
          refine htn.mono ?_
          rintro e w3 ⟨v3, rfl, hR3, hb3⟩
          have HT3 := Aside0.mk (HT2.out.grow hb3)
          have HK3 := Aside0.mk (keepTr HK2.out (KeepBut.of_below hb3 g none))
          have HR3 := Aside0.mk (Kd.R_lower hR3 HK2.out.1)
          clear hR3 hb3 htn
          go_wp2_with fail
          go_ret
          exact ⟨⟨_, rfl, by rw [HRP.out]; exact HR3.out⟩, HT3.out, HK3.out⟩
        | false =>
          have HRP := Aside0.mk (show RP = all by rw [HRP.out]; rfl)
          go_wp2_with fail
          go_ret
          exact ⟨⟨_, rfl, by rw [HRP.out]; exact Kd.R_mono HR2.out (fun _ _ => trivial)⟩, HT2.out, HK2.out⟩
      · have HRE := Aside0.mk (show classP fl r (setL (all ++ setP fl t)) = rr by rw [← HRR.out, classP, if_neg h8])
        have HV := Aside0.mk (show isTok [8] (t :: r) = false by rw [HI.out]; simpa using h8)
        have HC2 := Aside0.mk (show okSet t ∧ clsT r from by have h9 := HC.out; rw [clsT] at h9; exact h9.resolve_left h8)
        clear h8
        go_wp2_with fail
        refine (is1_ok HT.out 8).mono ?_
        rintro e w1 ⟨rfl, hT1, hk1⟩
        rw [HV.out]
        have HT1 := Aside0.mk hT1
        have HK1 := Aside0.mk (keepTr (keepAlloc HK.out _) hk1)
        have HR1 := Aside0.mk (Kd.R_keep (Kd.R_alloc HR.out _) hk1 (fun _ h => h))
        clear hT1 hk1
        go_wp2_with fail
        refine (rnext_ok HT1.out).mono ?_
        rintro e w2 ⟨rfl, hT2, hk2⟩
        have HT2 := Aside0.mk hT2
        have HK2 := Aside0.mk (keepTr HK1.out hk2)
        have HR2 := Aside0.mk (Kd.R_keep HR1.out hk2 (fun _ h => h))
        clear hT2 hk2
        go_wp2_with fail
        refine (set_ok HT2.out t HC2.out.1).mono ?_
        rintro e w3 ⟨⟨v3, rfl, hR3⟩, hT3, hk3⟩
        have HT3 := Aside0.mk hT3
        have HK3 := Aside0.mk (keepTr HK2.out hk3)
        have HR3 := Aside0.mk (Kd.R_keep HR2.out hk3 (fun _ h => h))
        have HS3 := Aside0.mk (Kd.R_mono (Kd.R_bound hR3) (ok' := fun k => w2.heap.size ≤ k) (fun k hk => hk.2.1))
        have HSL := Aside0.mk (setP_len fl t)
        have HLT := Aside0.mk (Kd.R_lt HR2.out)
        clear hT3 hk3
        obtain ⟨A3, c3, rfl⟩ := Kd.R_slice hR3
        clear hR3
        generalize setP fl t = sp at *
        go_wp2_with (first
          | (at_builtin; refine Kd.R_append_rows k30 (Rr := fun x cs => cs = [.int .i64 x.f0, .int .i64 x.f1]) (w0 := w3) w.heap.size rfl (.tmp 10) (.tmp 14) 22 30 (.agg #[(.int .i64 0), (.int .i64 0)]) 16 rfl Tryz.underlying22 info30 rfl (by decide) (by decide) (.slice A5 all.length c5) all sp A3 sp.length c3 (fun k => k ≠ g) (fun _ => False) (by rfl) (by rfl) HR3.out ((Kd.R_reads' HS3.out).2.2 |>.imp_ (Below.refl _ _) (fun _ _ h => k30_open h)) (fun x cs h => by subst h; exact k30_mkM _ _ _ _) (fun _ h => h.elim) (fun k hk => by have h5 := HT3.out.lt; omega) (Below.refl _ _) HK3.out.1 (by have h5 := HAL.out; have h6 := HSL.out; omega) ?_; intro v4 w4 ho4 hb4 hg4 hat4
             have HT4 := Aside0.mk (HT3.out.growB hb4 hglt (by have h5 := HT3.out.ge; omega))
             have HK4 := Aside0.mk (keepB HK3.out hb4 hb4.size)
             obtain ⟨A4, c4, rfl⟩ := Kd.R_slice ho4
             have HR4 := Aside0.mk ho4
             generalize all ++ sp = as4 at *
             have hset := tree_Set.calls A4 c4 as4 (setL as4) w4 (Kd.R_reads' ho4).2.2 (Kd.R_reads' ho4).2.1 rfl
             clear ho4 hb4 hg4 hat4)
          | fail)
        refine hset.mono ?_
        rintro e w5 ⟨v5, rfl, hR5, hb5⟩
        have HT5 := Aside0.mk (HT4.out.grow hb5)
        have HK5 := Aside0.mk (keepTr HK4.out (KeepBut.of_below hb5 g none))
        have HR5 := Aside0.mk (Kd.R_lower (Kd.R_mono (Kd.R_bound hR5) (ok' := fun k => k ≠ g) (fun k hk => by have h5 := HT4.out.lt; have h6 := hk.2.1; omega)) HK4.out.1)
        have HL5 := Aside0.mk (setL_len as4)
        clear hR5 hb5 hset
        go_wp2_with fail
        go_roundg (r.length)
        case measure => simp at hk; omega
        case rel => exact ⟨r, _, Nat.le_refl _, ⟨HC2.out.2⟩, HRE, HL5, HT5, HK5, HR5⟩
end Go.Proofs.YtglolcejfbhbdaaGreat.P
end
section
namespace Go.Proofs.YtglolcejfbhbdaaGreat.P
open Go.RowKit Go.Proofs.YtglolcejfbhbdaaGreatW.PrintWords Go.Proofs.YtglolcejfbhbdaaGreatW.PrintLast Go.Proofs.YtglolcejfbhbdaaGreatW.PrintMore
set_option linter.unusedVariables false
set_option linter.unusedSimpArgs false
theorem FK35_openF {W : World} {ok : Nat → Prop} {x : S35} {cs : List Value} (h : Kd.FK k35 W ok x cs) : ∃ A1 c1 A4 c4, cs = [.int .i64 x.f0, .slice A1 x.f1.length c1, .int .i64 x.f2, .int .i64 x.f3, .slice A4 x.f4.length c4] ∧ x.f1.length ≤ c1 ∧ Kd.F k30 W ok A1 x.f1.length x.f1 ∧ x.f4.length ≤ c4 ∧ Kd.F k35 W ok A4 x.f4.length x.f4 := by
  obtain ⟨A1, c1, A4, c4, rfl, l1, _, l4, _⟩ := k35_open (Kd.FK_now h)
  refine ⟨A1, c1, A4, c4, rfl, l1, fun W' hW => ?_, l4, fun W' hW => ?_⟩
  · obtain ⟨A1_, c1_, A4_, c4_, he, l1_, g1_, l4_, g4_⟩ := k35_open (h W' hW)
    simp at he
    obtain ⟨⟨rfl, rfl⟩, rfl, rfl⟩ := he
    exact g1_
  · obtain ⟨A1_, c1_, A4_, c4_, he, l1_, g1_, l4_, g4_⟩ := k35_open (h W' hW)
    simp at he
    obtain ⟨⟨rfl, rfl⟩, rfl, rfl⟩ := he
    exact g4_
theorem FK35_mkF (W : World) (ok : Nat → Prop) (x : S35) {A1 : Option Addr} {c1 : Nat} (l1 : x.f1.length ≤ c1) (g1 : Kd.F k30 W ok A1 x.f1.length x.f1) {A4 : Option Addr} {c4 : Nat} (l4 : x.f4.length ≤ c4) (g4 : Kd.F k35 W ok A4 x.f4.length x.f4) : Kd.FK k35 W ok x [.int .i64 x.f0, .slice A1 x.f1.length c1, .int .i64 x.f2, .int .i64 x.f3, .slice A4 x.f4.length c4] := fun W2 hW => k35_mk W2 x l1 (g1 W2 hW) l4 (g4 W2 hW)
def severalP (kd : Int) : List S35 → S35
  | [] => ⟨1, [], 0, 0, []⟩
  | [x] => x
  | xs => ⟨kd, [], 0, 0, xs⟩
structure NodeR (W : World) (ok : Nat → Prop) (n : S35) (e : Ending) (w : World) : Prop where
  st : ∃ cs, e = .returned (.agg cs.toArray) ∧ Kd.FK k35 w ok n cs
  below : Below W.heap.size W w
theorem severalP_two {kd : Int} {x y : S35} {r : List S35} : severalP kd (x :: y :: r) = ⟨kd, [], 0, 0, x :: y :: r⟩ := rfl
set_option maxRecDepth 100000 in
theorem several_ok (kd : Int) (A : Option Addr) (c : Nat) (xs : List S35) (w : World) (ok : Nat → Prop) (hF : Kd.F k35 w ok A xs.length xs) (hc : xs.length ≤ c) :
    Calls Tryz.prog 64 #[.int .i64 kd, .slice A xs.length c] w (NodeR w ok (severalP kd xs)) := by
  match xs, hF, hc with
  | [], hF, hc =>
    clear hF
    go_enter Tryz.func64, Tryz.ntmps64
    go_wp2
    refine bodyPost_ret (v := .agg #[.int .i64 1, .slice none 0 0, .int .i64 0, .int .i64 0, .slice none 0 0]) (by simp [results, Tryz.results64, go_sem]) rfl ?_
    refine ⟨⟨[.int .i64 1, .slice none 0 0, .int .i64 0, .int .i64 0, .slice none 0 0], rfl, ?_⟩, below_alloc (Below.refl _ _) _⟩
    exact FK35_mkF _ _ ⟨1, [], 0, 0, []⟩ (Nat.le_refl _) (Kd.F_nil _ _ _) (Nat.le_refl _) (Kd.F_nil _ _ _)
  | [x], hF, hc =>
    obtain ⟨ad, cs, e1, hcl, hK, hcc, _⟩ := Kd.F_get hF z35 0 (by omega) (by simp)
    have hK : Kd.FK k35 w ok x cs := hK
    obtain ⟨A1, c1, A4, c4, rfl, l1, g1, l4, g4⟩ := FK35_openF hK
    have d0 : w.cell? ad = some (.int .i64 x.f0) := hcc 0 _ rfl
    have d1 : w.cell? ⟨ad.block, ad.off + 1, none⟩ = some (.slice A1 x.f1.length c1) := hcc 1 _ rfl
    have d2 : w.cell? ⟨ad.block, ad.off + 2, none⟩ = some (.int .i64 x.f2) := hcc 2 _ rfl
    have d3 : w.cell? ⟨ad.block, ad.off + 3, none⟩ = some (.int .i64 x.f3) := hcc 3 _ rfl
    have d4 : w.cell? ⟨ad.block, ad.off + 4, none⟩ = some (.slice A4 x.f4.length c4) := hcc 4 _ rfl
    have hlt := World.block_lt_of_cell? _ _ d0
    cases e1
    have HK := Aside0.mk hK
    have hadd : ad.add 0 = ad := rfl
    have hne : w.heap.size ≠ ad.block := by omega
    clear hF hcc hK g1 g4 hcl
    go_enter Tryz.func64, Tryz.ntmps64
    go_wp2
    refine bodyPost_ret (v := .agg #[.int .i64 x.f0, .slice A1 x.f1.length c1, .int .i64 x.f2, .int .i64 x.f3, .slice A4 x.f4.length c4]) (by simp [results, Tryz.results64, go_sem]) rfl ?_
    exact ⟨⟨_, rfl, Kd.FK_below HK.out (below_alloc (Below.refl _ _) _)⟩, below_alloc (Below.refl _ _) _⟩
  | x :: y :: r, hF, hc =>
    have HF := Aside0.mk hF
    have b0 : (((x :: y :: r).length : Int) == 0) = false := by simp; omega
    have b1 : (((x :: y :: r).length : Int) == 1) = false := by simp; omega
    have HS := Aside0.mk (severalP_two (kd := kd) (x := x) (y := y) (r := r))
    generalize x :: y :: r = zs at *
    clear hF
    go_enter Tryz.func64, Tryz.ntmps64
    go_wp2
    refine bodyPost_ret (v := .agg #[.int .i64 kd, .slice none 0 0, .int .i64 0, .int .i64 0, .slice A zs.length c]) (by simp [results, Tryz.results64, go_sem]) rfl ?_
    rw [HS.out]
    exact ⟨⟨_, rfl, FK35_mkF _ _ ⟨kd, [], 0, 0, zs⟩ (Nat.le_refl _) (Kd.F_nil _ _ _) hc (Kd.F_below HF.out (below_alloc (Below.refl _ _) _))⟩, below_alloc (Below.refl _ _) _⟩
end Go.Proofs.YtglolcejfbhbdaaGreat.P
end
section
namespace Go.Proofs.YtglolcejfbhbdaaGreat.P
open Go.RowKit Go.Proofs.YtglolcejfbhbdaaGreatW.PrintWords Go.Proofs.YtglolcejfbhbdaaGreatW.PrintLast Go.Proofs.YtglolcejfbhbdaaGreatW.PrintMore
attribute [local go_sem] max2_int min2_int max_two min_two max_three min_three max_four min_four
set_option linter.unusedVariables false
set_option linter.unusedSimpArgs false
def timesP (k lo hi : Int) : Int := if k ≠ 5 then 1 else if hi < 0 then mx 1 (mn 1000000 lo + 1) else mx 1 (mn 1000000 hi)
mutual
def sizeP : S35 → Int
  | ⟨k, _, lo, hi, kids⟩ => sizeL k lo hi kids 1
def sizeL (k lo hi : Int) : List S35 → Int → Int
  | [], s => s
  | x :: r, s => sizeL k lo hi r (mn 1000000 (s + timesP k lo hi * sizeP x))
end
theorem timesP_b (k lo hi : Int) : 1 ≤ timesP k lo hi ∧ timesP k lo hi ≤ 1000001 := by
  unfold timesP mx mn
  repeat' split
  all_goals omega
mutual
theorem sizeP_b : ∀ n : S35, 1 ≤ sizeP n ∧ sizeP n ≤ 1000000
  | ⟨k, r1, lo, hi, kids⟩ => by
    rw [sizeP]
    exact sizeL_b k lo hi kids 1 (by omega) (by omega)
theorem sizeL_b (k lo hi : Int) : ∀ (kids : List S35) (s : Int), 1 ≤ s → s ≤ 1000000 → 1 ≤ sizeL k lo hi kids s ∧ sizeL k lo hi kids s ≤ 1000000
  | [], s, h1, h2 => by rw [sizeL]; exact ⟨h1, h2⟩
  | x :: r, s, h1, h2 => by
    rw [sizeL]
    have hx := sizeP_b x
    have ht := timesP_b k lo hi
    have hm : 1 ≤ timesP k lo hi * sizeP x := Int.mul_pos (by omega) (by omega)
    refine sizeL_b k lo hi r _ ?_ ?_
    · unfold mn; split <;> omega
    · unfold mn; split <;> omega
end
theorem sizeL_drop (k lo hi : Int) (kids : List S35) (i : Nat) (h : i < kids.length) (s : Int) : sizeL k lo hi (kids.drop i) s = sizeL k lo hi (kids.drop (i + 1)) (mn 1000000 (s + timesP k lo hi * sizeP (rd_T35 kids i))) := by
  rw [List.drop_eq_getElem_cons h, sizeL]
  congr 3
  simp [rd_T35, List.getD_eq_getElem?_getD, h]
mutual
def LoOk : S35 → Prop
  | ⟨_, _, lo, _, kids⟩ => -1 ≤ lo ∧ LoOkL kids
def LoOkL : List S35 → Prop
  | [] => True
  | x :: r => LoOk x ∧ LoOkL r
end
theorem LoOkL_mem : ∀ (l : List S35), LoOkL l → ∀ x ∈ l, LoOk x
  | [], _, x, hx => by simp at hx
  | y :: r, h, x, hx => by
    rw [LoOkL] at h
    rcases List.mem_cons.1 hx with rfl | hx
    · exact h.1
    · exact LoOkL_mem r h.2 x hx
theorem LoOkL_append : ∀ (l m : List S35), LoOkL l → LoOkL m → LoOkL (l ++ m)
  | [], m, _, hm => hm
  | y :: r, m, h, hm => by
    rw [LoOkL] at h
    rw [List.cons_append, LoOkL]
    exact ⟨h.1, LoOkL_append r m h.2 hm⟩
theorem rd_mem35 (kids : List S35) (i : Nat) (h : i < kids.length) : rd_T35 kids i ∈ kids := by
  have : rd_T35 kids i = kids[i] := by simp [rd_T35, List.getD_eq_getElem?_getD, h]
  rw [this]; exact List.getElem_mem h
set_option maxRecDepth 100000 in
set_option maxHeartbeats 1000000 in
theorem size_ok (N : Nat) : ∀ (n : S35), SizeOf.sizeOf n < N → ∀ (A1 : Option Addr) (c1 : Nat) (A4 : Option Addr) (c4 : Nat) (w : World), Kd.C k35 w A4 n.f4.length n.f4 → LoOk n →
    Calls Tryz.prog 22 #[.agg #[.int .i64 n.f0, .slice A1 n.f1.length c1, .int .i64 n.f2, .int .i64 n.f3, .slice A4 n.f4.length c4]] w fun e w' => e = .returned (.int .i64 (sizeP n)) ∧ Below w.heap.size w w' := by
  induction N with
  | zero => intro n hn; exact absurd hn (Nat.not_lt_zero _)
  | succ N ih =>
    rintro ⟨k, rs, lo, hi, kids⟩ hn A1 c1 A4 c4 w hC hlo
    dsimp only at hC ⊢
    rw [LoOk] at hlo
    have HLO := Aside0.mk (LoOkL_mem _ hlo.2)
    have hlo1 := hlo.1
    have IH := Aside0.mk ih
    have HN := Aside0.mk (show ∀ x ∈ kids, SizeOf.sizeOf x < N from fun x hx => by have := List.sizeOf_lt_of_mem hx; simp at hn; omega)
    have HC := Aside0.mk hC
    have HL : kids.length ≤ 9223372036854775807 := hC.2.1
    have HT := Aside0.mk (timesP_b k lo hi)
    have HTT := Aside0.mk (show timesP k lo hi = if k ≠ 5 then 1 else if hi < 0 then mx 1 (mn 1000000 lo + 1) else mx 1 (mn 1000000 hi) from rfl)
    have HP := Aside0.mk (show sizeP ⟨k, rs, lo, hi, kids⟩ = sizeL k lo hi (kids.drop 0) 1 by rw [sizeP]; rfl)
    generalize sizeP ⟨k, rs, lo, hi, kids⟩ = S at *
    clear ih hn hC hlo
    go_enter Tryz.func22, Tryz.ntmps22
    go_wp2_with fail
    go_loopg [3, 10] kids.length (fun kq v3 v10 w' => ∃ (i : Nat) (s : Int), v10 = .int .i64 i ∧ v3 = .int .i64 s ∧ 1 ≤ s ∧ s ≤ 1000000 ∧ i ≤ kids.length ∧ kids.length - i ≤ kq ∧ Aside0 (S = sizeL k lo hi (kids.drop i) s) ∧ Aside0 (Below w.heap.size w w') ∧ Aside0 (w'.heap[w.heap.size]? = some (.cells #[.int .i64 k, .slice A1 rs.length c1, .int .i64 lo, .int .i64 hi, .slice A4 kids.length c4] 35 (0, 0))))
    case atStart => exact ⟨0, 1, rfl, rfl, by omega, by omega, by omega, by omega, HP, ⟨below_alloc (Below.refl _ _) _⟩, ⟨blk_new _ _⟩⟩
    case round =>
      obtain ⟨i, s, rfl, rfl, hs1, hs2, hi1, hk, HA, HB, HG⟩ := hrel
      by_cases hlt : i < kids.length
      · have hlt' : (i : Int) < (kids.length : Int) := by omega
        obtain ⟨ad, A1k, c1k, A4k, c4k, e1, d0, d1, d2, d3, d4, l1k, hC1k, l4k, hCk⟩ := at_T35 (Kd.C_below HC.out HB.out) (i : Int) (by omega) hlt'
        cases e1
        rw [Int.toNat_natCast] at d0 d1 d2 d3 d4
        have HSD := Aside0.mk (sizeL_drop k lo hi kids i hlt s)
        have hcall := fun (W : World) (hW : Below wr.heap.size wr W) => IH.out (rd_T35 kids i) (HN.out _ (rd_mem35 _ _ hlt)) A1k c1k A4k c4k W (Kd.C_below hCk hW) (HLO.out _ (rd_mem35 _ _ hlt))
        have hz := sizeP_b (rd_T35 kids i)
        obtain ⟨z, hzz⟩ : ∃ z, sizeP (rd_T35 kids i) = z := ⟨_, rfl⟩
        rw [hzz] at hcall HSD hz
        have HCALL := Aside0.mk hcall
        clear hcall hCk hC1k l1k l4k hzz
        generalize rd_T35 kids i = y at *
        have g0 : wr.cell? ⟨w.heap.size, 0, none⟩ = some (.int .i64 k) := by simpa using blk_cell HG.out 0
        have g2 : wr.cell? ⟨w.heap.size, 2, none⟩ = some (.int .i64 lo) := by simpa using blk_cell HG.out 2
        have g3 : wr.cell? ⟨w.heap.size, 3, none⟩ = some (.int .i64 hi) := by simpa using blk_cell HG.out 3
        have hlt0 := World.block_lt_of_cell? _ _ g0
        have hltd := World.block_lt_of_cell? _ _ d0
        obtain ⟨tm, htm⟩ : ∃ tm, timesP k lo hi = tm := ⟨_, rfl⟩
        rw [htm] at HT HTT HSD
        have hM1 : 0 < tm * z := Int.mul_pos (by have := HT.out; omega) (by omega)
        have hM2 : tm * z ≤ 1000001 * 1000000 := Int.mul_le_mul HT.out.2 hz.2 (by omega) (by omega)
        clear htm
        by_cases hk5 : k = 5
        · have q5 : (k != 5) = false := by simp [hk5]
          have HK5 := Aside0.mk hk5
          clear hk5
          by_cases hhi : hi < 0
          · by_cases hl2 : lo < 1000000
            · by_cases hl3 : 1 < lo + 1
              · have e : tm = (lo + 1) := by rw [HTT.out]; rw [if_neg (by have := HK5.out; omega), if_pos hhi]; unfold mx mn; simp only [hl2, if_true]; rw [if_pos hl3]
                rw [e] at hM1 hM2 HSD
                clear e
                clear HT HTT
                by_cases hmn : s + (lo + 1) * z < 1000000
                · have HM := Aside0.mk (show mn 1000000 (s + (lo + 1) * z) = s + (lo + 1) * z by unfold mn; rw [if_pos hmn])
                  rw [HM.out] at HSD
                  go_wp2_with (refine (HCALL.out _ (below_alloc (Below.refl _ _) _)).mono ?_; rintro e w1 ⟨rfl, hb1⟩)
                  go_roundg (kids.length - (i + 1))
                  case measure => omega
                  case rel => exact ⟨i + 1, s + (lo + 1) * z, by go_num, rfl, by omega, by omega, by omega, by omega, ⟨by rw [HA.out]; exact HSD.out⟩, ⟨(below_alloc HB.out _).trans (hb1.mono (by have := HB.out.size; simp; omega))⟩, ⟨blk_below (blk_alloc HG.out _) hb1⟩⟩
                · have HM := Aside0.mk (show mn 1000000 (s + (lo + 1) * z) = 1000000 by unfold mn; rw [if_neg hmn])
                  rw [HM.out] at HSD
                  go_wp2_with (refine (HCALL.out _ (below_alloc (Below.refl _ _) _)).mono ?_; rintro e w1 ⟨rfl, hb1⟩)
                  go_roundg (kids.length - (i + 1))
                  case measure => omega
                  case rel => exact ⟨i + 1, 1000000, by go_num, rfl, by omega, by omega, by omega, by omega, ⟨by rw [HA.out]; exact HSD.out⟩, ⟨(below_alloc HB.out _).trans (hb1.mono (by have := HB.out.size; simp; omega))⟩, ⟨blk_below (blk_alloc HG.out _) hb1⟩⟩
              · have e : tm = 1 := by rw [HTT.out]; rw [if_neg (by have := HK5.out; omega), if_pos hhi]; unfold mx mn; simp only [hl2, if_true]; rw [if_neg hl3]
                rw [e, Int.one_mul] at hM1 hM2 HSD
                clear e
                clear HT HTT
                by_cases hmn : s + z < 1000000
                · have HM := Aside0.mk (show mn 1000000 (s + z) = s + z by unfold mn; rw [if_pos hmn])
                  rw [HM.out] at HSD
                  go_wp2_with (refine (HCALL.out _ (below_alloc (Below.refl _ _) _)).mono ?_; rintro e w1 ⟨rfl, hb1⟩)
                  go_roundg (kids.length - (i + 1))
                  case measure => omega
                  case rel => exact ⟨i + 1, s + z, by go_num, rfl, by omega, by omega, by omega, by omega, ⟨by rw [HA.out]; exact HSD.out⟩, ⟨(below_alloc HB.out _).trans (hb1.mono (by have := HB.out.size; simp; omega))⟩, ⟨blk_below (blk_alloc HG.out _) hb1⟩⟩
                · have HM := Aside0.mk (show mn 1000000 (s + z) = 1000000 by unfold mn; rw [if_neg hmn])
                  rw [HM.out] at HSD
                  go_wp2_with (refine (HCALL.out _ (below_alloc (Below.refl _ _) _)).mono ?_; rintro e w1 ⟨rfl, hb1⟩)
                  go_roundg (kids.length - (i + 1))
                  case measure => omega
                  case rel => exact ⟨i + 1, 1000000, by go_num, rfl, by omega, by omega, by omega, by omega, ⟨by rw [HA.out]; exact HSD.out⟩, ⟨(below_alloc HB.out _).trans (hb1.mono (by have := HB.out.size; simp; omega))⟩, ⟨blk_below (blk_alloc HG.out _) hb1⟩⟩
            · have e : tm = 1000001 := by rw [HTT.out]; rw [if_neg (by have := HK5.out; omega), if_pos hhi]; unfold mx mn; rw [if_neg hl2]; rfl
              rw [e] at hM1 hM2 HSD
              clear e
              clear HT HTT
              by_cases hmn : s + 1000001 * z < 1000000
              · exact absurd hmn (by omega)
              · have HM := Aside0.mk (show mn 1000000 (s + 1000001 * z) = 1000000 by unfold mn; rw [if_neg hmn])
                rw [HM.out] at HSD
                go_wp2_with (refine (HCALL.out _ (below_alloc (Below.refl _ _) _)).mono ?_; rintro e w1 ⟨rfl, hb1⟩)
                go_roundg (kids.length - (i + 1))
                case measure => omega
                case rel => exact ⟨i + 1, 1000000, by go_num, rfl, by omega, by omega, by omega, by omega, ⟨by rw [HA.out]; exact HSD.out⟩, ⟨(below_alloc HB.out _).trans (hb1.mono (by have := HB.out.size; simp; omega))⟩, ⟨blk_below (blk_alloc HG.out _) hb1⟩⟩
          · by_cases hl2 : hi < 1000000
            · by_cases hl3 : 1 < hi
              · have e : tm = hi := by rw [HTT.out]; rw [if_neg (by have := HK5.out; omega), if_neg hhi]; unfold mx mn; simp only [hl2, if_true]; rw [if_pos hl3]
                rw [e] at hM1 hM2 HSD
                clear e
                clear HT HTT
                by_cases hmn : s + hi * z < 1000000
                · have HM := Aside0.mk (show mn 1000000 (s + hi * z) = s + hi * z by unfold mn; rw [if_pos hmn])
                  rw [HM.out] at HSD
                  go_wp2_with (refine (HCALL.out _ (below_alloc (Below.refl _ _) _)).mono ?_; rintro e w1 ⟨rfl, hb1⟩)
                  go_roundg (kids.length - (i + 1))
                  case measure => omega
                  case rel => exact ⟨i + 1, s + hi * z, by go_num, rfl, by omega, by omega, by omega, by omega, ⟨by rw [HA.out]; exact HSD.out⟩, ⟨(below_alloc HB.out _).trans (hb1.mono (by have := HB.out.size; simp; omega))⟩, ⟨blk_below (blk_alloc HG.out _) hb1⟩⟩
                · have HM := Aside0.mk (show mn 1000000 (s + hi * z) = 1000000 by unfold mn; rw [if_neg hmn])
                  rw [HM.out] at HSD
                  go_wp2_with (refine (HCALL.out _ (below_alloc (Below.refl _ _) _)).mono ?_; rintro e w1 ⟨rfl, hb1⟩)
                  go_roundg (kids.length - (i + 1))
                  case measure => omega
                  case rel => exact ⟨i + 1, 1000000, by go_num, rfl, by omega, by omega, by omega, by omega, ⟨by rw [HA.out]; exact HSD.out⟩, ⟨(below_alloc HB.out _).trans (hb1.mono (by have := HB.out.size; simp; omega))⟩, ⟨blk_below (blk_alloc HG.out _) hb1⟩⟩
              · have e : tm = 1 := by rw [HTT.out]; rw [if_neg (by have := HK5.out; omega), if_neg hhi]; unfold mx mn; simp only [hl2, if_true]; rw [if_neg hl3]
                rw [e, Int.one_mul] at hM1 hM2 HSD
                clear e
                clear HT HTT
                by_cases hmn : s + z < 1000000
                · have HM := Aside0.mk (show mn 1000000 (s + z) = s + z by unfold mn; rw [if_pos hmn])
                  rw [HM.out] at HSD
                  go_wp2_with (refine (HCALL.out _ (below_alloc (Below.refl _ _) _)).mono ?_; rintro e w1 ⟨rfl, hb1⟩)
                  go_roundg (kids.length - (i + 1))
                  case measure => omega
                  case rel => exact ⟨i + 1, s + z, by go_num, rfl, by omega, by omega, by omega, by omega, ⟨by rw [HA.out]; exact HSD.out⟩, ⟨(below_alloc HB.out _).trans (hb1.mono (by have := HB.out.size; simp; omega))⟩, ⟨blk_below (blk_alloc HG.out _) hb1⟩⟩
                · have HM := Aside0.mk (show mn 1000000 (s + z) = 1000000 by unfold mn; rw [if_neg hmn])
                  rw [HM.out] at HSD
                  go_wp2_with (refine (HCALL.out _ (below_alloc (Below.refl _ _) _)).mono ?_; rintro e w1 ⟨rfl, hb1⟩)
                  go_roundg (kids.length - (i + 1))
                  case measure => omega
                  case rel => exact ⟨i + 1, 1000000, by go_num, rfl, by omega, by omega, by omega, by omega, ⟨by rw [HA.out]; exact HSD.out⟩, ⟨(below_alloc HB.out _).trans (hb1.mono (by have := HB.out.size; simp; omega))⟩, ⟨blk_below (blk_alloc HG.out _) hb1⟩⟩
            · have e : tm = 1000000 := by rw [HTT.out]; rw [if_neg (by have := HK5.out; omega), if_neg hhi]; unfold mx mn; rw [if_neg hl2]; rfl
              rw [e] at hM1 hM2 HSD
              clear e
              clear HT HTT
              by_cases hmn : s + 1000000 * z < 1000000
              · exact absurd hmn (by omega)
              · have HM := Aside0.mk (show mn 1000000 (s + 1000000 * z) = 1000000 by unfold mn; rw [if_neg hmn])
                rw [HM.out] at HSD
                go_wp2_with (refine (HCALL.out _ (below_alloc (Below.refl _ _) _)).mono ?_; rintro e w1 ⟨rfl, hb1⟩)
                go_roundg (kids.length - (i + 1))
                case measure => omega
                case rel => exact ⟨i + 1, 1000000, by go_num, rfl, by omega, by omega, by omega, by omega, ⟨by rw [HA.out]; exact HSD.out⟩, ⟨(below_alloc HB.out _).trans (hb1.mono (by have := HB.out.size; simp; omega))⟩, ⟨blk_below (blk_alloc HG.out _) hb1⟩⟩
        · have q5 : (k != 5) = true := by simp [hk5]
          have e : tm = 1 := by rw [HTT.out]; rw [if_pos hk5]
          rw [e, Int.one_mul] at hM1 hM2 HSD
          clear e
          clear HT HTT
          by_cases hmn : s + z < 1000000
          · have HM := Aside0.mk (show mn 1000000 (s + z) = s + z by unfold mn; rw [if_pos hmn])
            rw [HM.out] at HSD
            go_wp2_with (refine (HCALL.out _ (below_alloc (Below.refl _ _) _)).mono ?_; rintro e w1 ⟨rfl, hb1⟩)
            go_roundg (kids.length - (i + 1))
            case measure => omega
            case rel => exact ⟨i + 1, s + z, by go_num, rfl, by omega, by omega, by omega, by omega, ⟨by rw [HA.out]; exact HSD.out⟩, ⟨(below_alloc HB.out _).trans (hb1.mono (by have := HB.out.size; simp; omega))⟩, ⟨blk_below (blk_alloc HG.out _) hb1⟩⟩
          · have HM := Aside0.mk (show mn 1000000 (s + z) = 1000000 by unfold mn; rw [if_neg hmn])
            rw [HM.out] at HSD
            go_wp2_with (refine (HCALL.out _ (below_alloc (Below.refl _ _) _)).mono ?_; rintro e w1 ⟨rfl, hb1⟩)
            go_roundg (kids.length - (i + 1))
            case measure => omega
            case rel => exact ⟨i + 1, 1000000, by go_num, rfl, by omega, by omega, by omega, by omega, ⟨by rw [HA.out]; exact HSD.out⟩, ⟨(below_alloc HB.out _).trans (hb1.mono (by have := HB.out.size; simp; omega))⟩, ⟨blk_below (blk_alloc HG.out _) hb1⟩⟩
      · have hltz : ¬ (i : Int) < (kids.length : Int) := by omega
        obtain rfl : i = kids.length := by omega
        have HS := Aside0.mk (show S = s by rw [HA.out, List.drop_length, sizeL])
        go_wp2_with fail
        go_ret
        exact ⟨by rw [HS.out]; rfl, HB.out⟩
end Go.Proofs.YtglolcejfbhbdaaGreat.P
end
section
namespace Go.Proofs.YtglolcejfbhbdaaGreat.P
open Go.RowKit Go.Proofs.YtglolcejfbhbdaaGreatW.PrintWords Go.Proofs.YtglolcejfbhbdaaGreatW.PrintLast Go.Proofs.YtglolcejfbhbdaaGreatW.PrintMore
set_option linter.unusedVariables false
set_option linter.unusedSimpArgs false
set_option maxRecDepth 100000 in
theorem equalR_self (A0 : Option Addr) (c0 c1 : Nat) (l0 : List S30) (w : World) (hr0 : Kd.C k30 w A0 l0.length l0) :
    Calls Tryz.prog 46 #[.slice A0 l0.length c0, .slice A0 l0.length c1] w fun e w' => e = .returned (.bool true) ∧ Drawn0 w w' := by
  have HR := Aside0.mk hr0
  have HL : l0.length ≤ 9223372036854775807 := hr0.2.1
  clear hr0
  go_enter Tryz.func46, Tryz.ntmps46
  go_wp2
  go_loopg [5, 13] l0.length (fun kq v5 v13 w' => ∃ i : Nat, v13 = .int .i64 i ∧ i ≤ l0.length ∧ l0.length - i ≤ kq ∧ Drawn0 w w')
  case atStart => exact ⟨0, rfl, by omega, by omega, Drawn0.refl _⟩
  case round =>
    obtain ⟨i, rfl, hi, hk, ⟨m1, rfl⟩⟩ := hrel
    by_cases hlt : i < l0.length
    · have hlt' : (i : Int) < (l0.length : Int) := by omega
      obtain ⟨ad, e1, hx0, hx1⟩ := at_T30 HR.out i (by omega) hlt'
      cases e1
      rw [Int.toNat_natCast] at hx0 hx1
      generalize rd_T30 l0 i = r at *
      go_wp2
      go_quiet (fail)
      go_wp2
      go_roundg (l0.length - (i + 1))
      case measure => omega
      case rel => exact ⟨i + 1, by go_num, by omega, by omega, ⟨⟨_, rfl⟩⟩⟩
    · have hltz : ¬ (i : Int) < (l0.length : Int) := by omega
      have hi' : i = l0.length := by omega
      subst hi'
      go_wp2
      go_ret
      exact ⟨rfl, ⟨⟨_, rfl⟩⟩⟩
def SameSelf (N : Nat) : Prop := ∀ (n : S35), SizeOf.sizeOf n < N → ∀ (A1 : Option Addr) (c1 : Nat) (A4 : Option Addr) (c4 : Nat) (w : World), Kd.C k30 w A1 n.f1.length n.f1 → Kd.C k35 w A4 n.f4.length n.f4 →
    Calls Tryz.prog 23 #[.agg #[.int .i64 n.f0, .slice A1 n.f1.length c1, .int .i64 n.f2, .int .i64 n.f3, .slice A4 n.f4.length c4], .agg #[.int .i64 n.f0, .slice A1 n.f1.length c1, .int .i64 n.f2, .int .i64 n.f3, .slice A4 n.f4.length c4]] w fun e w' => e = .returned (.bool true) ∧ Below w.heap.size w w'
set_option maxRecDepth 100000 in
set_option maxHeartbeats 1000000 in
theorem equalF_self (N : Nat) (hS : SameSelf N) (kids : List S35) (hN : ∀ x ∈ kids, SizeOf.sizeOf x < N) (A : Option Addr) (c : Nat) (w : World) (hC : Kd.C k35 w A kids.length kids) :
    Calls Tryz.prog 47 #[.slice A kids.length c, .slice A kids.length c, .func (.func 23) #[] #[]] w fun e w' => e = .returned (.bool true) ∧ Below w.heap.size w w' := by
  have HR := Aside0.mk hC
  have HN := Aside0.mk hN
  have HS := Aside0.mk hS
  have HL : kids.length ≤ 9223372036854775807 := hC.2.1
  clear hC hS hN
  go_enter Tryz.func47, Tryz.ntmps47
  go_wp2_with fail
  go_loopg [17] kids.length (fun kq v17 w' => ∃ i : Nat, v17 = .int .i64 i ∧ i ≤ kids.length ∧ kids.length - i ≤ kq ∧ Aside0 (Below w.heap.size w w'))
  case atStart => exact ⟨0, rfl, by omega, by omega, ⟨Below.refl _ _⟩⟩
  case round =>
    obtain ⟨i, rfl, hi, hk, HB⟩ := hrel
    by_cases hlt : i < kids.length
    · have hlt' : (i : Int) < (kids.length : Int) := by omega
      obtain ⟨ad, A1k, c1k, A4k, c4k, e1, d0, d1, d2, d3, d4, l1k, hC1k, l4k, hCk⟩ := at_T35 (Kd.C_below HR.out HB.out) (i : Int) (by omega) hlt'
      cases e1
      rw [Int.toNat_natCast] at d0 d1 d2 d3 d4
      have hcall := fun (W : World) (hW : Below wr.heap.size wr W) => HS.out (rd_T35 kids i) (HN.out _ (rd_mem35 _ _ hlt)) A1k c1k A4k c4k W (Kd.C_below hC1k hW) (Kd.C_below hCk hW)
      have HCALL := Aside0.mk hcall
      clear hcall hCk hC1k l1k l4k
      generalize rd_T35 kids i = y at *
      have hltd := World.block_lt_of_cell? _ _ d0
      go_wp2_with fail
      refine (HCALL.out _ (below_alloc (below_alloc (Below.refl _ _) _) _)).mono ?_
      rintro e w1 ⟨rfl, hb1⟩
      go_wp2_with fail
      go_roundg (kids.length - (i + 1))
      case measure => omega
      case rel => exact ⟨i + 1, by go_num, by omega, by omega, ⟨(below_alloc (below_alloc HB.out _) _).trans (hb1.mono (by have := HB.out.size; simp; omega))⟩⟩
    · have hltz : ¬ (i : Int) < (kids.length : Int) := by omega
      have hi' : i = kids.length := by omega
      subst hi'
      go_wp2
      go_ret
      exact ⟨rfl, HB.out⟩
set_option maxRecDepth 100000 in
set_option maxHeartbeats 1000000 in
theorem same_self (N : Nat) : SameSelf N := by
  induction N with
  | zero => intro n hn; exact absurd hn (Nat.not_lt_zero _)
  | succ N ih =>
    rintro ⟨k, rs, lo, hi, kids⟩ hn A1 c1 A4 c4 w hC1 hC
    dsimp only at hC hC1 ⊢
    have hEF := equalF_self N ih kids (fun x hx => by have := List.sizeOf_lt_of_mem hx; simp at hn; omega) A4 c4
    have HE := Aside0.mk (fun (W : World) (hW : Below w.heap.size w W) => hEF W (Kd.C_below hC hW))
    have HE1 := Aside0.mk (fun (W : World) (hW : Below w.heap.size w W) => equalR_self A1 c1 c1 rs W (Kd.C_below hC1 hW))
    clear hEF ih hC hC1 hn
    go_enter Tryz.func23, Tryz.ntmps23
    go_wp2_with fail
    refine (HE1.out _ (below_alloc (below_alloc (Below.refl _ _) _) _)).mono ?_
    rintro e w1 ⟨rfl, ⟨m1, rfl⟩⟩
    go_wp2_with fail
    refine (HE.out _ (pw_below_drewN (below_alloc (below_alloc (Below.refl _ _) _) _) _)).mono ?_
    rintro e w1 ⟨rfl, hb1⟩
    go_wp2_with fail
    go_ret
    exact ⟨rfl, (pw_below_drewN (below_alloc (below_alloc (Below.refl _ _) _) _) _).trans (hb1.mono (by simp; omega))⟩
end Go.Proofs.YtglolcejfbhbdaaGreat.P
end
