/- The statement of TreeUnions holds: whatever the input, the law returns true and its arguments read as before. No conditions. -/
import Derived.Test.YtglolcejfbhbdaaGreatUA
import Derived.Test.YtglolcejfbhbdaaGreatRows
import Derived.WalkKit
import Derived.ProofKit
import Derived.OpenShut
import Derived.ShutString
import Derived.ChangeOld
import Derived.Below
import Derived.SizedLaws
section
namespace Go.Proofs.YtglolcejfbhbdaaGreat.treeUnions
open Go.ChangeShapes Go.WideShapes Go.ChangeAt Go.RowKit
set_option linter.unusedVariables false
set_option linter.unusedSimpArgs false
def Pure : Prop := ∀ (l0 : List P.S30) (l1 : List P.S30) (a2 : Int), ∃ k, P.ductuslaw16_TreeUnions.f k l0 l1 a2 = some true
theorem own : ownKnob Tryz.prog.godebug = none := by kernel_rfl
theorem laidOut : laidOutB Tryz.prog = true := by kernel_rfl
set_option maxRecDepth 100000 in
theorem lifted (HP : Pure) (os : Os) (started : os.Started) (H : Type) (enc : TypeId × Value → H) :
    ReturnsInHanded {} Tryz.checked os 7 .any (Rows.treeUnionsSpec.pre6 enc Tryz.prog Tryz.f7 Rows.treeUnionsRow.domain false) (Rows.treeUnionsSpec.post enc Tryz.prog Tryz.f7 false true false false) := by
  refine returnsInHanded_of_change_sized (C := Tryz.checked) own started (by kernel_rfl) Tryz.func7
    (ChangeSpec.witness6 (enc := enc) (C := Tryz.checked) false ⟨#[], #[.slice none 0 0, .slice none 0 0, .int .i64 0], []⟩ 8 (by kernel_rfl) (by kernel_rfl) (by kernel_rfl) (by kernel_rfl)) ?_
  intro W base args ds gs before hval0 hW hcnd hsz0 _
  have hval : ∀ (j : Nat) t v, Tryz.f7.params[j]? = some t → args[j]? = some v → Value.okWide Tryz.prog W .any base t v := hval0
  have hW' := hW
  obtain ⟨p, q, hA0, hV, rfl, hfz, hnd⟩ := hW
  have hA : DataW.TrodAll enc Tryz.prog W 0 (fun _ => true) true Tryz.f7.params.toList args.toList ds p := hA0
  rw [Tryz.params7] at hA hval
  obtain ⟨v0, vs0, d0, ds0, p0, q0, hargs, rfl, rfl, h0, r0⟩ := trodAll_cons hA
  obtain ⟨v1, vs1, d1, ds1, p1, q1, rfl, rfl, rfl, h1, r1⟩ := trodAll_cons r0
  obtain ⟨v2, vs2, d2, ds2, p2, q2, rfl, rfl, rfl, h2, r2⟩ := trodAll_cons r1
  obtain ⟨rfl, rfl, rfl⟩ := trodAll_nil r2
  obtain rfl : args = #[v0, v1, v2] := by cases args; simp_all
  obtain ⟨rfl, rfl⟩ := trodVars_none hV
  obtain ⟨a0, len0, cap0, rfl⟩ := okWide_slice Tryz.underlying22 (hval 0 22 v0 rfl rfl)
  have k0 := h0
  have lt0 : ∀ x ∈ p0, x.block < W.heap.size := by obtain ⟨m, hm⟩ := k0; exact DataW.trod_lt m _ _ _ hm
  obtain ⟨c0, l0, rfl, w0⟩ := P.open_R30 h0
  obtain ⟨a1, len1, cap1, rfl⟩ := okWide_slice Tryz.underlying22 (hval 1 22 v1 rfl rfl)
  have k1 := h1
  have lt1 : ∀ x ∈ p1, x.block < W.heap.size := by obtain ⟨m, hm⟩ := k1; exact DataW.trod_lt m _ _ _ hm
  obtain ⟨c1, l1, rfl, w1⟩ := P.open_R30 h1
  obtain ⟨a2, rfl, rfl, rfl, w2⟩ := open_int Tryz.underlying3 (hval 2 3 v2 rfl rfl) h2
  clear hA0 hval0 hsz0
  obtain ⟨k, hk⟩ := HP l0 l1 a2
  refine (P.ductuslaw16_TreeUnions.calls k a0 cap0 l0 a1 cap1 l1 a2 true W w0 c0 w1 c1 hk).mono fun e W' ⟨he, bel⟩ => ?_
  subst he
  exact ⟨_, rfl, _, _, _, [], _, [], hW', trodAll_mk1 (shut_bool Tryz.underlying4 _), (trodAll_cons_mk (Below.trod laidOut (by kernel_rfl) (of_decide_eq_true (by kernel_rfl)) k0 bel lt0) (trodAll_cons_mk (Below.trod laidOut (by kernel_rfl) (of_decide_eq_true (by kernel_rfl)) k1 bel lt1) (trodAll_cons_mk (shut_int Tryz.underlying3 w2) trodAll_mk0))), rfl, bel.frame _, fun h => by cases h⟩
theorem over (HP : Pure) : Rows.treeUnionsRow.holds Tryz.pinned (OpenSpec.ofChange Rows.treeUnionsSpec) :=
  OpenClaim.holds_of_wide 7 Tryz.f7 rfl rfl rfl rfl rfl rfl rfl ⟨rfl, rfl, rfl, rfl, rfl⟩ rfl rfl rfl rfl rfl (by kernel_rfl) Tryz.func7 (by kernel_rfl)
    (of_decide_eq_true (by kernel_rfl)) (by unfold Func.isWrapper; first | (rw [if_pos (by decide +kernel)]; kernel_rfl) | (rw [if_neg (by decide +kernel)]; exact ⟨rfl, rfl⟩))
    (fun os started H enc _ => lifted HP os started H enc)
end Go.Proofs.YtglolcejfbhbdaaGreat.treeUnions
end
section
namespace Go.Proofs.YtglolcejfbhbdaaGreat.P
open Go.RowKit Go.Shelf Go.Proofs.YtglolcejfbhbdaaGreatW.PrintWords Go.Proofs.YtglolcejfbhbdaaGreatW.PrintLast Go.Proofs.YtglolcejfbhbdaaGreatW.PrintMore
set_option linter.unusedVariables false
set_option linter.unusedSimpArgs false
theorem hasS_append (a b : List S30) (c : Int) : hasS (a ++ b) c = (hasS a c || hasS b c) := List.any_append
theorem set_union (a b : List S30) (ha : a.length ≤ 60) (hb : b.length ≤ 60) : setL (setL a ++ setL b) = setL (a ++ b) := by
  have h1 := setL_short a
  have h2 := setL_short b
  refine setL_eq (by rw [List.length_append]; omega) (setL_norm _) (fun c => ?_)
  rw [(setL_spec (a ++ b) (by rw [List.length_append]; omega)).2 c, rm_append, rm_append, (setL_spec a (by omega)).2 c, (setL_spec b (by omega)).2 c]
  constructor
  · rintro ⟨h0, h3, h4 | h4⟩
    · exact ⟨h0, h3, .inl ⟨h0, h3, h4⟩⟩
    · exact ⟨h0, h3, .inr ⟨h0, h3, h4⟩⟩
  · rintro ⟨h0, h3, h4 | h4⟩
    · exact ⟨h0, h3, .inl h4.2.2⟩
    · exact ⟨h0, h3, .inr h4.2.2⟩
theorem unions_j2 (x0 x1 : List S30) (x2 : Int) (h0 : x0.length ≤ 60) (h1 : x1.length ≤ 60) :
    Ends (fun k => ductuslaw16_TreeUnions.j2 k x0 x1 x2 (setL (x0 ++ x1)) (turnL (x0 ++ x1)) (decide (0 ≤ x2 ∧ x2 ≤ 1114111)) (decide (0 ≤ x2 ∧ x2 ≤ 1114111) && (hasS x0 x2 || hasS x1 x2))) true := by
  have hs := setL_short (x0 ++ x1)
  rw [List.length_append] at hs
  have hs0 := setL_short x0
  have hs1 := setL_short x1
  have hl : (x0 ++ x1).length ≤ 500 := by rw [List.length_append]; omega
  have hin := has_in (x0 ++ x1) hl x2
  have hout := has_out (x0 ++ x1) hl x2
  rw [hasS_append] at hin hout
  have htail : Ends (fun k => (tree_Set.f x0).bind fun t288 => ((tree_Set.f x1).bind fun t291 => (if t288.length + t291.length < 8796093022208 then ((tree_Set.f (t288 ++ t291)).bind fun t297 => ((ductusref16_SameSets.f k t297 (setL (x0 ++ x1))).bind fun t300 => (some t300))) else (none)))) true := by
    refine Ends.bind (a := setL x0) (Ends.pure _) (Ends.bind (a := setL x1) (Ends.pure _) (Ends.ifT (by omega) ?_))
    refine Ends.bind (a := setL (setL x0 ++ setL x1)) (Ends.pure _) ?_
    rw [set_union x0 x1 h0 h1]
    exact Ends.bind (refSame _ (by omega)) (Ends.pure _)
  have hgo : Ends (fun k => (tree_Has.f (turnL (x0 ++ x1)) x2).bind fun t287 => (if decide (0 ≤ x2 ∧ x2 ≤ 1114111) = true then (if (t287 == (!(decide (0 ≤ x2 ∧ x2 ≤ 1114111) && (hasS x0 x2 || hasS x1 x2)))) = true then ((tree_Set.f x0).bind fun t288 => ((tree_Set.f x1).bind fun t291 => (if t288.length + t291.length < 8796093022208 then ((tree_Set.f (t288 ++ t291)).bind fun t297 => ((ductusref16_SameSets.f k t297 (setL (x0 ++ x1))).bind fun t300 => (some t300))) else (none)))) else (some false)) else (if (t287 == false) = true then ((tree_Set.f x0).bind fun t301 => ((tree_Set.f x1).bind fun t304 => (if t301.length + t304.length < 8796093022208 then ((tree_Set.f (t301 ++ t304)).bind fun t310 => ((ductusref16_SameSets.f k t310 (setL (x0 ++ x1))).bind fun t313 => (some t313))) else (none)))) else (some false)))) true := by
    refine Ends.bind (a := hasS (turnL (x0 ++ x1)) x2) (Ends.pure _) ?_
    cases hd : decide (0 ≤ x2 ∧ x2 ≤ 1114111) with
    | true =>
      rw [hd] at hout
      exact Ends.ifT rfl (Ends.ifT (by rw [hout]; simp) htail)
    | false =>
      rw [hd] at hout
      exact Ends.ifF (by simp) (Ends.ifT (by rw [hout]; simp) htail)
  refine Ends.succ (g := fun k => (tree_Has.f (setL (x0 ++ x1)) x2).bind fun t286 => (if (t286 == (decide (0 ≤ x2 ∧ x2 ≤ 1114111) && (hasS x0 x2 || hasS x1 x2))) = true then _ else (some false))) (Ends.bind (a := hasS (setL (x0 ++ x1)) x2) (Ends.pure _) (Ends.ifT (by rw [hin]; simp) hgo)) (fun k => by rw [ductuslaw16_TreeUnions.j2])
theorem unions_j1 (x0 x1 : List S30) (x2 : Int) (h0 : x0.length ≤ 60) (h1 : x1.length ≤ 60) :
    Ends (fun k => ductuslaw16_TreeUnions.j1 k x0 x1 x2 (setL (x0 ++ x1)) (turnL (x0 ++ x1)) (decide (0 ≤ x2 ∧ x2 ≤ 1114111))) true := by
  have h := unions_j2 x0 x1 x2 h0 h1
  cases hd : decide (0 ≤ x2 ∧ x2 ≤ 1114111) with
  | false =>
    rw [hd] at h
    refine Ends.succ h (fun k => ?_)
    rw [ductuslaw16_TreeUnions.j1, if_neg (by simp)]
    rfl
  | true =>
    rw [hd, Bool.true_and] at h
    cases ha : hasS x0 x2 with
    | true =>
      rw [ha, Bool.true_or] at h
      refine Ends.succ h (fun k => ?_)
      rw [ductuslaw16_TreeUnions.j1, if_pos rfl]
      show (if hasS x0 x2 = true then _ else _) = _
      rw [if_pos ha]
    | false =>
      rw [ha, Bool.false_or] at h
      refine Ends.succ h (fun k => ?_)
      rw [ductuslaw16_TreeUnions.j1, if_pos rfl]
      show (if hasS x0 x2 = true then _ else ductuslaw16_TreeUnions.j2 k x0 x1 x2 _ _ true (hasS x1 x2)) = _
      rw [if_neg (by rw [ha]; simp)]
theorem pureUnions (l0 l1 : List S30) (a2 : Int) : Ends (fun k => ductuslaw16_TreeUnions.f k l0 l1 a2) true := by
  have hj : ∀ b : Bool, (b = false → l0.length ≤ 60 ∧ l1.length ≤ 60) → Ends (fun k => ductuslaw16_TreeUnions.j0 k l0 l1 a2 b) true := by
    intro b hb
    cases b with
    | true =>
      refine Ends.succ (Ends.pure true) (fun k => ?_)
      rw [ductuslaw16_TreeUnions.j0, if_pos rfl]
    | false =>
      obtain ⟨h0, h1⟩ := hb rfl
      refine Ends.succ (unions_j1 l0 l1 a2 h0 h1) (fun k => ?_)
      rw [ductuslaw16_TreeUnions.j0, if_neg (by simp)]
      show (if ([] : List S30).length + l0.length < 8796093022208 then (if ([] ++ l0).length + l1.length < 8796093022208 then (if a2 ≥ 0 then ductuslaw16_TreeUnions.j1 k l0 l1 a2 (setL ([] ++ l0 ++ l1)) (turnL ([] ++ l0 ++ l1)) (decide (a2 ≤ 1114111)) else ductuslaw16_TreeUnions.j1 k l0 l1 a2 (setL ([] ++ l0 ++ l1)) (turnL ([] ++ l0 ++ l1)) false) else none) else none) = _
      rw [List.nil_append, if_pos (by rw [List.length_nil]; omega), if_pos (by omega)]
      by_cases hz : a2 ≥ 0
      · rw [if_pos hz]
        congr 1
        rw [decide_eq_decide]
        omega
      · rw [if_neg hz, decide_eq_false (by omega)]
  by_cases hl : (l0.length : Int) > 60
  · refine Ends.congr (hj true (fun h => by cases h)) (fun k => ?_)
    unfold ductuslaw16_TreeUnions.f
    rw [show ductuslaw16_alive.f = some true from rfl, al_bind, if_pos hl]
  · refine Ends.congr (hj (decide ((l1.length : Int) > 60)) (fun h => by rw [decide_eq_false_iff_not] at h; omega)) (fun k => ?_)
    unfold ductuslaw16_TreeUnions.f
    rw [show ductuslaw16_alive.f = some true from rfl, al_bind, if_neg hl]
end Go.Proofs.YtglolcejfbhbdaaGreat.P
end
section
namespace Go.Proofs.YtglolcejfbhbdaaGreat
theorem treeUnions_holds : Rows.TreeUnionsSaid := treeUnions.over (fun l m a => (P.pureUnions l m a).ex)
end Go.Proofs.YtglolcejfbhbdaaGreat
end
