/- The statement of TreeTurns holds: whatever the input, the law returns true and its arguments read as before. No conditions. -/
import Derived.Test.YtglolcejfbhbdaaGreatTA
import Derived.Test.YtglolcejfbhbdaaGreatRows
import Derived.WalkKit
import Derived.ProofKit
import Derived.OpenShut
import Derived.ShutString
import Derived.ChangeOld
import Derived.Below
import Derived.SizedLaws
section
namespace Go.Proofs.YtglolcejfbhbdaaGreat.treeTurns
open Go.ChangeShapes Go.WideShapes Go.ChangeAt Go.RowKit
set_option linter.unusedVariables false
set_option linter.unusedSimpArgs false
def Pure : Prop := ∀ (l0 : List P.S30) (a1 : Int), ∃ k, P.ductuslaw16_TreeTurns.f k l0 a1 = some true
theorem own : ownKnob Tryz.prog.godebug = none := by kernel_rfl
theorem laidOut : laidOutB Tryz.prog = true := by kernel_rfl
set_option maxRecDepth 100000 in
theorem lifted (HP : Pure) (os : Os) (started : os.Started) (H : Type) (enc : TypeId × Value → H) :
    ReturnsInHanded {} Tryz.checked os 4 .any (Rows.treeTurnsSpec.pre6 enc Tryz.prog Tryz.f4 Rows.treeTurnsRow.domain false) (Rows.treeTurnsSpec.post enc Tryz.prog Tryz.f4 false true false false) := by
  refine returnsInHanded_of_change_sized (C := Tryz.checked) own started (by kernel_rfl) Tryz.func4
    (ChangeSpec.witness6 (enc := enc) (C := Tryz.checked) false ⟨#[], #[.slice none 0 0, .int .i64 0], []⟩ 8 (by kernel_rfl) (by kernel_rfl) (by kernel_rfl) (by kernel_rfl)) ?_
  intro W base args ds gs before hval0 hW hcnd hsz0 _
  have hval : ∀ (j : Nat) t v, Tryz.f4.params[j]? = some t → args[j]? = some v → Value.okWide Tryz.prog W .any base t v := hval0
  have hW' := hW
  obtain ⟨p, q, hA0, hV, rfl, hfz, hnd⟩ := hW
  have hA : DataW.TrodAll enc Tryz.prog W 0 (fun _ => true) true Tryz.f4.params.toList args.toList ds p := hA0
  rw [Tryz.params4] at hA hval
  obtain ⟨v0, vs0, d0, ds0, p0, q0, hargs, rfl, rfl, h0, r0⟩ := trodAll_cons hA
  obtain ⟨v1, vs1, d1, ds1, p1, q1, rfl, rfl, rfl, h1, r1⟩ := trodAll_cons r0
  obtain ⟨rfl, rfl, rfl⟩ := trodAll_nil r1
  obtain rfl : args = #[v0, v1] := by cases args; simp_all
  obtain ⟨rfl, rfl⟩ := trodVars_none hV
  obtain ⟨a0, len0, cap0, rfl⟩ := okWide_slice Tryz.underlying22 (hval 0 22 v0 rfl rfl)
  have k0 := h0
  have lt0 : ∀ x ∈ p0, x.block < W.heap.size := by obtain ⟨m, hm⟩ := k0; exact DataW.trod_lt m _ _ _ hm
  obtain ⟨c0, l0, rfl, w0⟩ := P.open_R30 h0
  obtain ⟨a1, rfl, rfl, rfl, w1⟩ := open_int Tryz.underlying3 (hval 1 3 v1 rfl rfl) h1
  clear hA0 hval0 hsz0
  obtain ⟨k, hk⟩ := HP l0 a1
  refine (P.ductuslaw16_TreeTurns.calls k a0 cap0 l0 a1 true W w0 c0 hk).mono fun e W' ⟨he, bel⟩ => ?_
  subst he
  exact ⟨_, rfl, _, _, _, [], _, [], hW', trodAll_mk1 (shut_bool Tryz.underlying4 _), (trodAll_cons_mk (Below.trod laidOut (by kernel_rfl) (of_decide_eq_true (by kernel_rfl)) k0 bel lt0) (trodAll_cons_mk (shut_int Tryz.underlying3 w1) trodAll_mk0)), rfl, bel.frame _, fun h => by cases h⟩
theorem over (HP : Pure) : Rows.treeTurnsRow.holds Tryz.pinned (OpenSpec.ofChange Rows.treeTurnsSpec) :=
  OpenClaim.holds_of_wide 4 Tryz.f4 rfl rfl rfl rfl rfl rfl rfl ⟨rfl, rfl, rfl, rfl, rfl⟩ rfl rfl rfl rfl rfl (by kernel_rfl) Tryz.func4 (by kernel_rfl)
    (of_decide_eq_true (by kernel_rfl)) (by unfold Func.isWrapper; first | (rw [if_pos (by decide +kernel)]; kernel_rfl) | (rw [if_neg (by decide +kernel)]; exact ⟨rfl, rfl⟩))
    (fun os started H enc _ => lifted HP os started H enc)
end Go.Proofs.YtglolcejfbhbdaaGreat.treeTurns
end
section
namespace Go.Proofs.YtglolcejfbhbdaaGreat.P
open Go.RowKit Go.Shelf Go.Proofs.YtglolcejfbhbdaaGreatW.PrintWords Go.Proofs.YtglolcejfbhbdaaGreatW.PrintLast Go.Proofs.YtglolcejfbhbdaaGreatW.PrintMore
set_option linter.unusedVariables false
set_option linter.unusedSimpArgs false
theorem turn_turn (l : List S30) (hl : l.length ≤ 400) : turnL (turnL l) = setL l := by
  have h1 := turnL_b l (by omega)
  have h2 := turnL_spec l
  refine Norm.uniq (turnL_spec (turnL l)).1 (setL_norm l) (fun c => ?_)
  rw [(turnL_spec (turnL l)).2 c, setL_self h2.1 (by omega), h2.2 c]
  constructor
  · rintro ⟨g0, g1, g2⟩
    by_cases h : rm (setL l) c
    · exact h
    · exact absurd ⟨g0, g1, h⟩ g2
  · intro h
    have hb := (setL_norm l).bound h
    exact ⟨hb.1, hb.2, fun h3 => h3.2.2 h⟩
theorem turns_l0 (x0 : List S30) (x1 : Int) (x5 x6 : List S30) (x7 : Bool) (hN : Norm x5) (hl : x5.length ≤ 500) (H : Ends (fun k => ((tree_Has.f x5 x1).bind fun t247 => (if x7 = true then ((ductusref16_Has.f k x0 x1).bind fun t248 => (if (t247 == t248) = true then ((tree_Has.f x6 x1).bind fun t249 => ((ductusref16_Has.f k x0 x1).bind fun t250 => (if (t249 == (!t250)) = true then ((tree_Turn.f x6).bind fun t251 => ((ductusref16_SameSets.f k t251 x5).bind fun t254 => (if t254 = true then ((tree_Set.f x5).bind fun t255 => ((ductusref16_SameSets.f k t255 x5).bind fun t258 => (some t258))) else (some false)))) else (some false)))) else (some false))) else (if (t247 == false) = true then ((tree_Has.f x6 x1).bind fun t259 => (if (t259 == false) = true then ((tree_Turn.f x6).bind fun t260 => ((ductusref16_SameSets.f k t260 x5).bind fun t263 => (if t263 = true then ((tree_Set.f x5).bind fun t264 => ((ductusref16_SameSets.f k t264 x5).bind fun t267 => (some t267))) else (some false)))) else (some false))) else (some false))))) true) :
    ∀ (n i : Nat), i + n = x5.length → Ends (fun k => ductuslaw16_TreeTurns.l0 k x0 x1 x5 x6 x7 i) true
  | 0, i, hi => Ends.succ H (fun k => by rw [ductuslaw16_TreeTurns.l0, if_neg (by omega)])
  | n + 1, i, hi => by
    have ih := turns_l0 x0 x1 x5 x6 x7 hN hl H n (i + 1) (by omega)
    have hlt : i < x5.length := by omega
    have hw : wrap64 ((i : Int) + 1) = ((i + 1 : Nat) : Int) := by rw [wr64 _ (by omega) (by omega)]; omega
    have hr := rd30_get x5 i hlt
    have hb := hN.2 x5[i] (List.getElem_mem hlt)
    refine Ends.succ ih (fun k => ?_)
    rw [ductuslaw16_TreeTurns.l0, if_pos (by omega), if_pos (by omega), hr, if_neg (by omega), if_neg (by omega), if_neg (by omega), hw]
    by_cases h0 : (i : Int) > 0
    · have hw2 : wrap64 ((i : Int) - 1) = ((i - 1 : Nat) : Int) := by rw [wr64 _ (by omega) (by omega)]; omega
      have hlt2 : i - 1 < x5.length := by omega
      have hr2 := rd30_get x5 (i - 1) hlt2
      have hb2 := hN.2 x5[i - 1] (List.getElem_mem hlt2)
      have hp := (List.pairwise_iff_getElem.1 hN.1) (i - 1) i hlt2 hlt (by omega)
      rw [if_pos h0, hw2, if_pos (by omega), if_pos (by omega), hr2, wr64 _ (by omega) (by omega), if_neg (by omega)]
    · rw [if_neg h0]
theorem pureTurns (l0 : List S30) (a1 : Int) : Ends (fun k => ductuslaw16_TreeTurns.f k l0 a1) true := by
  by_cases hl : (l0.length : Int) > 60
  · refine Ends.congr (Ends.pure true) (fun k => ?_)
    unfold ductuslaw16_TreeTurns.f
    rw [show ductuslaw16_alive.f = some true from rfl, al_bind, if_pos hl]
  · have hs := setL_short l0
    have ht := turnL_b l0 (by omega)
    have hN := setL_norm l0
    have hself : setL (setL l0) = setL l0 := setL_self hN (by omega)
    have hin := has_in l0 (by omega) a1
    have hout := has_out l0 (by omega) a1
    have htail : Ends (fun k => (tree_Turn.f (turnL l0)).bind fun t251 => ((ductusref16_SameSets.f k t251 (setL l0)).bind fun t254 => (if t254 = true then ((tree_Set.f (setL l0)).bind fun t255 => ((ductusref16_SameSets.f k t255 (setL l0)).bind fun t258 => (some t258))) else (some false)))) true := by
      refine Ends.bind (a := turnL (turnL l0)) (Ends.pure _) ?_
      rw [turn_turn l0 (by omega)]
      refine Ends.bind (refSame _ (by omega)) (Ends.ifT rfl ?_)
      refine Ends.bind (a := setL (setL l0)) (Ends.pure _) ?_
      rw [hself]
      exact Ends.bind (refSame _ (by omega)) (Ends.pure _)
    refine Ends.congr (g := fun k => ductuslaw16_TreeTurns.j0 k l0 a1 (setL l0) (turnL l0) (decide (0 ≤ a1 ∧ a1 ≤ 1114111))) ?_ (fun k => by
      unfold ductuslaw16_TreeTurns.f
      rw [show ductuslaw16_alive.f = some true from rfl, al_bind, if_neg hl]
      show (if a1 ≥ 0 then ductuslaw16_TreeTurns.j0 k l0 a1 (setL l0) (turnL l0) (decide (a1 ≤ 1114111)) else ductuslaw16_TreeTurns.j0 k l0 a1 (setL l0) (turnL l0) false) = _
      by_cases h0 : a1 ≥ 0
      · rw [if_pos h0]
        congr 1
        rw [decide_eq_decide]
        omega
      · rw [if_neg h0, decide_eq_false (by omega)])
    refine Ends.succ (turns_l0 l0 a1 (setL l0) (turnL l0) (decide (0 ≤ a1 ∧ a1 ≤ 1114111)) hN (by omega) ?_ (setL l0).length 0 (by omega)) (fun k => by rw [ductuslaw16_TreeTurns.j0]; rfl)
    refine Ends.bind (a := hasS (setL l0) a1) (Ends.pure _) ?_
    rw [hin]
    cases hd : decide (0 ≤ a1 ∧ a1 ≤ 1114111) with
    | true =>
      rw [hd] at hin hout
      refine Ends.ifT rfl (Ends.bind (refHas l0 a1 (by omega)) (Ends.ifT (by simp) ?_))
      refine Ends.bind (a := hasS (turnL l0) a1) (Ends.pure _) (Ends.bind (refHas l0 a1 (by omega)) (Ends.ifT (by rw [hout]; simp) htail))
    | false =>
      rw [hd] at hin hout
      refine Ends.ifF (by simp) (Ends.ifT (by simp) ?_)
      refine Ends.bind (a := hasS (turnL l0) a1) (Ends.pure _) (Ends.ifT (by rw [hout]; simp) htail)
end Go.Proofs.YtglolcejfbhbdaaGreat.P
end
section
namespace Go.Proofs.YtglolcejfbhbdaaGreat
theorem treeTurns_holds : Rows.TreeTurnsSaid := treeTurns.over (fun l a => (P.pureTurns l a).ex)
end Go.Proofs.YtglolcejfbhbdaaGreat
end
