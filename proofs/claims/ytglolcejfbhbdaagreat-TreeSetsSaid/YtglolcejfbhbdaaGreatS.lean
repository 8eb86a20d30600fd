/- The statement of TreeSets holds: whatever the input, the law returns true and its arguments read as before. No conditions. -/
import Derived.Test.YtglolcejfbhbdaaGreatSB
import Derived.Test.YtglolcejfbhbdaaGreatRows
import Derived.WalkKit
import Derived.ProofKit
import Derived.OpenShut
import Derived.ShutString
import Derived.ChangeOld
import Derived.Below
import Derived.SizedLaws
section
namespace Go.Proofs.YtglolcejfbhbdaaGreat.treeSets
open Go.ChangeShapes Go.WideShapes Go.ChangeAt Go.RowKit
set_option linter.unusedVariables false
set_option linter.unusedSimpArgs false
def Pure : Prop := ∀ (l0 : List P.S30) (a1 : Int) (a2 : Int), ∃ k, P.ductuslaw16_TreeSets.f k l0 a1 a2 = some true
theorem own : ownKnob Tryz.prog.godebug = none := by kernel_rfl
theorem laidOut : laidOutB Tryz.prog = true := by kernel_rfl
set_option maxRecDepth 100000 in
theorem lifted (HP : Pure) (os : Os) (started : os.Started) (H : Type) (enc : TypeId × Value → H) :
    ReturnsInHanded {} Tryz.checked os 3 .any (Rows.treeSetsSpec.pre6 enc Tryz.prog Tryz.f3 Rows.treeSetsRow.domain false) (Rows.treeSetsSpec.post enc Tryz.prog Tryz.f3 false true false false) := by
  refine returnsInHanded_of_change_sized (C := Tryz.checked) own started (by kernel_rfl) Tryz.func3
    (ChangeSpec.witness6 (enc := enc) (C := Tryz.checked) false ⟨#[], #[.slice none 0 0, .int .i64 0, .int .i64 0], []⟩ 8 (by kernel_rfl) (by kernel_rfl) (by kernel_rfl) (by kernel_rfl)) ?_
  intro W base args ds gs before hval0 hW hcnd hsz0 _
  have hval : ∀ (j : Nat) t v, Tryz.f3.params[j]? = some t → args[j]? = some v → Value.okWide Tryz.prog W .any base t v := hval0
  have hW' := hW
  obtain ⟨p, q, hA0, hV, rfl, hfz, hnd⟩ := hW
  have hA : DataW.TrodAll enc Tryz.prog W 0 (fun _ => true) true Tryz.f3.params.toList args.toList ds p := hA0
  rw [Tryz.params3] at hA hval
  obtain ⟨v0, vs0, d0, ds0, p0, q0, hargs, rfl, rfl, h0, r0⟩ := trodAll_cons hA
  obtain ⟨v1, vs1, d1, ds1, p1, q1, rfl, rfl, rfl, h1, r1⟩ := trodAll_cons r0
  obtain ⟨v2, vs2, d2, ds2, p2, q2, rfl, rfl, rfl, h2, r2⟩ := trodAll_cons r1
  obtain ⟨rfl, rfl, rfl⟩ := trodAll_nil r2
  obtain rfl : args = #[v0, v1, v2] := by cases args; simp_all
  obtain ⟨rfl, rfl⟩ := trodVars_none hV
  obtain ⟨a0, len0, cap0, rfl⟩ := okWide_slice Tryz.underlying22 (hval 0 22 v0 rfl rfl)
  have k0 := h0
  have lt0 : ∀ x ∈ p0, x.block < W.heap.size := by obtain ⟨m, hm⟩ := k0; exact DataW.trod_lt m _ _ _ hm
  obtain ⟨c0, l0, rfl, w0⟩ := P.open_R30 h0
  obtain ⟨a1, rfl, rfl, rfl, w1⟩ := open_int Tryz.underlying3 (hval 1 3 v1 rfl rfl) h1
  obtain ⟨a2, rfl, rfl, rfl, w2⟩ := open_int Tryz.underlying3 (hval 2 3 v2 rfl rfl) h2
  clear hA0 hval0 hsz0
  obtain ⟨k, hk⟩ := HP l0 a1 a2
  refine (P.ductuslaw16_TreeSets.calls k a0 cap0 l0 a1 a2 true W w0 c0 hk).mono fun e W' ⟨he, bel⟩ => ?_
  subst he
  exact ⟨_, rfl, _, _, _, [], _, [], hW', trodAll_mk1 (shut_bool Tryz.underlying4 _), (trodAll_cons_mk (Below.trod laidOut (by kernel_rfl) (of_decide_eq_true (by kernel_rfl)) k0 bel lt0) (trodAll_cons_mk (shut_int Tryz.underlying3 w1) (trodAll_cons_mk (shut_int Tryz.underlying3 w2) trodAll_mk0))), rfl, bel.frame _, fun h => by cases h⟩
theorem over (HP : Pure) : Rows.treeSetsRow.holds Tryz.pinned (OpenSpec.ofChange Rows.treeSetsSpec) :=
  OpenClaim.holds_of_wide 3 Tryz.f3 rfl rfl rfl rfl rfl rfl rfl ⟨rfl, rfl, rfl, rfl, rfl⟩ rfl rfl rfl rfl rfl (by kernel_rfl) Tryz.func3 (by kernel_rfl)
    (of_decide_eq_true (by kernel_rfl)) (by unfold Func.isWrapper; first | (rw [if_pos (by decide +kernel)]; kernel_rfl) | (rw [if_neg (by decide +kernel)]; exact ⟨rfl, rfl⟩))
    (fun os started H enc _ => lifted HP os started H enc)
end Go.Proofs.YtglolcejfbhbdaaGreat.treeSets
end
section
namespace Go.Proofs.YtglolcejfbhbdaaGreat.P
open Go.RowKit Go.Shelf Go.Proofs.YtglolcejfbhbdaaGreatW.PrintWords Go.Proofs.YtglolcejfbhbdaaGreatW.PrintLast Go.Proofs.YtglolcejfbhbdaaGreatW.PrintMore
set_option linter.unusedVariables false
set_option linter.unusedSimpArgs false
theorem closeL_b (l : List S30) (fl : Int) (hl : l.length ≤ 60) : Norm (closeL l fl) ∧ (closeL l fl).length ≤ 400 := by
  have h1 := setL_short l
  have hN := setL_norm l
  obtain ⟨n3, _, l3⟩ := fold1_spec (setL l) hN (by omega)
  obtain ⟨n4, _, l4⟩ := mirr1_spec (fold1 (setL l)) n3 (by omega)
  obtain ⟨n5, _, l5⟩ := mirr1_spec (setL l) hN (by omega)
  unfold closeL
  dsimp only
  split <;> split
  · exact ⟨n4, by omega⟩
  · exact ⟨n5, by omega⟩
  · exact ⟨n3, by omega⟩
  · exact ⟨hN, by omega⟩
theorem pureSets (l0 : List S30) (a1 a2 : Int) : Ends (fun k => ductuslaw16_TreeSets.f k l0 a1 a2) true := by
  by_cases hl : (l0.length : Int) > 60
  · refine Ends.congr (Ends.pure true) (fun k => ?_)
    unfold ductuslaw16_TreeSets.f
    rw [show ductuslaw16_alive.f = some true from rfl, al_bind, if_pos hl]
  · refine Ends.congr (g := fun k => ((tree_Set.f l0).bind fun t211 => ((ductusref16_Set.f k l0).bind fun t214 => ((ductusref16_SameSets.f k t211 t214).bind fun t217 => (if t217 = true then ((tree_Close.f l0 a1).bind fun t218 => ((ductusref16_Close.f k l0 a1).bind fun t221 => ((ductusref16_SameSets.f k t218 t221).bind fun t224 => (if t224 = true then ((tree_Turn.f l0).bind fun t225 => ((ductusref16_Turn.f k l0).bind fun t228 => ((ductusref16_SameSets.f k t225 t228).bind fun t231 => (if t231 = true then ((tree_Has.f l0 a2).bind fun t232 => ((ductusref16_Has.f k l0 a2).bind fun t233 => (some (t232 == t233)))) else (some false))))) else (some false))))) else (some false)))))) ?_ (fun k => by
      unfold ductuslaw16_TreeSets.f
      rw [show ductuslaw16_alive.f = some true from rfl, al_bind, if_neg hl])
    have hs := setL_short l0
    obtain ⟨nc, lc⟩ := closeL_b l0 a1 (by omega)
    have ht := turnL_b l0 (by omega)
    refine Ends.bind (a := setL l0) (Ends.pure _) (Ends.bind (refSet l0 (by omega)) (Ends.bind (refSame (setL l0) (by omega)) (Ends.ifT rfl ?_)))
    refine Ends.bind (a := closeL l0 a1) (Ends.pure _) (Ends.bind (refClose l0 a1 (by omega)) (Ends.bind (refSame (closeL l0 a1) (by omega)) (Ends.ifT rfl ?_)))
    refine Ends.bind (a := turnL l0) (Ends.pure _) (Ends.bind (refTurn l0 (by omega)) (Ends.bind (refSame (turnL l0) (by omega)) (Ends.ifT rfl ?_)))
    refine Ends.bind (a := hasS l0 a2) (Ends.pure _) (Ends.bind (refHas l0 a2 (by omega)) ?_)
    exact Ends.congr (Ends.pure true) (fun k => by rw [beq_self_eq_true])
end Go.Proofs.YtglolcejfbhbdaaGreat.P
end
section
namespace Go.Proofs.YtglolcejfbhbdaaGreat
theorem treeSets_holds : Rows.TreeSetsSaid := treeSets.over (fun l a b => (P.pureSets l a b).ex)
end Go.Proofs.YtglolcejfbhbdaaGreat
end
