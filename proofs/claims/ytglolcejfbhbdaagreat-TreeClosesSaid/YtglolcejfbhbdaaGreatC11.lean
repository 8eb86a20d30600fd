/- Part 11 of what the three laws on sets of ranges share: the words of the walks, contracts of the functions that they reach, and plain lemmas. No conditions. -/
import Derived.Test.YtglolcejfbhbdaaGreatC10
import Derived.Deep.SlicePairs
section
namespace Go.Proofs.YtglolcejfbhbdaaGreat.P
open Go.RowKit Go.Shelf Go.Proofs.YtglolcejfbhbdaaGreatW.PrintWords Go.Proofs.YtglolcejfbhbdaaGreatW.PrintLast Go.Proofs.YtglolcejfbhbdaaGreatW.PrintMore
set_option linter.unusedVariables false
set_option linter.unusedSimpArgs false
theorem ppat2 : parseP [97,42,42] 0 = (nodeN, 2, 5) := by kernel_rfl
theorem ppat3 : parseP [] 8 = (nodeN, 0, 11) := by kernel_rfl
def aN (x y z : List S30) : S35 := ⟨4, [], 0, 0, [⟨2, x, 0, 0, []⟩, ⟨5, [], 0, -1, [⟨3, [], 0, 0, [⟨2, y, 0, 0, []⟩, ⟨2, z, 0, 0, []⟩]⟩]⟩]⟩
theorem ppat1 : parseP [97,124,40,98,99,41,42,63] 0 = (aN (setP 0 ⟨1, 97, 0, 0, 0⟩) (setP 0 ⟨1, 98, 0, 0, 3⟩) (setP 0 ⟨1, 99, 0, 0, 4⟩), 0, 0) := by kernel_rfl
theorem aN_size (x y z : List S30) : sizeP (aN x y z) = 6 := by
  unfold aN
  simp [sizeP, sizeL, timesP, mx, mn]
theorem aN_lo (x y z : List S30) : LoOk (aN x y z) := by
  unfold aN
  simp [LoOk, LoOkL]
theorem C_nilI (w : World) : Kd.C (Kd.int .i64) w none ([] : List Int).length [] := (Kd.C_nil _ _)
set_option maxRecDepth 100000 in
set_option maxHeartbeats 4000000 in
theorem alive_calls (hsz : (closeL [⟨65, 65⟩] 1) = [⟨65, 65⟩, ⟨97, 97⟩]) (ht : turnL [] = [⟨0, 1114111⟩]) (hs : setL [⟨3, 4⟩, ⟨1, 2⟩] = [⟨1, 4⟩]) (w : World) :
    Calls Tryz.prog 8 #[] w fun e w' => e = .returned (.bool true) ∧ Below w.heap.size w w' := by
  have hp1 := fun A c w h => parse_all A c [97,124,40,98,99,41,42,63] 0 w h
  rw [ppat1] at hp1
  generalize setP 0 ⟨1, 97, 0, 0, 0⟩ = x at hp1
  generalize setP 0 ⟨1, 98, 0, 0, 3⟩ = y at hp1
  generalize setP 0 ⟨1, 99, 0, 0, 4⟩ = z at hp1
  have hp2 := fun A c w h => parse_all A c [97,42,42] 0 w h
  rw [ppat2] at hp2
  have hp3 := fun A c w h => parse_all A c [] 8 w h
  rw [ppat3] at hp3
  go_enter Tryz.func8, Tryz.ntmps8
  go_wp2_with fail
  refine (hp1 (some ⟨w.heap.size, 0, none⟩) 8 _ (C_litI w [97,124,40,98,99,41,42,63] (by decide))).mono ?_
  rintro e w1 ⟨⟨cs, rfl, hF⟩, hb1⟩
  obtain ⟨A1, c1, A4, c4, hcs, l1, hC1, l4, hC4⟩ := k35_open (Kd.FK_now hF)
  replace hcs : cs = [.int .i64 4, .slice A1 0 c1, .int .i64 0, .int .i64 0, .slice A4 2 c4] := hcs
  subst hcs
  have HC1 := Aside0.mk hC1
  have HC4 := Aside0.mk hC4
  have HB1 := Aside0.mk (show Below w.heap.size w w1 from (below_alloc (Below.refl _ _) _).trans (hb1.mono (by simp)))
  have HA1 := Aside0.mk (blk_new w1 (.cells #[.int .i64 4, .slice A1 0 c1, .int .i64 0, .int .i64 0, .slice A4 2 c4] 35))
  have hz1 : (w1.alloc (.cells #[.int .i64 4, .slice A1 0 c1, .int .i64 0, .int .i64 0, .slice A4 2 c4] 35)).heap.size = w1.heap.size + 1 := by simp
  have HB2 := Aside0.mk (below_alloc (Below.refl w1.heap.size w1) (.cells #[.int .i64 4, .slice A1 0 c1, .int .i64 0, .int .i64 0, .slice A4 2 c4] 35))
  clear hF hb1 l1 hC1 l4 hC4 hp1
  go_wp2_with fail
  generalize w1.alloc (.cells #[.int .i64 4, .slice A1 0 c1, .int .i64 0, .int .i64 0, .slice A4 2 c4] 35) = W1 at hz1 HA1 HB2 ⊢
  have hc2 := C_litI W1 [97,42,42] (by decide)
  rw [hz1] at hc2
  refine (hp2 (some ⟨w1.heap.size + 1, 0, none⟩) 3 _ hc2).mono ?_
  rintro e w2 ⟨⟨cs, rfl, hF⟩, hb2⟩
  obtain ⟨B1, d1, B4, d4, hcs, _, _, _, _⟩ := k35_open (Kd.FK_now hF)
  replace hcs : cs = [.int .i64 0, .slice B1 0 d1, .int .i64 0, .int .i64 0, .slice B4 0 d4] := hcs
  subst hcs
  replace HA1 := Aside0.mk (blk_below (blk_alloc HA1.out _) hb2)
  replace HB2 := Aside0.mk ((below_alloc HB2.out _).trans (hb2.mono (by simp; omega)))
  have hs2 : w1.heap.size < w2.heap.size := blk_lt HA1.out
  clear hF hb2 hp2 hc2 hz1
  go_wp2_with fail
  replace HA1 := Aside0.mk (blk_alloc HA1.out (.cells #[.int .i64 0, .slice B1 0 d1, .int .i64 0, .int .i64 0, .slice B4 0 d4] 35))
  replace HB2 := Aside0.mk (below_alloc HB2.out (.cells #[.int .i64 0, .slice B1 0 d1, .int .i64 0, .int .i64 0, .slice B4 0 d4] 35))
  generalize w2.alloc (.cells #[.int .i64 0, .slice B1 0 d1, .int .i64 0, .int .i64 0, .slice B4 0 d4] 35) = W2 at HA1 HB2 ⊢
  refine (hp3 none 0 W2 (C_nilI W2)).mono ?_
  rintro e w3 ⟨⟨cs, rfl, hF⟩, hb3⟩
  obtain ⟨D1, e1, D4, e4, hcs, _, _, _, _⟩ := k35_open (Kd.FK_now hF)
  replace hcs : cs = [.int .i64 0, .slice D1 0 e1, .int .i64 0, .int .i64 0, .slice D4 0 e4] := hcs
  subst hcs
  have hs3 := blk_lt HA1.out
  replace HB2 := Aside0.mk (HB2.out.trans (hb3.mono (by omega)))
  replace HA1 := Aside0.mk (blk_below HA1.out hb3)
  clear hF hb3 hp3 hs3
  go_wp2_with fail
  replace HA1 := Aside0.mk (blk_alloc HA1.out (.cells #[.int .i64 0, .slice D1 0 e1, .int .i64 0, .int .i64 0, .slice D4 0 e4] 35))
  replace HB2 := Aside0.mk (below_alloc HB2.out (.cells #[.int .i64 0, .slice D1 0 e1, .int .i64 0, .int .i64 0, .slice D4 0 e4] 35))
  have hz3 : (w3.alloc (.cells #[.int .i64 0, .slice D1 0 e1, .int .i64 0, .int .i64 0, .slice D4 0 e4] 35)).heap.size = w3.heap.size + 1 := by simp
  generalize w3.alloc (.cells #[.int .i64 0, .slice D1 0 e1, .int .i64 0, .int .i64 0, .slice D4 0 e4] 35) = W3 at HA1 HB2 hz3 ⊢
  have hcl := (Kd.R_reads' (R_lit1 W3 0 ⟨65, 65⟩ (Nat.zero_le _))).2.2
  rw [hz3] at hcl
  have hf : tree_Close.f [⟨65, 65⟩] 1 = some [⟨65, 65⟩, ⟨97, 97⟩] := congrArg some hsz
  refine (tree_Close.calls (some ⟨w3.heap.size + 1, 0, none⟩) 1 [⟨65, 65⟩] 1 _ _ hcl (Nat.le_refl _) hf).mono ?_
  rintro e w4 ⟨v, rfl, hR, hb4⟩
  have hs3 := blk_lt HA1.out
  replace HB2 := Aside0.mk ((below_alloc HB2.out _).trans (hb4.mono (by simp; omega)))
  replace HA1 := Aside0.mk (blk_below (blk_alloc HA1.out _) hb4)
  obtain ⟨S, cS, hv, hcS, hS⟩ := R_listR hR
  replace hv : v = .slice S 2 cS := hv
  subst hv
  have HS := Aside0.mk hS
  clear hR hb4 hcl hf hz3 hs3 hsz hS
  obtain ⟨a0, a1, a2, a3, a4⟩ := node_cells HA1.out
  have hK4 := Kd.C_below HC4.out HB2.out
  have HK4 := Aside0.mk hK4
  obtain ⟨ad, A5, c5, A6, c6, rfl, g0, g1, g2, g3, g4, l5, hC5, l6, hC6⟩ := at_T35 hK4 1 (by decide) (show (1 : Int) < ((2 : Nat) : Int) by decide)
  have HC5 := Aside0.mk hC5
  have HC6 := Aside0.mk hC6
  obtain ⟨ad', A7, c7, A8, c8, rfl, j0, j1, j2, j3, j4, l7, hC7, l8, hC8⟩ := at_T35 hC6 0 (by decide) (show (0 : Int) < ((1 : Nat) : Int) by decide)
  clear hC5 hC6 hC7 hC8 hK4 l5 l7
  obtain ⟨ad'', rfl, r0, r1⟩ := at_T30 HS.out 1 (by decide) (by decide)
  replace g0 : w4.cell? ⟨ad.block, ad.off + 5, none⟩ = some (.int .i64 5) := g0
  replace g3 : w4.cell? ⟨ad.block, ad.off + 5 + 3, none⟩ = some (.int .i64 (-1)) := g3
  replace g4 : w4.cell? ⟨ad.block, ad.off + 5 + 4, none⟩ = some (.slice (some ad') 1 c6) := g4
  replace j0 : w4.cell? ad' = some (.int .i64 3) := j0
  replace r0 : w4.cell? ⟨ad''.block, ad''.off + 2, none⟩ = some (.int .i64 97) := r0
  clear g1 g2 j1 j2 j3 j4 r1
  go_wp2_with fail
  have hh : tree_Has.f [⟨65, 65⟩, ⟨97, 97⟩] 97 = some true := rfl
  refine (tree_Has.calls (some ad'') cS [⟨65, 65⟩, ⟨97, 97⟩] 97 true _ HS.out hcS hh).mono ?_
  rintro e w5 ⟨rfl, hb5⟩
  have hs4 := blk_lt HA1.out
  replace HB2 := Aside0.mk (HB2.out.trans (hb5.mono (by omega)))
  replace HA1 := Aside0.mk (blk_below HA1.out hb5)
  clear hh hb5 hs4 g0 g3 g4 j0 r0 a0 a1 a2 a3 a4 HS HK4 HC5 HC6 hcS
  obtain ⟨a0, a1, a2, a3, a4⟩ := node_cells HA1.out
  have hsz : Calls Tryz.prog 22 #[.agg #[.int .i64 4, .slice A1 0 c1, .int .i64 0, .int .i64 0, .slice (some ad) 2 c4]] w5 fun e w' => e = .returned (.int .i64 6) ∧ Below w5.heap.size w5 w' := by
    have h1 := size_ok (SizeOf.sizeOf (aN x y z) + 1) (aN x y z) (Nat.lt_succ_self _) A1 c1 (some ad) c4 w5 (Kd.C_below HC4.out HB2.out) (aN_lo x y z)
    rw [aN_size] at h1
    exact h1
  go_wp2_with fail
  refine hsz.mono ?_
  rintro e w6 ⟨rfl, hb6⟩
  have hs5 := blk_lt HA1.out
  replace HB2 := Aside0.mk (HB2.out.trans (hb6.mono (by omega)))
  replace HA1 := Aside0.mk (blk_below HA1.out hb6)
  clear hsz hb6 hs5 a0 a1 a2 a3 a4
  have hft : tree_Turn.f [] = some [⟨0, 1114111⟩] := congrArg some ht
  go_wp2_with fail
  refine (tree_Turn.calls none 0 [] _ _ (Kd.C_nil _ _) (Nat.le_refl _) hft).mono ?_
  rintro e w7 ⟨v, rfl, hR, hb7⟩
  obtain ⟨T, cT, hv, _, _⟩ := R_listR hR
  replace hv : v = .slice T 1 cT := hv
  subst hv
  have hs6 := blk_lt HA1.out
  replace HB2 := Aside0.mk (HB2.out.trans (hb7.mono (by omega)))
  replace HA1 := Aside0.mk (blk_below HA1.out hb7)
  clear hft hb7 hR hs6
  go_wp2_with fail
  have hfs : tree_Set.f [⟨3, 4⟩, ⟨1, 2⟩] = some [⟨1, 4⟩] := congrArg some hs
  refine (tree_Set.calls (some ⟨w7.heap.size, 0, none⟩) 2 [⟨3, 4⟩, ⟨1, 2⟩] _ _ (Kd.R_reads' (R_lit2 w7 0 ⟨3, 4⟩ ⟨1, 2⟩ (Nat.zero_le _))).2.2 (Nat.le_refl _) hfs).mono ?_
  rintro e w8 ⟨v, rfl, hR, hb8⟩
  obtain ⟨T2, cT2, hv, _, _⟩ := R_listR hR
  replace hv : v = .slice T2 1 cT2 := hv
  subst hv
  have hs7 := blk_lt HA1.out
  replace HB2 := Aside0.mk ((below_alloc HB2.out _).trans (hb8.mono (by simp; omega)))
  replace HA1 := Aside0.mk (blk_below (blk_alloc HA1.out _) hb8)
  clear hfs hb8 hR hs7
  obtain ⟨a0, a1, a2, a3, a4⟩ := node_cells HA1.out
  have hsm : Calls Tryz.prog 23 #[.agg #[.int .i64 4, .slice A1 0 c1, .int .i64 0, .int .i64 0, .slice (some ad) 2 c4], .agg #[.int .i64 4, .slice A1 0 c1, .int .i64 0, .int .i64 0, .slice (some ad) 2 c4]] w8 fun e w' => e = .returned (.bool true) ∧ Below w8.heap.size w8 w' :=
    same_self (SizeOf.sizeOf (aN x y z) + 1) (aN x y z) (Nat.lt_succ_self _) A1 c1 (some ad) c4 w8 (Kd.C_below HC1.out HB2.out) (Kd.C_below HC4.out HB2.out)
  go_wp2_with fail
  refine hsm.mono ?_
  rintro e w9 ⟨rfl, hb9⟩
  have hs8 := blk_lt HA1.out
  replace HB2 := Aside0.mk (HB2.out.trans (hb9.mono (by omega)))
  clear hsm hb9 a0 a1 a2 a3 a4
  go_wp2_with fail
  go_ret
  exact ⟨rfl, HB1.out.trans (HB2.out.mono HB1.out.size)⟩
def ductuslaw16_alive.f : Option Bool := some true
theorem ductuslaw16_alive.calls (r : Bool) (w : World) (h : ductuslaw16_alive.f = some r) :
    Calls Tryz.prog 8 #[] w fun e w' => e = .returned (.bool r) ∧ Below w.heap.size w w' := by
  obtain rfl := Option.some.inj h
  exact alive_calls al_close al_turn al_set w
end Go.Proofs.YtglolcejfbhbdaaGreat.P
end
section
namespace Go.Proofs.YtglolcejfbhbdaaGreat.P
open Go.RowKit Go.Deep Go.ChangeShapes Go.WideShapes Go.Proofs.YtglolcejfbhbdaaGreatW.PrintWords Go.Proofs.YtglolcejfbhbdaaGreatW.PrintLast Go.Proofs.YtglolcejfbhbdaaGreatW.PrintMore
set_option linter.unusedVariables false
set_option linter.unusedSimpArgs false
theorem open_R30 {H : Type} {enc : TypeId × Value → H} {W : World} {base : Nat} {spare : Nat → Bool} {held : Bool} {a : Option Addr} {len cap : Nat} {d : DataW H} {ps : List MemPlace}
    (h : DataW.Trod enc Tryz.prog W base spare held 22 (.slice a len cap) d ps) : len ≤ cap ∧ ∃ l : List S30, l.length = len ∧ Kd.C k30 W a l.length l := by
  obtain ⟨fuel, hf⟩ := h
  rcases open_slice_pairs (t := 22) (e := 30) Tryz.underlying22 Tryz.underlying30 (by kernel_rfl) rfl rfl (by kernel_rfl) (by kernel_rfl) hf with ⟨hcs, _⟩ | ⟨x, l, c, m, n, V0, V1, D0, D1, P0, P1, hcs, _, hl, hm, hmm, _, hx⟩
  · simp [Value.cells] at hcs
    obtain ⟨rfl, rfl, rfl⟩ := hcs
    exact ⟨Nat.le_refl _, [], rfl, Kd.C_nil _ _⟩
  · simp [Value.cells] at hcs
    obtain ⟨rfl, rfl, rfl⟩ := hcs
    have hlm : len ≤ m := by rw [hmm]; split <;> omega
    have ev : ∀ i, i < m → ∃ r : S30, V0 i = .int .i64 r.f0 ∧ V1 i = .int .i64 r.f1 := by
      intro i hi
      obtain ⟨_, _, g0, g1⟩ := hx i hi
      obtain ⟨n0, e0, _, _⟩ := DataW.trod_int (k := .i64) Tryz.underlying3 g0
      obtain ⟨n1, e1, _, _⟩ := DataW.trod_int (k := .i64) Tryz.underlying3 g1
      simp only [List.cons.injEq, and_true] at e0 e1
      exact ⟨⟨n0, n1⟩, e0, e1⟩
    obtain ⟨f, hf2⟩ : ∃ f : Nat → S30, ∀ i, i < m → V0 i = .int .i64 (f i).f0 ∧ V1 i = .int .i64 (f i).f1 :=
      ⟨fun i => if hi : i < m then (ev i hi).choose else ⟨0, 0⟩, fun i hi => by simp only [hi, dif_pos]; exact (ev i hi).choose_spec⟩
    refine ⟨hl, (List.range len).map f, by simp, ?_⟩
    refine ⟨rfl, ?_, fun _ => ⟨x, rfl, fun j p hp => ?_⟩⟩
    · simp; exact Nat.le_trans hl (Nat.le_trans hm (by decide))
    · have hj : j < len := by
        have := (List.getElem?_eq_some_iff.1 hp).1
        simpa using this
      have hpe : p = f j := by
        rw [List.getElem?_map, List.getElem?_range hj] at hp
        exact (Option.some.inj hp).symm
      subst hpe
      obtain ⟨q0, q1, _, _⟩ := hx j (Nat.lt_of_lt_of_le hj hlm)
      obtain ⟨e0, e1⟩ := hf2 j (Nat.lt_of_lt_of_le hj hlm)
      refine ⟨[.int .i64 (f j).f0, .int .i64 (f j).f1], rfl, k30_mk _ _, fun i u hu => ?_⟩
      match i, hu with
      | 0, hu => simp at hu; subst hu; rw [← e0]; exact q0
      | 1, hu => simp at hu; subst hu; rw [← e1]; exact q1
      | k + 2, hu => simp at hu
end Go.Proofs.YtglolcejfbhbdaaGreat.P
end
section
namespace Go.Proofs.YtglolcejfbhbdaaGreat.P
open Go.RowKit Go.Shelf Go.Proofs.YtglolcejfbhbdaaGreatW.PrintWords Go.Proofs.YtglolcejfbhbdaaGreatW.PrintLast Go.Proofs.YtglolcejfbhbdaaGreatW.PrintMore
set_option linter.unusedVariables false
set_option linter.unusedSimpArgs false
def Ends {α : Type} (f : Nat → Option α) (r : α) : Prop := ∃ K, ∀ k, K ≤ k → f k = some r
theorem Ends.succ {α : Type} {f g : Nat → Option α} {r : α} (hg : Ends g r) (h : ∀ k, f (k + 1) = g k) : Ends f r := by
  obtain ⟨K, hK⟩ := hg
  refine ⟨K + 1, fun k hk => ?_⟩
  obtain ⟨m, rfl⟩ : ∃ m, k = m + 1 := ⟨k - 1, by omega⟩
  rw [h]
  exact hK m (by omega)
theorem Ends.pure {α : Type} (r : α) : Ends (fun _ => some r) r := ⟨0, fun _ _ => rfl⟩
theorem Ends.congr {α : Type} {f g : Nat → Option α} {r : α} (hg : Ends g r) (h : ∀ k, f k = g k) : Ends f r := by
  obtain ⟨K, hK⟩ := hg
  exact ⟨K, fun k hk => (h k).trans (hK k hk)⟩
theorem Ends.bind {α β : Type} {f : Nat → Option α} {g : Nat → α → Option β} {a : α} {r : β} (hf : Ends f a) (hg : Ends (fun k => g k a) r) : Ends (fun k => (f k).bind (g k)) r := by
  obtain ⟨K, hK⟩ := hf
  obtain ⟨L, hL⟩ := hg
  refine ⟨max K L, fun k hk => ?_⟩
  show (f k).bind (g k) = some r
  rw [hK k (by omega)]
  exact hL k (by omega)
theorem wr64 (x : Int) (h0 : -9223372036854775808 ≤ x) (h1 : x ≤ 9223372036854775807) : wrap64 x = x := by
  unfold wrap64
  omega
theorem rd30_get (l : List S30) (i : Nat) (h : i < l.length) : rd_T30 l i = l[i] := by simp [rd_T30, List.getD_eq_getElem?_getD, h]
theorem refHas_l0 (c : Int) (l : List S30) (hl : l.length ≤ 1000000) : ∀ (n i : Nat), i + n = l.length → Ends (fun k => ductusref16_Has.l0 k l c i) (hasS (l.drop i) c)
  | 0, i, hi => by
    rw [List.drop_of_length_le (by omega)]
    refine Ends.succ (Ends.pure _) (fun k => ?_)
    rw [ductusref16_Has.l0, if_neg (by omega)]
    rfl
  | n + 1, i, hi => by
    have hlt : i < l.length := by omega
    have ih := refHas_l0 c l hl n (i + 1) (by omega)
    rw [List.drop_eq_getElem_cons hlt]
    have hr := rd30_get l i hlt
    have hw : wrap64 ((i : Int) + 1) = ((i + 1 : Nat) : Int) := by rw [wr64 _ (by omega) (by omega)]; omega
    by_cases h : inR c l[i] = true
    · have h2 : hasS (l[i] :: l.drop (i + 1)) c = true := by unfold hasS; rw [List.any_cons, h]; rfl
      rw [h2]
      refine Ends.succ (Ends.pure _) (fun k => ?_)
      unfold inR at h
      rw [Bool.and_eq_true, decide_eq_true_eq, decide_eq_true_eq] at h
      rw [ductusref16_Has.l0, if_pos (by omega), if_pos (by omega), hr, if_pos h.1, if_pos h.2]
    · have h2 : hasS (l[i] :: l.drop (i + 1)) c = hasS (l.drop (i + 1)) c := by unfold hasS; rw [List.any_cons, Bool.eq_false_iff.2 h]; rfl
      rw [h2]
      refine Ends.succ ih (fun k => ?_)
      unfold inR at h
      rw [Bool.and_eq_true, decide_eq_true_eq, decide_eq_true_eq] at h
      rw [ductusref16_Has.l0, if_pos (by omega), if_pos (by omega), hr, hw]
      by_cases h3 : l[i].f0 ≤ c
      · rw [if_pos h3, if_neg (fun h4 => h ⟨h3, h4⟩)]
      · rw [if_neg h3]
theorem refHas (l : List S30) (c : Int) (hl : l.length ≤ 1000000) : Ends (fun k => ductusref16_Has.f k l c) (hasS l c) := refHas_l0 c l hl l.length 0 (by omega)
theorem refSame_l0 (l : List S30) (hl : l.length ≤ 1000000) : ∀ (n i : Nat), i + n = l.length → Ends (fun k => ductusref16_SameSets.l0 k l l i) true
  | 0, i, hi => by
    refine Ends.succ (Ends.pure _) (fun k => ?_)
    rw [ductusref16_SameSets.l0, if_neg (by omega)]
  | n + 1, i, hi => by
    have ih := refSame_l0 l hl n (i + 1) (by omega)
    have hw : wrap64 ((i : Int) + 1) = ((i + 1 : Nat) : Int) := by rw [wr64 _ (by omega) (by omega)]; omega
    refine Ends.succ ih (fun k => ?_)
    rw [ductusref16_SameSets.l0, if_pos (by omega), if_pos (by omega), if_pos (by omega), if_neg (by simp), hw]
theorem refSame (l : List S30) (hl : l.length ≤ 1000000) : Ends (fun k => ductusref16_SameSets.f k l l) true := by
  refine Ends.congr (refSame_l0 l hl l.length 0 (by omega)) (fun k => ?_)
  unfold ductusref16_SameSets.f
  rw [if_pos rfl]
  rfl
def lowest (from_ : Int) (l : List S30) (acc : Int) : Int := l.foldl (fun a r => if r.f1 ≥ from_ ∧ r.f1 ≥ r.f0 ∧ mx r.f0 from_ < a then mx r.f0 from_ else a) acc
def grow (l : List S30) (h : Int) : Int := l.foldl (fun a r => if r.f0 ≤ a + 1 ∧ r.f1 > a then mn 1114111 r.f1 else a) h
def grows (l : List S30) : Nat → Int → Int
  | 0, h => h
  | n + 1, h => grows l n (grow l h)
def lowS (from_ : Int) (r : S30) (a : Int) : Int := if r.f1 ≥ from_ ∧ r.f1 ≥ r.f0 ∧ mx r.f0 from_ < a then mx r.f0 from_ else a
theorem lowest_cons (from_ : Int) (r : S30) (l : List S30) (acc : Int) : lowest from_ (r :: l) acc = lowest from_ l (lowS from_ r acc) := rfl
theorem lowS_le (from_ : Int) (r : S30) (a : Int) : lowS from_ r a ≤ a := by
  unfold lowS
  split <;> omega
theorem lowS_at (from_ : Int) (r : S30) (a c : Int) (h0 : from_ ≤ c) (h1 : r.f0 ≤ c) (h2 : c ≤ r.f1) : lowS from_ r a ≤ c := by
  unfold lowS mx
  repeat' split
  all_goals omega
theorem lowS_is (from_ : Int) (r : S30) (a : Int) : lowS from_ r a = a ∨ (from_ ≤ lowS from_ r a ∧ r.f0 ≤ lowS from_ r a ∧ lowS from_ r a ≤ r.f1) := by
  unfold lowS mx
  repeat' split
  all_goals omega
def growS (r : S30) (a : Int) : Int := if r.f0 ≤ a + 1 ∧ r.f1 > a then mn 1114111 r.f1 else a
theorem grow_cons (r : S30) (l : List S30) (h : Int) : grow (r :: l) h = grow l (growS r h) := rfl
theorem growS_ge (r : S30) (h : Int) (hh : h ≤ 1114111) : h ≤ growS r h ∧ growS r h ≤ 1114111 := by
  unfold growS mn
  repeat' split
  all_goals omega
theorem growS_in (r : S30) (h : Int) (hh : h ≤ 1114111) (c : Int) (h0 : h < c) (h1 : c ≤ growS r h) : r.f0 ≤ c ∧ c ≤ r.f1 := by
  unfold growS mn at h1
  repeat' split at h1
  all_goals omega
theorem lowest_le (from_ : Int) : ∀ (l : List S30) (acc : Int), lowest from_ l acc ≤ acc
  | [], acc => Int.le_refl _
  | r :: l, acc => by
    rw [lowest_cons]
    exact Int.le_trans (lowest_le from_ l _) (lowS_le _ _ _)
theorem lowest_no (from_ : Int) : ∀ (l : List S30) (acc c : Int), from_ ≤ c → c < lowest from_ l acc → ¬ rm l c
  | [], acc, c, _, _ => rm_nil c
  | r :: l, acc, c, h0, h1 => by
    rw [lowest_cons] at h1
    rw [rm_cons]
    rintro (h2 | h2)
    · have h4 := lowest_le from_ l (lowS from_ r acc)
      have h5 := lowS_at from_ r acc c h0 h2.1 h2.2
      omega
    · exact lowest_no from_ l _ c h0 h1 h2
theorem lowest_is (from_ : Int) : ∀ (l : List S30) (acc : Int), lowest from_ l acc = acc ∨ (from_ ≤ lowest from_ l acc ∧ rm l (lowest from_ l acc))
  | [], acc => .inl rfl
  | r :: l, acc => by
    rw [lowest_cons, rm_cons]
    rcases lowest_is from_ l (lowS from_ r acc) with h | h
    · rw [h]
      rcases lowS_is from_ r acc with h2 | h2
      · exact .inl h2
      · exact .inr ⟨h2.1, .inl h2.2⟩
    · exact .inr ⟨h.1, .inr h.2⟩
theorem grow_ge : ∀ (l : List S30) (h : Int), h ≤ 1114111 → h ≤ grow l h ∧ grow l h ≤ 1114111
  | [], h, hh => ⟨Int.le_refl _, hh⟩
  | r :: l, h, hh => by
    rw [grow_cons]
    have h2 := growS_ge r h hh
    have := grow_ge l _ h2.2
    omega
theorem grow_in : ∀ (l : List S30) (h : Int), h ≤ 1114111 → ∀ c, h < c → c ≤ grow l h → rm l c
  | [], h, hh, c, h0, h1 => by have : c ≤ h := h1; omega
  | r :: l, h, hh, c, h0, h1 => by
    rw [grow_cons] at h1
    rw [rm_cons]
    have h2 := growS_ge r h hh
    by_cases h3 : growS r h < c
    · exact .inr (grow_in l _ h2.2 c h3 h1)
    · exact .inl (growS_in r h hh c h0 (by omega))
theorem grow_fix : ∀ (l : List S30) (h : Int), h < 1114111 → grow l h = h → ∀ r ∈ l, ¬ (r.f0 ≤ h + 1 ∧ r.f1 > h)
  | [], h, _, _, r, hr => by simp at hr
  | q :: l, h, hh, he, r, hr => by
    rw [grow_cons] at he
    have h2 := growS_ge q h (by omega)
    have h3 := grow_ge l _ h2.2
    rw [he] at h3
    have h4 : growS q h = h := by omega
    have h5 : ¬ (q.f0 ≤ h + 1 ∧ q.f1 > h) := by
      intro h6
      unfold growS mn at h4
      rw [if_pos h6] at h4
      split at h4 <;> omega
    rw [h4] at he
    rcases List.mem_cons.1 hr with rfl | hr
    · exact h5
    · exact grow_fix l h hh he r hr
theorem grow_used : ∀ (l : List S30) (h : Int), h ≤ 1114111 → grow l h ≠ h → ∃ r ∈ l, r.f1 > h ∧ mn 1114111 r.f1 ≤ grow l h
  | [], h, _, he => absurd rfl he
  | q :: l, h, hh, he => by
    rw [grow_cons] at he ⊢
    by_cases h5 : q.f0 ≤ h + 1 ∧ q.f1 > h
    · have h6 : growS q h = mn 1114111 q.f1 := if_pos h5
      refine ⟨q, List.mem_cons_self, h5.2, ?_⟩
      rw [← h6]
      exact (grow_ge l _ (growS_ge q h hh).2).1
    · have h6 : growS q h = h := if_neg h5
      rw [h6] at he ⊢
      obtain ⟨r, h1, h2⟩ := grow_used l h hh he
      exact ⟨r, List.mem_cons_of_mem _ h1, h2⟩
def above (l : List S30) (h : Int) : Nat := (l.filter (fun r => decide (h < r.f1 ∧ h < 1114111))).length
theorem above_cons (r : S30) (l : List S30) (h : Int) : above (r :: l) h = above l h + (if h < r.f1 ∧ h < 1114111 then 1 else 0) := by
  unfold above
  rw [List.filter_cons]
  by_cases h1 : h < r.f1 ∧ h < 1114111
  · rw [if_pos (decide_eq_true h1), if_pos h1]; rfl
  · rw [if_neg (by rw [decide_eq_true_eq]; exact h1), if_neg h1]; rfl
theorem above_le {l : List S30} {a b : Int} (h : a ≤ b) : above l b ≤ above l a := by
  induction l with
  | nil => exact Nat.le_refl _
  | cons r l ih =>
    rw [above_cons, above_cons]
    by_cases h1 : b < r.f1 ∧ b < 1114111
    · rw [if_pos h1, if_pos (by omega)]; omega
    · rw [if_neg h1]; omega
theorem above_lt {l : List S30} {a b : Int} (h : a ≤ b) {r : S30} (hr : r ∈ l) (h1 : r.f1 > a) (h2 : mn 1114111 r.f1 ≤ b) (ha : a < 1114111) : above l b < above l a := by
  have hb : ¬ (b < r.f1 ∧ b < 1114111) := by
    unfold mn at h2
    split at h2 <;> omega
  induction l with
  | nil => simp at hr
  | cons q l ih =>
    have h4 := above_le (l := l) h
    rw [above_cons, above_cons]
    rcases List.mem_cons.1 hr with rfl | hr
    · rw [if_neg hb, if_pos ⟨h1, ha⟩]
      omega
    · have := ih hr
      by_cases h5 : b < q.f1 ∧ b < 1114111
      · rw [if_pos h5, if_pos (by omega)]; omega
      · rw [if_neg h5]; omega
theorem grows_same (l : List S30) (h : Int) (he : grow l h = h) : ∀ n, grows l n h = h
  | 0 => rfl
  | n + 1 => by rw [grows, he, grows_same l h he n]
theorem grows_fix (l : List S30) : ∀ (n : Nat) (h : Int), h ≤ 1114111 → above l h < n → grow l (grows l n h) = grows l n h
  | 0, h, _, hn => by omega
  | n + 1, h, hh, hn => by
    rw [grows]
    by_cases he : grow l h = h
    · rw [he, grows_same l h he n, he]
    · have h1 := grow_ge l h hh
      obtain ⟨r, hr, h2, h3⟩ := grow_used l h hh he
      have := above_lt h1.1 hr h2 h3 (by omega)
      exact grows_fix l n _ h1.2 (by omega)
theorem grows_ge (l : List S30) : ∀ (n : Nat) (h : Int), h ≤ 1114111 → h ≤ grows l n h ∧ grows l n h ≤ 1114111
  | 0, h, hh => ⟨Int.le_refl _, hh⟩
  | n + 1, h, hh => by
    have h1 := grow_ge l h hh
    have h2 := grows_ge l n _ h1.2
    rw [grows]
    omega
theorem grows_in (l : List S30) : ∀ (n : Nat) (h : Int), h ≤ 1114111 → ∀ c, h < c → c ≤ grows l n h → rm l c
  | 0, h, hh, c, h0, h1 => by have : c ≤ h := h1; omega
  | n + 1, h, hh, c, h0, h1 => by
    rw [grows] at h1
    by_cases h2 : c ≤ grow l h
    · exact grow_in l h hh c h0 h2
    · exact grows_in l n _ (grow_ge l h hh).2 c (by omega) h1
theorem above_len (l : List S30) (h : Int) : above l h ≤ l.length := List.length_filter_le _ _
end Go.Proofs.YtglolcejfbhbdaaGreat.P
end
section
namespace Go.Proofs.YtglolcejfbhbdaaGreat.P
open Go.RowKit Go.Shelf Go.Proofs.YtglolcejfbhbdaaGreatW.PrintWords Go.Proofs.YtglolcejfbhbdaaGreatW.PrintLast Go.Proofs.YtglolcejfbhbdaaGreatW.PrintMore
set_option linter.unusedVariables false
set_option linter.unusedSimpArgs false
theorem refSet_l3 (L x3 : List S30) (x5 x8 : Int) (r : List S30) (hl : L.length ≤ 500) : ∀ (n i : Nat) (x7 : Int), i + n = L.length → 0 ≤ x7 → x7 ≤ 1114111 → Ends (fun k => ductusref16_Set.l2 k L x3 x5 (grow (L.drop i) x7) (wrap64 (x8 + 1))) r → Ends (fun k => ductusref16_Set.l3 k L x3 x5 x7 x8 i) r
  | 0, i, x7, hi, h0, h1, H => by
    rw [List.drop_of_length_le (by omega)] at H
    refine Ends.succ H (fun k => ?_)
    rw [ductusref16_Set.l3, if_neg (by omega)]
    rfl
  | n + 1, i, x7, hi, h0, h1, H => by
    have hlt : i < L.length := by omega
    rw [List.drop_eq_getElem_cons hlt, grow_cons] at H
    have hg := growS_ge L[i] x7 h1
    have ih := refSet_l3 L x3 x5 x8 r hl n (i + 1) (growS L[i] x7) (by omega) (by omega) hg.2 H
    have hr := rd30_get L i hlt
    have hw : wrap64 ((i : Int) + 1) = ((i + 1 : Nat) : Int) := by rw [wr64 _ (by omega) (by omega)]; omega
    refine Ends.succ ih (fun k => ?_)
    rw [ductusref16_Set.l3, if_pos (by omega), if_pos (by omega), hr, hw, wr64 (x7 + 1) (by omega) (by omega)]
    unfold growS
    by_cases h2 : L[i].f0 ≤ x7 + 1
    · rw [if_pos h2]
      by_cases h3 : L[i].f1 > x7
      · rw [if_pos h3, if_pos ⟨h2, h3⟩]
      · rw [if_neg h3, if_neg (fun h4 => h3 h4.2)]
    · rw [if_neg h2, if_neg (fun h4 => h2 h4.1)]
theorem refSet_l2 (L x3 : List S30) (x5 : Int) (r : List S30) (hl : L.length ≤ 500) : ∀ (n j : Nat) (x7 : Int), j + n = L.length + 1 → 0 ≤ x7 → x7 ≤ 1114111 → Ends (fun k => if x3.length < 8796093022208 then ductusref16_Set.l0 k L (x3 ++ [⟨x5, grows L n x7⟩]) (wrap64 (grows L n x7 + 1)) else none) r → Ends (fun k => ductusref16_Set.l2 k L x3 x5 x7 j) r
  | 0, j, x7, hj, h0, h1, H => by
    refine Ends.succ H (fun k => ?_)
    rw [ductusref16_Set.l2, if_neg (by omega)]
    rfl
  | n + 1, j, x7, hj, h0, h1, H => by
    have hg := grow_ge L x7 h1
    have ih := refSet_l2 L x3 x5 r hl n (j + 1) (grow L x7) (by omega) (by omega) hg.2 H
    have hw : wrap64 ((j : Int) + 1) = ((j + 1 : Nat) : Int) := by rw [wr64 _ (by omega) (by omega)]; omega
    have h3 := refSet_l3 L x3 x5 j r hl L.length 0 x7 (by omega) h0 h1 (by rw [hw]; exact ih)
    refine Ends.succ h3 (fun k => ?_)
    rw [ductusref16_Set.l2, if_pos (by omega)]
    rfl
theorem refSet_l1 (L x3 : List S30) (x4 : Int) (r : List S30) (hl : L.length ≤ 500) : ∀ (n i : Nat) (acc : Int), i + n = L.length → Ends (fun k => if lowest x4 (L.drop i) acc > 1114111 then some x3 else ductusref16_Set.l2 k L x3 (lowest x4 (L.drop i) acc) (lowest x4 (L.drop i) acc) 0) r → Ends (fun k => ductusref16_Set.l1 k L x3 x4 acc i) r
  | 0, i, acc, hi, H => by
    rw [List.drop_of_length_le (by omega)] at H
    refine Ends.succ H (fun k => ?_)
    rw [ductusref16_Set.l1, if_neg (by omega)]
    rfl
  | n + 1, i, acc, hi, H => by
    have hlt : i < L.length := by omega
    rw [List.drop_eq_getElem_cons hlt, lowest_cons] at H
    have ih := refSet_l1 L x3 x4 r hl n (i + 1) (lowS x4 L[i] acc) (by omega) H
    have hr := rd30_get L i hlt
    have hw : wrap64 ((i : Int) + 1) = ((i + 1 : Nat) : Int) := by rw [wr64 _ (by omega) (by omega)]; omega
    refine Ends.succ ih (fun k => ?_)
    rw [ductusref16_Set.l1, if_pos (by omega), if_pos (by omega), hr, hw]
    unfold lowS
    by_cases h2 : L[i].f1 ≥ x4
    · rw [if_pos h2]
      by_cases h3 : L[i].f1 ≥ L[i].f0
      · rw [if_pos h3]
        by_cases h4 : mx L[i].f0 x4 < acc
        · rw [if_pos h4, if_pos ⟨h2, h3, h4⟩]
        · rw [if_neg h4, if_neg (fun h5 => h4 h5.2.2)]
      · rw [if_neg h3, if_neg (fun h5 => h3 h5.2.1)]
    · rw [if_neg h2, if_neg (fun h5 => h2 h5.1)]
theorem refSet_l0 (L : List S30) (hl : L.length ≤ 500) : ∀ (m : Nat) (from_ : Int) (x3 : List S30), (1114112 - from_).toNat ≤ m → 0 ≤ from_ → from_ ≤ 1114112 → Norm x3 → (∀ r ∈ x3, r.f1 < from_) → (x3 ≠ [] → from_ ≤ 1114111 → ¬ rm L from_) →
    (∀ c, 0 ≤ c → c < from_ → c ≤ 1114111 → (rm x3 c ↔ rm L c)) → (x3.length : Int) ≤ from_ → Ends (fun k => ductusref16_Set.l0 k L x3 from_) (setL L)
  | m, from_, x3, hm, h0, h1, hN, hA, hB, hC, hD => by
    by_cases hf : from_ ≤ 1114111
    · have hv0 := lowest_le from_ L 1114112
      have hv1 := lowest_no from_ L 1114112
      have hv2 := lowest_is from_ L 1114112
      have hgo : Ends (fun k => if lowest from_ L 1114112 > 1114111 then some x3 else ductusref16_Set.l2 k L x3 (lowest from_ L 1114112) (lowest from_ L 1114112) 0) (setL L) := by
        generalize lowest from_ L 1114112 = v at *
        by_cases hv : v > 1114111
        · have he : setL L = x3 := setL_eq hl hN (fun c => by
            constructor
            · intro hc
              have hb := hN.bound hc
              obtain ⟨r, hr, hr1, hr2⟩ := hc
              have := hA r hr
              exact ⟨hb.1, hb.2, (hC c hb.1 (by omega) hb.2).1 ⟨r, hr, hr1, hr2⟩⟩
            · rintro ⟨g0, g1, g2⟩
              by_cases hcf : c < from_
              · exact (hC c g0 hcf g1).2 g2
              · exact absurd g2 (hv1 c (by omega) (by omega)))
          rw [he]
          exact Ends.congr (Ends.pure x3) (fun k => if_pos hv)
        · obtain ⟨hv3, hv4⟩ : from_ ≤ v ∧ rm L v := by
            rcases hv2 with h | h
            · omega
            · exact h
          have hgr := grows_ge L (L.length + 1) v (by omega)
          have hin := grows_in L (L.length + 1) v (by omega)
          have hfx := grows_fix L (L.length + 1) v (by omega) (by have := above_len L v; omega)
          have hm' : 0 < m := by omega
          refine Ends.congr (refSet_l2 L x3 v (setL L) hl (L.length + 1) 0 v (by omega) (by omega) (by omega) ?_) (fun k => if_neg hv)
          generalize grows L (L.length + 1) v = h at *
          refine Ends.congr (g := fun k => ductusref16_Set.l0 k L (x3 ++ [⟨v, h⟩]) (h + 1)) ?_ (fun k => by rw [if_pos (by omega), wr64 _ (by omega) (by omega)])
          have hnew : ∀ c, rm (x3 ++ [⟨v, h⟩]) c ↔ rm x3 c ∨ (v ≤ c ∧ c ≤ h) := fun c => by rw [rm_append, rm_one]
          refine refSet_l0 L hl (m - 1) (h + 1) (x3 ++ [⟨v, h⟩]) (by omega) (by omega) (by omega) ⟨?_, ?_⟩ ?_ ?_ ?_ ?_
          · rw [List.pairwise_append]
            refine ⟨hN.1, List.pairwise_singleton _ _, fun a ha b hb => ?_⟩
            rw [List.mem_singleton] at hb
            subst hb
            have h5 := hA a ha
            show a.f1 + 1 < v
            by_cases h6 : a.f1 + 1 = v
            · have h7 : from_ = v := by omega
              exact absurd (h7 ▸ hv4) (hB (List.ne_nil_of_mem ha) hf)
            · omega
          · intro r hr
            rcases List.mem_append.1 hr with hr | hr
            · exact hN.2 r hr
            · rw [List.mem_singleton] at hr
              subst hr
              exact ⟨by dsimp only; omega, hgr.1, hgr.2⟩
          · intro r hr
            rcases List.mem_append.1 hr with hr | hr
            · have := hA r hr
              omega
            · rw [List.mem_singleton] at hr
              subst hr
              dsimp only
              omega
          · intro _ h5
            rintro ⟨r, hr, hr1, hr2⟩
            exact grow_fix L h (by omega) hfx r hr ⟨hr1, by omega⟩
          · intro c g0 g1 g2
            rw [hnew c]
            by_cases hcf : c < from_
            · rw [← hC c g0 hcf g2]
              exact ⟨fun h5 => by rcases h5 with h5 | h5; exact h5; omega, .inl⟩
            · constructor
              · rintro (⟨r, hr, hr1, hr2⟩ | h5)
                · have := hA r hr
                  omega
                · by_cases h6 : c = v
                  · exact h6 ▸ hv4
                  · exact hin c (by omega) h5.2
              · intro h5
                by_cases h6 : c < v
                · exact absurd h5 (hv1 c (by omega) h6)
                · exact .inr ⟨by omega, by omega⟩
          · rw [List.length_append, List.length_singleton]
            omega
      refine Ends.succ (refSet_l1 L x3 from_ (setL L) hl L.length 0 1114112 (by omega) hgo) (fun k => ?_)
      rw [ductusref16_Set.l0, if_pos hf]
      rfl
    · have he : setL L = x3 := setL_eq hl hN (fun c => by
        constructor
        · intro hc
          have hb := hN.bound hc
          exact ⟨hb.1, hb.2, (hC c hb.1 (by omega) hb.2).1 hc⟩
        · rintro ⟨g0, g1, g2⟩
          exact (hC c g0 (by omega) g1).2 g2)
      rw [he]
      refine Ends.succ (Ends.pure x3) (fun k => ?_)
      rw [ductusref16_Set.l0, if_neg hf]
  termination_by m _ _ => m
theorem refSet (L : List S30) (hl : L.length ≤ 500) : Ends (fun k => ductusref16_Set.f k L) (setL L) := by
  refine Ends.congr (refSet_l0 L hl 1114112 0 [] (by omega) (by omega) (by omega) Norm.nil (fun r hr => by simp at hr) (fun h => absurd rfl h) (fun c h0 h1 _ => by omega) (by simp)) (fun k => ?_)
  unfold ductusref16_Set.f
  rw [if_neg (by omega)]
end Go.Proofs.YtglolcejfbhbdaaGreat.P
end
section
namespace Go.Proofs.YtglolcejfbhbdaaGreat.P
open Go.RowKit Go.Shelf Go.Proofs.YtglolcejfbhbdaaGreatW.PrintWords Go.Proofs.YtglolcejfbhbdaaGreatW.PrintLast Go.Proofs.YtglolcejfbhbdaaGreatW.PrintMore
set_option linter.unusedVariables false
set_option linter.unusedSimpArgs false
theorem Ends.ex {f : Nat → Option Bool} (h : Ends f true) : ∃ k, f k = some true := by
  obtain ⟨K, hK⟩ := h
  exact ⟨K, hK K (Nat.le_refl _)⟩
theorem Ends.ifT {c : Prop} [Decidable c] {α : Type} {f g : Nat → Option α} {r : α} (hc : c) (h : Ends f r) : Ends (fun k => if c then f k else g k) r := Ends.congr h (fun k => if_pos hc)
theorem Ends.ifF {c : Prop} [Decidable c] {α : Type} {f g : Nat → Option α} {r : α} (hc : ¬ c) (h : Ends g r) : Ends (fun k => if c then f k else g k) r := Ends.congr h (fun k => if_neg hc)
theorem Ends.some {α β : Type} {g : Nat → α → Option β} {a : α} {r : β} (hg : Ends (fun k => g k a) r) : Ends (fun k => (Option.some a).bind (g k)) r := Ends.congr hg (fun _ => rfl)
theorem al_bind {α : Type} (A B : Option α) : (Option.some true).bind (fun t : Bool => if t = true then A else B) = A := rfl
theorem turnL_b (l : List S30) (hl : l.length ≤ 500) : (turnL l).length ≤ l.length + 1 := by
  unfold turnL
  refine Nat.le_trans (turnGo_len _ _ _) ?_
  have := setL_short l
  rw [List.length_append, List.length_nil, List.length_singleton]
  omega
theorem has_in (l : List S30) (hl : l.length ≤ 500) (c : Int) : hasS (setL l) c = (decide (0 ≤ c ∧ c ≤ 1114111) && hasS l c) := by
  rw [Bool.eq_iff_iff, Bool.and_eq_true, decide_eq_true_eq, hasS_rm, hasS_rm, (setL_spec l hl).2 c]
  exact ⟨fun h => ⟨⟨h.1, h.2.1⟩, h.2.2⟩, fun h => ⟨h.1.1, h.1.2, h.2⟩⟩
theorem has_out (l : List S30) (hl : l.length ≤ 500) (c : Int) : hasS (turnL l) c = (decide (0 ≤ c ∧ c ≤ 1114111) && !hasS l c) := by
  rw [Bool.eq_iff_iff, Bool.and_eq_true, decide_eq_true_eq, Bool.not_eq_true', ← Bool.not_eq_true, hasS_rm, hasS_rm, (turnL_spec l).2 c, (setL_spec l hl).2 c]
  exact ⟨fun h => ⟨⟨h.1, h.2.1⟩, fun h2 => h.2.2 ⟨h.1, h.2.1, h2⟩⟩, fun h => ⟨h.1.1, h.1.2, fun h2 => h.2 h2.2.2⟩⟩
end Go.Proofs.YtglolcejfbhbdaaGreat.P
end
