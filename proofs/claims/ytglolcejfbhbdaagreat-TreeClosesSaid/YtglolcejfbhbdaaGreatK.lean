/- The statement of TreeCloses holds: whatever the input, the law returns true and its arguments read as before. No conditions. -/
import Derived.Test.YtglolcejfbhbdaaGreatKA
import Derived.Test.YtglolcejfbhbdaaGreatRows
import Derived.WalkKit
import Derived.ProofKit
import Derived.OpenShut
import Derived.ShutString
import Derived.ChangeOld
import Derived.Below
import Derived.SizedLaws
section
namespace Go.Proofs.YtglolcejfbhbdaaGreat.P
open Go.RowKit Go.Shelf Go.Proofs.YtglolcejfbhbdaaGreatW.PrintWords Go.Proofs.YtglolcejfbhbdaaGreatW.PrintLast Go.Proofs.YtglolcejfbhbdaaGreatW.PrintMore
set_option linter.unusedVariables false
set_option linter.unusedSimpArgs false
set_option maxRecDepth 100000 in
set_option maxHeartbeats 16000000 in
theorem closes_G (A0 : Option Addr) (c0 : Nat) (l : List S30) (c : Int) (w : World) (hr0 : Kd.C k30 w A0 l.length l) (hc0 : l.length ≤ c0) (hl : ¬ 30 < l.length) (hc1 : 1114111 < c) :
    Calls Tryz.prog 5 #[.slice A0 l.length c0, .int .i64 c] w fun e w' => e = .returned (.bool true) ∧ Below w.heap.size w w' := by
  have b0 : decide (30 < (l.length : Int)) = false := decide_eq_false (by omega)
  have b1 : decide (30 < l.length) = false := decide_eq_false hl
  have hl30 : l.length ≤ 30 := by omega
  have HIN := Aside0.mk (show decide (0 ≤ c ∧ c ≤ 1114111) = false from decide_eq_false (by omega))
  have d0 : decide (0 ≤ c) = true := decide_eq_true (by omega)
  have d1 : decide (c ≤ 1114111) = false := decide_eq_false (by omega)
  clear hc1
  have hcl := fun (fl : Int) (W : World) (hW : Below w.heap.size w W) => closeC A0 c0 l fl W (Kd.C_below hr0 hW) hc0
  have k1 := hcl 1
  have k2 := hcl 2
  have k3 := hcl 3
  have k0 := hcl 0
  rw [closeL_0] at k0
  have HS0 := Aside0.mk (fun (W : World) (hW : Below w.heap.size w W) => setC A0 c0 l W (Kd.C_below hr0 hW) hc0)
  have ka := fun (A : Option Addr) (c1 : Nat) (W : World) (h : Kd.C k30 W A (closeL l 1).length (closeL l 1)) (hc : (closeL l 1).length ≤ c1) => closeC A c1 (closeL l 1) 1 W h hc
  have kd := fun (A : Option Addr) (c1 : Nat) (W : World) (h : Kd.C k30 W A (closeL l 3).length (closeL l 3)) (hc : (closeL l 3).length ≤ c1) => closeC A c1 (closeL l 3) 3 W h hc
  rw [cl_aa l hl30] at ka
  rw [cl_dd l hl30] at kd
  have HA := Aside0.mk (hasA l hl30 c)
  have HBm := Aside0.mk (hasB l hl30 c)
  have HD := Aside0.mk (hasD l hl30 c)
  have na : (closeL l 1).length ≤ 1000000 := by have := (cl_a l hl30).2.1; omega
  have nd : (closeL l 3).length ≤ 1000000 := by have := (cl_d l hl30).2.1; omega
  have ns : (setL l).length ≤ 1000000 := by have := setL_short l; omega
  have HNA := Aside0.mk na
  have HND := Aside0.mk nd
  have HNS := Aside0.mk ns
  clear hcl na nd ns hl30 hl hr0 hc0
  generalize closeL l 1 = a at *
  generalize closeL l 2 = b at *
  generalize closeL l 3 = d at *
  generalize setL l = s at *
  have K1 := Aside0.mk k1
  have K2 := Aside0.mk k2
  have K3 := Aside0.mk k3
  have K0 := Aside0.mk k0
  have KA := Aside0.mk ka
  have KD := Aside0.mk kd
  clear k1 k2 k3 k0 ka kd
  have HB0 := Aside0.mk (Below.refl w.heap.size w)
  go_enter Tryz.func5, Tryz.ntmps5
  go_wp2_with fail
  refine (ductuslaw16_alive.calls true _ rfl).mono ?_
  rintro e w1 ⟨rfl, hb1⟩
  have HB1 := Aside0.mk hb1
  clear hb1 HB0
  go_wp2_with fail
  refine (K1.out w1 HB1.out).mono ?_
  rintro e w2 ⟨⟨Aa, ca, rfl, hca, ga⟩, hb2⟩
  have HB2 := Aside0.mk (HB1.out.trans (hb2.mono HB1.out.size))
  have GA := Aside0.mk ga
  have LA := Aside0.mk hca
  clear hb2 HB1 ga hca
  go_wp2_with fail
  refine (K2.out w2 HB2.out).mono ?_
  rintro e w3 ⟨⟨Ab, cb, rfl, hcb, gb⟩, hb3⟩
  have HB3 := Aside0.mk (HB2.out.trans (hb3.mono HB2.out.size))
  have GA3 := Aside0.mk (Kd.C_below GA.out hb3)
  have GB := Aside0.mk gb
  have LB := Aside0.mk hcb
  clear hb3 HB2 gb hcb GA
  go_wp2_with fail
  refine (K3.out w3 HB3.out).mono ?_
  rintro e w4 ⟨⟨Ad, cd, rfl, hcd, gd⟩, hb4⟩
  have HB4 := Aside0.mk (HB3.out.trans (hb4.mono HB3.out.size))
  have GA4 := Aside0.mk (Kd.C_below GA3.out hb4)
  have GB4 := Aside0.mk (Kd.C_below GB.out hb4)
  have GD := Aside0.mk gd
  have LD := Aside0.mk hcd
  clear hb4 HB3 gd hcd GA3 GB
  go_wp2_with fail
  refine (HS0.out w4 HB4.out).mono ?_
  rintro e w5 ⟨⟨As, cs, rfl, hcs, gs⟩, hb5⟩
  have HB5 := Aside0.mk (HB4.out.trans (hb5.mono HB4.out.size))
  have GA5 := Aside0.mk (Kd.C_below GA4.out hb5)
  have GB5 := Aside0.mk (Kd.C_below GB4.out hb5)
  have GD5 := Aside0.mk (Kd.C_below GD.out hb5)
  have GS5 := Aside0.mk gs
  have LS := Aside0.mk hcs
  clear hb5 HB4 gs hcs GA4 GB4 GD
  go_wp2_with fail
  go_loopg [10, 11] 7936 (fun kq v10 v11 w' => ∃ i : Nat, v11 = .int .i64 i ∧ i ≤ 7936 ∧ 7936 - i ≤ kq ∧ v10 = .bool (kn s c i) ∧ Aside0 (Below w5.heap.size w5 w'))
  case atStart => exact ⟨0, rfl, by omega, by omega, rfl, ⟨Below.refl _ _⟩⟩
  case round =>
    obtain ⟨i, rfl, hi, hk, rfl, HW⟩ := hrel
    by_cases hlt : i < 7936
    · have hlt' : (i : Int) < 7936 := by omega
      have HK := Aside0.mk (kn_succ s c i)
      cases hkn : kn s c i with
      | true =>
        rw [hkn] at HK
        go_wp2_with fail
        go_roundg (7936 - (i + 1))
        case measure => omega
        case rel => exact ⟨i + 1, by go_num, by omega, by omega, by rw [HK.out]; rfl, HW⟩
      | false =>
        rw [hkn] at HK
        by_cases ho : ofP (i : Int) = ofP c
        · have HK2 := Aside0.mk (show kn s c (i + 1) = hasS s (i : Int) by rw [HK.out, decide_eq_true ho]; simp)
          have o1 := fun W => of18 (i : Int) W
          have o2 := fun W => of18 c W
          rw [ho] at o1
          clear ho HK
          generalize ofP c = oc at o1 o2
          go_wp2_with fail
          refine (o1 _).mono ?_
          rintro e u1 ⟨rfl, hv1⟩
          have HW1 := Aside0.mk (HW.out.trans (hv1.mono HW.out.size))
          clear hv1
          go_wp2_with fail
          refine (o2 _).mono ?_
          rintro e u2 ⟨rfl, hv2⟩
          have HW2 := Aside0.mk (HW1.out.trans (hv2.mono HW1.out.size))
          clear hv2
          go_wp2_with fail
          refine (has17 As cs s (i : Int) _ (Kd.C_below GS5.out HW2.out) LS.out HNS.out).mono ?_
          rintro e u3 ⟨rfl, hv3⟩
          have HW3 := Aside0.mk (HW2.out.trans (hv3.mono HW2.out.size))
          clear hv3
          go_wp2_with fail
          go_roundg (7936 - (i + 1))
          case measure => omega
          case rel => exact ⟨i + 1, by go_num, by omega, by omega, by rw [HK2.out], HW3⟩
        · have HK2 := Aside0.mk (show kn s c (i + 1) = false by rw [HK.out, decide_eq_false ho]; simp)
          have o1 := fun W => of18 (i : Int) W
          have o2 := fun W => of18 c W
          have ho2 : (ofP (i : Int) == ofP c) = false := by simpa using ho
          have ho3 : decide (ofP (i : Int) = ofP c) = false := decide_eq_false ho
          clear HK
          generalize ofP c = oc at *
          generalize ofP (i : Int) = oi at *
          go_wp2_with fail
          refine (o1 _).mono ?_
          rintro e u1 ⟨rfl, hv1⟩
          have HW1 := Aside0.mk (HW.out.trans (hv1.mono HW.out.size))
          clear hv1
          go_wp2_with fail
          refine (o2 _).mono ?_
          rintro e u2 ⟨rfl, hv2⟩
          have HW2 := Aside0.mk (HW1.out.trans (hv2.mono HW1.out.size))
          clear hv2
          go_wp2_with fail
          go_roundg (7936 - (i + 1))
          case measure => omega
          case rel => exact ⟨i + 1, by go_num, by omega, by omega, by rw [HK2.out], HW2⟩
    · have hltz : ¬ (i : Int) < 7936 := by omega
      obtain rfl : i = 7936 := by omega
      clear hlt hi hk hltz
      cases hkn : kn s c 7936 with
      | true =>
        cases hhs : hasS s c with
        | true =>
          have ea : hasS a c = false := by rw [HA.out, HIN.out, hkn, hhs]; rfl
          have eb : hasS b c = true := by rw [HBm.out, hhs, Bool.true_or]
          have C1 := fun W hW => has_calls Aa ca a c W hW LA.out
          rw [ea] at C1
          have C2 := fun W hW => has_calls Ab cb b c W hW LB.out
          rw [eb] at C2
          have C3 := fun W hW => has17 As cs s c W hW LS.out HNS.out
          rw [hhs] at C3
          have C1 := Aside0.mk C1
          have C2 := Aside0.mk C2
          have C3 := Aside0.mk C3
          clear ea eb hhs
          go_wp2_with fail
          refine (C1.out _ (Kd.C_below GA5.out HW.out)).mono ?_
          rintro e z1 ⟨rfl, hv⟩
          have HZ1 := Aside0.mk (HW.out.trans (hv.mono HW.out.size))
          clear hv
          go_wp2_with fail
          refine (C2.out _ (Kd.C_below GB5.out HZ1.out)).mono ?_
          rintro e z2 ⟨rfl, hv⟩
          have HZ2 := Aside0.mk (HZ1.out.trans (hv.mono HZ1.out.size))
          clear hv
          go_wp2_with fail
          refine (C3.out _ (Kd.C_below GS5.out HZ2.out)).mono ?_
          rintro e z3 ⟨rfl, hv⟩
          have HZ3 := Aside0.mk (HZ2.out.trans (hv.mono HZ2.out.size))
          clear hv
          go_wp2_with fail
          refine (KA.out Aa ca _ (Kd.C_below GA5.out HZ3.out) LA.out).mono ?_
          rintro e z4 ⟨⟨Ax, cx, rfl, hx, gx⟩, hv⟩
          have HZ4 := Aside0.mk (HZ3.out.trans (hv.mono HZ3.out.size))
          clear hv
          have Gx := Aside0.mk gx
          have Lx := Aside0.mk hx
          clear gx hx
          go_wp2_with fail
          refine (same9 Ax cx Aa ca a _ Gx.out Lx.out (Kd.C_below GA5.out HZ4.out) LA.out HNA.out).mono ?_
          rintro e z5 ⟨rfl, hv⟩
          have HZ5 := Aside0.mk (HZ4.out.trans (hv.mono HZ4.out.size))
          clear hv
          go_wp2_with fail
          refine (KD.out Ad cd _ (Kd.C_below GD5.out HZ5.out) LD.out).mono ?_
          rintro e z6 ⟨⟨Ay, cy, rfl, hy, gy⟩, hv⟩
          have HZ6 := Aside0.mk (HZ5.out.trans (hv.mono HZ5.out.size))
          clear hv
          have Gy := Aside0.mk gy
          have Ly := Aside0.mk hy
          clear gy hy
          go_wp2_with fail
          refine (same9 Ay cy Ad cd d _ Gy.out Ly.out (Kd.C_below GD5.out HZ6.out) LD.out HND.out).mono ?_
          rintro e z7 ⟨rfl, hv⟩
          have HZ7 := Aside0.mk (HZ6.out.trans (hv.mono HZ6.out.size))
          clear hv
          go_wp2_with fail
          refine (K0.out _ (HB5.out.trans (HZ7.out.mono HB5.out.size))).mono ?_
          rintro e z8 ⟨⟨Au, cu, rfl, hu, gu⟩, hv⟩
          have HZ8 := Aside0.mk (HZ7.out.trans (hv.mono HZ7.out.size))
          clear hv
          have Gu := Aside0.mk gu
          have Lu := Aside0.mk hu
          clear gu hu
          go_wp2_with fail
          refine (same9 Au cu As cs s _ Gu.out Lu.out (Kd.C_below GS5.out HZ8.out) LS.out HNS.out).mono ?_
          rintro e z9 ⟨rfl, hv⟩
          have HZ9 := Aside0.mk (HZ8.out.trans (hv.mono HZ8.out.size))
          clear hv
          go_wp2_with fail
          refine (C1.out _ (Kd.C_below GA5.out HZ9.out)).mono ?_
          rintro e z10 ⟨rfl, hv⟩
          have HZ10 := Aside0.mk (HZ9.out.trans (hv.mono HZ9.out.size))
          clear hv
          go_wp2_with fail
          go_ret
          exact ⟨rfl, HB5.out.trans (HZ10.out.mono HB5.out.size)⟩
        | false =>
          cases hhm : hasS s (mirrorP c) with
          | true =>
            have ea : hasS a c = false := by rw [HA.out, HIN.out, hkn, hhs]; rfl
            have eb : hasS b c = true := by rw [HBm.out, hhs, hhm]; rfl
            have C1 := fun W hW => has_calls Aa ca a c W hW LA.out
            rw [ea] at C1
            have C2 := fun W hW => has_calls Ab cb b c W hW LB.out
            rw [eb] at C2
            have C3 := fun W hW => has17 As cs s c W hW LS.out HNS.out
            rw [hhs] at C3
            have C4 := fun W hW => has17 As cs s (mirrorP c) W hW LS.out HNS.out
            rw [hhm] at C4
            have C5 := fun W => mir19 c W
            have C5 := Aside0.mk C5
            have C4 := Aside0.mk C4
            have C1 := Aside0.mk C1
            have C2 := Aside0.mk C2
            have C3 := Aside0.mk C3
            clear ea eb hhs hhm
            go_wp2_with fail
            refine (C1.out _ (Kd.C_below GA5.out HW.out)).mono ?_
            rintro e z1 ⟨rfl, hv⟩
            have HZ1 := Aside0.mk (HW.out.trans (hv.mono HW.out.size))
            clear hv
            go_wp2_with fail
            refine (C2.out _ (Kd.C_below GB5.out HZ1.out)).mono ?_
            rintro e z2 ⟨rfl, hv⟩
            have HZ2 := Aside0.mk (HZ1.out.trans (hv.mono HZ1.out.size))
            clear hv
            go_wp2_with fail
            refine (C3.out _ (Kd.C_below GS5.out HZ2.out)).mono ?_
            rintro e z3 ⟨rfl, hv⟩
            have HZ3 := Aside0.mk (HZ2.out.trans (hv.mono HZ2.out.size))
            clear hv
            go_wp2_with fail
            refine (C5.out _).mono ?_
            rintro e z4 ⟨rfl, hv⟩
            have HZ4 := Aside0.mk (HZ3.out.trans (hv.mono HZ3.out.size))
            clear hv
            go_wp2_with fail
            refine (C4.out _ (Kd.C_below GS5.out HZ4.out)).mono ?_
            rintro e z5 ⟨rfl, hv⟩
            have HZ5 := Aside0.mk (HZ4.out.trans (hv.mono HZ4.out.size))
            clear hv
            go_wp2_with fail
            refine (KA.out Aa ca _ (Kd.C_below GA5.out HZ5.out) LA.out).mono ?_
            rintro e z6 ⟨⟨Ax, cx, rfl, hx, gx⟩, hv⟩
            have HZ6 := Aside0.mk (HZ5.out.trans (hv.mono HZ5.out.size))
            clear hv
            have Gx := Aside0.mk gx
            have Lx := Aside0.mk hx
            clear gx hx
            go_wp2_with fail
            refine (same9 Ax cx Aa ca a _ Gx.out Lx.out (Kd.C_below GA5.out HZ6.out) LA.out HNA.out).mono ?_
            rintro e z7 ⟨rfl, hv⟩
            have HZ7 := Aside0.mk (HZ6.out.trans (hv.mono HZ6.out.size))
            clear hv
            go_wp2_with fail
            refine (KD.out Ad cd _ (Kd.C_below GD5.out HZ7.out) LD.out).mono ?_
            rintro e z8 ⟨⟨Ay, cy, rfl, hy, gy⟩, hv⟩
            have HZ8 := Aside0.mk (HZ7.out.trans (hv.mono HZ7.out.size))
            clear hv
            have Gy := Aside0.mk gy
            have Ly := Aside0.mk hy
            clear gy hy
            go_wp2_with fail
            refine (same9 Ay cy Ad cd d _ Gy.out Ly.out (Kd.C_below GD5.out HZ8.out) LD.out HND.out).mono ?_
            rintro e z9 ⟨rfl, hv⟩
            have HZ9 := Aside0.mk (HZ8.out.trans (hv.mono HZ8.out.size))
            clear hv
            go_wp2_with fail
            refine (K0.out _ (HB5.out.trans (HZ9.out.mono HB5.out.size))).mono ?_
            rintro e z10 ⟨⟨Au, cu, rfl, hu, gu⟩, hv⟩
            have HZ10 := Aside0.mk (HZ9.out.trans (hv.mono HZ9.out.size))
            clear hv
            have Gu := Aside0.mk gu
            have Lu := Aside0.mk hu
            clear gu hu
            go_wp2_with fail
            refine (same9 Au cu As cs s _ Gu.out Lu.out (Kd.C_below GS5.out HZ10.out) LS.out HNS.out).mono ?_
            rintro e z11 ⟨rfl, hv⟩
            have HZ11 := Aside0.mk (HZ10.out.trans (hv.mono HZ10.out.size))
            clear hv
            go_wp2_with fail
            refine (C1.out _ (Kd.C_below GA5.out HZ11.out)).mono ?_
            rintro e z12 ⟨rfl, hv⟩
            have HZ12 := Aside0.mk (HZ11.out.trans (hv.mono HZ11.out.size))
            clear hv
            go_wp2_with fail
            go_ret
            exact ⟨rfl, HB5.out.trans (HZ12.out.mono HB5.out.size)⟩
          | false =>
            have ea : hasS a c = false := by rw [HA.out, HIN.out, hkn, hhs]; rfl
            have eb : hasS b c = false := by rw [HBm.out, hhs, hhm]; rfl
            have C1 := fun W hW => has_calls Aa ca a c W hW LA.out
            rw [ea] at C1
            have C2 := fun W hW => has_calls Ab cb b c W hW LB.out
            rw [eb] at C2
            have C3 := fun W hW => has17 As cs s c W hW LS.out HNS.out
            rw [hhs] at C3
            have C4 := fun W hW => has17 As cs s (mirrorP c) W hW LS.out HNS.out
            rw [hhm] at C4
            have C5 := fun W => mir19 c W
            have C5 := Aside0.mk C5
            have C4 := Aside0.mk C4
            have C1 := Aside0.mk C1
            have C2 := Aside0.mk C2
            have C3 := Aside0.mk C3
            clear ea eb hhs hhm
            go_wp2_with fail
            refine (C1.out _ (Kd.C_below GA5.out HW.out)).mono ?_
            rintro e z1 ⟨rfl, hv⟩
            have HZ1 := Aside0.mk (HW.out.trans (hv.mono HW.out.size))
            clear hv
            go_wp2_with fail
            refine (C2.out _ (Kd.C_below GB5.out HZ1.out)).mono ?_
            rintro e z2 ⟨rfl, hv⟩
            have HZ2 := Aside0.mk (HZ1.out.trans (hv.mono HZ1.out.size))
            clear hv
            go_wp2_with fail
            refine (C3.out _ (Kd.C_below GS5.out HZ2.out)).mono ?_
            rintro e z3 ⟨rfl, hv⟩
            have HZ3 := Aside0.mk (HZ2.out.trans (hv.mono HZ2.out.size))
            clear hv
            go_wp2_with fail
            refine (C5.out _).mono ?_
            rintro e z4 ⟨rfl, hv⟩
            have HZ4 := Aside0.mk (HZ3.out.trans (hv.mono HZ3.out.size))
            clear hv
            go_wp2_with fail
            refine (C4.out _ (Kd.C_below GS5.out HZ4.out)).mono ?_
            rintro e z5 ⟨rfl, hv⟩
            have HZ5 := Aside0.mk (HZ4.out.trans (hv.mono HZ4.out.size))
            clear hv
            go_wp2_with fail
            refine (KA.out Aa ca _ (Kd.C_below GA5.out HZ5.out) LA.out).mono ?_
            rintro e z6 ⟨⟨Ax, cx, rfl, hx, gx⟩, hv⟩
            have HZ6 := Aside0.mk (HZ5.out.trans (hv.mono HZ5.out.size))
            clear hv
            have Gx := Aside0.mk gx
            have Lx := Aside0.mk hx
            clear gx hx
            go_wp2_with fail
            refine (same9 Ax cx Aa ca a _ Gx.out Lx.out (Kd.C_below GA5.out HZ6.out) LA.out HNA.out).mono ?_
            rintro e z7 ⟨rfl, hv⟩
            have HZ7 := Aside0.mk (HZ6.out.trans (hv.mono HZ6.out.size))
            clear hv
            go_wp2_with fail
            refine (KD.out Ad cd _ (Kd.C_below GD5.out HZ7.out) LD.out).mono ?_
            rintro e z8 ⟨⟨Ay, cy, rfl, hy, gy⟩, hv⟩
            have HZ8 := Aside0.mk (HZ7.out.trans (hv.mono HZ7.out.size))
            clear hv
            have Gy := Aside0.mk gy
            have Ly := Aside0.mk hy
            clear gy hy
            go_wp2_with fail
            refine (same9 Ay cy Ad cd d _ Gy.out Ly.out (Kd.C_below GD5.out HZ8.out) LD.out HND.out).mono ?_
            rintro e z9 ⟨rfl, hv⟩
            have HZ9 := Aside0.mk (HZ8.out.trans (hv.mono HZ8.out.size))
            clear hv
            go_wp2_with fail
            refine (K0.out _ (HB5.out.trans (HZ9.out.mono HB5.out.size))).mono ?_
            rintro e z10 ⟨⟨Au, cu, rfl, hu, gu⟩, hv⟩
            have HZ10 := Aside0.mk (HZ9.out.trans (hv.mono HZ9.out.size))
            clear hv
            have Gu := Aside0.mk gu
            have Lu := Aside0.mk hu
            clear gu hu
            go_wp2_with fail
            refine (same9 Au cu As cs s _ Gu.out Lu.out (Kd.C_below GS5.out HZ10.out) LS.out HNS.out).mono ?_
            rintro e z11 ⟨rfl, hv⟩
            have HZ11 := Aside0.mk (HZ10.out.trans (hv.mono HZ10.out.size))
            clear hv
            go_wp2_with fail
            refine (C1.out _ (Kd.C_below GA5.out HZ11.out)).mono ?_
            rintro e z12 ⟨rfl, hv⟩
            have HZ12 := Aside0.mk (HZ11.out.trans (hv.mono HZ11.out.size))
            clear hv
            go_wp2_with fail
            go_ret
            exact ⟨rfl, HB5.out.trans (HZ12.out.mono HB5.out.size)⟩
      | false =>
        cases hhs : hasS s c with
        | true =>
          have ea : hasS a c = false := by rw [HA.out, HIN.out, hkn, hhs]; rfl
          have eb : hasS b c = true := by rw [HBm.out, hhs, Bool.true_or]
          have C1 := fun W hW => has_calls Aa ca a c W hW LA.out
          rw [ea] at C1
          have C2 := fun W hW => has_calls Ab cb b c W hW LB.out
          rw [eb] at C2
          have C3 := fun W hW => has17 As cs s c W hW LS.out HNS.out
          rw [hhs] at C3
          have C1 := Aside0.mk C1
          have C2 := Aside0.mk C2
          have C3 := Aside0.mk C3
          clear ea eb hhs
          go_wp2_with fail
          refine (C3.out _ (Kd.C_below GS5.out HW.out)).mono ?_
          rintro e z1 ⟨rfl, hv⟩
          have HZ1 := Aside0.mk (HW.out.trans (hv.mono HW.out.size))
          clear hv
          go_wp2_with fail
          refine (C1.out _ (Kd.C_below GA5.out HZ1.out)).mono ?_
          rintro e z2 ⟨rfl, hv⟩
          have HZ2 := Aside0.mk (HZ1.out.trans (hv.mono HZ1.out.size))
          clear hv
          go_wp2_with fail
          refine (C2.out _ (Kd.C_below GB5.out HZ2.out)).mono ?_
          rintro e z3 ⟨rfl, hv⟩
          have HZ3 := Aside0.mk (HZ2.out.trans (hv.mono HZ2.out.size))
          clear hv
          go_wp2_with fail
          refine (C3.out _ (Kd.C_below GS5.out HZ3.out)).mono ?_
          rintro e z4 ⟨rfl, hv⟩
          have HZ4 := Aside0.mk (HZ3.out.trans (hv.mono HZ3.out.size))
          clear hv
          go_wp2_with fail
          refine (KA.out Aa ca _ (Kd.C_below GA5.out HZ4.out) LA.out).mono ?_
          rintro e z5 ⟨⟨Ax, cx, rfl, hx, gx⟩, hv⟩
          have HZ5 := Aside0.mk (HZ4.out.trans (hv.mono HZ4.out.size))
          clear hv
          have Gx := Aside0.mk gx
          have Lx := Aside0.mk hx
          clear gx hx
          go_wp2_with fail
          refine (same9 Ax cx Aa ca a _ Gx.out Lx.out (Kd.C_below GA5.out HZ5.out) LA.out HNA.out).mono ?_
          rintro e z6 ⟨rfl, hv⟩
          have HZ6 := Aside0.mk (HZ5.out.trans (hv.mono HZ5.out.size))
          clear hv
          go_wp2_with fail
          refine (KD.out Ad cd _ (Kd.C_below GD5.out HZ6.out) LD.out).mono ?_
          rintro e z7 ⟨⟨Ay, cy, rfl, hy, gy⟩, hv⟩
          have HZ7 := Aside0.mk (HZ6.out.trans (hv.mono HZ6.out.size))
          clear hv
          have Gy := Aside0.mk gy
          have Ly := Aside0.mk hy
          clear gy hy
          go_wp2_with fail
          refine (same9 Ay cy Ad cd d _ Gy.out Ly.out (Kd.C_below GD5.out HZ7.out) LD.out HND.out).mono ?_
          rintro e z8 ⟨rfl, hv⟩
          have HZ8 := Aside0.mk (HZ7.out.trans (hv.mono HZ7.out.size))
          clear hv
          go_wp2_with fail
          refine (K0.out _ (HB5.out.trans (HZ8.out.mono HB5.out.size))).mono ?_
          rintro e z9 ⟨⟨Au, cu, rfl, hu, gu⟩, hv⟩
          have HZ9 := Aside0.mk (HZ8.out.trans (hv.mono HZ8.out.size))
          clear hv
          have Gu := Aside0.mk gu
          have Lu := Aside0.mk hu
          clear gu hu
          go_wp2_with fail
          refine (same9 Au cu As cs s _ Gu.out Lu.out (Kd.C_below GS5.out HZ9.out) LS.out HNS.out).mono ?_
          rintro e z10 ⟨rfl, hv⟩
          have HZ10 := Aside0.mk (HZ9.out.trans (hv.mono HZ9.out.size))
          clear hv
          go_wp2_with fail
          refine (C1.out _ (Kd.C_below GA5.out HZ10.out)).mono ?_
          rintro e z11 ⟨rfl, hv⟩
          have HZ11 := Aside0.mk (HZ10.out.trans (hv.mono HZ10.out.size))
          clear hv
          go_wp2_with fail
          go_ret
          exact ⟨rfl, HB5.out.trans (HZ11.out.mono HB5.out.size)⟩
        | false =>
          cases hhm : hasS s (mirrorP c) with
          | true =>
            have ea : hasS a c = false := by rw [HA.out, HIN.out, hkn, hhs]; rfl
            have eb : hasS b c = true := by rw [HBm.out, hhs, hhm]; rfl
            have C1 := fun W hW => has_calls Aa ca a c W hW LA.out
            rw [ea] at C1
            have C2 := fun W hW => has_calls Ab cb b c W hW LB.out
            rw [eb] at C2
            have C3 := fun W hW => has17 As cs s c W hW LS.out HNS.out
            rw [hhs] at C3
            have C4 := fun W hW => has17 As cs s (mirrorP c) W hW LS.out HNS.out
            rw [hhm] at C4
            have C5 := fun W => mir19 c W
            have C5 := Aside0.mk C5
            have C4 := Aside0.mk C4
            have C1 := Aside0.mk C1
            have C2 := Aside0.mk C2
            have C3 := Aside0.mk C3
            clear ea eb hhs hhm
            go_wp2_with fail
            refine (C3.out _ (Kd.C_below GS5.out HW.out)).mono ?_
            rintro e z1 ⟨rfl, hv⟩
            have HZ1 := Aside0.mk (HW.out.trans (hv.mono HW.out.size))
            clear hv
            go_wp2_with fail
            refine (C1.out _ (Kd.C_below GA5.out HZ1.out)).mono ?_
            rintro e z2 ⟨rfl, hv⟩
            have HZ2 := Aside0.mk (HZ1.out.trans (hv.mono HZ1.out.size))
            clear hv
            go_wp2_with fail
            refine (C2.out _ (Kd.C_below GB5.out HZ2.out)).mono ?_
            rintro e z3 ⟨rfl, hv⟩
            have HZ3 := Aside0.mk (HZ2.out.trans (hv.mono HZ2.out.size))
            clear hv
            go_wp2_with fail
            refine (C3.out _ (Kd.C_below GS5.out HZ3.out)).mono ?_
            rintro e z4 ⟨rfl, hv⟩
            have HZ4 := Aside0.mk (HZ3.out.trans (hv.mono HZ3.out.size))
            clear hv
            go_wp2_with fail
            refine (C5.out _).mono ?_
            rintro e z5 ⟨rfl, hv⟩
            have HZ5 := Aside0.mk (HZ4.out.trans (hv.mono HZ4.out.size))
            clear hv
            go_wp2_with fail
            refine (C4.out _ (Kd.C_below GS5.out HZ5.out)).mono ?_
            rintro e z6 ⟨rfl, hv⟩
            have HZ6 := Aside0.mk (HZ5.out.trans (hv.mono HZ5.out.size))
            clear hv
            go_wp2_with fail
            refine (KA.out Aa ca _ (Kd.C_below GA5.out HZ6.out) LA.out).mono ?_
            rintro e z7 ⟨⟨Ax, cx, rfl, hx, gx⟩, hv⟩
            have HZ7 := Aside0.mk (HZ6.out.trans (hv.mono HZ6.out.size))
            clear hv
            have Gx := Aside0.mk gx
            have Lx := Aside0.mk hx
            clear gx hx
            go_wp2_with fail
            refine (same9 Ax cx Aa ca a _ Gx.out Lx.out (Kd.C_below GA5.out HZ7.out) LA.out HNA.out).mono ?_
            rintro e z8 ⟨rfl, hv⟩
            have HZ8 := Aside0.mk (HZ7.out.trans (hv.mono HZ7.out.size))
            clear hv
            go_wp2_with fail
            refine (KD.out Ad cd _ (Kd.C_below GD5.out HZ8.out) LD.out).mono ?_
            rintro e z9 ⟨⟨Ay, cy, rfl, hy, gy⟩, hv⟩
            have HZ9 := Aside0.mk (HZ8.out.trans (hv.mono HZ8.out.size))
            clear hv
            have Gy := Aside0.mk gy
            have Ly := Aside0.mk hy
            clear gy hy
            go_wp2_with fail
            refine (same9 Ay cy Ad cd d _ Gy.out Ly.out (Kd.C_below GD5.out HZ9.out) LD.out HND.out).mono ?_
            rintro e z10 ⟨rfl, hv⟩
            have HZ10 := Aside0.mk (HZ9.out.trans (hv.mono HZ9.out.size))
            clear hv
            go_wp2_with fail
            refine (K0.out _ (HB5.out.trans (HZ10.out.mono HB5.out.size))).mono ?_
            rintro e z11 ⟨⟨Au, cu, rfl, hu, gu⟩, hv⟩
            have HZ11 := Aside0.mk (HZ10.out.trans (hv.mono HZ10.out.size))
            clear hv
            have Gu := Aside0.mk gu
            have Lu := Aside0.mk hu
            clear gu hu
            go_wp2_with fail
            refine (same9 Au cu As cs s _ Gu.out Lu.out (Kd.C_below GS5.out HZ11.out) LS.out HNS.out).mono ?_
            rintro e z12 ⟨rfl, hv⟩
            have HZ12 := Aside0.mk (HZ11.out.trans (hv.mono HZ11.out.size))
            clear hv
            go_wp2_with fail
            refine (C1.out _ (Kd.C_below GA5.out HZ12.out)).mono ?_
            rintro e z13 ⟨rfl, hv⟩
            have HZ13 := Aside0.mk (HZ12.out.trans (hv.mono HZ12.out.size))
            clear hv
            go_wp2_with fail
            go_ret
            exact ⟨rfl, HB5.out.trans (HZ13.out.mono HB5.out.size)⟩
          | false =>
            have ea : hasS a c = false := by rw [HA.out, HIN.out, hkn, hhs]; rfl
            have eb : hasS b c = false := by rw [HBm.out, hhs, hhm]; rfl
            have C1 := fun W hW => has_calls Aa ca a c W hW LA.out
            rw [ea] at C1
            have C2 := fun W hW => has_calls Ab cb b c W hW LB.out
            rw [eb] at C2
            have C3 := fun W hW => has17 As cs s c W hW LS.out HNS.out
            rw [hhs] at C3
            have C4 := fun W hW => has17 As cs s (mirrorP c) W hW LS.out HNS.out
            rw [hhm] at C4
            have C5 := fun W => mir19 c W
            have C5 := Aside0.mk C5
            have C4 := Aside0.mk C4
            have C1 := Aside0.mk C1
            have C2 := Aside0.mk C2
            have C3 := Aside0.mk C3
            clear ea eb hhs hhm
            go_wp2_with fail
            refine (C3.out _ (Kd.C_below GS5.out HW.out)).mono ?_
            rintro e z1 ⟨rfl, hv⟩
            have HZ1 := Aside0.mk (HW.out.trans (hv.mono HW.out.size))
            clear hv
            go_wp2_with fail
            refine (C1.out _ (Kd.C_below GA5.out HZ1.out)).mono ?_
            rintro e z2 ⟨rfl, hv⟩
            have HZ2 := Aside0.mk (HZ1.out.trans (hv.mono HZ1.out.size))
            clear hv
            go_wp2_with fail
            refine (C2.out _ (Kd.C_below GB5.out HZ2.out)).mono ?_
            rintro e z3 ⟨rfl, hv⟩
            have HZ3 := Aside0.mk (HZ2.out.trans (hv.mono HZ2.out.size))
            clear hv
            go_wp2_with fail
            refine (C3.out _ (Kd.C_below GS5.out HZ3.out)).mono ?_
            rintro e z4 ⟨rfl, hv⟩
            have HZ4 := Aside0.mk (HZ3.out.trans (hv.mono HZ3.out.size))
            clear hv
            go_wp2_with fail
            refine (C5.out _).mono ?_
            rintro e z5 ⟨rfl, hv⟩
            have HZ5 := Aside0.mk (HZ4.out.trans (hv.mono HZ4.out.size))
            clear hv
            go_wp2_with fail
            refine (C4.out _ (Kd.C_below GS5.out HZ5.out)).mono ?_
            rintro e z6 ⟨rfl, hv⟩
            have HZ6 := Aside0.mk (HZ5.out.trans (hv.mono HZ5.out.size))
            clear hv
            go_wp2_with fail
            refine (KA.out Aa ca _ (Kd.C_below GA5.out HZ6.out) LA.out).mono ?_
            rintro e z7 ⟨⟨Ax, cx, rfl, hx, gx⟩, hv⟩
            have HZ7 := Aside0.mk (HZ6.out.trans (hv.mono HZ6.out.size))
            clear hv
            have Gx := Aside0.mk gx
            have Lx := Aside0.mk hx
            clear gx hx
            go_wp2_with fail
            refine (same9 Ax cx Aa ca a _ Gx.out Lx.out (Kd.C_below GA5.out HZ7.out) LA.out HNA.out).mono ?_
            rintro e z8 ⟨rfl, hv⟩
            have HZ8 := Aside0.mk (HZ7.out.trans (hv.mono HZ7.out.size))
            clear hv
            go_wp2_with fail
            refine (KD.out Ad cd _ (Kd.C_below GD5.out HZ8.out) LD.out).mono ?_
            rintro e z9 ⟨⟨Ay, cy, rfl, hy, gy⟩, hv⟩
            have HZ9 := Aside0.mk (HZ8.out.trans (hv.mono HZ8.out.size))
            clear hv
            have Gy := Aside0.mk gy
            have Ly := Aside0.mk hy
            clear gy hy
            go_wp2_with fail
            refine (same9 Ay cy Ad cd d _ Gy.out Ly.out (Kd.C_below GD5.out HZ9.out) LD.out HND.out).mono ?_
            rintro e z10 ⟨rfl, hv⟩
            have HZ10 := Aside0.mk (HZ9.out.trans (hv.mono HZ9.out.size))
            clear hv
            go_wp2_with fail
            refine (K0.out _ (HB5.out.trans (HZ10.out.mono HB5.out.size))).mono ?_
            rintro e z11 ⟨⟨Au, cu, rfl, hu, gu⟩, hv⟩
            have HZ11 := Aside0.mk (HZ10.out.trans (hv.mono HZ10.out.size))
            clear hv
            have Gu := Aside0.mk gu
            have Lu := Aside0.mk hu
            clear gu hu
            go_wp2_with fail
            refine (same9 Au cu As cs s _ Gu.out Lu.out (Kd.C_below GS5.out HZ11.out) LS.out HNS.out).mono ?_
            rintro e z12 ⟨rfl, hv⟩
            have HZ12 := Aside0.mk (HZ11.out.trans (hv.mono HZ11.out.size))
            clear hv
            go_wp2_with fail
            refine (C1.out _ (Kd.C_below GA5.out HZ12.out)).mono ?_
            rintro e z13 ⟨rfl, hv⟩
            have HZ13 := Aside0.mk (HZ12.out.trans (hv.mono HZ12.out.size))
            clear hv
            go_wp2_with fail
            go_ret
            exact ⟨rfl, HB5.out.trans (HZ13.out.mono HB5.out.size)⟩
end Go.Proofs.YtglolcejfbhbdaaGreat.P
end
section
namespace Go.Proofs.YtglolcejfbhbdaaGreat.P
open Go.RowKit Go.Shelf Go.Proofs.YtglolcejfbhbdaaGreatW.PrintWords Go.Proofs.YtglolcejfbhbdaaGreatW.PrintLast Go.Proofs.YtglolcejfbhbdaaGreatW.PrintMore
theorem closes_calls (A0 : Option Addr) (c0 : Nat) (l : List S30) (c : Int) (w : World) (hr0 : Kd.C k30 w A0 l.length l) (hc0 : l.length ≤ c0) :
    Calls Tryz.prog 5 #[.slice A0 l.length c0, .int .i64 c] w fun e w' => e = .returned (.bool true) ∧ Below w.heap.size w w' := by
  by_cases hl : 30 < l.length
  · exact closes_long A0 c0 l c w hl
  · by_cases h1 : c < 0
    · exact closes_N A0 c0 l c w hr0 hc0 hl h1
    · by_cases h2 : 1114111 < c
      · exact closes_G A0 c0 l c w hr0 hc0 hl h2
      · exact closes_I A0 c0 l c w hr0 hc0 hl (by omega) (by omega)
end Go.Proofs.YtglolcejfbhbdaaGreat.P
end
section
namespace Go.Proofs.YtglolcejfbhbdaaGreat.treeCloses
open Go.ChangeShapes Go.WideShapes Go.ChangeAt Go.RowKit
set_option linter.unusedVariables false
set_option linter.unusedSimpArgs false
theorem own : ownKnob Tryz.prog.godebug = none := by kernel_rfl
theorem laidOut : laidOutB Tryz.prog = true := by kernel_rfl
set_option maxRecDepth 100000 in
theorem lifted (os : Os) (started : os.Started) (H : Type) (enc : TypeId × Value → H) :
    ReturnsInHanded {} Tryz.checked os 5 .any (Rows.treeClosesSpec.pre6 enc Tryz.prog Tryz.f5 Rows.treeClosesRow.domain false) (Rows.treeClosesSpec.post enc Tryz.prog Tryz.f5 false true false false) := by
  refine returnsInHanded_of_change_sized (C := Tryz.checked) own started (by kernel_rfl) Tryz.func5
    (ChangeSpec.witness6 (enc := enc) (C := Tryz.checked) false ⟨#[], #[.slice none 0 0, .int .i64 0], []⟩ 8 (by kernel_rfl) (by kernel_rfl) (by kernel_rfl) (by kernel_rfl)) ?_
  intro W base args ds gs before hval0 hW hcnd hsz0 _
  have hval : ∀ (j : Nat) t v, Tryz.f5.params[j]? = some t → args[j]? = some v → Value.okWide Tryz.prog W .any base t v := hval0
  have hW' := hW
  obtain ⟨p, q, hA0, hV, rfl, hfz, hnd⟩ := hW
  have hA : DataW.TrodAll enc Tryz.prog W 0 (fun _ => true) true Tryz.f5.params.toList args.toList ds p := hA0
  rw [Tryz.params5] at hA hval
  obtain ⟨v0, vs0, d0, ds0, p0, q0, hargs, rfl, rfl, h0, r0⟩ := trodAll_cons hA
  obtain ⟨v1, vs1, d1, ds1, p1, q1, rfl, rfl, rfl, h1, r1⟩ := trodAll_cons r0
  obtain ⟨rfl, rfl, rfl⟩ := trodAll_nil r1
  obtain rfl : args = #[v0, v1] := by cases args; simp_all
  obtain ⟨rfl, rfl⟩ := trodVars_none hV
  obtain ⟨a0, len0, cap0, rfl⟩ := okWide_slice Tryz.underlying22 (hval 0 22 v0 rfl rfl)
  have k0 := h0
  have lt0 : ∀ x ∈ p0, x.block < W.heap.size := by obtain ⟨m, hm⟩ := k0; exact DataW.trod_lt m _ _ _ hm
  obtain ⟨c0, l0, rfl, w0⟩ := P.open_R30 h0
  obtain ⟨a1, rfl, rfl, rfl, w1⟩ := open_int Tryz.underlying3 (hval 1 3 v1 rfl rfl) h1
  clear hA0 hval0 hsz0
  refine (P.closes_calls a0 cap0 l0 a1 W w0 c0).mono fun e W' ⟨he, bel⟩ => ?_
  subst he
  exact ⟨_, rfl, _, _, _, [], _, [], hW', trodAll_mk1 (shut_bool Tryz.underlying4 _), (trodAll_cons_mk (Below.trod laidOut (by kernel_rfl) (of_decide_eq_true (by kernel_rfl)) k0 bel lt0) (trodAll_cons_mk (shut_int Tryz.underlying3 w1) trodAll_mk0)), rfl, bel.frame _, fun h => by cases h⟩
theorem over : Rows.treeClosesRow.holds Tryz.pinned (OpenSpec.ofChange Rows.treeClosesSpec) :=
  OpenClaim.holds_of_wide 5 Tryz.f5 rfl rfl rfl rfl rfl rfl rfl ⟨rfl, rfl, rfl, rfl, rfl⟩ rfl rfl rfl rfl rfl (by kernel_rfl) Tryz.func5 (by kernel_rfl)
    (of_decide_eq_true (by kernel_rfl)) (by unfold Func.isWrapper; first | (rw [if_pos (by decide +kernel)]; kernel_rfl) | (rw [if_neg (by decide +kernel)]; exact ⟨rfl, rfl⟩))
    (fun os started H enc _ => lifted os started H enc)
end Go.Proofs.YtglolcejfbhbdaaGreat.treeCloses
end
section
namespace Go.Proofs.YtglolcejfbhbdaaGreat
theorem treeCloses_holds : Rows.TreeClosesSaid := treeCloses.over
end Go.Proofs.YtglolcejfbhbdaaGreat
end
