/- Part 6 of what the three laws on sets of ranges share: the words of the walks, contracts of the functions that they reach, and plain lemmas. No conditions. -/
import Derived.Test.YtglolcejfbhbdaaGreatC05
import Derived.Deep.RegionLaw
import Derived.Deep.AppendLies
import Derived.ScopeJumps
import Derived.WalkMore
section
namespace Go.Proofs.YtglolcejfbhbdaaGreat.P
open Go.RowKit Go.Shelf Go.Proofs.YtglolcejfbhbdaaGreatW.PrintWords Go.Proofs.YtglolcejfbhbdaaGreatW.PrintLast Go.Proofs.YtglolcejfbhbdaaGreatW.PrintMore
set_option linter.unusedVariables false
set_option linter.unusedSimpArgs false
section
variable {w0 : World} {g : Nat} {A : Option Addr} {c : Nat} {l : List Int} {i : Nat} {tv : Value} {w : World}
def bracesF (l : List Int) (i : Nat) : TP (Int × Int × Bool) :=
  let d := digitsF l i
  if l.length ≤ d.2.2 then .bad d.2.2 4
  else if d.2.1 = false then .ok (0, 0, false) d.2.2
  else if rd l (d.2.2 : Nat) = 125 then .ok (d.1, d.1, decide (0 ≤ d.1)) (d.2.2 + 1)
  else if rd l (d.2.2 : Nat) ≠ 44 then .ok (0, 0, false) d.2.2
  else if l.length ≤ d.2.2 + 1 then .bad (d.2.2 + 1 : Nat) 4
  else if rd l (d.2.2 + 1 : Nat) = 125 then .ok (d.1, -1, decide (0 ≤ d.1)) (d.2.2 + 2)
  else
    let u := digitsF l (d.2.2 + 1)
    if l.length ≤ u.2.2 then .bad u.2.2 4
    else if u.2.1 = false then .ok (0, 0, false) u.2.2
    else if rd l (u.2.2 : Nat) ≠ 125 then .ok (0, 0, false) u.2.2
    else .ok (d.1, u.1, decide (0 ≤ d.1) && decide (d.1 ≤ u.1)) (u.2.2 + 1)
set_option maxRecDepth 100000 in
theorem br_1 (h : Tok w0 g A c l i tv w) (hl : l.length ≤ 1000000) (hi : i ≤ l.length) {low : Int} {so : Bool} {i1 : Nat} (hd : digitsF l i = (low, so, i1)) (k1 : l.length ≤ i1) :
    Calls Tryz.prog 80 #[.pointer (some ⟨g, 0, none⟩)] w (TokBad w0 (i1 : Nat) 4) := by
  have HS := Aside0.mk h
  have HK := Aside0.mk (KeepBut.refl w g none)
  have c0 := fun W (hW : Tok w0 g A c l i tv W) => digits_ok (w := W) hW hl hi
  rw [hd] at c0
  try dsimp only at c0
  have c1 := fun W (hW : Tok w0 g A c l i1 tv W) => peek_end (w := W) hW k1
  try dsimp only at c1
  generalize rd l (i1 : Nat) = x1 at *
  clear h hi hl hd k1
  go_enter Tryz.func80, Tryz.ntmps80
  go_wp2_with fail
  refine (c0 _ HS.out).mono ?_
  rintro e w1 ⟨rfl, hst, hk⟩
  replace HS := Aside0.mk hst
  replace HK := Aside0.mk (keepTr HK.out hk)
  clear hst hk c0
  go_wp2_with fail
  refine (c1 _ HS.out).mono ?_
  rintro e w1 ⟨rfl, hst⟩
  exact ⟨rfl, rfl, hst⟩
set_option maxRecDepth 100000 in
theorem br_2 (h : Tok w0 g A c l i tv w) (hl : l.length ≤ 1000000) (hi : i ≤ l.length) {low : Int} {so : Bool} {i1 : Nat} (hd : digitsF l i = (low, so, i1)) (k1 : i1 < l.length) (ks : so = false) :
    Calls Tryz.prog 80 #[.pointer (some ⟨g, 0, none⟩)] w (TokOk w0 g A c l i1 tv w (.tuple #[.int .i64 0, .int .i64 0, .bool false])) := by
  have HS := Aside0.mk h
  have HK := Aside0.mk (KeepBut.refl w g none)
  have c0 := fun W (hW : Tok w0 g A c l i tv W) => digits_ok (w := W) hW hl hi
  rw [hd] at c0
  try dsimp only at c0
  have c1 := fun W (hW : Tok w0 g A c l i1 tv W) => peek_ok (w := W) hW k1
  try dsimp only at c1
  subst ks
  generalize rd l (i1 : Nat) = x1 at *
  clear h hi hl hd k1
  go_enter Tryz.func80, Tryz.ntmps80
  go_wp2_with fail
  refine (c0 _ HS.out).mono ?_
  rintro e w1 ⟨rfl, hst, hk⟩
  replace HS := Aside0.mk hst
  replace HK := Aside0.mk (keepTr HK.out hk)
  clear hst hk c0
  go_wp2_with fail
  refine (c1 _ HS.out).mono ?_
  rintro e w2 ⟨rfl, hst, hk⟩
  replace HS := Aside0.mk hst
  replace HK := Aside0.mk (keepTr HK.out hk)
  clear hst hk c1
  go_wp2
  go_ret3
  exact ⟨by first | rfl | (congr 1), HS.out, HK.out⟩
set_option maxRecDepth 100000 in
theorem br_3 (h : Tok w0 g A c l i tv w) (hl : l.length ≤ 1000000) (hi : i ≤ l.length) {low : Int} {so : Bool} {i1 : Nat} (hd : digitsF l i = (low, so, i1)) (k1 : i1 < l.length) (ks : so = true) (k3 : rd l (i1 : Nat) = 125) :
    Calls Tryz.prog 80 #[.pointer (some ⟨g, 0, none⟩)] w (TokOk w0 g A c l (i1 + 1) tv w (.tuple #[.int .i64 low, .int .i64 low, .bool (decide (0 ≤ low))])) := by
  have HS := Aside0.mk h
  have HK := Aside0.mk (KeepBut.refl w g none)
  have c0 := fun W (hW : Tok w0 g A c l i tv W) => digits_ok (w := W) hW hl hi
  rw [hd] at c0
  try dsimp only at c0
  have c1 := fun W (hW : Tok w0 g A c l i1 tv W) => peek_ok (w := W) hW k1
  try dsimp only at c1
  have c2 := fun W (hW : Tok w0 g A c l i1 tv W) => is_yes (w := W) hW hl 125 k1 k3
  try dsimp only at c2
  subst ks
  generalize rd l (i1 : Nat) = x1 at *
  clear h hi hl hd k1 k3
  go_enter Tryz.func80, Tryz.ntmps80
  go_wp2_with fail
  refine (c0 _ HS.out).mono ?_
  rintro e w1 ⟨rfl, hst, hk⟩
  replace HS := Aside0.mk hst
  replace HK := Aside0.mk (keepTr HK.out hk)
  clear hst hk c0
  go_wp2_with fail
  refine (c1 _ HS.out).mono ?_
  rintro e w2 ⟨rfl, hst, hk⟩
  replace HS := Aside0.mk hst
  replace HK := Aside0.mk (keepTr HK.out hk)
  clear hst hk c1
  go_wp2_with fail
  refine (c2 _ HS.out).mono ?_
  rintro e w3 ⟨rfl, hst, hk⟩
  replace HS := Aside0.mk hst
  replace HK := Aside0.mk (keepTr HK.out hk)
  clear hst hk c2
  go_wp2
  go_ret3
  exact ⟨by first | rfl | (congr 1), HS.out, HK.out⟩
set_option maxRecDepth 100000 in
theorem br_4 (h : Tok w0 g A c l i tv w) (hl : l.length ≤ 1000000) (hi : i ≤ l.length) {low : Int} {so : Bool} {i1 : Nat} (hd : digitsF l i = (low, so, i1)) (k1 : i1 < l.length) (ks : so = true) (k3 : rd l (i1 : Nat) ≠ 125) (k4 : rd l (i1 : Nat) ≠ 44) :
    Calls Tryz.prog 80 #[.pointer (some ⟨g, 0, none⟩)] w (TokOk w0 g A c l i1 tv w (.tuple #[.int .i64 0, .int .i64 0, .bool false])) := by
  have HS := Aside0.mk h
  have HK := Aside0.mk (KeepBut.refl w g none)
  have c0 := fun W (hW : Tok w0 g A c l i tv W) => digits_ok (w := W) hW hl hi
  rw [hd] at c0
  try dsimp only at c0
  have c1 := fun W (hW : Tok w0 g A c l i1 tv W) => peek_ok (w := W) hW k1
  try dsimp only at c1
  have c2 := fun W (hW : Tok w0 g A c l i1 tv W) => is_no (w := W) hW 125 (fun _ => k3)
  try dsimp only at c2
  have c3 := fun W (hW : Tok w0 g A c l i1 tv W) => is_no (w := W) hW 44 (fun _ => k4)
  try dsimp only at c3
  subst ks
  generalize rd l (i1 : Nat) = x1 at *
  clear h hi hl hd k1 k3 k4
  go_enter Tryz.func80, Tryz.ntmps80
  go_wp2_with fail
  refine (c0 _ HS.out).mono ?_
  rintro e w1 ⟨rfl, hst, hk⟩
  replace HS := Aside0.mk hst
  replace HK := Aside0.mk (keepTr HK.out hk)
  clear hst hk c0
  go_wp2_with fail
  refine (c1 _ HS.out).mono ?_
  rintro e w2 ⟨rfl, hst, hk⟩
  replace HS := Aside0.mk hst
  replace HK := Aside0.mk (keepTr HK.out hk)
  clear hst hk c1
  go_wp2_with fail
  refine (c2 _ HS.out).mono ?_
  rintro e w3 ⟨rfl, hst, hk⟩
  replace HS := Aside0.mk hst
  replace HK := Aside0.mk (keepTr HK.out hk)
  clear hst hk c2
  go_wp2_with fail
  refine (c3 _ HS.out).mono ?_
  rintro e w4 ⟨rfl, hst, hk⟩
  replace HS := Aside0.mk hst
  replace HK := Aside0.mk (keepTr HK.out hk)
  clear hst hk c3
  go_wp2
  go_ret3
  exact ⟨by first | rfl | (congr 1), HS.out, HK.out⟩
set_option maxRecDepth 100000 in
theorem br_5 (h : Tok w0 g A c l i tv w) (hl : l.length ≤ 1000000) (hi : i ≤ l.length) {low : Int} {so : Bool} {i1 : Nat} (hd : digitsF l i = (low, so, i1)) (k1 : i1 < l.length) (ks : so = true) (k3 : rd l (i1 : Nat) ≠ 125) (k4 : rd l (i1 : Nat) = 44) (k5 : l.length ≤ i1 + 1) :
    Calls Tryz.prog 80 #[.pointer (some ⟨g, 0, none⟩)] w (TokBad w0 (i1 + 1 : Nat) 4) := by
  have HS := Aside0.mk h
  have HK := Aside0.mk (KeepBut.refl w g none)
  have c0 := fun W (hW : Tok w0 g A c l i tv W) => digits_ok (w := W) hW hl hi
  rw [hd] at c0
  try dsimp only at c0
  have c1 := fun W (hW : Tok w0 g A c l i1 tv W) => peek_ok (w := W) hW k1
  try dsimp only at c1
  have c2 := fun W (hW : Tok w0 g A c l i1 tv W) => is_no (w := W) hW 125 (fun _ => k3)
  try dsimp only at c2
  have c3 := fun W (hW : Tok w0 g A c l i1 tv W) => is_yes (w := W) hW hl 44 k1 k4
  try dsimp only at c3
  have c4 := fun W (hW : Tok w0 g A c l (i1 + 1) tv W) => peek_end (w := W) hW k5
  try dsimp only at c4
  subst ks
  generalize rd l (i1 : Nat) = x1 at *
  clear h hi hl hd k1 k3 k4 k5
  go_enter Tryz.func80, Tryz.ntmps80
  go_wp2_with fail
  refine (c0 _ HS.out).mono ?_
  rintro e w1 ⟨rfl, hst, hk⟩
  replace HS := Aside0.mk hst
  replace HK := Aside0.mk (keepTr HK.out hk)
  clear hst hk c0
  go_wp2_with fail
  refine (c1 _ HS.out).mono ?_
  rintro e w2 ⟨rfl, hst, hk⟩
  replace HS := Aside0.mk hst
  replace HK := Aside0.mk (keepTr HK.out hk)
  clear hst hk c1
  go_wp2_with fail
  refine (c2 _ HS.out).mono ?_
  rintro e w3 ⟨rfl, hst, hk⟩
  replace HS := Aside0.mk hst
  replace HK := Aside0.mk (keepTr HK.out hk)
  clear hst hk c2
  go_wp2_with fail
  refine (c3 _ HS.out).mono ?_
  rintro e w4 ⟨rfl, hst, hk⟩
  replace HS := Aside0.mk hst
  replace HK := Aside0.mk (keepTr HK.out hk)
  clear hst hk c3
  go_wp2_with fail
  refine (c4 _ HS.out).mono ?_
  rintro e w1 ⟨rfl, hst⟩
  exact ⟨rfl, rfl, hst⟩
set_option maxRecDepth 100000 in
theorem br_6 (h : Tok w0 g A c l i tv w) (hl : l.length ≤ 1000000) (hi : i ≤ l.length) {low : Int} {so : Bool} {i1 : Nat} (hd : digitsF l i = (low, so, i1)) (k1 : i1 < l.length) (ks : so = true) (k3 : rd l (i1 : Nat) ≠ 125) (k4 : rd l (i1 : Nat) = 44) (k5 : i1 + 1 < l.length) (k6 : rd l (i1 + 1 : Nat) = 125) :
    Calls Tryz.prog 80 #[.pointer (some ⟨g, 0, none⟩)] w (TokOk w0 g A c l (i1 + 2) tv w (.tuple #[.int .i64 low, .int .i64 (-1), .bool (decide (0 ≤ low))])) := by
  have HS := Aside0.mk h
  have HK := Aside0.mk (KeepBut.refl w g none)
  have c0 := fun W (hW : Tok w0 g A c l i tv W) => digits_ok (w := W) hW hl hi
  rw [hd] at c0
  try dsimp only at c0
  have c1 := fun W (hW : Tok w0 g A c l i1 tv W) => peek_ok (w := W) hW k1
  try dsimp only at c1
  have c2 := fun W (hW : Tok w0 g A c l i1 tv W) => is_no (w := W) hW 125 (fun _ => k3)
  try dsimp only at c2
  have c3 := fun W (hW : Tok w0 g A c l i1 tv W) => is_yes (w := W) hW hl 44 k1 k4
  try dsimp only at c3
  have c4 := fun W (hW : Tok w0 g A c l (i1 + 1) tv W) => peek_ok (w := W) hW k5
  try dsimp only at c4
  have c5 := fun W (hW : Tok w0 g A c l (i1 + 1) tv W) => is_yes (w := W) hW hl 125 k5 k6
  try dsimp only at c5
  subst ks
  generalize rd l (i1 : Nat) = x1 at *
  generalize rd l (i1 + 1 : Nat) = x2 at *
  clear h hi hl hd k1 k3 k4 k5 k6
  go_enter Tryz.func80, Tryz.ntmps80
  go_wp2_with fail
  refine (c0 _ HS.out).mono ?_
  rintro e w1 ⟨rfl, hst, hk⟩
  replace HS := Aside0.mk hst
  replace HK := Aside0.mk (keepTr HK.out hk)
  clear hst hk c0
  go_wp2_with fail
  refine (c1 _ HS.out).mono ?_
  rintro e w2 ⟨rfl, hst, hk⟩
  replace HS := Aside0.mk hst
  replace HK := Aside0.mk (keepTr HK.out hk)
  clear hst hk c1
  go_wp2_with fail
  refine (c2 _ HS.out).mono ?_
  rintro e w3 ⟨rfl, hst, hk⟩
  replace HS := Aside0.mk hst
  replace HK := Aside0.mk (keepTr HK.out hk)
  clear hst hk c2
  go_wp2_with fail
  refine (c3 _ HS.out).mono ?_
  rintro e w4 ⟨rfl, hst, hk⟩
  replace HS := Aside0.mk hst
  replace HK := Aside0.mk (keepTr HK.out hk)
  clear hst hk c3
  go_wp2_with fail
  refine (c4 _ HS.out).mono ?_
  rintro e w5 ⟨rfl, hst, hk⟩
  replace HS := Aside0.mk hst
  replace HK := Aside0.mk (keepTr HK.out hk)
  clear hst hk c4
  go_wp2_with fail
  refine (c5 _ HS.out).mono ?_
  rintro e w6 ⟨rfl, hst, hk⟩
  replace HS := Aside0.mk hst
  replace HK := Aside0.mk (keepTr HK.out hk)
  clear hst hk c5
  go_wp2
  go_ret3
  exact ⟨by first | rfl | (congr 1), HS.out, HK.out⟩
set_option maxRecDepth 100000 in
theorem br_7 (h : Tok w0 g A c l i tv w) (hl : l.length ≤ 1000000) (hi : i ≤ l.length) {low : Int} {so : Bool} {i1 : Nat} (hd : digitsF l i = (low, so, i1)) (k1 : i1 < l.length) (ks : so = true) (k3 : rd l (i1 : Nat) ≠ 125) (k4 : rd l (i1 : Nat) = 44) (k5 : i1 + 1 < l.length) (k6 : rd l (i1 + 1 : Nat) ≠ 125) {high : Int} {so2 : Bool} {i2 : Nat} (hd2 : digitsF l (i1 + 1) = (high, so2, i2)) (k7 : l.length ≤ i2) :
    Calls Tryz.prog 80 #[.pointer (some ⟨g, 0, none⟩)] w (TokBad w0 (i2 : Nat) 4) := by
  have HS := Aside0.mk h
  have HK := Aside0.mk (KeepBut.refl w g none)
  have c0 := fun W (hW : Tok w0 g A c l i tv W) => digits_ok (w := W) hW hl hi
  rw [hd] at c0
  try dsimp only at c0
  have c1 := fun W (hW : Tok w0 g A c l i1 tv W) => peek_ok (w := W) hW k1
  try dsimp only at c1
  have c2 := fun W (hW : Tok w0 g A c l i1 tv W) => is_no (w := W) hW 125 (fun _ => k3)
  try dsimp only at c2
  have c3 := fun W (hW : Tok w0 g A c l i1 tv W) => is_yes (w := W) hW hl 44 k1 k4
  try dsimp only at c3
  have c4 := fun W (hW : Tok w0 g A c l (i1 + 1) tv W) => peek_ok (w := W) hW k5
  try dsimp only at c4
  have c5 := fun W (hW : Tok w0 g A c l (i1 + 1) tv W) => is_no (w := W) hW 125 (fun _ => k6)
  try dsimp only at c5
  have c6 := fun W (hW : Tok w0 g A c l (i1 + 1) tv W) => digits_ok (w := W) hW hl (by omega)
  rw [hd2] at c6
  try dsimp only at c6
  have c7 := fun W (hW : Tok w0 g A c l i2 tv W) => peek_end (w := W) hW k7
  try dsimp only at c7
  subst ks
  generalize rd l (i1 : Nat) = x1 at *
  generalize rd l (i1 + 1 : Nat) = x2 at *
  generalize rd l (i2 : Nat) = x3 at *
  clear h hi hl hd k1 k3 k4 k5 k6 hd2 k7
  go_enter Tryz.func80, Tryz.ntmps80
  go_wp2_with fail
  refine (c0 _ HS.out).mono ?_
  rintro e w1 ⟨rfl, hst, hk⟩
  replace HS := Aside0.mk hst
  replace HK := Aside0.mk (keepTr HK.out hk)
  clear hst hk c0
  go_wp2_with fail
  refine (c1 _ HS.out).mono ?_
  rintro e w2 ⟨rfl, hst, hk⟩
  replace HS := Aside0.mk hst
  replace HK := Aside0.mk (keepTr HK.out hk)
  clear hst hk c1
  go_wp2_with fail
  refine (c2 _ HS.out).mono ?_
  rintro e w3 ⟨rfl, hst, hk⟩
  replace HS := Aside0.mk hst
  replace HK := Aside0.mk (keepTr HK.out hk)
  clear hst hk c2
  go_wp2_with fail
  refine (c3 _ HS.out).mono ?_
  rintro e w4 ⟨rfl, hst, hk⟩
  replace HS := Aside0.mk hst
  replace HK := Aside0.mk (keepTr HK.out hk)
  clear hst hk c3
  go_wp2_with fail
  refine (c4 _ HS.out).mono ?_
  rintro e w5 ⟨rfl, hst, hk⟩
  replace HS := Aside0.mk hst
  replace HK := Aside0.mk (keepTr HK.out hk)
  clear hst hk c4
  go_wp2_with fail
  refine (c5 _ HS.out).mono ?_
  rintro e w6 ⟨rfl, hst, hk⟩
  replace HS := Aside0.mk hst
  replace HK := Aside0.mk (keepTr HK.out hk)
  clear hst hk c5
  go_wp2_with fail
  refine (c6 _ HS.out).mono ?_
  rintro e w7 ⟨rfl, hst, hk⟩
  replace HS := Aside0.mk hst
  replace HK := Aside0.mk (keepTr HK.out hk)
  clear hst hk c6
  go_wp2_with fail
  refine (c7 _ HS.out).mono ?_
  rintro e w1 ⟨rfl, hst⟩
  exact ⟨rfl, rfl, hst⟩
set_option maxRecDepth 100000 in
theorem br_8 (h : Tok w0 g A c l i tv w) (hl : l.length ≤ 1000000) (hi : i ≤ l.length) {low : Int} {so : Bool} {i1 : Nat} (hd : digitsF l i = (low, so, i1)) (k1 : i1 < l.length) (ks : so = true) (k3 : rd l (i1 : Nat) ≠ 125) (k4 : rd l (i1 : Nat) = 44) (k5 : i1 + 1 < l.length) (k6 : rd l (i1 + 1 : Nat) ≠ 125) {high : Int} {so2 : Bool} {i2 : Nat} (hd2 : digitsF l (i1 + 1) = (high, so2, i2)) (k7 : i2 < l.length) (ks2 : so2 = false) :
    Calls Tryz.prog 80 #[.pointer (some ⟨g, 0, none⟩)] w (TokOk w0 g A c l i2 tv w (.tuple #[.int .i64 0, .int .i64 0, .bool false])) := by
  have HS := Aside0.mk h
  have HK := Aside0.mk (KeepBut.refl w g none)
  have c0 := fun W (hW : Tok w0 g A c l i tv W) => digits_ok (w := W) hW hl hi
  rw [hd] at c0
  try dsimp only at c0
  have c1 := fun W (hW : Tok w0 g A c l i1 tv W) => peek_ok (w := W) hW k1
  try dsimp only at c1
  have c2 := fun W (hW : Tok w0 g A c l i1 tv W) => is_no (w := W) hW 125 (fun _ => k3)
  try dsimp only at c2
  have c3 := fun W (hW : Tok w0 g A c l i1 tv W) => is_yes (w := W) hW hl 44 k1 k4
  try dsimp only at c3
  have c4 := fun W (hW : Tok w0 g A c l (i1 + 1) tv W) => peek_ok (w := W) hW k5
  try dsimp only at c4
  have c5 := fun W (hW : Tok w0 g A c l (i1 + 1) tv W) => is_no (w := W) hW 125 (fun _ => k6)
  try dsimp only at c5
  have c6 := fun W (hW : Tok w0 g A c l (i1 + 1) tv W) => digits_ok (w := W) hW hl (by omega)
  rw [hd2] at c6
  try dsimp only at c6
  have c7 := fun W (hW : Tok w0 g A c l i2 tv W) => peek_ok (w := W) hW k7
  try dsimp only at c7
  subst ks
  subst ks2
  generalize rd l (i1 : Nat) = x1 at *
  generalize rd l (i1 + 1 : Nat) = x2 at *
  generalize rd l (i2 : Nat) = x3 at *
  clear h hi hl hd k1 k3 k4 k5 k6 hd2 k7
  go_enter Tryz.func80, Tryz.ntmps80
  go_wp2_with fail
  refine (c0 _ HS.out).mono ?_
  rintro e w1 ⟨rfl, hst, hk⟩
  replace HS := Aside0.mk hst
  replace HK := Aside0.mk (keepTr HK.out hk)
  clear hst hk c0
  go_wp2_with fail
  refine (c1 _ HS.out).mono ?_
  rintro e w2 ⟨rfl, hst, hk⟩
  replace HS := Aside0.mk hst
  replace HK := Aside0.mk (keepTr HK.out hk)
  clear hst hk c1
  go_wp2_with fail
  refine (c2 _ HS.out).mono ?_
  rintro e w3 ⟨rfl, hst, hk⟩
  replace HS := Aside0.mk hst
  replace HK := Aside0.mk (keepTr HK.out hk)
  clear hst hk c2
  go_wp2_with fail
  refine (c3 _ HS.out).mono ?_
  rintro e w4 ⟨rfl, hst, hk⟩
  replace HS := Aside0.mk hst
  replace HK := Aside0.mk (keepTr HK.out hk)
  clear hst hk c3
  go_wp2_with fail
  refine (c4 _ HS.out).mono ?_
  rintro e w5 ⟨rfl, hst, hk⟩
  replace HS := Aside0.mk hst
  replace HK := Aside0.mk (keepTr HK.out hk)
  clear hst hk c4
  go_wp2_with fail
  refine (c5 _ HS.out).mono ?_
  rintro e w6 ⟨rfl, hst, hk⟩
  replace HS := Aside0.mk hst
  replace HK := Aside0.mk (keepTr HK.out hk)
  clear hst hk c5
  go_wp2_with fail
  refine (c6 _ HS.out).mono ?_
  rintro e w7 ⟨rfl, hst, hk⟩
  replace HS := Aside0.mk hst
  replace HK := Aside0.mk (keepTr HK.out hk)
  clear hst hk c6
  go_wp2_with fail
  refine (c7 _ HS.out).mono ?_
  rintro e w8 ⟨rfl, hst, hk⟩
  replace HS := Aside0.mk hst
  replace HK := Aside0.mk (keepTr HK.out hk)
  clear hst hk c7
  go_wp2
  go_ret3
  exact ⟨by first | rfl | (congr 1), HS.out, HK.out⟩
set_option maxRecDepth 100000 in
theorem br_9 (h : Tok w0 g A c l i tv w) (hl : l.length ≤ 1000000) (hi : i ≤ l.length) {low : Int} {so : Bool} {i1 : Nat} (hd : digitsF l i = (low, so, i1)) (k1 : i1 < l.length) (ks : so = true) (k3 : rd l (i1 : Nat) ≠ 125) (k4 : rd l (i1 : Nat) = 44) (k5 : i1 + 1 < l.length) (k6 : rd l (i1 + 1 : Nat) ≠ 125) {high : Int} {so2 : Bool} {i2 : Nat} (hd2 : digitsF l (i1 + 1) = (high, so2, i2)) (k7 : i2 < l.length) (ks2 : so2 = true) (k9 : rd l (i2 : Nat) ≠ 125) :
    Calls Tryz.prog 80 #[.pointer (some ⟨g, 0, none⟩)] w (TokOk w0 g A c l i2 tv w (.tuple #[.int .i64 0, .int .i64 0, .bool false])) := by
  have HS := Aside0.mk h
  have HK := Aside0.mk (KeepBut.refl w g none)
  have c0 := fun W (hW : Tok w0 g A c l i tv W) => digits_ok (w := W) hW hl hi
  rw [hd] at c0
  try dsimp only at c0
  have c1 := fun W (hW : Tok w0 g A c l i1 tv W) => peek_ok (w := W) hW k1
  try dsimp only at c1
  have c2 := fun W (hW : Tok w0 g A c l i1 tv W) => is_no (w := W) hW 125 (fun _ => k3)
  try dsimp only at c2
  have c3 := fun W (hW : Tok w0 g A c l i1 tv W) => is_yes (w := W) hW hl 44 k1 k4
  try dsimp only at c3
  have c4 := fun W (hW : Tok w0 g A c l (i1 + 1) tv W) => peek_ok (w := W) hW k5
  try dsimp only at c4
  have c5 := fun W (hW : Tok w0 g A c l (i1 + 1) tv W) => is_no (w := W) hW 125 (fun _ => k6)
  try dsimp only at c5
  have c6 := fun W (hW : Tok w0 g A c l (i1 + 1) tv W) => digits_ok (w := W) hW hl (by omega)
  rw [hd2] at c6
  try dsimp only at c6
  have c7 := fun W (hW : Tok w0 g A c l i2 tv W) => peek_ok (w := W) hW k7
  try dsimp only at c7
  have c8 := fun W (hW : Tok w0 g A c l i2 tv W) => is_no (w := W) hW 125 (fun _ => k9)
  try dsimp only at c8
  subst ks
  subst ks2
  generalize rd l (i1 : Nat) = x1 at *
  generalize rd l (i1 + 1 : Nat) = x2 at *
  generalize rd l (i2 : Nat) = x3 at *
  clear h hi hl hd k1 k3 k4 k5 k6 hd2 k7 k9
  go_enter Tryz.func80, Tryz.ntmps80
  go_wp2_with fail
  refine (c0 _ HS.out).mono ?_
  rintro e w1 ⟨rfl, hst, hk⟩
  replace HS := Aside0.mk hst
  replace HK := Aside0.mk (keepTr HK.out hk)
  clear hst hk c0
  go_wp2_with fail
  refine (c1 _ HS.out).mono ?_
  rintro e w2 ⟨rfl, hst, hk⟩
  replace HS := Aside0.mk hst
  replace HK := Aside0.mk (keepTr HK.out hk)
  clear hst hk c1
  go_wp2_with fail
  refine (c2 _ HS.out).mono ?_
  rintro e w3 ⟨rfl, hst, hk⟩
  replace HS := Aside0.mk hst
  replace HK := Aside0.mk (keepTr HK.out hk)
  clear hst hk c2
  go_wp2_with fail
  refine (c3 _ HS.out).mono ?_
  rintro e w4 ⟨rfl, hst, hk⟩
  replace HS := Aside0.mk hst
  replace HK := Aside0.mk (keepTr HK.out hk)
  clear hst hk c3
  go_wp2_with fail
  refine (c4 _ HS.out).mono ?_
  rintro e w5 ⟨rfl, hst, hk⟩
  replace HS := Aside0.mk hst
  replace HK := Aside0.mk (keepTr HK.out hk)
  clear hst hk c4
  go_wp2_with fail
  refine (c5 _ HS.out).mono ?_
  rintro e w6 ⟨rfl, hst, hk⟩
  replace HS := Aside0.mk hst
  replace HK := Aside0.mk (keepTr HK.out hk)
  clear hst hk c5
  go_wp2_with fail
  refine (c6 _ HS.out).mono ?_
  rintro e w7 ⟨rfl, hst, hk⟩
  replace HS := Aside0.mk hst
  replace HK := Aside0.mk (keepTr HK.out hk)
  clear hst hk c6
  go_wp2_with fail
  refine (c7 _ HS.out).mono ?_
  rintro e w8 ⟨rfl, hst, hk⟩
  replace HS := Aside0.mk hst
  replace HK := Aside0.mk (keepTr HK.out hk)
  clear hst hk c7
  go_wp2_with fail
  refine (c8 _ HS.out).mono ?_
  rintro e w9 ⟨rfl, hst, hk⟩
  replace HS := Aside0.mk hst
  replace HK := Aside0.mk (keepTr HK.out hk)
  clear hst hk c8
  go_wp2
  go_ret3
  exact ⟨by first | rfl | (congr 1), HS.out, HK.out⟩
set_option maxRecDepth 100000 in
theorem br_10 (h : Tok w0 g A c l i tv w) (hl : l.length ≤ 1000000) (hi : i ≤ l.length) {low : Int} {so : Bool} {i1 : Nat} (hd : digitsF l i = (low, so, i1)) (k1 : i1 < l.length) (ks : so = true) (k3 : rd l (i1 : Nat) ≠ 125) (k4 : rd l (i1 : Nat) = 44) (k5 : i1 + 1 < l.length) (k6 : rd l (i1 + 1 : Nat) ≠ 125) {high : Int} {so2 : Bool} {i2 : Nat} (hd2 : digitsF l (i1 + 1) = (high, so2, i2)) (k7 : i2 < l.length) (ks2 : so2 = true) (k9 : rd l (i2 : Nat) = 125) (kl : 0 ≤ low) :
    Calls Tryz.prog 80 #[.pointer (some ⟨g, 0, none⟩)] w (TokOk w0 g A c l (i2 + 1) tv w (.tuple #[.int .i64 low, .int .i64 high, .bool (decide (low ≤ high))])) := by
  have HS := Aside0.mk h
  have HK := Aside0.mk (KeepBut.refl w g none)
  have c0 := fun W (hW : Tok w0 g A c l i tv W) => digits_ok (w := W) hW hl hi
  rw [hd] at c0
  try dsimp only at c0
  have c1 := fun W (hW : Tok w0 g A c l i1 tv W) => peek_ok (w := W) hW k1
  try dsimp only at c1
  have c2 := fun W (hW : Tok w0 g A c l i1 tv W) => is_no (w := W) hW 125 (fun _ => k3)
  try dsimp only at c2
  have c3 := fun W (hW : Tok w0 g A c l i1 tv W) => is_yes (w := W) hW hl 44 k1 k4
  try dsimp only at c3
  have c4 := fun W (hW : Tok w0 g A c l (i1 + 1) tv W) => peek_ok (w := W) hW k5
  try dsimp only at c4
  have c5 := fun W (hW : Tok w0 g A c l (i1 + 1) tv W) => is_no (w := W) hW 125 (fun _ => k6)
  try dsimp only at c5
  have c6 := fun W (hW : Tok w0 g A c l (i1 + 1) tv W) => digits_ok (w := W) hW hl (by omega)
  rw [hd2] at c6
  try dsimp only at c6
  have c7 := fun W (hW : Tok w0 g A c l i2 tv W) => peek_ok (w := W) hW k7
  try dsimp only at c7
  have c8 := fun W (hW : Tok w0 g A c l i2 tv W) => is_yes (w := W) hW hl 125 k7 k9
  try dsimp only at c8
  subst ks
  subst ks2
  have b1 : decide (0 ≤ low) = true := decide_eq_true kl
  generalize rd l (i1 : Nat) = x1 at *
  generalize rd l (i1 + 1 : Nat) = x2 at *
  generalize rd l (i2 : Nat) = x3 at *
  clear h hi hl hd k1 k3 k4 k5 k6 hd2 k7 k9 kl
  go_enter Tryz.func80, Tryz.ntmps80
  go_wp2_with fail
  refine (c0 _ HS.out).mono ?_
  rintro e w1 ⟨rfl, hst, hk⟩
  replace HS := Aside0.mk hst
  replace HK := Aside0.mk (keepTr HK.out hk)
  clear hst hk c0
  go_wp2_with fail
  refine (c1 _ HS.out).mono ?_
  rintro e w2 ⟨rfl, hst, hk⟩
  replace HS := Aside0.mk hst
  replace HK := Aside0.mk (keepTr HK.out hk)
  clear hst hk c1
  go_wp2_with fail
  refine (c2 _ HS.out).mono ?_
  rintro e w3 ⟨rfl, hst, hk⟩
  replace HS := Aside0.mk hst
  replace HK := Aside0.mk (keepTr HK.out hk)
  clear hst hk c2
  go_wp2_with fail
  refine (c3 _ HS.out).mono ?_
  rintro e w4 ⟨rfl, hst, hk⟩
  replace HS := Aside0.mk hst
  replace HK := Aside0.mk (keepTr HK.out hk)
  clear hst hk c3
  go_wp2_with fail
  refine (c4 _ HS.out).mono ?_
  rintro e w5 ⟨rfl, hst, hk⟩
  replace HS := Aside0.mk hst
  replace HK := Aside0.mk (keepTr HK.out hk)
  clear hst hk c4
  go_wp2_with fail
  refine (c5 _ HS.out).mono ?_
  rintro e w6 ⟨rfl, hst, hk⟩
  replace HS := Aside0.mk hst
  replace HK := Aside0.mk (keepTr HK.out hk)
  clear hst hk c5
  go_wp2_with fail
  refine (c6 _ HS.out).mono ?_
  rintro e w7 ⟨rfl, hst, hk⟩
  replace HS := Aside0.mk hst
  replace HK := Aside0.mk (keepTr HK.out hk)
  clear hst hk c6
  go_wp2_with fail
  refine (c7 _ HS.out).mono ?_
  rintro e w8 ⟨rfl, hst, hk⟩
  replace HS := Aside0.mk hst
  replace HK := Aside0.mk (keepTr HK.out hk)
  clear hst hk c7
  go_wp2_with fail
  refine (c8 _ HS.out).mono ?_
  rintro e w9 ⟨rfl, hst, hk⟩
  replace HS := Aside0.mk hst
  replace HK := Aside0.mk (keepTr HK.out hk)
  clear hst hk c8
  go_wp2
  go_ret3
  exact ⟨by first | rfl | (congr 1), HS.out, HK.out⟩
set_option maxRecDepth 100000 in
theorem br_11 (h : Tok w0 g A c l i tv w) (hl : l.length ≤ 1000000) (hi : i ≤ l.length) {low : Int} {so : Bool} {i1 : Nat} (hd : digitsF l i = (low, so, i1)) (k1 : i1 < l.length) (ks : so = true) (k3 : rd l (i1 : Nat) ≠ 125) (k4 : rd l (i1 : Nat) = 44) (k5 : i1 + 1 < l.length) (k6 : rd l (i1 + 1 : Nat) ≠ 125) {high : Int} {so2 : Bool} {i2 : Nat} (hd2 : digitsF l (i1 + 1) = (high, so2, i2)) (k7 : i2 < l.length) (ks2 : so2 = true) (k9 : rd l (i2 : Nat) = 125) (kl : ¬ 0 ≤ low) :
    Calls Tryz.prog 80 #[.pointer (some ⟨g, 0, none⟩)] w (TokOk w0 g A c l (i2 + 1) tv w (.tuple #[.int .i64 low, .int .i64 high, .bool false])) := by
  have HS := Aside0.mk h
  have HK := Aside0.mk (KeepBut.refl w g none)
  have c0 := fun W (hW : Tok w0 g A c l i tv W) => digits_ok (w := W) hW hl hi
  rw [hd] at c0
  try dsimp only at c0
  have c1 := fun W (hW : Tok w0 g A c l i1 tv W) => peek_ok (w := W) hW k1
  try dsimp only at c1
  have c2 := fun W (hW : Tok w0 g A c l i1 tv W) => is_no (w := W) hW 125 (fun _ => k3)
  try dsimp only at c2
  have c3 := fun W (hW : Tok w0 g A c l i1 tv W) => is_yes (w := W) hW hl 44 k1 k4
  try dsimp only at c3
  have c4 := fun W (hW : Tok w0 g A c l (i1 + 1) tv W) => peek_ok (w := W) hW k5
  try dsimp only at c4
  have c5 := fun W (hW : Tok w0 g A c l (i1 + 1) tv W) => is_no (w := W) hW 125 (fun _ => k6)
  try dsimp only at c5
  have c6 := fun W (hW : Tok w0 g A c l (i1 + 1) tv W) => digits_ok (w := W) hW hl (by omega)
  rw [hd2] at c6
  try dsimp only at c6
  have c7 := fun W (hW : Tok w0 g A c l i2 tv W) => peek_ok (w := W) hW k7
  try dsimp only at c7
  have c8 := fun W (hW : Tok w0 g A c l i2 tv W) => is_yes (w := W) hW hl 125 k7 k9
  try dsimp only at c8
  subst ks
  subst ks2
  have b1 : decide (0 ≤ low) = false := decide_eq_false kl
  generalize rd l (i1 : Nat) = x1 at *
  generalize rd l (i1 + 1 : Nat) = x2 at *
  generalize rd l (i2 : Nat) = x3 at *
  clear h hi hl hd k1 k3 k4 k5 k6 hd2 k7 k9 kl
  go_enter Tryz.func80, Tryz.ntmps80
  go_wp2_with fail
  refine (c0 _ HS.out).mono ?_
  rintro e w1 ⟨rfl, hst, hk⟩
  replace HS := Aside0.mk hst
  replace HK := Aside0.mk (keepTr HK.out hk)
  clear hst hk c0
  go_wp2_with fail
  refine (c1 _ HS.out).mono ?_
  rintro e w2 ⟨rfl, hst, hk⟩
  replace HS := Aside0.mk hst
  replace HK := Aside0.mk (keepTr HK.out hk)
  clear hst hk c1
  go_wp2_with fail
  refine (c2 _ HS.out).mono ?_
  rintro e w3 ⟨rfl, hst, hk⟩
  replace HS := Aside0.mk hst
  replace HK := Aside0.mk (keepTr HK.out hk)
  clear hst hk c2
  go_wp2_with fail
  refine (c3 _ HS.out).mono ?_
  rintro e w4 ⟨rfl, hst, hk⟩
  replace HS := Aside0.mk hst
  replace HK := Aside0.mk (keepTr HK.out hk)
  clear hst hk c3
  go_wp2_with fail
  refine (c4 _ HS.out).mono ?_
  rintro e w5 ⟨rfl, hst, hk⟩
  replace HS := Aside0.mk hst
  replace HK := Aside0.mk (keepTr HK.out hk)
  clear hst hk c4
  go_wp2_with fail
  refine (c5 _ HS.out).mono ?_
  rintro e w6 ⟨rfl, hst, hk⟩
  replace HS := Aside0.mk hst
  replace HK := Aside0.mk (keepTr HK.out hk)
  clear hst hk c5
  go_wp2_with fail
  refine (c6 _ HS.out).mono ?_
  rintro e w7 ⟨rfl, hst, hk⟩
  replace HS := Aside0.mk hst
  replace HK := Aside0.mk (keepTr HK.out hk)
  clear hst hk c6
  go_wp2_with fail
  refine (c7 _ HS.out).mono ?_
  rintro e w8 ⟨rfl, hst, hk⟩
  replace HS := Aside0.mk hst
  replace HK := Aside0.mk (keepTr HK.out hk)
  clear hst hk c7
  go_wp2_with fail
  refine (c8 _ HS.out).mono ?_
  rintro e w9 ⟨rfl, hst, hk⟩
  replace HS := Aside0.mk hst
  replace HK := Aside0.mk (keepTr HK.out hk)
  clear hst hk c8
  go_wp2
  go_ret3
  exact ⟨by first | rfl | (congr 1), HS.out, HK.out⟩
end
end Go.Proofs.YtglolcejfbhbdaaGreat.P
end
section
namespace Go.Proofs.YtglolcejfbhbdaaGreat.P
open Go.RowKit Go.Shelf Go.Proofs.YtglolcejfbhbdaaGreatW.PrintWords Go.Proofs.YtglolcejfbhbdaaGreatW.PrintLast Go.Proofs.YtglolcejfbhbdaaGreatW.PrintMore
set_option linter.unusedVariables false
set_option linter.unusedSimpArgs false
section
variable {w0 : World} {g : Nat} {A : Option Addr} {c : Nat} {l : List Int} {i : Nat} {tv : Value} {w : World}
theorem braces_ok (h : Tok w0 g A c l i tv w) (hl : l.length ≤ 1000000) (hi : i ≤ l.length) {a : Int × Int × Bool} {j : Nat} (hf : bracesF l i = .ok a j) :
    Calls Tryz.prog 80 #[.pointer (some ⟨g, 0, none⟩)] w (TokOk w0 g A c l j tv w (.tuple #[.int .i64 a.1, .int .i64 a.2.1, .bool a.2.2])) := by
  obtain ⟨⟨low, so, i1⟩, hd⟩ : ∃ z, digitsF l i = z := ⟨_, rfl⟩
  unfold bracesF at hf
  rw [hd] at hf
  dsimp only at hf
  by_cases k1 : l.length ≤ i1
  · rw [if_pos k1] at hf
    cases hf
  · rw [if_neg k1] at hf
    by_cases ks : so = false
    · rw [if_pos ks] at hf
      injection hf with e1 e2
      subst e1; subst e2
      exact br_2 h hl hi hd (Nat.lt_of_not_le k1) ks
    · rw [if_neg ks] at hf
      by_cases k3 : rd l (i1 : Nat) = 125
      · rw [if_pos k3] at hf
        injection hf with e1 e2
        subst e1; subst e2
        exact br_3 h hl hi hd (Nat.lt_of_not_le k1) (by simpa using ks) k3
      · rw [if_neg k3] at hf
        by_cases k4 : rd l (i1 : Nat) ≠ 44
        · rw [if_pos k4] at hf
          injection hf with e1 e2
          subst e1; subst e2
          exact br_4 h hl hi hd (Nat.lt_of_not_le k1) (by simpa using ks) k3 k4
        · rw [if_neg k4] at hf
          by_cases k5 : l.length ≤ i1 + 1
          · rw [if_pos k5] at hf
            cases hf
          · rw [if_neg k5] at hf
            by_cases k6 : rd l (i1 + 1 : Nat) = 125
            · rw [if_pos k6] at hf
              injection hf with e1 e2
              subst e1; subst e2
              exact br_6 h hl hi hd (Nat.lt_of_not_le k1) (by simpa using ks) k3 (Classical.byContradiction k4) (Nat.lt_of_not_le k5) k6
            · rw [if_neg k6] at hf
              obtain ⟨⟨high, so2, i2⟩, hd2⟩ : ∃ z, digitsF l (i1 + 1) = z := ⟨_, rfl⟩
              rw [hd2] at hf
              dsimp only at hf
              by_cases k7 : l.length ≤ i2
              · rw [if_pos k7] at hf
                cases hf
              · rw [if_neg k7] at hf
                by_cases ks2 : so2 = false
                · rw [if_pos ks2] at hf
                  injection hf with e1 e2
                  subst e1; subst e2
                  exact br_8 h hl hi hd (Nat.lt_of_not_le k1) (by simpa using ks) k3 (Classical.byContradiction k4) (Nat.lt_of_not_le k5) k6 hd2 (Nat.lt_of_not_le k7) ks2
                · rw [if_neg ks2] at hf
                  by_cases k9 : rd l (i2 : Nat) ≠ 125
                  · rw [if_pos k9] at hf
                    injection hf with e1 e2
                    subst e1; subst e2
                    exact br_9 h hl hi hd (Nat.lt_of_not_le k1) (by simpa using ks) k3 (Classical.byContradiction k4) (Nat.lt_of_not_le k5) k6 hd2 (Nat.lt_of_not_le k7) (by simpa using ks2) k9
                  · rw [if_neg k9] at hf
                    by_cases kl : 0 ≤ low
                    · rw [show decide (0 ≤ low) = true from decide_eq_true kl, Bool.true_and] at hf
                      injection hf with e1 e2
                      subst e1; subst e2
                      exact br_10 h hl hi hd (Nat.lt_of_not_le k1) (by simpa using ks) k3 (Classical.byContradiction k4) (Nat.lt_of_not_le k5) k6 hd2 (Nat.lt_of_not_le k7) (by simpa using ks2) (Classical.byContradiction k9) kl
                    · rw [show decide (0 ≤ low) = false from decide_eq_false kl, Bool.false_and] at hf
                      injection hf with e1 e2
                      subst e1; subst e2
                      exact br_11 h hl hi hd (Nat.lt_of_not_le k1) (by simpa using ks) k3 (Classical.byContradiction k4) (Nat.lt_of_not_le k5) k6 hd2 (Nat.lt_of_not_le k7) (by simpa using ks2) (Classical.byContradiction k9) kl
theorem braces_bad (h : Tok w0 g A c l i tv w) (hl : l.length ≤ 1000000) (hi : i ≤ l.length) {a e : Int} (hf : bracesF l i = .bad a e) :
    Calls Tryz.prog 80 #[.pointer (some ⟨g, 0, none⟩)] w (TokBad w0 a e) := by
  obtain ⟨⟨low, so, i1⟩, hd⟩ : ∃ z, digitsF l i = z := ⟨_, rfl⟩
  unfold bracesF at hf
  rw [hd] at hf
  dsimp only at hf
  by_cases k1 : l.length ≤ i1
  · rw [if_pos k1] at hf
    injection hf with e1 e2
    subst e1; subst e2
    exact br_1 h hl hi hd k1
  · rw [if_neg k1] at hf
    by_cases ks : so = false
    · rw [if_pos ks] at hf
      cases hf
    · rw [if_neg ks] at hf
      by_cases k3 : rd l (i1 : Nat) = 125
      · rw [if_pos k3] at hf
        cases hf
      · rw [if_neg k3] at hf
        by_cases k4 : rd l (i1 : Nat) ≠ 44
        · rw [if_pos k4] at hf
          cases hf
        · rw [if_neg k4] at hf
          by_cases k5 : l.length ≤ i1 + 1
          · rw [if_pos k5] at hf
            injection hf with e1 e2
            subst e1; subst e2
            exact br_5 h hl hi hd (Nat.lt_of_not_le k1) (by simpa using ks) k3 (Classical.byContradiction k4) k5
          · rw [if_neg k5] at hf
            by_cases k6 : rd l (i1 + 1 : Nat) = 125
            · rw [if_pos k6] at hf
              cases hf
            · rw [if_neg k6] at hf
              obtain ⟨⟨high, so2, i2⟩, hd2⟩ : ∃ z, digitsF l (i1 + 1) = z := ⟨_, rfl⟩
              rw [hd2] at hf
              dsimp only at hf
              by_cases k7 : l.length ≤ i2
              · rw [if_pos k7] at hf
                injection hf with e1 e2
                subst e1; subst e2
                exact br_7 h hl hi hd (Nat.lt_of_not_le k1) (by simpa using ks) k3 (Classical.byContradiction k4) (Nat.lt_of_not_le k5) k6 hd2 k7
              · rw [if_neg k7] at hf
                by_cases ks2 : so2 = false
                · rw [if_pos ks2] at hf
                  cases hf
                · rw [if_neg ks2] at hf
                  by_cases k9 : rd l (i2 : Nat) ≠ 125
                  · rw [if_pos k9] at hf
                    cases hf
                  · rw [if_neg k9] at hf
                    by_cases kl : 0 ≤ low
                    · rw [show decide (0 ≤ low) = true from decide_eq_true kl, Bool.true_and] at hf
                      cases hf
                    · rw [show decide (0 ≤ low) = false from decide_eq_false kl, Bool.false_and] at hf
                      cases hf
theorem bracesF_le (hi : i ≤ l.length) {a : Int × Int × Bool} {j : Nat} (hf : bracesF l i = .ok a j) : i ≤ j ∧ j ≤ l.length := by
  have h1 := digitsF_le l i hi
  obtain ⟨⟨low, so, i1⟩, hd⟩ : ∃ z, digitsF l i = z := ⟨_, rfl⟩
  have h2 := fun h => digitsF_le l (i1 + 1) h
  unfold bracesF at hf
  rw [hd] at hf h1
  dsimp only at hf h1
  repeat' split at hf
  all_goals first
    | (cases hf; done)
    | (injection hf with _ e; have h3 := h2 (by omega); dsimp only at h3; omega)
    | (injection hf with _ e; omega)
end
end Go.Proofs.YtglolcejfbhbdaaGreat.P
end
section
namespace Go.Proofs.YtglolcejfbhbdaaGreat.P
open Go.RowKit Go.Shelf Go.Proofs.YtglolcejfbhbdaaGreatW.PrintWords Go.Proofs.YtglolcejfbhbdaaGreatW.PrintLast Go.Proofs.YtglolcejfbhbdaaGreatW.PrintMore
set_option linter.unusedVariables false
set_option linter.unusedSimpArgs false
section
variable {w0 : World} {g : Nat} {A : Option Addr} {c : Nat} {l : List Int} {i : Nat} {tv : Value} {w : World}
structure TokPut (w0 : World) (g : Nat) (A : Option Addr) (c : Nat) (l : List Int) (i : Nat) (ts : List S68) (e : Ending) (w : World) : Prop where
  ret : e = .returned (.tuple #[])
  st : ∃ tv, Tok w0 g A c l i tv w ∧ Kd.R k68 68 w w0.heap.size (fun k => k ≠ g) tv ts
theorem Tok.set2 (h : Tok w0 g A c l i tv w) (v : Value) : Tok w0 g A c l i v (w.setCell ⟨g, 2, none⟩ v) := by
  obtain ⟨h1, h2, h3, h4⟩ := h
  exact ⟨h1.setCell h2 _, h2, h3, by simpa using blk_set h4 2 v⟩
theorem ownsRow_inj {w : World} {b b' : Nat} {e e' : TypeId} {s n : Nat} {v : Value} {xs ys : List Value} (h1 : w.ownsRow b e s v n xs) (h2 : w.ownsRow b' e' s v n ys) : xs = ys := by
  obtain ⟨l1, h1⟩ := h1
  obtain ⟨l2, h2⟩ := h2
  rcases h1 with ⟨rfl, rfl⟩ | ⟨g, cap, cur, rfl, _, hh, _, _, _, ht⟩
  · rw [Nat.zero_mul] at l1 l2
    rw [List.length_eq_zero_iff.1 l1, List.length_eq_zero_iff.1 l2]
  · rcases h2 with ⟨hx, _⟩ | ⟨g', cap', cur', hx, _, hh', _, _, _, ht'⟩
    · cases hx
    · injection hx with hx _ _
      injection hx with hx
      injection hx with hx
      subst hx
      rw [hh] at hh'
      injection hh' with hh'
      injection hh' with hh' _
      subst hh'
      rw [← ht, ← ht']
theorem two_new (w : World) (X Y : Obj) : (((w.alloc X).alloc Y).drew).heap[w.heap.size + 1]? = some Y := by
  have := blk_new (w.alloc X) Y
  rw [World.size_alloc] at this
  exact this
def cs68 (t : S68) : List Value := [.int .i64 t.f0, .int .i64 t.f1, .int .i64 t.f2, .int .i64 t.f3, .int .i64 t.f4]
def PutQ (w0 : World) (g : Nat) (A : Option Addr) (c : Nat) (l : List Int) (i : Nat) (ts : List S68) (t : S68) (v1 : Value) (w1 : World) : Prop := Tok w0 g A c l i v1 (w1.setCell ⟨g, 2, none⟩ v1) ∧ Kd.R k68 68 (w1.setCell ⟨g, 2, none⟩ v1) w0.heap.size (fun k => k ≠ g) v1 (ts ++ [t])
set_option maxRecDepth 100000 in
set_option maxHeartbeats 2000000 in
theorem put_ok (h : Tok w0 g A c l i tv w) {ts : List S68} (hR : Kd.R k68 68 w w0.heap.size (fun k => k ≠ g) tv ts) (hlen : ts.length < 1000000) (t : S68) :
    Calls Tryz.prog 79 #[.pointer (some ⟨g, 0, none⟩), tokV t] w (TokPut w0 g A c l i (ts ++ [t])) := by
  have HT := Aside0.mk h
  have HR := Aside0.mk hR
  obtain ⟨hc2, hf2⟩ := h.cell2
  have hglt : g < w.heap.size := blk_lt h.blk
  have hr0 := hR
  obtain ⟨hok, inner, hown, hreps⟩ := hR
  have HOWN := Aside0.mk hown
  have HREPS := Aside0.mk hreps
  have HOK := Aside0.mk hok
  have hsz : w0.heap.size ≤ w.heap.size := HT.out.below.size
  have hinfo : (Tryz.prog.info? 68).map (fun i => (i.zero, i.size, i.bytes)) = some (some (.agg #[(.int .i64 0), (.int .i64 0), (.int .i64 0), (.int .i64 0), (.int .i64 0)]), 5, 40) := by kernel_rfl
  obtain ⟨i68, hi68, hz68⟩ := Option.map_eq_some_iff.1 hinfo
  simp only [Prod.mk.injEq] at hz68
  obtain ⟨hz0, hz1, hz2⟩ := hz68
  have HI := Aside0.mk hi68
  have HZ0 := Aside0.mk hz0
  have HZ1 := Aside0.mk hz1
  have HZ2 := Aside0.mk hz2
  have hml : ts.length + 1 ≤ maxLen := by simp only [maxLen]; omega
  have HQ : ∀ (W w1 : World) (gg cap : Nat), Below w.heap.size w W → w1.ownsRow w0.heap.size 68 5 (.slice (some ⟨gg, 0, none⟩) (ts.length + 1) cap) (ts.length + 1) (inner ++ cs68 t) → W.grownBy w1 tv.ownBlock → (tv.ownBlock = some gg ∨ gg = W.heap.size) → PutQ w0 g A c l i ts t (.slice (some ⟨gg, 0, none⟩) (ts.length + 1) cap) w1 := by
    intro W w1 gg cap hbW ho1 hg1 hat1
    have hWsz : w.heap.size ≤ W.heap.size := hbW.size
    have hbl : w1.heap[g]? = some (.cells #[.slice A l.length c, .int .i64 (i : Int), tv] 87 (0, 0)) := by
      refine blk_grown (blk_below HT.out.blk hbW) hg1 ?_
      intro e
      exact HOK.out g e.symm rfl
    have hRW : Kd.R k68 68 W w0.heap.size (fun k => k ≠ g) tv ts := Kd.R_below HR.out hbW
    have hB1 : Below w0.heap.size w0 w1 := (HT.out.below.trans (hbW.mono hsz)).grown hg1 (by omega) (own_base HOWN.out)
    have hR1 : Kd.R k68 68 w1 w0.heap.size (fun k => k ≠ g) (.slice (some ⟨gg, 0, none⟩) (ts.length + 1) cap) (ts ++ [t]) := by
      obtain ⟨hok', inner', hown', hreps'⟩ := hRW
      have hin : inner' = inner := by
        have e1 := hown'
        have e2 := pw_own_below HOWN.out hbW
        exact ownsRow_inj e1 e2
      subst hin
      refine Kd.R_appended (d := k68) (W := W) (v := tv) (p := t) (cs := cs68 t) (okp := fun _ => False) hok' hreps' (k68_mkM _ _ _ t) (fun _ hk => hk.elim) (fun k hk => ?_) ho1 hg1 ?_
      · omega
      · rcases hat1 with h1 | h1
        · exact .inl h1.symm
        · exact .inr ⟨gg, rfl, by omega⟩
    refine ⟨?_, Kd.R_far (p := ⟨g, 2, none⟩) hR1 (fun k hk => hk) _⟩
    exact (show Tok w0 g A c l i tv w1 from ⟨hB1, HT.out.ge, HT.out.reads, hbl⟩).set2 _
  have HC : ∀ (W w1 : World), Below w.heap.size w W → W.grownBy w1 tv.ownBlock → w1.cell? ⟨g, 2, none⟩ = some tv ∧ w1.frozen? ⟨g, 2, none⟩ = false := by
    intro W w1 hbW hg1
    have hbl := blk_grown (blk_below HT.out.blk hbW) hg1 (fun e => HOK.out g e.symm rfl)
    exact ⟨by simpa using blk_cell hbl 2, blk_frozen hbl 2⟩
  have HC' := Aside0.mk HC
  clear HC
  have HQ' := Aside0.mk HQ
  clear h hr0 hown hreps hinfo hi68 hz0 hz1 hz2 HQ hok
  unfold tokV
  go_enter Tryz.func79, Tryz.ntmps79
  go_wp2
  go_region_law ((refine step_append_lies _ rfl (.tmp 8) (.tmp 10) 57 rfl w0.heap.size 68 i68 _ 5 40 Tryz.underlying57 HI.out HZ0.out HZ1.out HZ2.out rfl (by decide) tv ts.length inner (by simp [Act.eval, Act.put]) ((HOWN.out.alloc _).alloc _) ⟨w.heap.size + 1, 0, none⟩ 1 1 (cs68 t) (by simp [Act.eval, Act.put]) rfl (World.news_of_block (B := w.heap.size + 1) (cs := (cs68 t).toArray) (t := 68) (fr := (0, 0)) (two_new _ _ _)) (by simp [cs68, Value.oneCell']) (by decide) hml (by omega) (by simp; omega) (w.heap.size + 2) (by simp) ?_; intro gg cap w1 ho1 hg1 hat1 hlt1); (obtain ⟨hcc, hff⟩ := HC'.out _ w1 (below_drew (below_alloc (below_alloc (Below.refl _ _) _) _)) hg1))
  all_goals
    refine bodyPost_end (v := .tuple #[]) (by simp [results, Tryz.results79]) rfl ?_
    obtain ⟨q1, q2⟩ := HQ'.out _ w1 gg cap (below_drew (below_alloc (below_alloc (Below.refl _ _) _) _)) ho1 hg1 (hat1.imp id (fun h => by rw [h]; simp))
    exact ⟨rfl, _, q1, q2⟩
end
end Go.Proofs.YtglolcejfbhbdaaGreat.P
end
section
namespace Go.Proofs.YtglolcejfbhbdaaGreat.P
open Go.RowKit Go.Shelf Go.Proofs.YtglolcejfbhbdaaGreatW.PrintWords Go.Proofs.YtglolcejfbhbdaaGreatW.PrintLast Go.Proofs.YtglolcejfbhbdaaGreatW.PrintMore
set_option linter.unusedVariables false
set_option linter.unusedSimpArgs false
section
variable {w0 : World} {g : Nat} {A : Option Addr} {c : Nat} {l : List Int} {i : Nat} {tv : Value} {w : World}
def lazyAt (l : List Int) (i : Nat) : Prop := i < l.length ∧ rd l (i : Nat) = 63
instance (l : List Int) (i : Nat) : Decidable (lazyAt l i) := by unfold lazyAt; infer_instance
def repF (l : List Int) (i : Nat) (ts : List S68) (at_ low high : Int) : Nat × List S68 :=
  if lazyAt l i then (i + 1, ts ++ [⟨6, 0, low, high, at_⟩] ++ [⟨13, 0, 0, 0, (i : Int)⟩]) else (i, ts ++ [⟨6, 0, low, high, at_⟩])
set_option maxRecDepth 100000 in
theorem repeat_ok (h : Tok w0 g A c l i tv w) {ts : List S68} (hR : Kd.R k68 68 w w0.heap.size (fun k => k ≠ g) tv ts) (hl : l.length ≤ 1000000) (hlen : ts.length + 2 < 1000000) (at_ low high : Int) :
    Calls Tryz.prog 81 #[.pointer (some ⟨g, 0, none⟩), .int .i64 at_, .int .i64 low, .int .i64 high] w (TokPut w0 g A c l (repF l i ts at_ low high).1 (repF l i ts at_ low high).2) := by
  have HT := Aside0.mk h
  have HR := Aside0.mk hR
  have hput := put_ok h hR (by omega) ⟨6, 0, low, high, at_⟩
  unfold tokV at hput
  dsimp only at hput
  by_cases hz : lazyAt l i
  · have HF := Aside0.mk (show repF l i ts at_ low high = (i + 1, ts ++ [⟨6, 0, low, high, at_⟩] ++ [⟨13, 0, 0, 0, (i : Int)⟩]) by unfold repF; rw [if_pos hz])
    have hyes := fun tv W (hW : Tok w0 g A c l i tv W) => is_yes (w := W) hW hl 63 hz.1 hz.2
    have hput2 := fun tv W (hW : Tok w0 g A c l (i + 1) tv W) hRW => put_ok (ts := ts ++ [⟨6, 0, low, high, at_⟩]) (w := W) hW hRW (by simp; omega) ⟨13, 0, 0, 0, (i : Int)⟩
    unfold tokV at hput2
    dsimp only at hput2
    clear h hR hz hl
    go_enter Tryz.func81, Tryz.ntmps81
    go_wp2_with fail
    refine hput.mono ?_
    rintro e w1 ⟨rfl, tv1, hst, hr1⟩
    obtain ⟨hc0, hc1, hf1⟩ := hst.cells
    have HS := Aside0.mk hst
    have HR1 := Aside0.mk hr1
    clear hst hr1 hput
    go_wp2_with fail
    refine (hyes _ _ HS.out).mono ?_
    rintro e w2 ⟨rfl, hst, hk⟩
    have HS2 := Aside0.mk hst
    have HK := Aside0.mk hk
    clear hst hk hyes hc0 hc1 hf1
    go_wp2_with fail
    refine (hput2 _ _ HS2.out (Kd.R_keep HR1.out HK.out (fun k hk => hk))).mono ?_
    rintro e w3 ⟨rfl, tv3, hst, hr3⟩
    go_wp2
    go_end0
    rw [HF.out]
    exact ⟨rfl, tv3, hst, hr3⟩
  · have HF := Aside0.mk (show repF l i ts at_ low high = (i, ts ++ [⟨6, 0, low, high, at_⟩]) by unfold repF; rw [if_neg hz])
    have hno := fun tv W (hW : Tok w0 g A c l i tv W) => is_no (w := W) hW 63 (fun h1 h2 => hz ⟨h1, h2⟩)
    clear h hR hz hl
    go_enter Tryz.func81, Tryz.ntmps81
    go_wp2_with fail
    refine hput.mono ?_
    rintro e w1 ⟨rfl, tv1, hst, hr1⟩
    obtain ⟨hc0, hc1, hf1⟩ := hst.cells
    have HS := Aside0.mk hst
    have HR1 := Aside0.mk hr1
    clear hst hr1 hput
    go_wp2_with fail
    refine (hno _ _ HS.out).mono ?_
    rintro e w2 ⟨rfl, hst, hk⟩
    have HS2 := Aside0.mk hst
    have HK := Aside0.mk hk
    clear hst hk hno hc0 hc1 hf1
    go_wp2
    go_end0
    rw [HF.out]
    exact ⟨rfl, _, HS2.out, Kd.R_keep HR1.out HK.out (fun k hk => hk)⟩
end
def jumpN (J : Nat → Act → World → Prop) (Q : Exit → Act → World → Prop) : Exit → Act → World → Prop
  | .goto l', a, w => J l' a w
  | e, a, w => Q e a w
theorem wp_scope_labels {P : Program} {a : Act} {w : World} {Q : Exit → Act → World → Prop} {c : Code} (rest : Nat → Code) (J : Nat → Nat → Act → World → Prop)
    (hf : ∀ l n a w, J l n a w → findLabel c l = some (rest l)) (first : c.wp P (jumpN (fun l a w => ∃ n, J l n a w) Q) a w)
    (pass : ∀ l n a w, J l n a w → (rest l).wp P (jumpN (fun l' a' w' => ∃ m, m < n ∧ J l' m a' w') Q) a w) : (Code.scope c).wp P Q a w := by
  intro b k cs
  have hg : ∀ l n a w, J l n a w → gotoIn l (.inScope c :: k) = some (.code (rest l) :: .inScope c :: k) := fun l n a w h => by simp [gotoIn, hf l n a w h]
  have key : ∀ n l a w, J l n a w → ∃ e a' w', Q e a' w' ∧ Arrives P (lone (b.at a (.code (rest l) :: .inScope c :: k)) cs w) b k cs e a' w' := by
    intro n
    induction n using Nat.strongRecOn with
    | _ n ih =>
      intro l a w hJ
      obtain ⟨e, a₁, w₁, hq, harr⟩ := pass l n a w hJ b (.inScope c :: k) cs
      cases e with
      | normal => exact ⟨.normal, a₁, w₁, hq, Steps.trans harr (.one step_inScope)⟩
      | exit id => exact ⟨.exit id, a₁, w₁, hq, fun k' hk => harr k' (by simp [exitTo, hk])⟩
      | goto l' =>
        obtain ⟨m, hm, hJ'⟩ := hq
        obtain ⟨e₂, a₂, w₂, hq₂, harr₂⟩ := ih m hm l' a₁ w₁ hJ'
        exact ⟨e₂, a₂, w₂, hq₂, .of_steps (harr _ (hg _ _ _ _ hJ')) harr₂⟩
      | ret => exact ⟨_, a₁, w₁, hq, harr⟩
      | panic ch => exact ⟨_, a₁, w₁, hq, harr⟩
      | outgrown => exact ⟨_, a₁, w₁, hq, harr⟩
  obtain ⟨e, a₁, w₁, hq, harr⟩ := first b (.inScope c :: k) cs
  cases e with
  | normal => exact ⟨.normal, a₁, w₁, hq, .head step_scope (Steps.trans harr (.one step_inScope))⟩
  | exit id => exact ⟨.exit id, a₁, w₁, hq, fun k' hk => .head step_scope (harr k' (by simp [exitTo, hk]))⟩
  | goto l' =>
    obtain ⟨n, hJ'⟩ := hq
    obtain ⟨e₂, a₂, w₂, hq₂, harr₂⟩ := key _ _ a₁ w₁ hJ'
    exact ⟨e₂, a₂, w₂, hq₂, .of_steps (.head step_scope (harr _ (hg _ _ _ _ hJ'))) harr₂⟩
  | ret => exact ⟨_, a₁, w₁, hq, .of_steps (.one step_scope) harr⟩
  | panic ch => exact ⟨_, a₁, w₁, hq, .of_steps (.one step_scope) harr⟩
  | outgrown => exact ⟨_, a₁, w₁, hq, .of_steps (.one step_scope) harr⟩
end Go.Proofs.YtglolcejfbhbdaaGreat.P
end
section
namespace Go.Proofs.YtglolcejfbhbdaaGreat.P
open Go.RowKit Go.Shelf Go.Proofs.YtglolcejfbhbdaaGreatW.PrintWords Go.Proofs.YtglolcejfbhbdaaGreatW.PrintLast Go.Proofs.YtglolcejfbhbdaaGreatW.PrintMore
set_option linter.unusedVariables false
set_option linter.unusedSimpArgs false
section
variable {w0 : World} {g : Nat} {A : Option Addr} {c : Nat} {l : List Int} {i : Nat} {tv : Value} {w : World}
set_option maxRecDepth 100000 in
def fr150 (p : Value) (u : Nat → Value) : Array Value := #[p, u 1, u 2, u 3, u 4, u 5, u 6, u 7, u 8, u 9, u 10, u 11, u 12, u 13, u 14, u 15, u 16, u 17, u 18, u 19, u 20, u 21, u 22, u 23, u 24, u 25, u 26, u 27, u 28, u 29, u 30, u 31, u 32, u 33, u 34, u 35, u 36, u 37, u 38, u 39, u 40, u 41, u 42, u 43, u 44, u 45, u 46, u 47, u 48, u 49, u 50, u 51, u 52, u 53, u 54, u 55, u 56, u 57, u 58, u 59, u 60, u 61, u 62, u 63, u 64, u 65, u 66, u 67, u 68, u 69, u 70, u 71, u 72, u 73, u 74, u 75, u 76, u 77, u 78, u 79, u 80, u 81, u 82, u 83, u 84, u 85, u 86, u 87, u 88, u 89, u 90, u 91, u 92, u 93, u 94, u 95, u 96, u 97, u 98, u 99, u 100, u 101, u 102, u 103, u 104, u 105, u 106, u 107, u 108, u 109, u 110, u 111, u 112, u 113, u 114, u 115, u 116, u 117, u 118, u 119, u 120, u 121, u 122, u 123, u 124, u 125, u 126, u 127, u 128, u 129, u 130, u 131, u 132, u 133, u 134, u 135, u 136, u 137, u 138, u 139, u 140, u 141, u 142, u 143, u 144, u 145, u 146, u 147, u 148, u 149]
set_option maxRecDepth 100000 in
theorem fr150_of (A : Array Value) (h : A.size = 150) : A = fr150 (A.getD 0 undef) (fun n => A.getD n undef) := by
  apply Array.ext
  · rw [h]; rfl
  · intro j h1 h2
    rw [h] at h1
    have h3 : ∀ j, j < 150 → (fr150 (A.getD 0 undef) (fun n => A.getD n undef)).getD j undef = A.getD j undef := by
      intro j hj
      iterate 150 (rcases j with _ | j; · rfl)
      omega
    have := h3 j h1
    generalize fr150 (A.getD 0 undef) (fun n => A.getD n undef) = B at this h2 ⊢
    simp only [Array.getD_eq_getD_getElem?] at this
    rw [Array.getElem?_eq_getElem h2, Array.getElem?_eq_getElem (by omega)] at this
    exact this.symm
inductive RS where
  | go (cls : Bool) (i : Nat) (ts : List S68)
  | done
  | bad (at_ er : Int)
def outStep (l : List Int) (i : Nat) (ts : List S68) : RS :=
  if l.length ≤ i then .done
  else
    let c := rd l (i : Nat)
    if c = 91 then (if i + 1 < l.length ∧ rd l (i + 1 : Nat) = 94 then .go true (i + 2) (ts ++ [⟨7, 1, 0, 0, (i : Int)⟩]) else .go true (i + 1) (ts ++ [⟨7, 0, 0, 0, (i : Int)⟩]))
    else if c = 123 then
      (match bracesF l (i + 1) with
      | .bad a e => .bad a e
      | .ok a j => if a.2.2 = false then .bad i 8 else .go false (repF l j ts i a.1 a.2.1).1 (repF l j ts i a.1 a.2.1).2)
    else if c = 63 then .go false (repF l (i + 1) ts i 0 1).1 (repF l (i + 1) ts i 0 1).2
    else if c = 42 then .go false (repF l (i + 1) ts i 0 (-1)).1 (repF l (i + 1) ts i 0 (-1)).2
    else if c = 43 then .go false (repF l (i + 1) ts i 1 (-1)).1 (repF l (i + 1) ts i 1 (-1)).2
    else if c = 46 then .go false (i + 1) (ts ++ [⟨2, 0, 0, 0, (i : Int)⟩])
    else if c = 40 then .go false (i + 1) (ts ++ [⟨3, 0, 0, 0, (i : Int)⟩])
    else if c = 41 then .go false (i + 1) (ts ++ [⟨4, 0, 0, 0, (i : Int)⟩])
    else if c = 124 then .go false (i + 1) (ts ++ [⟨5, 0, 0, 0, (i : Int)⟩])
    else if c = 94 then .go false (i + 1) (ts ++ [⟨10, 0, 0, 0, (i : Int)⟩])
    else if c = 36 then .go false (i + 1) (ts ++ [⟨11, 0, 0, 0, (i : Int)⟩])
    else
      match singleF l i with
      | .bad a e => .bad a e
      | .ok t j => .go false j (ts ++ [t])
def classStep (l : List Int) (i : Nat) (ts : List S68) : RS :=
  if l.length ≤ i then .bad i 4
  else if rd l (i : Nat) = 93 then .go false (i + 1) (ts ++ [⟨8, 0, 0, 0, (i : Int)⟩])
  else
    match itemF l i with
    | .bad a e => .bad a e
    | .ok t j => .go true j (ts ++ [t])
inductive RO where
  | done (ts : List S68)
  | bad (at_ er : Int)
def readF (l : List Int) : Nat → Bool → Nat → List S68 → RO
  | 0, _, _, _ => .bad 0 0
  | k + 1, cls, i, ts =>
    match (if cls = true then classStep l i ts else outStep l i ts) with
    | .done => .done ts
    | .bad a e => .bad a e
    | .go cls' i' ts' => readF l k cls' i' ts'
structure ReadOk (w0 : World) (g : Nat) (A : Option Addr) (c : Nat) (l : List Int) (ts : List S68) (e : Ending) (w : World) : Prop where
  ret : e = .returned (.tuple #[])
  st : ∃ i tv, Tok w0 g A c l i tv w ∧ Kd.R k68 68 w w0.heap.size (fun k => k ≠ g) tv ts
def ReadPost (w0 : World) (g : Nat) (A : Option Addr) (c : Nat) (l : List Int) : RO → Ending → World → Prop
  | .done ts => ReadOk w0 g A c l ts
  | .bad a e => TokBad w0 a e
def ReadJ (w0 : World) (g : Nat) (A : Option Addr) (c : Nat) (l : List Int) (r : RO) (lab k : Nat) (a : Act) (w : World) : Prop :=
  lab < 2 ∧ a.defers = [] ∧ a.tmps.size = 150 ∧ a.tmps.getD 0 undef = .pointer (some ⟨g, 0, none⟩) ∧
    ∃ (i : Nat) (tv : Value) (ts : List S68), Tok w0 g A c l i tv w ∧ Kd.R k68 68 w w0.heap.size (fun k => k ≠ g) tv ts ∧ i ≤ l.length ∧ ts.length ≤ i ∧ l.length - i < k ∧ readF l k (lab == 1) i ts = r
theorem repF_len {ts : List S68} {a b d : Int} : i ≤ (repF l i ts a b d).1 ∧ (repF l i ts a b d).2.length + i = ts.length + 1 + (repF l i ts a b d).1 ∧ (i ≤ l.length → (repF l i ts a b d).1 ≤ l.length) := by
  unfold repF
  by_cases h : lazyAt l i
  · rw [if_pos h]
    have := h.1
    simp
    omega
  · rw [if_neg h]
    simp
theorem outStep_go {ts ts' : List S68} {cls : Bool} {j : Nat} (h : outStep l i ts = .go cls j ts') (ht : ts.length ≤ i) : i < j ∧ j ≤ l.length ∧ ts'.length ≤ j := by
  unfold outStep at h
  have r1 := fun (a b d : Int) => @repF_len l (i + 1) ts a b d
  by_cases h0 : l.length ≤ i
  · rw [if_pos h0] at h; cases h
  · rw [if_neg h0] at h
    dsimp only at h
    by_cases c91 : rd l (i : Nat) = 91
    · rw [if_pos c91] at h
      by_cases c0 : i + 1 < l.length ∧ rd l (i + 1 : Nat) = 94
      · rw [if_pos c0] at h; injection h with e1 e2 e3; subst e2; subst e3; rw [List.length_append]; exact ⟨by omega, by omega, by simp; omega⟩
      · rw [if_neg c0] at h; injection h with e1 e2 e3; subst e2; subst e3; rw [List.length_append]; exact ⟨by omega, by omega, by simp; omega⟩
    rw [if_neg c91] at h
    by_cases c123 : rd l (i : Nat) = 123
    · rw [if_pos c123] at h
      cases hb : bracesF l (i + 1) with
      | bad a e => rw [hb] at h; cases h
      | ok a m =>
        rw [hb] at h
        dsimp only at h
        by_cases c0 : a.2.2 = false
        · rw [if_pos c0] at h; cases h
        · rw [if_neg c0] at h
          injection h with e1 e2 e3
          subst e2; subst e3
          have z1 := bracesF_le (by omega) hb
          have z2 := @repF_len l m ts i a.1 a.2.1
          omega
    rw [if_neg c123] at h
    by_cases c63 : rd l (i : Nat) = 63
    · rw [if_pos c63] at h
      injection h with e1 e2 e3; subst e2; subst e3
      have z2 := r1 i 0 1
      omega
    rw [if_neg c63] at h
    by_cases c42 : rd l (i : Nat) = 42
    · rw [if_pos c42] at h
      injection h with e1 e2 e3; subst e2; subst e3
      have z2 := r1 i 0 (-1)
      omega
    rw [if_neg c42] at h
    by_cases c43 : rd l (i : Nat) = 43
    · rw [if_pos c43] at h
      injection h with e1 e2 e3; subst e2; subst e3
      have z2 := r1 i 1 (-1)
      omega
    rw [if_neg c43] at h
    by_cases c46 : rd l (i : Nat) = 46
    · rw [if_pos c46] at h
      injection h with e1 e2 e3; subst e2; subst e3; rw [List.length_append]; exact ⟨by omega, by omega, by simp; omega⟩
    rw [if_neg c46] at h
    by_cases c40 : rd l (i : Nat) = 40
    · rw [if_pos c40] at h
      injection h with e1 e2 e3; subst e2; subst e3; rw [List.length_append]; exact ⟨by omega, by omega, by simp; omega⟩
    rw [if_neg c40] at h
    by_cases c41 : rd l (i : Nat) = 41
    · rw [if_pos c41] at h
      injection h with e1 e2 e3; subst e2; subst e3; rw [List.length_append]; exact ⟨by omega, by omega, by simp; omega⟩
    rw [if_neg c41] at h
    by_cases c124 : rd l (i : Nat) = 124
    · rw [if_pos c124] at h
      injection h with e1 e2 e3; subst e2; subst e3; rw [List.length_append]; exact ⟨by omega, by omega, by simp; omega⟩
    rw [if_neg c124] at h
    by_cases c94 : rd l (i : Nat) = 94
    · rw [if_pos c94] at h
      injection h with e1 e2 e3; subst e2; subst e3; rw [List.length_append]; exact ⟨by omega, by omega, by simp; omega⟩
    rw [if_neg c94] at h
    by_cases c36 : rd l (i : Nat) = 36
    · rw [if_pos c36] at h
      injection h with e1 e2 e3; subst e2; subst e3; rw [List.length_append]; exact ⟨by omega, by omega, by simp; omega⟩
    rw [if_neg c36] at h
    cases hb : singleF l i with
    | bad a e => rw [hb] at h; cases h
    | ok t m =>
      rw [hb] at h
      injection h with e1 e2 e3
      subst e2; subst e3
      have z1 := singleF_le hb
      rw [List.length_append]
      exact ⟨by omega, by omega, by simp; omega⟩
theorem classStep_go {ts ts' : List S68} {cls : Bool} {j : Nat} (h : classStep l i ts = .go cls j ts') (ht : ts.length ≤ i) : i < j ∧ j ≤ l.length ∧ ts'.length ≤ j := by
  unfold classStep at h
  by_cases h0 : l.length ≤ i
  · rw [if_pos h0] at h; cases h
  · rw [if_neg h0] at h
    by_cases c0 : rd l (i : Nat) = 93
    · rw [if_pos c0] at h; injection h with e1 e2 e3; subst e2; subst e3; rw [List.length_append]; exact ⟨by omega, by omega, by simp; omega⟩
    · rw [if_neg c0] at h
      cases hb : itemF l i with
      | bad a e => rw [hb] at h; cases h
      | ok t m =>
        rw [hb] at h
        injection h with e1 e2 e3
        subst e2; subst e3
        have z1 := itemF_le hb
        rw [List.length_append]
        exact ⟨by omega, by omega, by simp; omega⟩
end
end Go.Proofs.YtglolcejfbhbdaaGreat.P
end
section
namespace Go.Proofs.YtglolcejfbhbdaaGreat.P
open Go.RowKit Go.Shelf Go.Proofs.YtglolcejfbhbdaaGreatW.PrintWords Go.Proofs.YtglolcejfbhbdaaGreatW.PrintLast Go.Proofs.YtglolcejfbhbdaaGreatW.PrintMore
set_option linter.unusedVariables false
set_option linter.unusedSimpArgs false
section
variable {w0 : World} {g : Nat} {A : Option Addr} {c : Nat} {l : List Int} {i : Nat} {tv : Value} {w : World}
noncomputable def restR (lab : Nat) : Code := match Tryz.f60.body with | some (.scope b) => (findLabel b lab).getD .skip | _ => .skip
noncomputable def restX (lab : Nat) : Code := match restR lab with | .seq _ x => x | x => x
theorem restR_0 : restR 0 = .seq .skip (restX 0) := rfl
theorem restR_1 : restR 1 = .seq .skip (restX 1) := rfl
set_option maxRecDepth 100000 in
set_option maxHeartbeats 2000000 in
theorem out_end (u : Nat → Value) {Q : Exit → Act → World → Prop} (h : Tok w0 g A c l i tv w) {ts : List S68} (hR : Kd.R k68 68 w w0.heap.size (fun k => k ≠ g) tv ts) (hl : l.length ≤ 1000000) (hlen : ts.length + 2 < 1000000) (hi : l.length ≤ i) (HG : ∀ (a' : Act) (w' : World), a'.defers = [] → TokPut w0 g A c l i ts (.returned (.tuple #[])) w' → Q .ret a' w') :
    (restX 0).wp Tryz.prog Q { tmps := fr150 (.pointer (some ⟨g, 0, none⟩)) u, defers := [] } w := by
  have HT := Aside0.mk h
  have HR := Aside0.mk hR
  have HGG := Aside0.mk HG
  obtain ⟨hc0, hc1, hf1⟩ := h.cells
  have b1 : decide ((l.length : Int) ≤ (i : Int)) = true := decide_eq_true (by omega)
  have b1' : (l.length : Int) ≤ (i : Int) := by omega
  clear h hR HG
  unfold restX restR Tryz.f60 fr150
  simp only [findLabel]
  go_wp2
  repeat (go_quiet (fail); try go_wp2)
  exact HGG.out _ _ rfl ⟨rfl, tv, HT.out, HR.out⟩
set_option maxRecDepth 100000 in
set_option maxHeartbeats 2000000 in
theorem out_46 (u : Nat → Value) {Q : Exit → Act → World → Prop} (h : Tok w0 g A c l i tv w) {ts : List S68} (hR : Kd.R k68 68 w w0.heap.size (fun k => k ≠ g) tv ts) (hl : l.length ≤ 1000000) (hlen : ts.length + 2 < 1000000) (hi : i < l.length) (hc : rd l (i : Nat) = 46) (HG : ∀ (a' : Act) (w' : World), a'.defers = [] → a'.tmps.size = 150 → a'.tmps.getD 0 undef = .pointer (some ⟨g, 0, none⟩) → TokPut w0 g A c l (i + 1) (ts ++ [⟨2, 0, 0, 0, (i : Int)⟩]) (.returned (.tuple #[])) w' → Q (.goto 0) a' w') :
    (restX 0).wp Tryz.prog Q { tmps := fr150 (.pointer (some ⟨g, 0, none⟩)) u, defers := [] } w := by
  have HT := Aside0.mk h
  have HR := Aside0.mk hR
  have HGG := Aside0.mk HG
  obtain ⟨hc0, hc1, hf1⟩ := h.cells
  have b1 : decide ((l.length : Int) ≤ (i : Int)) = false := decide_eq_false (by omega)
  have b1' : (i : Int) < (l.length : Int) := by omega
  obtain ⟨ad, e1, hx⟩ := Tok.charAt h hi
  cases e1
  rw [hc] at hx
  have wi : IntKind.i64.wrap ((i : Int) + 1) = (i : Int) + 1 := IntWalk.i64_in _ (by omega)
  have hput := fun W (hW : Tok w0 g (some ad) c l (i + 1) tv W) hRW => put_ok (ts := ts) (w := W) hW hRW (by omega) ⟨2, 0, 0, 0, (i : Int)⟩
  unfold tokV at hput
  dsimp only at hput
  have hix : ∀ W, Calls Tryz.prog 82 #[.string ⟨#[46, 40, 41, 124]⟩, .int .u8 46] W fun e w' => e = .returned (.int .i64 0) ∧ W = w' := fun W => indexByte_lift ⟨#[46, 40, 41, 124]⟩ 46 W
  clear hc
  clear h hR HG
  unfold restX restR Tryz.f60 fr150
  simp only [findLabel]
  go_wp2_with fail
  refine (hix _).mono ?_
  rintro e w1 ⟨rfl, rfl⟩
  go_wp2_with fail
  refine (hput _ (by first | exact HT.out.set1 (i + 1) | exact (HT.out.drewN _).set1 (i + 1)) (by first | exact Kd.R_far (p := ⟨g, 1, none⟩) HR.out (fun k hk => hk) _ | exact Kd.R_far (p := ⟨g, 1, none⟩) (Kd.R_below HR.out (pw_below_drewN (Below.refl _ _) _)) (fun k hk => hk) _)).mono ?_
  rintro e w2 ⟨rfl, hst⟩
  go_wp2
  go_step3
  refine HGG.out _ _ ?_ ?_ ?_ ⟨rfl, hst⟩
  · rfl
  · rfl
  · rfl
set_option maxRecDepth 100000 in
set_option maxHeartbeats 2000000 in
theorem out_40 (u : Nat → Value) {Q : Exit → Act → World → Prop} (h : Tok w0 g A c l i tv w) {ts : List S68} (hR : Kd.R k68 68 w w0.heap.size (fun k => k ≠ g) tv ts) (hl : l.length ≤ 1000000) (hlen : ts.length + 2 < 1000000) (hi : i < l.length) (hc : rd l (i : Nat) = 40) (HG : ∀ (a' : Act) (w' : World), a'.defers = [] → a'.tmps.size = 150 → a'.tmps.getD 0 undef = .pointer (some ⟨g, 0, none⟩) → TokPut w0 g A c l (i + 1) (ts ++ [⟨3, 0, 0, 0, (i : Int)⟩]) (.returned (.tuple #[])) w' → Q (.goto 0) a' w') :
    (restX 0).wp Tryz.prog Q { tmps := fr150 (.pointer (some ⟨g, 0, none⟩)) u, defers := [] } w := by
  have HT := Aside0.mk h
  have HR := Aside0.mk hR
  have HGG := Aside0.mk HG
  obtain ⟨hc0, hc1, hf1⟩ := h.cells
  have b1 : decide ((l.length : Int) ≤ (i : Int)) = false := decide_eq_false (by omega)
  have b1' : (i : Int) < (l.length : Int) := by omega
  obtain ⟨ad, e1, hx⟩ := Tok.charAt h hi
  cases e1
  rw [hc] at hx
  have wi : IntKind.i64.wrap ((i : Int) + 1) = (i : Int) + 1 := IntWalk.i64_in _ (by omega)
  have hput := fun W (hW : Tok w0 g (some ad) c l (i + 1) tv W) hRW => put_ok (ts := ts) (w := W) hW hRW (by omega) ⟨3, 0, 0, 0, (i : Int)⟩
  unfold tokV at hput
  dsimp only at hput
  have hix : ∀ W, Calls Tryz.prog 82 #[.string ⟨#[46, 40, 41, 124]⟩, .int .u8 40] W fun e w' => e = .returned (.int .i64 1) ∧ W = w' := fun W => indexByte_lift ⟨#[46, 40, 41, 124]⟩ 40 W
  clear hc
  clear h hR HG
  unfold restX restR Tryz.f60 fr150
  simp only [findLabel]
  go_wp2_with fail
  refine (hix _).mono ?_
  rintro e w1 ⟨rfl, rfl⟩
  go_wp2_with fail
  refine (hput _ (by first | exact HT.out.set1 (i + 1) | exact (HT.out.drewN _).set1 (i + 1)) (by first | exact Kd.R_far (p := ⟨g, 1, none⟩) HR.out (fun k hk => hk) _ | exact Kd.R_far (p := ⟨g, 1, none⟩) (Kd.R_below HR.out (pw_below_drewN (Below.refl _ _) _)) (fun k hk => hk) _)).mono ?_
  rintro e w2 ⟨rfl, hst⟩
  go_wp2
  go_step3
  refine HGG.out _ _ ?_ ?_ ?_ ⟨rfl, hst⟩
  · rfl
  · rfl
  · rfl
set_option maxRecDepth 100000 in
set_option maxHeartbeats 2000000 in
theorem out_41 (u : Nat → Value) {Q : Exit → Act → World → Prop} (h : Tok w0 g A c l i tv w) {ts : List S68} (hR : Kd.R k68 68 w w0.heap.size (fun k => k ≠ g) tv ts) (hl : l.length ≤ 1000000) (hlen : ts.length + 2 < 1000000) (hi : i < l.length) (hc : rd l (i : Nat) = 41) (HG : ∀ (a' : Act) (w' : World), a'.defers = [] → a'.tmps.size = 150 → a'.tmps.getD 0 undef = .pointer (some ⟨g, 0, none⟩) → TokPut w0 g A c l (i + 1) (ts ++ [⟨4, 0, 0, 0, (i : Int)⟩]) (.returned (.tuple #[])) w' → Q (.goto 0) a' w') :
    (restX 0).wp Tryz.prog Q { tmps := fr150 (.pointer (some ⟨g, 0, none⟩)) u, defers := [] } w := by
  have HT := Aside0.mk h
  have HR := Aside0.mk hR
  have HGG := Aside0.mk HG
  obtain ⟨hc0, hc1, hf1⟩ := h.cells
  have b1 : decide ((l.length : Int) ≤ (i : Int)) = false := decide_eq_false (by omega)
  have b1' : (i : Int) < (l.length : Int) := by omega
  obtain ⟨ad, e1, hx⟩ := Tok.charAt h hi
  cases e1
  rw [hc] at hx
  have wi : IntKind.i64.wrap ((i : Int) + 1) = (i : Int) + 1 := IntWalk.i64_in _ (by omega)
  have hput := fun W (hW : Tok w0 g (some ad) c l (i + 1) tv W) hRW => put_ok (ts := ts) (w := W) hW hRW (by omega) ⟨4, 0, 0, 0, (i : Int)⟩
  unfold tokV at hput
  dsimp only at hput
  have hix : ∀ W, Calls Tryz.prog 82 #[.string ⟨#[46, 40, 41, 124]⟩, .int .u8 41] W fun e w' => e = .returned (.int .i64 2) ∧ W = w' := fun W => indexByte_lift ⟨#[46, 40, 41, 124]⟩ 41 W
  clear hc
  clear h hR HG
  unfold restX restR Tryz.f60 fr150
  simp only [findLabel]
  go_wp2_with fail
  refine (hix _).mono ?_
  rintro e w1 ⟨rfl, rfl⟩
  go_wp2_with fail
  refine (hput _ (by first | exact HT.out.set1 (i + 1) | exact (HT.out.drewN _).set1 (i + 1)) (by first | exact Kd.R_far (p := ⟨g, 1, none⟩) HR.out (fun k hk => hk) _ | exact Kd.R_far (p := ⟨g, 1, none⟩) (Kd.R_below HR.out (pw_below_drewN (Below.refl _ _) _)) (fun k hk => hk) _)).mono ?_
  rintro e w2 ⟨rfl, hst⟩
  go_wp2
  go_step3
  refine HGG.out _ _ ?_ ?_ ?_ ⟨rfl, hst⟩
  · rfl
  · rfl
  · rfl
set_option maxRecDepth 100000 in
set_option maxHeartbeats 2000000 in
theorem out_124 (u : Nat → Value) {Q : Exit → Act → World → Prop} (h : Tok w0 g A c l i tv w) {ts : List S68} (hR : Kd.R k68 68 w w0.heap.size (fun k => k ≠ g) tv ts) (hl : l.length ≤ 1000000) (hlen : ts.length + 2 < 1000000) (hi : i < l.length) (hc : rd l (i : Nat) = 124) (HG : ∀ (a' : Act) (w' : World), a'.defers = [] → a'.tmps.size = 150 → a'.tmps.getD 0 undef = .pointer (some ⟨g, 0, none⟩) → TokPut w0 g A c l (i + 1) (ts ++ [⟨5, 0, 0, 0, (i : Int)⟩]) (.returned (.tuple #[])) w' → Q (.goto 0) a' w') :
    (restX 0).wp Tryz.prog Q { tmps := fr150 (.pointer (some ⟨g, 0, none⟩)) u, defers := [] } w := by
  have HT := Aside0.mk h
  have HR := Aside0.mk hR
  have HGG := Aside0.mk HG
  obtain ⟨hc0, hc1, hf1⟩ := h.cells
  have b1 : decide ((l.length : Int) ≤ (i : Int)) = false := decide_eq_false (by omega)
  have b1' : (i : Int) < (l.length : Int) := by omega
  obtain ⟨ad, e1, hx⟩ := Tok.charAt h hi
  cases e1
  rw [hc] at hx
  have wi : IntKind.i64.wrap ((i : Int) + 1) = (i : Int) + 1 := IntWalk.i64_in _ (by omega)
  have hput := fun W (hW : Tok w0 g (some ad) c l (i + 1) tv W) hRW => put_ok (ts := ts) (w := W) hW hRW (by omega) ⟨5, 0, 0, 0, (i : Int)⟩
  unfold tokV at hput
  dsimp only at hput
  have hix : ∀ W, Calls Tryz.prog 82 #[.string ⟨#[46, 40, 41, 124]⟩, .int .u8 124] W fun e w' => e = .returned (.int .i64 3) ∧ W = w' := fun W => indexByte_lift ⟨#[46, 40, 41, 124]⟩ 124 W
  clear hc
  clear h hR HG
  unfold restX restR Tryz.f60 fr150
  simp only [findLabel]
  go_wp2_with fail
  refine (hix _).mono ?_
  rintro e w1 ⟨rfl, rfl⟩
  go_wp2_with fail
  refine (hput _ (by first | exact HT.out.set1 (i + 1) | exact (HT.out.drewN _).set1 (i + 1)) (by first | exact Kd.R_far (p := ⟨g, 1, none⟩) HR.out (fun k hk => hk) _ | exact Kd.R_far (p := ⟨g, 1, none⟩) (Kd.R_below HR.out (pw_below_drewN (Below.refl _ _) _)) (fun k hk => hk) _)).mono ?_
  rintro e w2 ⟨rfl, hst⟩
  go_wp2
  go_step3
  refine HGG.out _ _ ?_ ?_ ?_ ⟨rfl, hst⟩
  · rfl
  · rfl
  · rfl
set_option maxRecDepth 100000 in
set_option maxHeartbeats 2000000 in
theorem out_94 (u : Nat → Value) {Q : Exit → Act → World → Prop} (h : Tok w0 g A c l i tv w) {ts : List S68} (hR : Kd.R k68 68 w w0.heap.size (fun k => k ≠ g) tv ts) (hl : l.length ≤ 1000000) (hlen : ts.length + 2 < 1000000) (hi : i < l.length) (hc : rd l (i : Nat) = 94) (HG : ∀ (a' : Act) (w' : World), a'.defers = [] → a'.tmps.size = 150 → a'.tmps.getD 0 undef = .pointer (some ⟨g, 0, none⟩) → TokPut w0 g A c l (i + 1) (ts ++ [⟨10, 0, 0, 0, (i : Int)⟩]) (.returned (.tuple #[])) w' → Q (.goto 0) a' w') :
    (restX 0).wp Tryz.prog Q { tmps := fr150 (.pointer (some ⟨g, 0, none⟩)) u, defers := [] } w := by
  have HT := Aside0.mk h
  have HR := Aside0.mk hR
  have HGG := Aside0.mk HG
  obtain ⟨hc0, hc1, hf1⟩ := h.cells
  have b1 : decide ((l.length : Int) ≤ (i : Int)) = false := decide_eq_false (by omega)
  have b1' : (i : Int) < (l.length : Int) := by omega
  obtain ⟨ad, e1, hx⟩ := Tok.charAt h hi
  cases e1
  rw [hc] at hx
  have wi : IntKind.i64.wrap ((i : Int) + 1) = (i : Int) + 1 := IntWalk.i64_in _ (by omega)
  have hput := fun W (hW : Tok w0 g (some ad) c l (i + 1) tv W) hRW => put_ok (ts := ts) (w := W) hW hRW (by omega) ⟨10, 0, 0, 0, (i : Int)⟩
  unfold tokV at hput
  dsimp only at hput
  have hix : ∀ W, Calls Tryz.prog 82 #[.string ⟨#[94, 36]⟩, .int .u8 94] W fun e w' => e = .returned (.int .i64 0) ∧ W = w' := fun W => indexByte_lift ⟨#[94, 36]⟩ 94 W
  clear hc
  clear h hR HG
  unfold restX restR Tryz.f60 fr150
  simp only [findLabel]
  go_wp2_with fail
  refine (hix _).mono ?_
  rintro e w1 ⟨rfl, rfl⟩
  go_wp2_with fail
  refine (hput _ (by first | exact HT.out.set1 (i + 1) | exact (HT.out.drewN _).set1 (i + 1)) (by first | exact Kd.R_far (p := ⟨g, 1, none⟩) HR.out (fun k hk => hk) _ | exact Kd.R_far (p := ⟨g, 1, none⟩) (Kd.R_below HR.out (pw_below_drewN (Below.refl _ _) _)) (fun k hk => hk) _)).mono ?_
  rintro e w2 ⟨rfl, hst⟩
  go_wp2
  go_step3
  refine HGG.out _ _ ?_ ?_ ?_ ⟨rfl, hst⟩
  · rfl
  · rfl
  · rfl
set_option maxRecDepth 100000 in
set_option maxHeartbeats 2000000 in
theorem out_36 (u : Nat → Value) {Q : Exit → Act → World → Prop} (h : Tok w0 g A c l i tv w) {ts : List S68} (hR : Kd.R k68 68 w w0.heap.size (fun k => k ≠ g) tv ts) (hl : l.length ≤ 1000000) (hlen : ts.length + 2 < 1000000) (hi : i < l.length) (hc : rd l (i : Nat) = 36) (HG : ∀ (a' : Act) (w' : World), a'.defers = [] → a'.tmps.size = 150 → a'.tmps.getD 0 undef = .pointer (some ⟨g, 0, none⟩) → TokPut w0 g A c l (i + 1) (ts ++ [⟨11, 0, 0, 0, (i : Int)⟩]) (.returned (.tuple #[])) w' → Q (.goto 0) a' w') :
    (restX 0).wp Tryz.prog Q { tmps := fr150 (.pointer (some ⟨g, 0, none⟩)) u, defers := [] } w := by
  have HT := Aside0.mk h
  have HR := Aside0.mk hR
  have HGG := Aside0.mk HG
  obtain ⟨hc0, hc1, hf1⟩ := h.cells
  have b1 : decide ((l.length : Int) ≤ (i : Int)) = false := decide_eq_false (by omega)
  have b1' : (i : Int) < (l.length : Int) := by omega
  obtain ⟨ad, e1, hx⟩ := Tok.charAt h hi
  cases e1
  rw [hc] at hx
  have wi : IntKind.i64.wrap ((i : Int) + 1) = (i : Int) + 1 := IntWalk.i64_in _ (by omega)
  have hput := fun W (hW : Tok w0 g (some ad) c l (i + 1) tv W) hRW => put_ok (ts := ts) (w := W) hW hRW (by omega) ⟨11, 0, 0, 0, (i : Int)⟩
  unfold tokV at hput
  dsimp only at hput
  have hix : ∀ W, Calls Tryz.prog 82 #[.string ⟨#[94, 36]⟩, .int .u8 36] W fun e w' => e = .returned (.int .i64 1) ∧ W = w' := fun W => indexByte_lift ⟨#[94, 36]⟩ 36 W
  clear hc
  clear h hR HG
  unfold restX restR Tryz.f60 fr150
  simp only [findLabel]
  go_wp2_with fail
  refine (hix _).mono ?_
  rintro e w1 ⟨rfl, rfl⟩
  go_wp2_with fail
  refine (hput _ (by first | exact HT.out.set1 (i + 1) | exact (HT.out.drewN _).set1 (i + 1)) (by first | exact Kd.R_far (p := ⟨g, 1, none⟩) HR.out (fun k hk => hk) _ | exact Kd.R_far (p := ⟨g, 1, none⟩) (Kd.R_below HR.out (pw_below_drewN (Below.refl _ _) _)) (fun k hk => hk) _)).mono ?_
  rintro e w2 ⟨rfl, hst⟩
  go_wp2
  go_step3
  refine HGG.out _ _ ?_ ?_ ?_ ⟨rfl, hst⟩
  · rfl
  · rfl
  · rfl
end
end Go.Proofs.YtglolcejfbhbdaaGreat.P
end
section
namespace Go.Proofs.YtglolcejfbhbdaaGreat.P
open Go.RowKit Go.Shelf Go.Proofs.YtglolcejfbhbdaaGreatW.PrintWords Go.Proofs.YtglolcejfbhbdaaGreatW.PrintLast Go.Proofs.YtglolcejfbhbdaaGreatW.PrintMore
set_option linter.unusedVariables false
set_option linter.unusedSimpArgs false
section
variable {w0 : World} {g : Nat} {A : Option Addr} {c : Nat} {l : List Int} {i : Nat} {tv : Value} {w : World}
set_option maxRecDepth 100000 in
set_option maxHeartbeats 2000000 in
theorem out_63 (u : Nat → Value) {Q : Exit → Act → World → Prop} (h : Tok w0 g A c l i tv w) {ts : List S68} (hR : Kd.R k68 68 w w0.heap.size (fun k => k ≠ g) tv ts) (hl : l.length ≤ 1000000) (hlen : ts.length + 2 < 1000000) (hi : i < l.length) (hc : rd l (i : Nat) = 63) (HG : ∀ (a' : Act) (w' : World), a'.defers = [] → a'.tmps.size = 150 → a'.tmps.getD 0 undef = .pointer (some ⟨g, 0, none⟩) → TokPut w0 g A c l (repF l (i + 1) ts i 0 1).1 (repF l (i + 1) ts i 0 1).2 (.returned (.tuple #[])) w' → Q (.goto 0) a' w') :
    (restX 0).wp Tryz.prog Q { tmps := fr150 (.pointer (some ⟨g, 0, none⟩)) u, defers := [] } w := by
  have HT := Aside0.mk h
  have HR := Aside0.mk hR
  have HGG := Aside0.mk HG
  obtain ⟨hc0, hc1, hf1⟩ := h.cells
  have b1 : decide ((l.length : Int) ≤ (i : Int)) = false := decide_eq_false (by omega)
  have b1' : (i : Int) < (l.length : Int) := by omega
  obtain ⟨ad, e1, hx⟩ := Tok.charAt h hi
  cases e1
  rw [hc] at hx
  have wi : IntKind.i64.wrap ((i : Int) + 1) = (i : Int) + 1 := IntWalk.i64_in _ (by omega)
  have hrep := fun W (hW : Tok w0 g (some ad) c l (i + 1) tv W) hRW => repeat_ok (ts := ts) (w := W) hW hRW hl hlen (i : Int) 0 1
  clear hc
  clear h hR HG
  unfold restX restR Tryz.f60 fr150
  simp only [findLabel]
  go_wp2_with fail
  refine (hrep _ (HT.out.set1 (i + 1)) (Kd.R_far (p := ⟨g, 1, none⟩) HR.out (fun k hk => hk) _)).mono ?_
  rintro e w2 ⟨rfl, hst⟩
  go_wp2
  go_step3
  refine HGG.out _ _ ?_ ?_ ?_ ⟨rfl, hst⟩
  · rfl
  · rfl
  · rfl
set_option maxRecDepth 100000 in
set_option maxHeartbeats 2000000 in
theorem out_42 (u : Nat → Value) {Q : Exit → Act → World → Prop} (h : Tok w0 g A c l i tv w) {ts : List S68} (hR : Kd.R k68 68 w w0.heap.size (fun k => k ≠ g) tv ts) (hl : l.length ≤ 1000000) (hlen : ts.length + 2 < 1000000) (hi : i < l.length) (hc : rd l (i : Nat) = 42) (HG : ∀ (a' : Act) (w' : World), a'.defers = [] → a'.tmps.size = 150 → a'.tmps.getD 0 undef = .pointer (some ⟨g, 0, none⟩) → TokPut w0 g A c l (repF l (i + 1) ts i 0 (-1)).1 (repF l (i + 1) ts i 0 (-1)).2 (.returned (.tuple #[])) w' → Q (.goto 0) a' w') :
    (restX 0).wp Tryz.prog Q { tmps := fr150 (.pointer (some ⟨g, 0, none⟩)) u, defers := [] } w := by
  have HT := Aside0.mk h
  have HR := Aside0.mk hR
  have HGG := Aside0.mk HG
  obtain ⟨hc0, hc1, hf1⟩ := h.cells
  have b1 : decide ((l.length : Int) ≤ (i : Int)) = false := decide_eq_false (by omega)
  have b1' : (i : Int) < (l.length : Int) := by omega
  obtain ⟨ad, e1, hx⟩ := Tok.charAt h hi
  cases e1
  rw [hc] at hx
  have wi : IntKind.i64.wrap ((i : Int) + 1) = (i : Int) + 1 := IntWalk.i64_in _ (by omega)
  have hrep := fun W (hW : Tok w0 g (some ad) c l (i + 1) tv W) hRW => repeat_ok (ts := ts) (w := W) hW hRW hl hlen (i : Int) 0 (-1)
  clear hc
  clear h hR HG
  unfold restX restR Tryz.f60 fr150
  simp only [findLabel]
  go_wp2_with fail
  refine (hrep _ (HT.out.set1 (i + 1)) (Kd.R_far (p := ⟨g, 1, none⟩) HR.out (fun k hk => hk) _)).mono ?_
  rintro e w2 ⟨rfl, hst⟩
  go_wp2
  go_step3
  refine HGG.out _ _ ?_ ?_ ?_ ⟨rfl, hst⟩
  · rfl
  · rfl
  · rfl
set_option maxRecDepth 100000 in
set_option maxHeartbeats 2000000 in
theorem out_43 (u : Nat → Value) {Q : Exit → Act → World → Prop} (h : Tok w0 g A c l i tv w) {ts : List S68} (hR : Kd.R k68 68 w w0.heap.size (fun k => k ≠ g) tv ts) (hl : l.length ≤ 1000000) (hlen : ts.length + 2 < 1000000) (hi : i < l.length) (hc : rd l (i : Nat) = 43) (HG : ∀ (a' : Act) (w' : World), a'.defers = [] → a'.tmps.size = 150 → a'.tmps.getD 0 undef = .pointer (some ⟨g, 0, none⟩) → TokPut w0 g A c l (repF l (i + 1) ts i 1 (-1)).1 (repF l (i + 1) ts i 1 (-1)).2 (.returned (.tuple #[])) w' → Q (.goto 0) a' w') :
    (restX 0).wp Tryz.prog Q { tmps := fr150 (.pointer (some ⟨g, 0, none⟩)) u, defers := [] } w := by
  have HT := Aside0.mk h
  have HR := Aside0.mk hR
  have HGG := Aside0.mk HG
  obtain ⟨hc0, hc1, hf1⟩ := h.cells
  have b1 : decide ((l.length : Int) ≤ (i : Int)) = false := decide_eq_false (by omega)
  have b1' : (i : Int) < (l.length : Int) := by omega
  obtain ⟨ad, e1, hx⟩ := Tok.charAt h hi
  cases e1
  rw [hc] at hx
  have wi : IntKind.i64.wrap ((i : Int) + 1) = (i : Int) + 1 := IntWalk.i64_in _ (by omega)
  have hrep := fun W (hW : Tok w0 g (some ad) c l (i + 1) tv W) hRW => repeat_ok (ts := ts) (w := W) hW hRW hl hlen (i : Int) 1 (-1)
  clear hc
  clear h hR HG
  unfold restX restR Tryz.f60 fr150
  simp only [findLabel]
  go_wp2_with fail
  refine (hrep _ (HT.out.set1 (i + 1)) (Kd.R_far (p := ⟨g, 1, none⟩) HR.out (fun k hk => hk) _)).mono ?_
  rintro e w2 ⟨rfl, hst⟩
  go_wp2
  go_step3
  refine HGG.out _ _ ?_ ?_ ?_ ⟨rfl, hst⟩
  · rfl
  · rfl
  · rfl
set_option maxRecDepth 100000 in
set_option maxHeartbeats 2000000 in
theorem out_123_bad (u : Nat → Value) {Q : Exit → Act → World → Prop} (h : Tok w0 g A c l i tv w) {ts : List S68} (hR : Kd.R k68 68 w w0.heap.size (fun k => k ≠ g) tv ts) (hl : l.length ≤ 1000000) (hlen : ts.length + 2 < 1000000) (hi : i < l.length) (hc : rd l (i : Nat) = 123) {at_ er : Int} (hb : bracesF l (i + 1) = .bad at_ er) (HG : ∀ (a' : Act) (w' : World), a'.defers = [] → Below w0.heap.size w0 w' → Q (.panic (wrongT at_ er)) a' w') :
    (restX 0).wp Tryz.prog Q { tmps := fr150 (.pointer (some ⟨g, 0, none⟩)) u, defers := [] } w := by
  have HT := Aside0.mk h
  have HR := Aside0.mk hR
  have HGG := Aside0.mk HG
  obtain ⟨hc0, hc1, hf1⟩ := h.cells
  have b1 : decide ((l.length : Int) ≤ (i : Int)) = false := decide_eq_false (by omega)
  have b1' : (i : Int) < (l.length : Int) := by omega
  obtain ⟨ad, e1, hx⟩ := Tok.charAt h hi
  cases e1
  rw [hc] at hx
  have wi : IntKind.i64.wrap ((i : Int) + 1) = (i : Int) + 1 := IntWalk.i64_in _ (by omega)
  have hbr := fun W (hW : Tok w0 g (some ad) c l (i + 1) tv W) => braces_bad (w := W) hW hl (by omega) hb
  clear hc hb
  clear h hR HG
  unfold restX restR Tryz.f60 fr150
  simp only [findLabel]
  go_wp2_with fail
  refine (hbr _ (HT.out.set1 (i + 1))).mono ?_
  rintro e w2 ⟨rfl, hst⟩
  refine HGG.out _ _ ?_ hst
  rfl
set_option maxRecDepth 100000 in
set_option maxHeartbeats 2000000 in
theorem out_123_no (u : Nat → Value) {Q : Exit → Act → World → Prop} (h : Tok w0 g A c l i tv w) {ts : List S68} (hR : Kd.R k68 68 w w0.heap.size (fun k => k ≠ g) tv ts) (hl : l.length ≤ 1000000) (hlen : ts.length + 2 < 1000000) (hi : i < l.length) (hc : rd l (i : Nat) = 123) {a : Int × Int × Bool} {j : Nat} (hb : bracesF l (i + 1) = .ok a j) (ha : a.2.2 = false) (HG : ∀ (a' : Act) (w' : World), a'.defers = [] → Below w0.heap.size w0 w' → Q (.panic (wrongT (i : Int) 8)) a' w') :
    (restX 0).wp Tryz.prog Q { tmps := fr150 (.pointer (some ⟨g, 0, none⟩)) u, defers := [] } w := by
  have HT := Aside0.mk h
  have HR := Aside0.mk hR
  have HGG := Aside0.mk HG
  obtain ⟨hc0, hc1, hf1⟩ := h.cells
  have b1 : decide ((l.length : Int) ≤ (i : Int)) = false := decide_eq_false (by omega)
  have b1' : (i : Int) < (l.length : Int) := by omega
  obtain ⟨ad, e1, hx⟩ := Tok.charAt h hi
  cases e1
  rw [hc] at hx
  have wi : IntKind.i64.wrap ((i : Int) + 1) = (i : Int) + 1 := IntWalk.i64_in _ (by omega)
  have hbr := fun W (hW : Tok w0 g (some ad) c l (i + 1) tv W) => braces_ok (w := W) hW hl (by omega) hb
  clear hc hb
  rw [ha] at hbr
  clear ha
  clear h hR HG
  unfold restX restR Tryz.f60 fr150
  simp only [findLabel]
  go_wp2_with fail
  refine (hbr _ (HT.out.set1 (i + 1))).mono ?_
  rintro e w2 ⟨rfl, hst, hk⟩
  have HS := Aside0.mk hst.below
  clear hst hk hbr
  go_wp2
  refine HGG.out _ _ ?_ HS.out
  rfl
set_option maxRecDepth 100000 in
set_option maxHeartbeats 2000000 in
theorem out_123_ok (u : Nat → Value) {Q : Exit → Act → World → Prop} (h : Tok w0 g A c l i tv w) {ts : List S68} (hR : Kd.R k68 68 w w0.heap.size (fun k => k ≠ g) tv ts) (hl : l.length ≤ 1000000) (hlen : ts.length + 2 < 1000000) (hi : i < l.length) (hc : rd l (i : Nat) = 123) {a : Int × Int × Bool} {j : Nat} (hb : bracesF l (i + 1) = .ok a j) (ha : a.2.2 = true) (HG : ∀ (a' : Act) (w' : World), a'.defers = [] → a'.tmps.size = 150 → a'.tmps.getD 0 undef = .pointer (some ⟨g, 0, none⟩) → TokPut w0 g A c l (repF l j ts i a.1 a.2.1).1 (repF l j ts i a.1 a.2.1).2 (.returned (.tuple #[])) w' → Q (.goto 0) a' w') :
    (restX 0).wp Tryz.prog Q { tmps := fr150 (.pointer (some ⟨g, 0, none⟩)) u, defers := [] } w := by
  have HT := Aside0.mk h
  have HR := Aside0.mk hR
  have HGG := Aside0.mk HG
  obtain ⟨hc0, hc1, hf1⟩ := h.cells
  have b1 : decide ((l.length : Int) ≤ (i : Int)) = false := decide_eq_false (by omega)
  have b1' : (i : Int) < (l.length : Int) := by omega
  obtain ⟨ad, e1, hx⟩ := Tok.charAt h hi
  cases e1
  rw [hc] at hx
  have wi : IntKind.i64.wrap ((i : Int) + 1) = (i : Int) + 1 := IntWalk.i64_in _ (by omega)
  have hbr := fun W (hW : Tok w0 g (some ad) c l (i + 1) tv W) => braces_ok (w := W) hW hl (by omega) hb
  clear hc hb
  rw [ha] at hbr
  clear ha
  have hrep := fun W (hW : Tok w0 g (some ad) c l j tv W) hRW => repeat_ok (ts := ts) (w := W) hW hRW hl hlen (i : Int) a.1 a.2.1
  clear h hR HG
  unfold restX restR Tryz.f60 fr150
  simp only [findLabel]
  go_wp2_with fail
  refine (hbr _ (HT.out.set1 (i + 1))).mono ?_
  rintro e w2 ⟨rfl, hst, hk⟩
  have HS := Aside0.mk hst
  have HK := Aside0.mk hk
  clear hst hk hbr
  go_wp2_with fail
  refine (hrep _ HS.out (Kd.R_keep (Kd.R_far (p := ⟨g, 1, none⟩) HR.out (fun k hk => hk) _) HK.out (fun k hk => hk))).mono ?_
  rintro e w3 ⟨rfl, hst⟩
  go_wp2
  go_step3
  refine HGG.out _ _ ?_ ?_ ?_ ⟨rfl, hst⟩
  · rfl
  · rfl
  · rfl
set_option maxRecDepth 100000 in
set_option maxHeartbeats 2000000 in
theorem out_bad (u : Nat → Value) {Q : Exit → Act → World → Prop} (h : Tok w0 g A c l i tv w) {ts : List S68} (hR : Kd.R k68 68 w w0.heap.size (fun k => k ≠ g) tv ts) (hl : l.length ≤ 1000000) (hlen : ts.length + 2 < 1000000) (h91 : rd l (i : Nat) ≠ 91) (h123 : rd l (i : Nat) ≠ 123) (h63 : rd l (i : Nat) ≠ 63) (h42 : rd l (i : Nat) ≠ 42) (h43 : rd l (i : Nat) ≠ 43) (h46 : rd l (i : Nat) ≠ 46) (h40 : rd l (i : Nat) ≠ 40) (h41 : rd l (i : Nat) ≠ 41) (h124 : rd l (i : Nat) ≠ 124) (h94 : rd l (i : Nat) ≠ 94) (h36 : rd l (i : Nat) ≠ 36) (hi : i < l.length) {at_ er : Int} (hs : singleF l i = .bad at_ er) (HG : ∀ (a' : Act) (w' : World), a'.defers = [] → Below w0.heap.size w0 w' → Q (.panic (wrongT at_ er)) a' w') :
    (restX 0).wp Tryz.prog Q { tmps := fr150 (.pointer (some ⟨g, 0, none⟩)) u, defers := [] } w := by
  have HT := Aside0.mk h
  have HR := Aside0.mk hR
  have HGG := Aside0.mk HG
  obtain ⟨hc0, hc1, hf1⟩ := h.cells
  have b1 : decide ((l.length : Int) ≤ (i : Int)) = false := decide_eq_false (by omega)
  have b1' : (i : Int) < (l.length : Int) := by omega
  obtain ⟨ad, e1, hx⟩ := Tok.charAt h hi
  cases e1
  have wi : IntKind.i64.wrap ((i : Int) + 1) = (i : Int) + 1 := IntWalk.i64_in _ (by omega)
  have n91 : (rd l (i : Nat) == 91) = false := beq_eq_false_iff_ne.2 h91
  have n123 : (rd l (i : Nat) == 123) = false := beq_eq_false_iff_ne.2 h123
  have n63 : (rd l (i : Nat) == 63) = false := beq_eq_false_iff_ne.2 h63
  have n42 : (rd l (i : Nat) == 42) = false := beq_eq_false_iff_ne.2 h42
  have n43 : (rd l (i : Nat) == 43) = false := beq_eq_false_iff_ne.2 h43
  have n46 : (rd l (i : Nat) == 46) = false := beq_eq_false_iff_ne.2 h46
  have n40 : (rd l (i : Nat) == 40) = false := beq_eq_false_iff_ne.2 h40
  have n41 : (rd l (i : Nat) == 41) = false := beq_eq_false_iff_ne.2 h41
  have n124 : (rd l (i : Nat) == 124) = false := beq_eq_false_iff_ne.2 h124
  have n94 : (rd l (i : Nat) == 94) = false := beq_eq_false_iff_ne.2 h94
  have n36 : (rd l (i : Nat) == 36) = false := beq_eq_false_iff_ne.2 h36
  clear h91 h123 h63 h42 h43 h46 h40 h41 h124 h94 h36
  have hsi := fun W (hW : Tok w0 g (some ad) c l i tv W) => single_bad (w := W) hW hl hs
  clear hs
  generalize rd l (i : Nat) = x at *
  clear h hR HG
  unfold restX restR Tryz.f60 fr150
  simp only [findLabel]
  go_wp2_with fail
  refine (hsi _ HT.out).mono ?_
  rintro e w2 ⟨rfl, hst⟩
  refine HGG.out _ _ ?_ hst
  rfl
set_option maxRecDepth 100000 in
set_option maxHeartbeats 2000000 in
theorem out_ok (u : Nat → Value) {Q : Exit → Act → World → Prop} (h : Tok w0 g A c l i tv w) {ts : List S68} (hR : Kd.R k68 68 w w0.heap.size (fun k => k ≠ g) tv ts) (hl : l.length ≤ 1000000) (hlen : ts.length + 2 < 1000000) (h91 : rd l (i : Nat) ≠ 91) (h123 : rd l (i : Nat) ≠ 123) (h63 : rd l (i : Nat) ≠ 63) (h42 : rd l (i : Nat) ≠ 42) (h43 : rd l (i : Nat) ≠ 43) (h46 : rd l (i : Nat) ≠ 46) (h40 : rd l (i : Nat) ≠ 40) (h41 : rd l (i : Nat) ≠ 41) (h124 : rd l (i : Nat) ≠ 124) (h94 : rd l (i : Nat) ≠ 94) (h36 : rd l (i : Nat) ≠ 36) (hi : i < l.length) {t : S68} {j : Nat} (hs : singleF l i = .ok t j) (HG : ∀ (a' : Act) (w' : World), a'.defers = [] → a'.tmps.size = 150 → a'.tmps.getD 0 undef = .pointer (some ⟨g, 0, none⟩) → TokPut w0 g A c l j (ts ++ [t]) (.returned (.tuple #[])) w' → Q (.goto 0) a' w') :
    (restX 0).wp Tryz.prog Q { tmps := fr150 (.pointer (some ⟨g, 0, none⟩)) u, defers := [] } w := by
  have HT := Aside0.mk h
  have HR := Aside0.mk hR
  have HGG := Aside0.mk HG
  obtain ⟨hc0, hc1, hf1⟩ := h.cells
  have b1 : decide ((l.length : Int) ≤ (i : Int)) = false := decide_eq_false (by omega)
  have b1' : (i : Int) < (l.length : Int) := by omega
  obtain ⟨ad, e1, hx⟩ := Tok.charAt h hi
  cases e1
  have wi : IntKind.i64.wrap ((i : Int) + 1) = (i : Int) + 1 := IntWalk.i64_in _ (by omega)
  have n91 : (rd l (i : Nat) == 91) = false := beq_eq_false_iff_ne.2 h91
  have n123 : (rd l (i : Nat) == 123) = false := beq_eq_false_iff_ne.2 h123
  have n63 : (rd l (i : Nat) == 63) = false := beq_eq_false_iff_ne.2 h63
  have n42 : (rd l (i : Nat) == 42) = false := beq_eq_false_iff_ne.2 h42
  have n43 : (rd l (i : Nat) == 43) = false := beq_eq_false_iff_ne.2 h43
  have n46 : (rd l (i : Nat) == 46) = false := beq_eq_false_iff_ne.2 h46
  have n40 : (rd l (i : Nat) == 40) = false := beq_eq_false_iff_ne.2 h40
  have n41 : (rd l (i : Nat) == 41) = false := beq_eq_false_iff_ne.2 h41
  have n124 : (rd l (i : Nat) == 124) = false := beq_eq_false_iff_ne.2 h124
  have n94 : (rd l (i : Nat) == 94) = false := beq_eq_false_iff_ne.2 h94
  have n36 : (rd l (i : Nat) == 36) = false := beq_eq_false_iff_ne.2 h36
  clear h91 h123 h63 h42 h43 h46 h40 h41 h124 h94 h36
  have hsi := fun W (hW : Tok w0 g (some ad) c l i tv W) => single_ok (w := W) hW hl hs
  have hput := fun W (hW : Tok w0 g (some ad) c l j tv W) hRW => put_ok (ts := ts) (w := W) hW hRW (by omega) t
  unfold tokV at hsi hput
  clear hs
  generalize rd l (i : Nat) = x at *
  clear h hR HG
  unfold restX restR Tryz.f60 fr150
  simp only [findLabel]
  go_wp2_with fail
  refine (hsi _ HT.out).mono ?_
  rintro e w2 ⟨rfl, hst, hk⟩
  have HS := Aside0.mk hst
  have HK := Aside0.mk hk
  clear hst hk hsi
  go_wp2_with fail
  refine (hput _ HS.out (Kd.R_keep HR.out HK.out (fun k hk => hk))).mono ?_
  rintro e w3 ⟨rfl, hst⟩
  go_wp2
  go_step3
  refine HGG.out _ _ ?_ ?_ ?_ ⟨rfl, hst⟩
  · rfl
  · rfl
  · rfl
set_option maxRecDepth 100000 in
set_option maxHeartbeats 2000000 in
theorem cls_end (u : Nat → Value) {Q : Exit → Act → World → Prop} (h : Tok w0 g A c l i tv w) {ts : List S68} (hR : Kd.R k68 68 w w0.heap.size (fun k => k ≠ g) tv ts) (hl : l.length ≤ 1000000) (hlen : ts.length + 2 < 1000000) (hi : l.length ≤ i) (HG : ∀ (a' : Act) (w' : World), a'.defers = [] → Below w0.heap.size w0 w' → Q (.panic (wrongT (i : Nat) 4)) a' w') :
    (restX 1).wp Tryz.prog Q { tmps := fr150 (.pointer (some ⟨g, 0, none⟩)) u, defers := [] } w := by
  have HT := Aside0.mk h
  have HR := Aside0.mk hR
  have HGG := Aside0.mk HG
  obtain ⟨hc0, hc1, hf1⟩ := h.cells
  have hpk := fun W (hW : Tok w0 g A c l i tv W) => peek_end (w := W) hW hi
  clear h hR HG
  unfold restX restR Tryz.f60 fr150
  simp only [findLabel]
  go_wp2_with fail
  refine (hpk _ HT.out).mono ?_
  rintro e w2 ⟨rfl, hst⟩
  refine HGG.out _ _ ?_ hst
  rfl
set_option maxRecDepth 100000 in
set_option maxHeartbeats 2000000 in
theorem cls_93 (u : Nat → Value) {Q : Exit → Act → World → Prop} (h : Tok w0 g A c l i tv w) {ts : List S68} (hR : Kd.R k68 68 w w0.heap.size (fun k => k ≠ g) tv ts) (hl : l.length ≤ 1000000) (hlen : ts.length + 2 < 1000000) (hi : i < l.length) (hc : rd l (i : Nat) = 93) (HG : ∀ (a' : Act) (w' : World), a'.defers = [] → a'.tmps.size = 150 → a'.tmps.getD 0 undef = .pointer (some ⟨g, 0, none⟩) → TokPut w0 g A c l (i + 1) (ts ++ [⟨8, 0, 0, 0, (i : Int)⟩]) (.returned (.tuple #[])) w' → Q (.goto 0) a' w') :
    (restX 1).wp Tryz.prog Q { tmps := fr150 (.pointer (some ⟨g, 0, none⟩)) u, defers := [] } w := by
  have HT := Aside0.mk h
  have HR := Aside0.mk hR
  have HGG := Aside0.mk HG
  obtain ⟨hc0, hc1, hf1⟩ := h.cells
  have hpk := fun W (hW : Tok w0 g A c l i tv W) => peek_ok (w := W) hW hi
  have his := fun W (hW : Tok w0 g A c l i tv W) => is_yes (w := W) hW hl 93 hi hc
  have hput := fun W (hW : Tok w0 g A c l (i + 1) tv W) hRW => put_ok (ts := ts) (w := W) hW hRW (by omega) ⟨8, 0, 0, 0, (i : Int)⟩
  unfold tokV at hput
  dsimp only at hput
  clear hc
  generalize rd l (i : Nat) = x at *
  clear h hR HG
  unfold restX restR Tryz.f60 fr150
  simp only [findLabel]
  go_wp2_with fail
  refine (hpk _ HT.out).mono ?_
  rintro e w1 ⟨rfl, hst, hk⟩
  have HS := Aside0.mk hst
  have HK := Aside0.mk hk
  clear hst hk hpk
  go_wp2_with fail
  refine (his _ HS.out).mono ?_
  rintro e w2 ⟨rfl, hst, hk⟩
  have HS2 := Aside0.mk hst
  have HK2 := Aside0.mk (keepTr HK.out hk)
  clear hst hk his
  go_wp2_with fail
  refine (hput _ HS2.out (Kd.R_keep HR.out HK2.out (fun k hk => hk))).mono ?_
  rintro e w3 ⟨rfl, hst⟩
  go_wp2
  go_step3
  refine HGG.out _ _ ?_ ?_ ?_ ⟨rfl, hst⟩
  · rfl
  · rfl
  · rfl
set_option maxRecDepth 100000 in
set_option maxHeartbeats 2000000 in
theorem cls_bad (u : Nat → Value) {Q : Exit → Act → World → Prop} (h : Tok w0 g A c l i tv w) {ts : List S68} (hR : Kd.R k68 68 w w0.heap.size (fun k => k ≠ g) tv ts) (hl : l.length ≤ 1000000) (hlen : ts.length + 2 < 1000000) (hi : i < l.length) (hc : rd l (i : Nat) ≠ 93) {at_ er : Int} (hs : itemF l i = .bad at_ er) (HG : ∀ (a' : Act) (w' : World), a'.defers = [] → Below w0.heap.size w0 w' → Q (.panic (wrongT at_ er)) a' w') :
    (restX 1).wp Tryz.prog Q { tmps := fr150 (.pointer (some ⟨g, 0, none⟩)) u, defers := [] } w := by
  have HT := Aside0.mk h
  have HR := Aside0.mk hR
  have HGG := Aside0.mk HG
  obtain ⟨hc0, hc1, hf1⟩ := h.cells
  have hpk := fun W (hW : Tok w0 g A c l i tv W) => peek_ok (w := W) hW hi
  have his := fun W (hW : Tok w0 g A c l i tv W) => is_no (w := W) hW 93 (fun _ => hc)
  have hit := fun W (hW : Tok w0 g A c l i tv W) => item_bad (w := W) hW hl hs
  clear hc hs
  generalize rd l (i : Nat) = x at *
  clear h hR HG
  unfold restX restR Tryz.f60 fr150
  simp only [findLabel]
  go_wp2_with fail
  refine (hpk _ HT.out).mono ?_
  rintro e w1 ⟨rfl, hst, hk⟩
  have HS := Aside0.mk hst
  have HK := Aside0.mk hk
  clear hst hk hpk
  go_wp2_with fail
  refine (his _ HS.out).mono ?_
  rintro e w2 ⟨rfl, hst, hk⟩
  have HS2 := Aside0.mk hst
  have HK2 := Aside0.mk (keepTr HK.out hk)
  clear hst hk his
  go_wp2_with fail
  refine (hit _ HS2.out).mono ?_
  rintro e w3 ⟨rfl, hst⟩
  refine HGG.out _ _ ?_ hst
  rfl
set_option maxRecDepth 100000 in
set_option maxHeartbeats 2000000 in
theorem cls_ok (u : Nat → Value) {Q : Exit → Act → World → Prop} (h : Tok w0 g A c l i tv w) {ts : List S68} (hR : Kd.R k68 68 w w0.heap.size (fun k => k ≠ g) tv ts) (hl : l.length ≤ 1000000) (hlen : ts.length + 2 < 1000000) (hi : i < l.length) (hc : rd l (i : Nat) ≠ 93) {t : S68} {j : Nat} (hs : itemF l i = .ok t j) (HG : ∀ (a' : Act) (w' : World), a'.defers = [] → a'.tmps.size = 150 → a'.tmps.getD 0 undef = .pointer (some ⟨g, 0, none⟩) → TokPut w0 g A c l j (ts ++ [t]) (.returned (.tuple #[])) w' → Q (.goto 1) a' w') :
    (restX 1).wp Tryz.prog Q { tmps := fr150 (.pointer (some ⟨g, 0, none⟩)) u, defers := [] } w := by
  have HT := Aside0.mk h
  have HR := Aside0.mk hR
  have HGG := Aside0.mk HG
  obtain ⟨hc0, hc1, hf1⟩ := h.cells
  have hpk := fun W (hW : Tok w0 g A c l i tv W) => peek_ok (w := W) hW hi
  have his := fun W (hW : Tok w0 g A c l i tv W) => is_no (w := W) hW 93 (fun _ => hc)
  have hit := fun W (hW : Tok w0 g A c l i tv W) => item_ok (w := W) hW hl hs
  have hput := fun W (hW : Tok w0 g A c l j tv W) hRW => put_ok (ts := ts) (w := W) hW hRW (by omega) t
  unfold tokV at hit hput
  clear hc hs
  generalize rd l (i : Nat) = x at *
  clear h hR HG
  unfold restX restR Tryz.f60 fr150
  simp only [findLabel]
  go_wp2_with fail
  refine (hpk _ HT.out).mono ?_
  rintro e w1 ⟨rfl, hst, hk⟩
  have HS := Aside0.mk hst
  have HK := Aside0.mk hk
  clear hst hk hpk
  go_wp2_with fail
  refine (his _ HS.out).mono ?_
  rintro e w2 ⟨rfl, hst, hk⟩
  have HS2 := Aside0.mk hst
  have HK2 := Aside0.mk (keepTr HK.out hk)
  clear hst hk his
  go_wp2_with fail
  refine (hit _ HS2.out).mono ?_
  rintro e w3 ⟨rfl, hst, hk⟩
  have HS3 := Aside0.mk hst
  have HK3 := Aside0.mk (keepTr HK2.out hk)
  clear hst hk hit
  go_wp2_with fail
  refine (hput _ HS3.out (Kd.R_keep HR.out HK3.out (fun k hk => hk))).mono ?_
  rintro e w4 ⟨rfl, hst⟩
  go_wp2
  go_step3
  refine HGG.out _ _ ?_ ?_ ?_ ⟨rfl, hst⟩
  · rfl
  · rfl
  · rfl
set_option maxRecDepth 100000 in
set_option maxHeartbeats 2000000 in
theorem out_91n (u : Nat → Value) {Q : Exit → Act → World → Prop} (h : Tok w0 g A c l i tv w) {ts : List S68} (hR : Kd.R k68 68 w w0.heap.size (fun k => k ≠ g) tv ts) (hl : l.length ≤ 1000000) (hlen : ts.length + 2 < 1000000) (hi : i < l.length) (hc : rd l (i : Nat) = 91) (hd : i + 1 < l.length → rd l (i + 1 : Nat) ≠ 94) (HG : ∀ (a' : Act) (w' : World), a'.defers = [] → a'.tmps.size = 150 → a'.tmps.getD 0 undef = .pointer (some ⟨g, 0, none⟩) → TokPut w0 g A c l (i + 1) (ts ++ [⟨7, 0, 0, 0, (i : Int)⟩]) (.returned (.tuple #[])) w' → Q (.goto 1) a' w') :
    (restX 0).wp Tryz.prog Q { tmps := fr150 (.pointer (some ⟨g, 0, none⟩)) u, defers := [] } w := by
  have HT := Aside0.mk h
  have HR := Aside0.mk hR
  have HGG := Aside0.mk HG
  obtain ⟨hc0, hc1, hf1⟩ := h.cells
  have b1 : decide ((l.length : Int) ≤ (i : Int)) = false := decide_eq_false (by omega)
  have b1' : (i : Int) < (l.length : Int) := by omega
  obtain ⟨ad, e1, hx⟩ := Tok.charAt h hi
  cases e1
  rw [hc] at hx
  have wi : IntKind.i64.wrap ((i : Int) + 1) = (i : Int) + 1 := IntWalk.i64_in _ (by omega)
  have his := fun W (hW : Tok w0 g (some ad) c l (i + 1) tv W) => is_no (w := W) hW 94 hd
  have hput := fun tv W (hW : Tok w0 g (some ad) c l (i + 1) tv W) hRW => put_ok (ts := ts) (w := W) hW hRW (by omega) ⟨7, 0, 0, 0, (i : Int)⟩
  unfold tokV at hput
  dsimp only at hput
  have hglt : g < w.heap.size := blk_lt h.blk
  clear hc hd
  clear h hR HG
  unfold restX restR Tryz.f60 fr150
  simp only [findLabel]
  go_wp2_with fail
  refine (his _ ((HT.out.set1 (i + 1)).grow (below_alloc (Below.refl _ _) _))).mono ?_
  rintro e w2 ⟨rfl, hst, hk⟩
  have hb2 := KeepBut.blk hk (blk_new _ _) (by simp; omega) (by simp)
  simp at hb2
  have d0 := blk_cell hb2 0
  have d1 := blk_cell hb2 1
  have d2 := blk_cell hb2 2
  have d3 := blk_cell hb2 3
  have d4 := blk_cell hb2 4
  simp at d0 d1 d2 d3 d4
  have q1 := fun j => blk_frozen hb2 j
  have z1 := blk_lt hb2
  have HS := Aside0.mk hst
  have HK := Aside0.mk hk
  clear hst hk his hb2 hc0 hc1 hf1
  go_wp2_with fail
  refine (hput _ _ HS.out (Kd.R_keep (Kd.R_below (Kd.R_far (p := ⟨g, 1, none⟩) HR.out (fun k hk => hk) _) (below_alloc (Below.refl _ _) _)) HK.out (fun k hk => hk))).mono ?_
  rintro e w3 ⟨rfl, hst⟩
  go_wp2
  go_step3
  refine HGG.out _ _ ?_ ?_ ?_ ⟨rfl, hst⟩
  · rfl
  · rfl
  · rfl
set_option maxRecDepth 100000 in
set_option maxHeartbeats 2000000 in
theorem out_91y (u : Nat → Value) {Q : Exit → Act → World → Prop} (h : Tok w0 g A c l i tv w) {ts : List S68} (hR : Kd.R k68 68 w w0.heap.size (fun k => k ≠ g) tv ts) (hl : l.length ≤ 1000000) (hlen : ts.length + 2 < 1000000) (hi : i < l.length) (hc : rd l (i : Nat) = 91) (hi2 : i + 1 < l.length) (hd : rd l (i + 1 : Nat) = 94) (HG : ∀ (a' : Act) (w' : World), a'.defers = [] → a'.tmps.size = 150 → a'.tmps.getD 0 undef = .pointer (some ⟨g, 0, none⟩) → TokPut w0 g A c l (i + 2) (ts ++ [⟨7, 1, 0, 0, (i : Int)⟩]) (.returned (.tuple #[])) w' → Q (.goto 1) a' w') :
    (restX 0).wp Tryz.prog Q { tmps := fr150 (.pointer (some ⟨g, 0, none⟩)) u, defers := [] } w := by
  have HT := Aside0.mk h
  have HR := Aside0.mk hR
  have HGG := Aside0.mk HG
  obtain ⟨hc0, hc1, hf1⟩ := h.cells
  have b1 : decide ((l.length : Int) ≤ (i : Int)) = false := decide_eq_false (by omega)
  have b1' : (i : Int) < (l.length : Int) := by omega
  obtain ⟨ad, e1, hx⟩ := Tok.charAt h hi
  cases e1
  rw [hc] at hx
  have wi : IntKind.i64.wrap ((i : Int) + 1) = (i : Int) + 1 := IntWalk.i64_in _ (by omega)
  have his := fun W (hW : Tok w0 g (some ad) c l (i + 1) tv W) => is_yes (w := W) hW hl 94 hi2 hd
  have hput := fun tv W (hW : Tok w0 g (some ad) c l (i + 2) tv W) hRW => put_ok (ts := ts) (w := W) hW hRW (by omega) ⟨7, 1, 0, 0, (i : Int)⟩
  unfold tokV at hput
  dsimp only at hput
  have hglt : g < w.heap.size := blk_lt h.blk
  have hw0 : w0.heap.size ≤ w.heap.size := h.below.size
  clear hc hd
  clear h hR HG
  unfold restX restR Tryz.f60 fr150
  simp only [findLabel]
  go_wp2_with fail
  refine (his _ ((HT.out.set1 (i + 1)).grow (below_alloc (Below.refl _ _) _))).mono ?_
  rintro e w2 ⟨rfl, hst, hk⟩
  have hb2 := KeepBut.blk hk (blk_new _ _) (by simp; omega) (by simp)
  simp at hb2
  have d0 := blk_cell hb2 0
  have d1 := blk_cell hb2 1
  have d2 := blk_cell hb2 2
  have d3 := blk_cell hb2 3
  have d4 := blk_cell hb2 4
  simp at d0 d1 d2 d3 d4
  have q1 := fun j => blk_frozen hb2 j
  have z1 := blk_lt hb2
  have HS := Aside0.mk hst
  have HRB := Aside0.mk (Kd.R_keep (Kd.R_bound HR.out) (keepTr (keepTr ((KeepBut.refl w g none).set_ _ _) (keepAlloc (KeepBut.refl _ _ _) _)) hk) (fun k hk => hk.1))
  clear hst hk his hb2 hc0 hc1 hf1
  go_wp2_with fail
  refine (hput _ _ (HS.out.far _ (by simp; omega) (by simp; omega) _) (Kd.R_mono (Kd.R_far (p := ⟨w.heap.size, 1, none⟩) HRB.out (fun k hk => by have := hk.2.2.1; simp; omega) _) (fun k hk => hk.1))).mono ?_
  rintro e w3 ⟨rfl, hst⟩
  go_wp2
  go_step3
  refine HGG.out _ _ ?_ ?_ ?_ ⟨rfl, hst⟩
  · rfl
  · rfl
  · rfl
end
end Go.Proofs.YtglolcejfbhbdaaGreat.P
end
