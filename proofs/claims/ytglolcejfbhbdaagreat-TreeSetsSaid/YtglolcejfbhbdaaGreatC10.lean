/- Part 10 of what the three laws on sets of ranges share: the words of the walks, contracts of the functions that they reach, and plain lemmas. No conditions. -/
import Derived.Test.YtglolcejfbhbdaaGreatC09
import Derived.Defers
import Derived.Recover
section
namespace Go.Proofs.YtglolcejfbhbdaaGreat.P
open Go.RowKit Go.Shelf Go.Proofs.YtglolcejfbhbdaaGreatW.PrintWords Go.Proofs.YtglolcejfbhbdaaGreatW.PrintLast Go.Proofs.YtglolcejfbhbdaaGreatW.PrintMore
set_option linter.unusedVariables false
set_option linter.unusedSimpArgs false
def afterBad (w : World) (b1 b2 b3 : Nat) (at_ er : Int) : World := (((((((w.setCell ⟨b1, 0, none⟩ (.int .i64 0)).setCell ⟨b1, 1, none⟩ (.slice none 0 0)).setCell ⟨b1, 2, none⟩ (.int .i64 0)).setCell ⟨b1, 3, none⟩ (.int .i64 0)).setCell ⟨b1, 4, none⟩ (.slice none 0 0)).alloc (.cells #[.int .i64 at_, .int .i64 er] 61)).drew.setCell ⟨b2, 0, none⟩ (.int .i64 at_)).setCell ⟨b3, 0, none⟩ (.int .i64 er)
set_option maxRecDepth 100000 in
set_option maxHeartbeats 400000 in
theorem parse1_panicking (b1 b2 b3 : Nat) (at_ er : Int) (w : World) (v0 v1 v2 v3 v4 x2 x3 : Value) (h0 : w.cell? ⟨b1, 0, none⟩ = some v0) (h1 : w.cell? ⟨b1, 1, none⟩ = some v1) (h2 : w.cell? ⟨b1, 2, none⟩ = some v2) (h3 : w.cell? ⟨b1, 3, none⟩ = some v3) (h4 : w.cell? ⟨b1, 4, none⟩ = some v4) (hx2 : w.cell? ⟨b2, 0, none⟩ = some x2) (hx3 : w.cell? ⟨b3, 0, none⟩ = some x3)
    (f1 : w.frozen? ⟨b1, 0, none⟩ = false) (f11 : w.frozen? ⟨b1, 1, none⟩ = false) (f12 : w.frozen? ⟨b1, 2, none⟩ = false) (f13 : w.frozen? ⟨b1, 3, none⟩ = false) (f14 : w.frozen? ⟨b1, 4, none⟩ = false) (f2 : w.frozen? ⟨b2, 0, none⟩ = false) (f3 : w.frozen? ⟨b3, 0, none⟩ = false) (n12 : b1 ≠ b2) (n13 : b1 ≠ b3) (n23 : b2 ≠ b3) (older : List PanicEntry) :
    CallsD Tryz.prog 43 #[.pointer (some ⟨b1, 0, none⟩), .pointer (some ⟨b2, 0, none⟩), .pointer (some ⟨b3, 0, none⟩)] (.panicking ({ v := .iface 61 (.agg #[.int .i64 at_, .int .i64 er]), recovered := false } :: older)) w fun e u' w' =>
      e = .returned (.tuple #[]) ∧ u' = .panicking ({ v := .iface 61 (.agg #[.int .i64 at_, .int .i64 er]), recovered := true } :: older) ∧ w' = afterBad w b1 b2 b3 at_ er := by
  have z1 : b1 < w.heap.size := World.block_lt_of_cell? w _ h1
  have z2 : b2 < w.heap.size := World.block_lt_of_cell? w _ hx2
  have z3 : b3 < w.heap.size := World.block_lt_of_cell? w _ hx3
  have hrep : (Array.replicate 21 undef : Array Value) = #[undef, undef, undef, undef, undef, undef, undef, undef, undef, undef, undef, undef, undef, undef, undef, undef, undef, undef, undef, undef, undef] := rfl
  have hrep2 : (Array.replicate 18 undef : Array Value) = #[undef, undef, undef, undef, undef, undef, undef, undef, undef, undef, undef, undef, undef, undef, undef, undef, undef, undef] := rfl
  have hta : ∀ (v : Value) (w : World), (Instr.typeAssert (.iface 61 v) 20 61 true).run Tryz.prog w = .ok (.tuple #[v, .bool true]) w := fun _ _ => by kernel_rfl
  refine callsD_of_wpS Tryz.func43 rfl fun c₀ cs hu => ?_
  apply wpS_seq
  apply wpS_region
  simp [wpOpsS, go_sem, recoverD, hu, Tryz.ntmps43, Exit.thenS, hrep, hrep2]
  refine wpS_of_wp ?_
  go_wp2_with fail
  have k0 : (w.alloc (.cells #[.int .i64 at_, .int .i64 er] 61)).cell? ⟨w.heap.size, 0, none⟩ = some (.int .i64 at_) := by simp
  have k1 : (w.alloc (.cells #[.int .i64 at_, .int .i64 er] 61)).cell? ⟨w.heap.size, 1, none⟩ = some (.int .i64 er) := by simp
  refine start_ (n := 8) (S := fun w' => w'.cell? ⟨w.heap.size, 0, none⟩ = some (.int .i64 at_) ∧ w'.cell? ⟨w.heap.size, 1, none⟩ = some (.int .i64 er)) (ds := []) #[false, false, false, false, false, false, false, false] (by kernel_rfl) rfl rfl ⟨k0, k1⟩ (fun hHeld => ?_)
  refine pure_ (i := 0) (N := some 13) (v := ?_) (a' := ?_) #[true, false, false, false, false, false, false, false] rfl rfl (by kernel_rfl) (fun _ _ _ h => h) (Or.inl ⟨by rfl, ?_⟩) ?_ ?_
  rotate_left
  · intro w'
    go_simp
    with_reducible rfl
  rotate_left
  · simp only [Act.put, List.setIfInBounds_toArray, List.set_cons_zero, List.set_cons_succ, i64_w, i32_w]
    rfl
  refine pure_ (i := 1) (N := some 14) (v := ?_) (a' := ?_) #[true, true, false, false, false, false, false, false] rfl rfl (by kernel_rfl) (fun _ _ _ h => h) (Or.inl ⟨by rfl, ?_⟩) ?_ ?_
  rotate_left
  · intro w'
    go_simp
    with_reducible rfl
  rotate_left
  · simp only [Act.put, List.setIfInBounds_toArray, List.set_cons_zero, List.set_cons_succ, i64_w, i32_w]
    rfl
  refine pure_ (i := 3) (N := some 16) (v := ?_) (a' := ?_) #[true, true, false, true, false, false, false, false] rfl rfl (by kernel_rfl) (fun _ _ _ h => h) (Or.inl ⟨by rfl, ?_⟩) ?_ ?_
  rotate_left
  · intro w'
    go_simp
    with_reducible rfl
  rotate_left
  · simp only [Act.put, List.setIfInBounds_toArray, List.set_cons_zero, List.set_cons_succ, i64_w, i32_w]
    rfl
  refine take_ (i := 2) (N := some 15) (v := ?_) (a' := ?_) #[true, true, true, true, false, false, false, false] rfl rfl (by kernel_rfl) (fun _ _ _ h => h) (Or.inl ⟨by rfl, ?_⟩) hHeld ?_ ?_
  rotate_left
  · rintro w' ⟨s0, s1⟩
    go_simp
    with_reducible rfl
  rotate_left
  · simp only [Act.put, List.setIfInBounds_toArray, List.set_cons_zero, List.set_cons_succ, i64_w, i32_w]
    rfl
  refine take_ (i := 4) (N := some 17) (v := ?_) (a' := ?_) #[true, true, true, true, true, false, false, false] rfl rfl (by kernel_rfl) (fun _ _ _ h => h) (Or.inl ⟨by rfl, ?_⟩) hHeld ?_ ?_
  rotate_left
  · rintro w' ⟨s0, s1⟩
    go_simp
    with_reducible rfl
  rotate_left
  · simp only [Act.put, List.setIfInBounds_toArray, List.set_cons_zero, List.set_cons_succ, i64_w, i32_w]
    rfl
  refine one_ (i := 5) (N := none) #[true, true, true, true, true, true, false, false] rfl rfl (by kernel_rfl) (by decide) (fun K hK => ?_)
  refine skip_ (w1 := ?_) (by rfl) rfl ?_ ?_
  rotate_left
  · go_simp
    rfl
  refine hK.out _ _ ⟨(by go_simp), (by go_simp)⟩ (fun hHeld => ?_)
  clear hK K
  have g2 : ((((((w.setCell ⟨b1, 0, none⟩ (.int .i64 0)).setCell ⟨b1, 1, none⟩ (.slice none 0 0)).setCell ⟨b1, 2, none⟩ (.int .i64 0)).setCell ⟨b1, 3, none⟩ (.int .i64 0)).setCell ⟨b1, 4, none⟩ (.slice none 0 0)).alloc (.cells #[.int .i64 at_, .int .i64 er] 61)).drew.cell? ⟨b2, 0, none⟩ = some x2 := by go_simp
  have g3 : ((((((w.setCell ⟨b1, 0, none⟩ (.int .i64 0)).setCell ⟨b1, 1, none⟩ (.slice none 0 0)).setCell ⟨b1, 2, none⟩ (.int .i64 0)).setCell ⟨b1, 3, none⟩ (.int .i64 0)).setCell ⟨b1, 4, none⟩ (.slice none 0 0)).alloc (.cells #[.int .i64 at_, .int .i64 er] 61)).drew.cell? ⟨b3, 0, none⟩ = some x3 := by go_simp
  have y2 : ((((((w.setCell ⟨b1, 0, none⟩ (.int .i64 0)).setCell ⟨b1, 1, none⟩ (.slice none 0 0)).setCell ⟨b1, 2, none⟩ (.int .i64 0)).setCell ⟨b1, 3, none⟩ (.int .i64 0)).setCell ⟨b1, 4, none⟩ (.slice none 0 0)).alloc (.cells #[.int .i64 at_, .int .i64 er] 61)).drew.frozen? ⟨b2, 0, none⟩ = false := by go_simp
  have y3 : ((((((w.setCell ⟨b1, 0, none⟩ (.int .i64 0)).setCell ⟨b1, 1, none⟩ (.slice none 0 0)).setCell ⟨b1, 2, none⟩ (.int .i64 0)).setCell ⟨b1, 3, none⟩ (.int .i64 0)).setCell ⟨b1, 4, none⟩ (.slice none 0 0)).alloc (.cells #[.int .i64 at_, .int .i64 er] 61)).drew.frozen? ⟨b3, 0, none⟩ = false := by go_simp
  generalize hW5 : ((((((w.setCell ⟨b1, 0, none⟩ (.int .i64 0)).setCell ⟨b1, 1, none⟩ (.slice none 0 0)).setCell ⟨b1, 2, none⟩ (.int .i64 0)).setCell ⟨b1, 3, none⟩ (.int .i64 0)).setCell ⟨b1, 4, none⟩ (.slice none 0 0)).alloc (.cells #[.int .i64 at_, .int .i64 er] 61)).drew = W5 at hHeld g2 g3 y2 y3 ⊢
  have HW5 := Aside0.mk hW5
  clear hW5
  refine one_ (i := 6) (N := none) #[true, true, true, true, true, true, true, false] rfl rfl (by kernel_rfl) (by decide) (fun K hK => ?_)
  refine skip_ (w1 := ?_) (by rfl) rfl ?_ ?_
  rotate_left
  · go_simp
    rfl
  refine hK.out _ _ ⟨(by go_simp), (by go_simp)⟩ (fun hHeld => ?_)
  clear hK K
  refine one_ (i := 7) (N := none) #[true, true, true, true, true, true, true, true] rfl rfl (by kernel_rfl) (by decide) (fun K hK => ?_)
  refine skip_ (w1 := ?_) (by rfl) rfl ?_ ?_
  rotate_left
  · go_simp
    rfl
  refine hK.out _ _ ⟨(by go_simp), (by go_simp)⟩ (fun hHeld => ?_)
  clear hK K
  refine done_ (by kernel_rfl) ?_

  exact ⟨rfl, _, rfl, .tuple #[], by simp [results, Tryz.results43], rfl, rfl, by rw [← HW5.out]; rfl⟩
set_option maxRecDepth 100000 in
theorem parse1_idle (b1 b2 b3 : Nat) (w : World) :
    CallsD Tryz.prog 43 #[.pointer (some ⟨b1, 0, none⟩), .pointer (some ⟨b2, 0, none⟩), .pointer (some ⟨b3, 0, none⟩)] .returning w fun e u' w' =>
      e = .returned (.tuple #[]) ∧ u' = .returning ∧ Below w.heap.size w w' := by
  have hrep : (Array.replicate 21 undef : Array Value) = #[undef, undef, undef, undef, undef, undef, undef, undef, undef, undef, undef, undef, undef, undef, undef, undef, undef, undef, undef, undef, undef] := rfl
  have hrep2 : (Array.replicate 18 undef : Array Value) = #[undef, undef, undef, undef, undef, undef, undef, undef, undef, undef, undef, undef, undef, undef, undef, undef, undef, undef] := rfl
  have hta : ∀ (w : World), (Instr.typeAssert .nilIface 20 61 true).run Tryz.prog w = .ok (.tuple #[.agg #[.int .i64 0, .int .i64 0], .bool false]) w := fun _ => by kernel_rfl
  refine callsD_of_wpS Tryz.func43 rfl fun c₀ cs hu => ?_
  apply wpS_seq
  apply wpS_region
  simp [wpOpsS, go_sem, recoverD, hu, Tryz.ntmps43, Exit.thenS, hrep, hrep2]
  refine wpS_of_wp ?_
  go_wp2
  refine ⟨rfl, .returning, ?_, .tuple #[], by simp [results, Tryz.results43], rfl, rfl, below_alloc (Below.refl _ _) _⟩
  cases c₀
  simp_all
end Go.Proofs.YtglolcejfbhbdaaGreat.P
end
section
namespace Go.Proofs.YtglolcejfbhbdaaGreat.P
open Go.RowKit Go.Shelf Go.Proofs.YtglolcejfbhbdaaGreatW.PrintWords Go.Proofs.YtglolcejfbhbdaaGreatW.PrintLast Go.Proofs.YtglolcejfbhbdaaGreatW.PrintMore
set_option linter.unusedVariables false
set_option linter.unusedSimpArgs false
def nodeN : S35 := ⟨0, [], 0, 0, []⟩
def parseP (l : List Int) (fl : Int) : S35 × Int × Int :=
  if fl < 0 ∨ 7 < fl then (nodeN, 0, 11)
  else match tokOf l with
    | .bad a e => (nodeN, a, e)
    | .done ts => match orP l.length fl 21 0 ts with
      | .bad a e => (nodeN, a, e)
      | .ok n rest => match rest with
        | u :: _ => (nodeN, u.f4, 5)
        | [] => if 400 < sizeP n then (nodeN, 0, 10) else (n, 0, 0)
structure ParsePost (r : S35 × Int × Int) (W : World) (e : Ending) (w' : World) : Prop where
  ret : ∃ cs, e = .returned (.tuple #[.agg cs.toArray, .int .i64 r.2.1, .int .i64 r.2.2]) ∧ Kd.FK k35 w' (fun k => W.heap.size ≤ k) r.1 cs
  below : Below W.heap.size W w'
section
variable {A : Option Addr} {c : Nat} {l : List Int} {fl : Int} {w : World}
set_option maxRecDepth 100000 in
theorem parse_neg (h : fl < 0) : Calls Tryz.prog 20 #[.slice A l.length c, .int .i64 fl] w (ParsePost (nodeN, 0, 11) w) := by
  have b1 : decide (fl < 0) = true := decide_eq_true h
  clear h
  go_enter_defers Tryz.func20, Tryz.ntmps20
  go_wp2_with fail
  simp [Leaves, settle, results, Tryz.results20, go_sem, bodyPostD]
  exact ⟨⟨_, rfl, FK_leaf _ _ 0⟩, below_alloc (below_alloc (below_alloc (Below.refl _ _) _) _) _⟩
set_option maxRecDepth 100000 in
theorem parse_big (h : 7 < fl) : Calls Tryz.prog 20 #[.slice A l.length c, .int .i64 fl] w (ParsePost (nodeN, 0, 11) w) := by
  have b0 : decide (fl < 0) = false := decide_eq_false (by omega)
  have b1 : decide (7 < fl) = true := decide_eq_true h
  clear h
  go_enter_defers Tryz.func20, Tryz.ntmps20
  go_wp2_with fail
  simp [Leaves, settle, results, Tryz.results20, go_sem, bodyPostD]
  exact ⟨⟨_, rfl, FK_leaf _ _ 0⟩, below_alloc (below_alloc (below_alloc (Below.refl _ _) _) _) _⟩
set_option maxRecDepth 100000 in
set_option maxHeartbeats 1000000 in
theorem parse_tok (hr : Kd.C (Kd.int .i64) w A l.length l) (h0 : ¬ fl < 0) (h7 : ¬ 7 < fl) {a er : Int} (hb : tokOf l = .bad a er) (her : er ≠ 0) :
    Calls Tryz.prog 20 #[.slice A l.length c, .int .i64 fl] w (ParsePost (nodeN, a, er) w) := by
  have b0 : decide (fl < 0) = false := decide_eq_false (by omega)
  have b1 : decide (7 < fl) = false := decide_eq_false (by omega)
  have hof := Of_all A c l (((w.alloc nodeZ).alloc (.cells #[.int .i64 0] 3)).alloc (.cells #[.int .i64 0] 36)) (Kd.C_below hr (below_alloc (below_alloc (below_alloc (Below.refl _ _) _) _) _))
  have hz : (((w.alloc nodeZ).alloc (.cells #[.int .i64 0] 3)).alloc (.cells #[.int .i64 0] 36)).heap.size = w.heap.size + 3 := by simp
  have hx1 : (((w.alloc nodeZ).alloc (.cells #[.int .i64 0] 3)).alloc (.cells #[.int .i64 0] 36)).heap[w.heap.size]? = some nodeZ := blk_alloc (blk_alloc (blk_new w nodeZ) _) _
  have hx2 : (((w.alloc nodeZ).alloc (.cells #[.int .i64 0] 3)).alloc (.cells #[.int .i64 0] 36)).heap[w.heap.size + 1]? = some (.cells #[.int .i64 0] 3 (0, 0)) := blk_alloc (by simpa using blk_new (w.alloc nodeZ) (.cells #[.int .i64 0] 3)) _
  have hx3 : (((w.alloc nodeZ).alloc (.cells #[.int .i64 0] 3)).alloc (.cells #[.int .i64 0] 36)).heap[w.heap.size + 2]? = some (.cells #[.int .i64 0] 36 (0, 0)) := by simpa using blk_new ((w.alloc nodeZ).alloc (.cells #[.int .i64 0] 3)) (.cells #[.int .i64 0] 36)
  have HB0 := Aside0.mk (show Below w.heap.size w (((w.alloc nodeZ).alloc (.cells #[.int .i64 0] 3)).alloc (.cells #[.int .i64 0] 36)) from below_alloc (below_alloc (below_alloc (Below.refl _ _) _) _) _)
  have HX1 := Aside0.mk hx1
  have HX2 := Aside0.mk hx2
  have HX3 := Aside0.mk hx3
  have HR0 := Aside0.mk hr
  clear hx1 hx2 hx3 hr h0 h7
  have qe : (er != 0) = true := by simpa using her
  rw [hb] at hof
  clear hb her
  go_enter_defers Tryz.func20, Tryz.ntmps20
  unfold nodeZ at hof
  go_wp2_with fail
  refine hof.mono ?_
  rintro e w1 ⟨v, a1, er1, ts1, rfl, hR1, hb1, hcase⟩
  obtain ⟨rfl, rfl⟩ : a = a1 ∧ er = er1 := by
    rcases hcase with ⟨h, _⟩ | ⟨h, _⟩
    · cases h
    · injection h with h1 h2; exact ⟨h1, h2⟩
  clear hcase
  obtain ⟨A1, c1, rfl⟩ := Kd.R_slice hR1
  clear hR1
  have hy1 := blk_below HX1.out hb1
  have hy2 := blk_below HX2.out hb1
  have hy3 := blk_below HX3.out hb1
  have HY1 := Aside0.mk hy1
  have HY2 := Aside0.mk hy2
  have HY3 := Aside0.mk hy3
  have d2 : w1.cell? ⟨w.heap.size + 1, 0, none⟩ = some (.int .i64 0) := by simpa using blk_cell hy2 0
  have d3 : w1.cell? ⟨w.heap.size + 1 + 1, 0, none⟩ = some (.int .i64 0) := by simpa using blk_cell hy3 0
  have q2 : w1.frozen? ⟨w.heap.size + 1, 0, none⟩ = false := blk_frozen hy2 0
  have q3 : w1.frozen? ⟨w.heap.size + 1 + 1, 0, none⟩ = false := blk_frozen hy3 0
  have l3 : w.heap.size + 1 + 1 < w1.heap.size := blk_lt hy3
  have hB1 : Below w.heap.size w w1 := HB0.out.trans (hb1.mono (by simp; omega))
  have HB1 := Aside0.mk hB1
  clear hy2 hy3 hb1 hB1
  obtain ⟨z0, z1, z2, z3, z4⟩ := node_cells hy1
  have q1 := blk_frozen hy1
  have q11 := q1 1
  have q12 := q1 2
  have q13 := q1 3
  have q14 := q1 4
  have q10 := q1 0
  have l1 := blk_lt hy1
  clear hof hy1
  go_wp2_with fail
  have v0 : ((w1.setCell ⟨w.heap.size + 1, 0, none⟩ (.int .i64 a)).setCell ⟨w.heap.size + 1 + 1, 0, none⟩ (.int .i64 er)).cell? ⟨w.heap.size, 0, none⟩ = some (.int .i64 0) := by go_simp
  have v1 : ((w1.setCell ⟨w.heap.size + 1, 0, none⟩ (.int .i64 a)).setCell ⟨w.heap.size + 1 + 1, 0, none⟩ (.int .i64 er)).cell? ⟨w.heap.size, 1, none⟩ = some (.slice none 0 0) := by go_simp
  have v2 : ((w1.setCell ⟨w.heap.size + 1, 0, none⟩ (.int .i64 a)).setCell ⟨w.heap.size + 1 + 1, 0, none⟩ (.int .i64 er)).cell? ⟨w.heap.size, 2, none⟩ = some (.int .i64 0) := by go_simp
  have v3 : ((w1.setCell ⟨w.heap.size + 1, 0, none⟩ (.int .i64 a)).setCell ⟨w.heap.size + 1 + 1, 0, none⟩ (.int .i64 er)).cell? ⟨w.heap.size, 3, none⟩ = some (.int .i64 0) := by go_simp
  have v4 : ((w1.setCell ⟨w.heap.size + 1, 0, none⟩ (.int .i64 a)).setCell ⟨w.heap.size + 1 + 1, 0, none⟩ (.int .i64 er)).cell? ⟨w.heap.size, 4, none⟩ = some (.slice none 0 0) := by go_simp
  have p2 : ((w1.setCell ⟨w.heap.size + 1, 0, none⟩ (.int .i64 a)).setCell ⟨w.heap.size + 1 + 1, 0, none⟩ (.int .i64 er)).cell? ⟨w.heap.size + 1, 0, none⟩ = some (.int .i64 a) := by go_simp
  have p3 : ((w1.setCell ⟨w.heap.size + 1, 0, none⟩ (.int .i64 a)).setCell ⟨w.heap.size + 1 + 1, 0, none⟩ (.int .i64 er)).cell? ⟨w.heap.size + 1 + 1, 0, none⟩ = some (.int .i64 er) := by go_simp
  have fv1 : ((w1.setCell ⟨w.heap.size + 1, 0, none⟩ (.int .i64 a)).setCell ⟨w.heap.size + 1 + 1, 0, none⟩ (.int .i64 er)).frozen? ⟨w.heap.size, 0, none⟩ = false := by go_simp
  have fv11 : ((w1.setCell ⟨w.heap.size + 1, 0, none⟩ (.int .i64 a)).setCell ⟨w.heap.size + 1 + 1, 0, none⟩ (.int .i64 er)).frozen? ⟨w.heap.size, 1, none⟩ = false := by go_simp
  have fv12 : ((w1.setCell ⟨w.heap.size + 1, 0, none⟩ (.int .i64 a)).setCell ⟨w.heap.size + 1 + 1, 0, none⟩ (.int .i64 er)).frozen? ⟨w.heap.size, 2, none⟩ = false := by go_simp
  have fv13 : ((w1.setCell ⟨w.heap.size + 1, 0, none⟩ (.int .i64 a)).setCell ⟨w.heap.size + 1 + 1, 0, none⟩ (.int .i64 er)).frozen? ⟨w.heap.size, 3, none⟩ = false := by go_simp
  have fv14 : ((w1.setCell ⟨w.heap.size + 1, 0, none⟩ (.int .i64 a)).setCell ⟨w.heap.size + 1 + 1, 0, none⟩ (.int .i64 er)).frozen? ⟨w.heap.size, 4, none⟩ = false := by go_simp
  have fv2 : ((w1.setCell ⟨w.heap.size + 1, 0, none⟩ (.int .i64 a)).setCell ⟨w.heap.size + 1 + 1, 0, none⟩ (.int .i64 er)).frozen? ⟨w.heap.size + 1, 0, none⟩ = false := by go_simp
  have fv3 : ((w1.setCell ⟨w.heap.size + 1, 0, none⟩ (.int .i64 a)).setCell ⟨w.heap.size + 1 + 1, 0, none⟩ (.int .i64 er)).frozen? ⟨w.heap.size + 1 + 1, 0, none⟩ = false := by go_simp
  have HBV := Aside0.mk (show Below w.heap.size w ((w1.setCell ⟨w.heap.size + 1, 0, none⟩ (.int .i64 a)).setCell ⟨w.heap.size + 1 + 1, 0, none⟩ (.int .i64 er)) from (HB1.out.setCell (Nat.le_succ _) _).setCell (show w.heap.size ≤ w.heap.size + 1 + 1 by omega) _)
  have lV : w.heap.size + 1 + 1 < ((w1.setCell ⟨w.heap.size + 1, 0, none⟩ (.int .i64 a)).setCell ⟨w.heap.size + 1 + 1, 0, none⟩ (.int .i64 er)).heap.size := by simpa using l3
  generalize ((w1.setCell ⟨w.heap.size + 1, 0, none⟩ (.int .i64 a)).setCell ⟨w.heap.size + 1 + 1, 0, none⟩ (.int .i64 er)) = V at *
  clear z0 z1 z2 z3 z4 d2 d3 q2 q3 q1 q11 q12 q13 q14 q10 l1 l3
  refine wp_region_noPanic ?_
  refine start_ (n := 6) (S := fun w' => w'.cell? ⟨w.heap.size + 1, 0, none⟩ = some (.int .i64 a) ∧ w'.cell? ⟨w.heap.size + 1 + 1, 0, none⟩ = some (.int .i64 er)) (ds := []) #[false, false, false, false, false, false] (by kernel_rfl) rfl rfl ⟨p2, p3⟩ (fun hHeld => ?_)
  refine pure_ (i := 0) (N := some 24) (v := ?_) (a' := ?_) #[true, false, false, false, false, false] rfl rfl (by kernel_rfl) (fun _ _ _ h => h) (Or.inl ⟨by rfl, ?_⟩) ?_ ?_
  rotate_left
  · intro w'
    go_simp
    with_reducible rfl
  rotate_left
  · simp only [Act.put, List.setIfInBounds_toArray, List.set_cons_zero, List.set_cons_succ, i64_w, i32_w]
    rfl
  refine take_ (i := 1) (N := some 25) (v := ?_) (a' := ?_) #[true, true, false, false, false, false] rfl rfl (by kernel_rfl) (fun _ _ _ h => h) (Or.inl ⟨by rfl, ?_⟩) hHeld ?_ ?_
  rotate_left
  · rintro w' ⟨s0, s1⟩
    go_simp
    with_reducible rfl
  rotate_left
  · simp only [Act.put, List.setIfInBounds_toArray, List.set_cons_zero, List.set_cons_succ, i64_w, i32_w]
    rfl
  refine take_ (i := 2) (N := some 26) (v := ?_) (a' := ?_) #[true, true, true, false, false, false] rfl rfl (by kernel_rfl) (fun _ _ _ h => h) (Or.inl ⟨by rfl, ?_⟩) hHeld ?_ ?_
  rotate_left
  · rintro w' ⟨s0, s1⟩
    go_simp
    with_reducible rfl
  rotate_left
  · simp only [Act.put, List.setIfInBounds_toArray, List.set_cons_zero, List.set_cons_succ, i64_w, i32_w]
    rfl
  refine one_ (i := 3) (N := none) #[true, true, true, true, false, false] rfl rfl (by kernel_rfl) (by decide) (fun K hK => ?_)
  refine skip_ (w1 := ?_) (by rfl) rfl ?_ ?_
  rotate_left
  · go_simp
    rfl
  refine hK.out _ _ ⟨(by go_simp), (by go_simp)⟩ (fun hHeld => ?_)
  clear hK K
  have v0' : (((((V.setCell ⟨w.heap.size, 0, none⟩ (.int .i64 0)).setCell ⟨w.heap.size, 1, none⟩ (.slice none 0 0)).setCell ⟨w.heap.size, 2, none⟩ (.int .i64 0)).setCell ⟨w.heap.size, 3, none⟩ (.int .i64 0)).setCell ⟨w.heap.size, 4, none⟩ (.slice none 0 0)).drew.cell? ⟨w.heap.size, 0, none⟩ = some (.int .i64 0) := by go_simp
  have v1' : (((((V.setCell ⟨w.heap.size, 0, none⟩ (.int .i64 0)).setCell ⟨w.heap.size, 1, none⟩ (.slice none 0 0)).setCell ⟨w.heap.size, 2, none⟩ (.int .i64 0)).setCell ⟨w.heap.size, 3, none⟩ (.int .i64 0)).setCell ⟨w.heap.size, 4, none⟩ (.slice none 0 0)).drew.cell? ⟨w.heap.size, 1, none⟩ = some (.slice none 0 0) := by go_simp
  have v2' : (((((V.setCell ⟨w.heap.size, 0, none⟩ (.int .i64 0)).setCell ⟨w.heap.size, 1, none⟩ (.slice none 0 0)).setCell ⟨w.heap.size, 2, none⟩ (.int .i64 0)).setCell ⟨w.heap.size, 3, none⟩ (.int .i64 0)).setCell ⟨w.heap.size, 4, none⟩ (.slice none 0 0)).drew.cell? ⟨w.heap.size, 2, none⟩ = some (.int .i64 0) := by go_simp
  have v3' : (((((V.setCell ⟨w.heap.size, 0, none⟩ (.int .i64 0)).setCell ⟨w.heap.size, 1, none⟩ (.slice none 0 0)).setCell ⟨w.heap.size, 2, none⟩ (.int .i64 0)).setCell ⟨w.heap.size, 3, none⟩ (.int .i64 0)).setCell ⟨w.heap.size, 4, none⟩ (.slice none 0 0)).drew.cell? ⟨w.heap.size, 3, none⟩ = some (.int .i64 0) := by go_simp
  have v4' : (((((V.setCell ⟨w.heap.size, 0, none⟩ (.int .i64 0)).setCell ⟨w.heap.size, 1, none⟩ (.slice none 0 0)).setCell ⟨w.heap.size, 2, none⟩ (.int .i64 0)).setCell ⟨w.heap.size, 3, none⟩ (.int .i64 0)).setCell ⟨w.heap.size, 4, none⟩ (.slice none 0 0)).drew.cell? ⟨w.heap.size, 4, none⟩ = some (.slice none 0 0) := by go_simp
  have p2' : (((((V.setCell ⟨w.heap.size, 0, none⟩ (.int .i64 0)).setCell ⟨w.heap.size, 1, none⟩ (.slice none 0 0)).setCell ⟨w.heap.size, 2, none⟩ (.int .i64 0)).setCell ⟨w.heap.size, 3, none⟩ (.int .i64 0)).setCell ⟨w.heap.size, 4, none⟩ (.slice none 0 0)).drew.cell? ⟨w.heap.size + 1, 0, none⟩ = some (.int .i64 a) := by go_simp
  have p3' : (((((V.setCell ⟨w.heap.size, 0, none⟩ (.int .i64 0)).setCell ⟨w.heap.size, 1, none⟩ (.slice none 0 0)).setCell ⟨w.heap.size, 2, none⟩ (.int .i64 0)).setCell ⟨w.heap.size, 3, none⟩ (.int .i64 0)).setCell ⟨w.heap.size, 4, none⟩ (.slice none 0 0)).drew.cell? ⟨w.heap.size + 1 + 1, 0, none⟩ = some (.int .i64 er) := by go_simp
  have fv1' : (((((V.setCell ⟨w.heap.size, 0, none⟩ (.int .i64 0)).setCell ⟨w.heap.size, 1, none⟩ (.slice none 0 0)).setCell ⟨w.heap.size, 2, none⟩ (.int .i64 0)).setCell ⟨w.heap.size, 3, none⟩ (.int .i64 0)).setCell ⟨w.heap.size, 4, none⟩ (.slice none 0 0)).drew.frozen? ⟨w.heap.size, 0, none⟩ = false := by go_simp
  have fv11' : (((((V.setCell ⟨w.heap.size, 0, none⟩ (.int .i64 0)).setCell ⟨w.heap.size, 1, none⟩ (.slice none 0 0)).setCell ⟨w.heap.size, 2, none⟩ (.int .i64 0)).setCell ⟨w.heap.size, 3, none⟩ (.int .i64 0)).setCell ⟨w.heap.size, 4, none⟩ (.slice none 0 0)).drew.frozen? ⟨w.heap.size, 1, none⟩ = false := by go_simp
  have fv12' : (((((V.setCell ⟨w.heap.size, 0, none⟩ (.int .i64 0)).setCell ⟨w.heap.size, 1, none⟩ (.slice none 0 0)).setCell ⟨w.heap.size, 2, none⟩ (.int .i64 0)).setCell ⟨w.heap.size, 3, none⟩ (.int .i64 0)).setCell ⟨w.heap.size, 4, none⟩ (.slice none 0 0)).drew.frozen? ⟨w.heap.size, 2, none⟩ = false := by go_simp
  have fv13' : (((((V.setCell ⟨w.heap.size, 0, none⟩ (.int .i64 0)).setCell ⟨w.heap.size, 1, none⟩ (.slice none 0 0)).setCell ⟨w.heap.size, 2, none⟩ (.int .i64 0)).setCell ⟨w.heap.size, 3, none⟩ (.int .i64 0)).setCell ⟨w.heap.size, 4, none⟩ (.slice none 0 0)).drew.frozen? ⟨w.heap.size, 3, none⟩ = false := by go_simp
  have fv14' : (((((V.setCell ⟨w.heap.size, 0, none⟩ (.int .i64 0)).setCell ⟨w.heap.size, 1, none⟩ (.slice none 0 0)).setCell ⟨w.heap.size, 2, none⟩ (.int .i64 0)).setCell ⟨w.heap.size, 3, none⟩ (.int .i64 0)).setCell ⟨w.heap.size, 4, none⟩ (.slice none 0 0)).drew.frozen? ⟨w.heap.size, 4, none⟩ = false := by go_simp
  have fv2' : (((((V.setCell ⟨w.heap.size, 0, none⟩ (.int .i64 0)).setCell ⟨w.heap.size, 1, none⟩ (.slice none 0 0)).setCell ⟨w.heap.size, 2, none⟩ (.int .i64 0)).setCell ⟨w.heap.size, 3, none⟩ (.int .i64 0)).setCell ⟨w.heap.size, 4, none⟩ (.slice none 0 0)).drew.frozen? ⟨w.heap.size + 1, 0, none⟩ = false := by go_simp
  have fv3' : (((((V.setCell ⟨w.heap.size, 0, none⟩ (.int .i64 0)).setCell ⟨w.heap.size, 1, none⟩ (.slice none 0 0)).setCell ⟨w.heap.size, 2, none⟩ (.int .i64 0)).setCell ⟨w.heap.size, 3, none⟩ (.int .i64 0)).setCell ⟨w.heap.size, 4, none⟩ (.slice none 0 0)).drew.frozen? ⟨w.heap.size + 1 + 1, 0, none⟩ = false := by go_simp
  have HB5 := Aside0.mk (show Below w.heap.size w (((((V.setCell ⟨w.heap.size, 0, none⟩ (.int .i64 0)).setCell ⟨w.heap.size, 1, none⟩ (.slice none 0 0)).setCell ⟨w.heap.size, 2, none⟩ (.int .i64 0)).setCell ⟨w.heap.size, 3, none⟩ (.int .i64 0)).setCell ⟨w.heap.size, 4, none⟩ (.slice none 0 0)).drew from below_drew1 (((((HBV.out.setCell (Nat.le_refl _) _).setCell (Nat.le_refl _) _).setCell (Nat.le_refl _) _).setCell (Nat.le_refl _) _).setCell (Nat.le_refl _) _))
  generalize (((((V.setCell ⟨w.heap.size, 0, none⟩ (.int .i64 0)).setCell ⟨w.heap.size, 1, none⟩ (.slice none 0 0)).setCell ⟨w.heap.size, 2, none⟩ (.int .i64 0)).setCell ⟨w.heap.size, 3, none⟩ (.int .i64 0)).setCell ⟨w.heap.size, 4, none⟩ (.slice none 0 0)).drew = V5 at *
  clear v0 v1 v2 v3 v4 p2 p3 fv1 fv2 fv3 fv11 fv12 fv13 fv14
  refine one_ (i := 4) (N := none) #[true, true, true, true, true, false] rfl rfl (by kernel_rfl) (by decide) (fun K hK => ?_)
  refine skip_ (w1 := ?_) (by rfl) rfl ?_ ?_
  rotate_left
  · go_simp
    rfl
  refine hK.out _ _ ⟨(by go_simp), (by go_simp)⟩ (fun hHeld => ?_)
  clear hK K
  refine one_ (i := 5) (N := none) #[true, true, true, true, true, true] rfl rfl (by kernel_rfl) (by decide) (fun K hK => ?_)
  refine skip_ (w1 := ?_) (by rfl) rfl ?_ ?_
  rotate_left
  · go_simp
    rfl
  refine hK.out _ _ ⟨(by go_simp), (by go_simp)⟩ (fun hHeld => ?_)
  clear hK K
  refine done_ (by kernel_rfl) ?_

  refine NoPanic.normal ?_
  go_wp2_with fail
  simp [Leaves, settle, results, Tryz.results20, go_sem, bodyPostD, v0', v1', v2', v3', v4', p2', p3']
  exact ⟨⟨_, rfl, FK_leaf _ _ 0⟩, (HB5.out.setCell (Nat.le_succ _) _).setCell (show w.heap.size ≤ w.heap.size + 1 + 1 by omega) _⟩
end
end Go.Proofs.YtglolcejfbhbdaaGreat.P
end
section
namespace Go.Proofs.YtglolcejfbhbdaaGreat.P
open Go.RowKit Go.Shelf Go.Proofs.YtglolcejfbhbdaaGreatW.PrintWords Go.Proofs.YtglolcejfbhbdaaGreatW.PrintLast Go.Proofs.YtglolcejfbhbdaaGreatW.PrintMore
set_option linter.unusedVariables false
set_option linter.unusedSimpArgs false
section
variable {A : Option Addr} {c : Nat} {l : List Int} {fl : Int} {w : World}
theorem below_set5 {B : Nat} {w W : World} (h : Below B w W) (b : Nat) (hb : B ≤ b) (v0 v1 v2 v3 v4 : Value) : Below B w (((((W.setCell ⟨b, 0, none⟩ v0).setCell ⟨b, 1, none⟩ v1).setCell ⟨b, 2, none⟩ v2).setCell ⟨b, 3, none⟩ v3).setCell ⟨b, 4, none⟩ v4) :=
  ((((h.setCell (p := ⟨b, 0, none⟩) hb _).setCell (p := ⟨b, 1, none⟩) hb _).setCell (p := ⟨b, 2, none⟩) hb _).setCell (p := ⟨b, 3, none⟩) hb _).setCell (p := ⟨b, 4, none⟩) hb _
theorem blk_set5 {W : World} {b : Nat} {u0 u1 u2 u3 u4 : Value} (h : W.heap[b]? = some (.cells #[u0, u1, u2, u3, u4] 35 (0, 0))) (v0 v1 v2 v3 v4 : Value) :
    (((((W.setCell ⟨b, 0, none⟩ v0).setCell ⟨b, 1, none⟩ v1).setCell ⟨b, 2, none⟩ v2).setCell ⟨b, 3, none⟩ v3).setCell ⟨b, 4, none⟩ v4).heap[b]? = some (.cells #[v0, v1, v2, v3, v4] 35 (0, 0)) := by
  have h1 := blk_set (blk_set (blk_set (blk_set (blk_set h 0 v0) 1 v1) 2 v2) 3 v3) 4 v4
  simpa using h1
theorem blk_far5 {W : World} {b k : Nat} {t : TypeId} {cs : Array Value} (h : W.heap[k]? = some (.cells cs t (0, 0))) (hk : k ≠ b) (v0 v1 v2 v3 v4 : Value) :
    (((((W.setCell ⟨b, 0, none⟩ v0).setCell ⟨b, 1, none⟩ v1).setCell ⟨b, 2, none⟩ v2).setCell ⟨b, 3, none⟩ v3).setCell ⟨b, 4, none⟩ v4).heap[k]? = some (.cells cs t (0, 0)) :=
  (heap_set5 W b v0 v1 v2 v3 v4 k hk).trans h
set_option maxRecDepth 100000 in
set_option maxHeartbeats 1000000 in
/-- A panic of ours, recovered: what Parse hands back then. -/
theorem panic_end {w W : World} {v0 v1 v2 v3 v4 x2 x3 : Value} (HB : Below w.heap.size w W) (h1 : W.heap[w.heap.size]? = some (.cells #[v0, v1, v2, v3, v4] 35 (0, 0))) (h2 : W.heap[w.heap.size + 1]? = some (.cells #[x2] 3 (0, 0))) (h3 : W.heap[w.heap.size + 1 + 1]? = some (.cells #[x3] 36 (0, 0)))
    (at_ er : Int) (tmps : Array Value) (t4 : tmps[4]?.getD undef = .pointer (some ⟨w.heap.size, 0, none⟩)) (t5 : tmps[5]?.getD undef = .pointer (some ⟨w.heap.size + 1, 0, none⟩)) (t6 : tmps[6]?.getD undef = .pointer (some ⟨w.heap.size + 1 + 1, 0, none⟩)) :
    Leaves Tryz.prog Tryz.f20 tmps (ParsePost (nodeN, at_, er) w) [{ target := .fn (.func 43) #[.pointer (some ⟨w.heap.size, 0, none⟩), .pointer (some ⟨w.heap.size + 1, 0, none⟩), .pointer (some ⟨w.heap.size + 1 + 1, 0, none⟩)], args := #[] }] (.panicking (wrongV at_ er)) W := by
  refine leaves_cons (f := 43) (args := #[.pointer (some ⟨w.heap.size, 0, none⟩), .pointer (some ⟨w.heap.size + 1, 0, none⟩), .pointer (some ⟨w.heap.size + 1 + 1, 0, none⟩)]) (by simp) (by simp [go_sem]) ?_
  obtain ⟨z0, z1, z2, z3, z4⟩ := node_cells h1
  have q1 := blk_frozen h1
  refine (parse1_panicking w.heap.size (w.heap.size + 1) (w.heap.size + 1 + 1) at_ er W v0 v1 v2 v3 v4 x2 x3 z0 z1 z2 z3 z4 (by simpa using blk_cell h2 0) (by simpa using blk_cell h3 0) (q1 0) (q1 1) (q1 2) (q1 3) (q1 4) (blk_frozen h2 0) (blk_frozen h3 0) (by omega) (by omega) (by omega) []).mono ?_
  rintro e u' w2 ⟨rfl, rfl, hw2⟩
  have g1 : w2.heap[w.heap.size]? = some (.cells #[.int .i64 0, .slice none 0 0, .int .i64 0, .int .i64 0, .slice none 0 0] 35 (0, 0)) := by
    rw [hw2]; unfold afterBad
    exact blk_far (blk_far (blk_drew (blk_alloc (blk_set5 h1 _ _ _ _ _) _)) (p := ⟨w.heap.size + 1, 0, none⟩) (show w.heap.size ≠ w.heap.size + 1 by omega) _) (p := ⟨w.heap.size + 1 + 1, 0, none⟩) (show w.heap.size ≠ w.heap.size + 1 + 1 by omega) _
  have g2 : w2.heap[w.heap.size + 1]? = some (.cells #[.int .i64 at_] 3 (0, 0)) := by
    rw [hw2]; unfold afterBad
    have := blk_set (blk_drew (blk_alloc (blk_far5 h2 (show w.heap.size + 1 ≠ w.heap.size by omega) (.int .i64 0) (.slice none 0 0) (.int .i64 0) (.int .i64 0) (.slice none 0 0)) (.cells #[.int .i64 at_, .int .i64 er] 61))) 0 (.int .i64 at_)
    exact blk_far (by simpa using this) (p := ⟨w.heap.size + 1 + 1, 0, none⟩) (show w.heap.size + 1 ≠ w.heap.size + 1 + 1 by omega) _
  have g3 : w2.heap[w.heap.size + 1 + 1]? = some (.cells #[.int .i64 er] 36 (0, 0)) := by
    rw [hw2]; unfold afterBad
    have := blk_set (blk_far (blk_drew (blk_alloc (blk_far5 h3 (show w.heap.size + 1 + 1 ≠ w.heap.size by omega) (.int .i64 0) (.slice none 0 0) (.int .i64 0) (.int .i64 0) (.slice none 0 0)) (.cells #[.int .i64 at_, .int .i64 er] 61))) (p := ⟨w.heap.size + 1, 0, none⟩) (show w.heap.size + 1 + 1 ≠ w.heap.size + 1 by omega) (.int .i64 at_)) 0 (.int .i64 er)
    simpa using this
  have HB2 : Below w.heap.size w w2 := by
    rw [hw2]; unfold afterBad
    exact ((below_drew1 ((below_set5 HB w.heap.size (Nat.le_refl _) _ _ _ _ _).alloc (by simpa using HB.size) _)).setCell (p := ⟨w.heap.size + 1, 0, none⟩) (Nat.le_succ _) _).setCell (p := ⟨w.heap.size + 1 + 1, 0, none⟩) (show w.heap.size ≤ w.heap.size + 1 + 1 by omega) _
  clear hw2
  obtain ⟨y0, y1, y2, y3, y4⟩ := node_cells g1
  have p2 : w2.cell? ⟨w.heap.size + 1, 0, none⟩ = some (.int .i64 at_) := by simpa using blk_cell g2 0
  have p3 : w2.cell? ⟨w.heap.size + 1 + 1, 0, none⟩ = some (.int .i64 er) := by simpa using blk_cell g3 0
  simp [Leaves, settle, results, Tryz.results20, go_sem, t4, t5, t6, y0, y1, y2, y3, y4, p2, p3]
  exact ⟨⟨_, rfl, FK_leaf _ _ 0⟩, HB2⟩
end
end Go.Proofs.YtglolcejfbhbdaaGreat.P
end
section
namespace Go.Proofs.YtglolcejfbhbdaaGreat.P
open Go.RowKit Go.Shelf Go.Proofs.YtglolcejfbhbdaaGreatW.PrintWords Go.Proofs.YtglolcejfbhbdaaGreatW.PrintLast Go.Proofs.YtglolcejfbhbdaaGreatW.PrintMore
set_option linter.unusedVariables false
set_option linter.unusedSimpArgs false
section
variable {A : Option Addr} {c : Nat} {l : List Int} {fl : Int} {w : World}
set_option maxRecDepth 100000 in
set_option maxHeartbeats 1000000 in
theorem parse_bad (hr : Kd.C (Kd.int .i64) w A l.length l) (h0 : ¬ fl < 0) (h7 : ¬ 7 < fl) {ts : List S68} (hb : tokOf l = .done ts) (HWF : Aside0 (wfT 0 ts)) (HLN : Aside0 (ts.length ≤ 1000)) {a er : Int} (HO : Aside0 (orP l.length fl 21 0 ts = .bad a er)) :
    Calls Tryz.prog 20 #[.slice A l.length c, .int .i64 fl] w (ParsePost (nodeN, a, er) w) := by
  have b0 : decide (fl < 0) = false := decide_eq_false (by omega)
  have b1 : decide (7 < fl) = false := decide_eq_false (by omega)
  have hof := Of_all A c l (((w.alloc nodeZ).alloc (.cells #[.int .i64 0] 3)).alloc (.cells #[.int .i64 0] 36)) (Kd.C_below hr (below_alloc (below_alloc (below_alloc (Below.refl _ _) _) _) _))
  have hz : (((w.alloc nodeZ).alloc (.cells #[.int .i64 0] 3)).alloc (.cells #[.int .i64 0] 36)).heap.size = w.heap.size + 3 := by simp
  have hx1 : (((w.alloc nodeZ).alloc (.cells #[.int .i64 0] 3)).alloc (.cells #[.int .i64 0] 36)).heap[w.heap.size]? = some nodeZ := blk_alloc (blk_alloc (blk_new w nodeZ) _) _
  have hx2 : (((w.alloc nodeZ).alloc (.cells #[.int .i64 0] 3)).alloc (.cells #[.int .i64 0] 36)).heap[w.heap.size + 1]? = some (.cells #[.int .i64 0] 3 (0, 0)) := blk_alloc (by simpa using blk_new (w.alloc nodeZ) (.cells #[.int .i64 0] 3)) _
  have hx3 : (((w.alloc nodeZ).alloc (.cells #[.int .i64 0] 3)).alloc (.cells #[.int .i64 0] 36)).heap[w.heap.size + 2]? = some (.cells #[.int .i64 0] 36 (0, 0)) := by simpa using blk_new ((w.alloc nodeZ).alloc (.cells #[.int .i64 0] 3)) (.cells #[.int .i64 0] 36)
  have HB0 := Aside0.mk (show Below w.heap.size w (((w.alloc nodeZ).alloc (.cells #[.int .i64 0] 3)).alloc (.cells #[.int .i64 0] 36)) from below_alloc (below_alloc (below_alloc (Below.refl _ _) _) _) _)
  have HX1 := Aside0.mk hx1
  have HX2 := Aside0.mk hx2
  have HX3 := Aside0.mk hx3
  have HR0 := Aside0.mk hr
  clear hx1 hx2 hx3 hr h0 h7
  have hmf : ∀ (fn : Fn) (first cap : Array Value) (w : World), (Instr.makeFunc fn first cap).run Tryz.prog w = .ok (.func fn first cap) w := fun _ _ _ _ => rfl
  rw [hb] at hof
  clear hb
  go_enter_defers Tryz.func20, Tryz.ntmps20
  unfold nodeZ at hof
  go_wp2_with fail
  refine hof.mono ?_
  rintro e w1 ⟨v, a1, er1, ts1, rfl, hR1, hb1, hcase⟩
  obtain ⟨rfl, rfl, rfl⟩ : ts = ts1 ∧ a1 = 0 ∧ er1 = 0 := by
    rcases hcase with ⟨h, h2, h3⟩ | ⟨h, _⟩
    · injection h with h1; exact ⟨h1, h2, h3⟩
    · cases h
  clear hcase
  obtain ⟨A1, c1, rfl⟩ := Kd.R_slice hR1
  have HR1 := Aside0.mk hR1
  clear hR1
  have hy1 := blk_below HX1.out hb1
  have hy2 := blk_below HX2.out hb1
  have hy3 := blk_below HX3.out hb1
  have HY1 := Aside0.mk hy1
  have HY2 := Aside0.mk hy2
  have HY3 := Aside0.mk hy3
  have d2 : w1.cell? ⟨w.heap.size + 1, 0, none⟩ = some (.int .i64 0) := by simpa using blk_cell hy2 0
  have d3 : w1.cell? ⟨w.heap.size + 1 + 1, 0, none⟩ = some (.int .i64 0) := by simpa using blk_cell hy3 0
  have q2 : w1.frozen? ⟨w.heap.size + 1, 0, none⟩ = false := blk_frozen hy2 0
  have q3 : w1.frozen? ⟨w.heap.size + 1 + 1, 0, none⟩ = false := blk_frozen hy3 0
  have l3 : w.heap.size + 1 + 1 < w1.heap.size := blk_lt hy3
  have hB1 : Below w.heap.size w w1 := HB0.out.trans (hb1.mono (by simp; omega))
  have HB1 := Aside0.mk hB1
  clear hy2 hy3 hb1 hB1
  obtain ⟨z0, z1, z2, z3, z4⟩ := node_cells hy1
  have q1 := blk_frozen hy1
  have l1 := blk_lt hy1
  clear hof hy1
  have hC1 : Kd.C k68 ((w1.setCell ⟨w.heap.size + 1, 0, none⟩ (.int .i64 0)).setCell ⟨w.heap.size + 1 + 1, 0, none⟩ (.int .i64 0)) A1 ts.length ts := (Kd.R_reads' (Kd.R_far (Kd.R_far (Kd.R_mono (Kd.R_bound HR1.out) (ok' := fun k => w.heap.size + 3 ≤ k) (fun k hk => by have h5 := hk.2.1; simp at h5; omega)) (p := ⟨w.heap.size + 1, 0, none⟩) (fun k hk => by simp; omega) (.int .i64 0)) (p := ⟨w.heap.size + 1 + 1, 0, none⟩) (fun k hk => by simp; omega) (.int .i64 0))).2.2
  have hcc := (Kd.R_reads' HR1.out).2.1
  have eA : ((w1.setCell ⟨w.heap.size + 1, 0, none⟩ (.int .i64 0)).setCell ⟨w.heap.size + 1 + 1, 0, none⟩ (.int .i64 0)).heap.size = w1.heap.size := by simp
  have hT : Rdr ((w1.setCell ⟨w.heap.size + 1, 0, none⟩ (.int .i64 0)).setCell ⟨w.heap.size + 1 + 1, 0, none⟩ (.int .i64 0)) w1.heap.size l.length fl ts (((w1.setCell ⟨w.heap.size + 1, 0, none⟩ (.int .i64 0)).setCell ⟨w.heap.size + 1 + 1, 0, none⟩ (.int .i64 0)).alloc (.cells #[.slice A1 ts.length c1, .int .i64 (l.length : Int), .int .i64 fl] 65)) := ⟨below_alloc (Below.refl _ _) _, by rw [eA]; exact Nat.le_refl _, A1, c1, hcc, hC1, by have h5 := blk_new ((w1.setCell ⟨w.heap.size + 1, 0, none⟩ (.int .i64 0)).setCell ⟨w.heap.size + 1 + 1, 0, none⟩ (.int .i64 0)) (.cells #[.slice A1 ts.length c1, .int .i64 (l.length : Int), .int .i64 fl] 65); rwa [eA] at h5⟩
  have hcall := or_all ((w1.setCell ⟨w.heap.size + 1, 0, none⟩ (.int .i64 0)).setCell ⟨w.heap.size + 1 + 1, 0, none⟩ (.int .i64 0)) w1.heap.size l.length fl 21 0 ts (((w1.setCell ⟨w.heap.size + 1, 0, none⟩ (.int .i64 0)).setCell ⟨w.heap.size + 1 + 1, 0, none⟩ (.int .i64 0)).alloc (.cells #[.slice A1 ts.length c1, .int .i64 (l.length : Int), .int .i64 fl] 65)) (by omega) (by omega) (by omega) HWF.out (by have h5 := HLN.out; omega) hT
  have HB01 := Aside0.mk (show ((w1.setCell ⟨w.heap.size + 1, 0, none⟩ (.int .i64 0)).setCell ⟨w.heap.size + 1 + 1, 0, none⟩ (.int .i64 0)).heap[w.heap.size]? = some (.cells #[.int .i64 0, .slice none 0 0, .int .i64 0, .int .i64 0, .slice none 0 0] 35 (0, 0)) from blk_far (blk_far HY1.out (p := ⟨w.heap.size + 1, 0, none⟩) (show w.heap.size ≠ w.heap.size + 1 by omega) _) (p := ⟨w.heap.size + 1 + 1, 0, none⟩) (show w.heap.size ≠ w.heap.size + 1 + 1 by omega) _)
  have HB02 := Aside0.mk (show ((w1.setCell ⟨w.heap.size + 1, 0, none⟩ (.int .i64 0)).setCell ⟨w.heap.size + 1 + 1, 0, none⟩ (.int .i64 0)).heap[w.heap.size + 1]? = some (.cells #[.int .i64 0] 3 (0, 0)) from blk_far (by simpa using blk_set HY2.out 0 (.int .i64 0)) (p := ⟨w.heap.size + 1 + 1, 0, none⟩) (show w.heap.size + 1 ≠ w.heap.size + 1 + 1 by omega) _)
  have HB03 := Aside0.mk (show ((w1.setCell ⟨w.heap.size + 1, 0, none⟩ (.int .i64 0)).setCell ⟨w.heap.size + 1 + 1, 0, none⟩ (.int .i64 0)).heap[w.heap.size + 1 + 1]? = some (.cells #[.int .i64 0] 36 (0, 0)) from by simpa using blk_set (blk_far HY3.out (p := ⟨w.heap.size + 1, 0, none⟩) (show w.heap.size + 1 + 1 ≠ w.heap.size + 1 by omega) (.int .i64 0)) 0 (.int .i64 0))
  have HA1 := Aside0.mk (blk_alloc HB01.out (.cells #[.slice A1 ts.length c1, .int .i64 (l.length : Int), .int .i64 fl] 65))
  have HA2 := Aside0.mk (blk_alloc HB02.out (.cells #[.slice A1 ts.length c1, .int .i64 (l.length : Int), .int .i64 fl] 65))
  have HA3 := Aside0.mk (blk_alloc HB03.out (.cells #[.slice A1 ts.length c1, .int .i64 (l.length : Int), .int .i64 fl] 65))
  have HBA := Aside0.mk (show Below w.heap.size w (((w1.setCell ⟨w.heap.size + 1, 0, none⟩ (.int .i64 0)).setCell ⟨w.heap.size + 1 + 1, 0, none⟩ (.int .i64 0))) from (HB1.out.setCell (Nat.le_succ _) _).setCell (show w.heap.size ≤ w.heap.size + 1 + 1 by omega) _)
  have l13 : w.heap.size + 1 + 1 < w1.heap.size := l3
  clear hC1 hcc hT
  rw [HO.out] at hcall
  go_wp2_with fail
  (with_reducible refine hcall.mono ?_)
  rintro e w2 ⟨rfl, hb2⟩
  have hs : w1.heap.size ≤ w2.heap.size := by have h5 := hb2.size; simpa using h5
  exact panic_end (HBA.out.trans (hb2.mono (by rw [eA]; omega))) ((hb2.block _ (by rw [eA]; omega)).trans HB01.out) ((hb2.block _ (by rw [eA]; omega)).trans HB02.out) ((hb2.block _ (by rw [eA]; omega)).trans HB03.out) a er _ (by rfl) (by rfl) (by rfl)
end
end Go.Proofs.YtglolcejfbhbdaaGreat.P
end
section
namespace Go.Proofs.YtglolcejfbhbdaaGreat.P
open Go.RowKit Go.Shelf Go.Proofs.YtglolcejfbhbdaaGreatW.PrintWords Go.Proofs.YtglolcejfbhbdaaGreatW.PrintLast Go.Proofs.YtglolcejfbhbdaaGreatW.PrintMore
set_option linter.unusedVariables false
set_option linter.unusedSimpArgs false
section
variable {A : Option Addr} {c : Nat} {l : List Int} {fl : Int} {w : World}
set_option maxRecDepth 100000 in
set_option maxHeartbeats 1000000 in
theorem parse_rest (hr : Kd.C (Kd.int .i64) w A l.length l) (h0 : ¬ fl < 0) (h7 : ¬ 7 < fl) {ts : List S68} (hb : tokOf l = .done ts) (HWF : Aside0 (wfT 0 ts)) (HLN : Aside0 (ts.length ≤ 1000)) {n : S35} {u : S68} {v : List S68} (HO : Aside0 (orP l.length fl 21 0 ts = .ok n (u :: v))) :
    Calls Tryz.prog 20 #[.slice A l.length c, .int .i64 fl] w (ParsePost (nodeN, u.f4, 5) w) := by
  have b0 : decide (fl < 0) = false := decide_eq_false (by omega)
  have b1 : decide (7 < fl) = false := decide_eq_false (by omega)
  have hof := Of_all A c l (((w.alloc nodeZ).alloc (.cells #[.int .i64 0] 3)).alloc (.cells #[.int .i64 0] 36)) (Kd.C_below hr (below_alloc (below_alloc (below_alloc (Below.refl _ _) _) _) _))
  have hz : (((w.alloc nodeZ).alloc (.cells #[.int .i64 0] 3)).alloc (.cells #[.int .i64 0] 36)).heap.size = w.heap.size + 3 := by simp
  have hx1 : (((w.alloc nodeZ).alloc (.cells #[.int .i64 0] 3)).alloc (.cells #[.int .i64 0] 36)).heap[w.heap.size]? = some nodeZ := blk_alloc (blk_alloc (blk_new w nodeZ) _) _
  have hx2 : (((w.alloc nodeZ).alloc (.cells #[.int .i64 0] 3)).alloc (.cells #[.int .i64 0] 36)).heap[w.heap.size + 1]? = some (.cells #[.int .i64 0] 3 (0, 0)) := blk_alloc (by simpa using blk_new (w.alloc nodeZ) (.cells #[.int .i64 0] 3)) _
  have hx3 : (((w.alloc nodeZ).alloc (.cells #[.int .i64 0] 3)).alloc (.cells #[.int .i64 0] 36)).heap[w.heap.size + 2]? = some (.cells #[.int .i64 0] 36 (0, 0)) := by simpa using blk_new ((w.alloc nodeZ).alloc (.cells #[.int .i64 0] 3)) (.cells #[.int .i64 0] 36)
  have HB0 := Aside0.mk (show Below w.heap.size w (((w.alloc nodeZ).alloc (.cells #[.int .i64 0] 3)).alloc (.cells #[.int .i64 0] 36)) from below_alloc (below_alloc (below_alloc (Below.refl _ _) _) _) _)
  have HX1 := Aside0.mk hx1
  have HX2 := Aside0.mk hx2
  have HX3 := Aside0.mk hx3
  have HR0 := Aside0.mk hr
  clear hx1 hx2 hx3 hr h0 h7
  have hmf : ∀ (fn : Fn) (first cap : Array Value) (w : World), (Instr.makeFunc fn first cap).run Tryz.prog w = .ok (.func fn first cap) w := fun _ _ _ _ => rfl
  rw [hb] at hof
  clear hb
  go_enter_defers Tryz.func20, Tryz.ntmps20
  unfold nodeZ at hof
  go_wp2_with fail
  refine hof.mono ?_
  rintro e w1 ⟨v, a1, er1, ts1, rfl, hR1, hb1, hcase⟩
  obtain ⟨rfl, rfl, rfl⟩ : ts = ts1 ∧ a1 = 0 ∧ er1 = 0 := by
    rcases hcase with ⟨h, h2, h3⟩ | ⟨h, _⟩
    · injection h with h1; exact ⟨h1, h2, h3⟩
    · cases h
  clear hcase
  obtain ⟨A1, c1, rfl⟩ := Kd.R_slice hR1
  have HR1 := Aside0.mk hR1
  clear hR1
  have hy1 := blk_below HX1.out hb1
  have hy2 := blk_below HX2.out hb1
  have hy3 := blk_below HX3.out hb1
  have HY1 := Aside0.mk hy1
  have HY2 := Aside0.mk hy2
  have HY3 := Aside0.mk hy3
  have d2 : w1.cell? ⟨w.heap.size + 1, 0, none⟩ = some (.int .i64 0) := by simpa using blk_cell hy2 0
  have d3 : w1.cell? ⟨w.heap.size + 1 + 1, 0, none⟩ = some (.int .i64 0) := by simpa using blk_cell hy3 0
  have q2 : w1.frozen? ⟨w.heap.size + 1, 0, none⟩ = false := blk_frozen hy2 0
  have q3 : w1.frozen? ⟨w.heap.size + 1 + 1, 0, none⟩ = false := blk_frozen hy3 0
  have l3 : w.heap.size + 1 + 1 < w1.heap.size := blk_lt hy3
  have hB1 : Below w.heap.size w w1 := HB0.out.trans (hb1.mono (by simp; omega))
  have HB1 := Aside0.mk hB1
  clear hy2 hy3 hb1 hB1
  obtain ⟨z0, z1, z2, z3, z4⟩ := node_cells hy1
  have q1 := blk_frozen hy1
  have l1 := blk_lt hy1
  clear hof hy1
  have hC1 : Kd.C k68 ((w1.setCell ⟨w.heap.size + 1, 0, none⟩ (.int .i64 0)).setCell ⟨w.heap.size + 1 + 1, 0, none⟩ (.int .i64 0)) A1 ts.length ts := (Kd.R_reads' (Kd.R_far (Kd.R_far (Kd.R_mono (Kd.R_bound HR1.out) (ok' := fun k => w.heap.size + 3 ≤ k) (fun k hk => by have h5 := hk.2.1; simp at h5; omega)) (p := ⟨w.heap.size + 1, 0, none⟩) (fun k hk => by simp; omega) (.int .i64 0)) (p := ⟨w.heap.size + 1 + 1, 0, none⟩) (fun k hk => by simp; omega) (.int .i64 0))).2.2
  have hcc := (Kd.R_reads' HR1.out).2.1
  have eA : ((w1.setCell ⟨w.heap.size + 1, 0, none⟩ (.int .i64 0)).setCell ⟨w.heap.size + 1 + 1, 0, none⟩ (.int .i64 0)).heap.size = w1.heap.size := by simp
  have hT : Rdr ((w1.setCell ⟨w.heap.size + 1, 0, none⟩ (.int .i64 0)).setCell ⟨w.heap.size + 1 + 1, 0, none⟩ (.int .i64 0)) w1.heap.size l.length fl ts (((w1.setCell ⟨w.heap.size + 1, 0, none⟩ (.int .i64 0)).setCell ⟨w.heap.size + 1 + 1, 0, none⟩ (.int .i64 0)).alloc (.cells #[.slice A1 ts.length c1, .int .i64 (l.length : Int), .int .i64 fl] 65)) := ⟨below_alloc (Below.refl _ _) _, by rw [eA]; exact Nat.le_refl _, A1, c1, hcc, hC1, by have h5 := blk_new ((w1.setCell ⟨w.heap.size + 1, 0, none⟩ (.int .i64 0)).setCell ⟨w.heap.size + 1 + 1, 0, none⟩ (.int .i64 0)) (.cells #[.slice A1 ts.length c1, .int .i64 (l.length : Int), .int .i64 fl] 65); rwa [eA] at h5⟩
  have hcall := or_all ((w1.setCell ⟨w.heap.size + 1, 0, none⟩ (.int .i64 0)).setCell ⟨w.heap.size + 1 + 1, 0, none⟩ (.int .i64 0)) w1.heap.size l.length fl 21 0 ts (((w1.setCell ⟨w.heap.size + 1, 0, none⟩ (.int .i64 0)).setCell ⟨w.heap.size + 1 + 1, 0, none⟩ (.int .i64 0)).alloc (.cells #[.slice A1 ts.length c1, .int .i64 (l.length : Int), .int .i64 fl] 65)) (by omega) (by omega) (by omega) HWF.out (by have h5 := HLN.out; omega) hT
  have HB01 := Aside0.mk (show ((w1.setCell ⟨w.heap.size + 1, 0, none⟩ (.int .i64 0)).setCell ⟨w.heap.size + 1 + 1, 0, none⟩ (.int .i64 0)).heap[w.heap.size]? = some (.cells #[.int .i64 0, .slice none 0 0, .int .i64 0, .int .i64 0, .slice none 0 0] 35 (0, 0)) from blk_far (blk_far HY1.out (p := ⟨w.heap.size + 1, 0, none⟩) (show w.heap.size ≠ w.heap.size + 1 by omega) _) (p := ⟨w.heap.size + 1 + 1, 0, none⟩) (show w.heap.size ≠ w.heap.size + 1 + 1 by omega) _)
  have HB02 := Aside0.mk (show ((w1.setCell ⟨w.heap.size + 1, 0, none⟩ (.int .i64 0)).setCell ⟨w.heap.size + 1 + 1, 0, none⟩ (.int .i64 0)).heap[w.heap.size + 1]? = some (.cells #[.int .i64 0] 3 (0, 0)) from blk_far (by simpa using blk_set HY2.out 0 (.int .i64 0)) (p := ⟨w.heap.size + 1 + 1, 0, none⟩) (show w.heap.size + 1 ≠ w.heap.size + 1 + 1 by omega) _)
  have HB03 := Aside0.mk (show ((w1.setCell ⟨w.heap.size + 1, 0, none⟩ (.int .i64 0)).setCell ⟨w.heap.size + 1 + 1, 0, none⟩ (.int .i64 0)).heap[w.heap.size + 1 + 1]? = some (.cells #[.int .i64 0] 36 (0, 0)) from by simpa using blk_set (blk_far HY3.out (p := ⟨w.heap.size + 1, 0, none⟩) (show w.heap.size + 1 + 1 ≠ w.heap.size + 1 by omega) (.int .i64 0)) 0 (.int .i64 0))
  have HA1 := Aside0.mk (blk_alloc HB01.out (.cells #[.slice A1 ts.length c1, .int .i64 (l.length : Int), .int .i64 fl] 65))
  have HA2 := Aside0.mk (blk_alloc HB02.out (.cells #[.slice A1 ts.length c1, .int .i64 (l.length : Int), .int .i64 fl] 65))
  have HA3 := Aside0.mk (blk_alloc HB03.out (.cells #[.slice A1 ts.length c1, .int .i64 (l.length : Int), .int .i64 fl] 65))
  have HBA := Aside0.mk (show Below w.heap.size w (((w1.setCell ⟨w.heap.size + 1, 0, none⟩ (.int .i64 0)).setCell ⟨w.heap.size + 1 + 1, 0, none⟩ (.int .i64 0))) from (HB1.out.setCell (Nat.le_succ _) _).setCell (show w.heap.size ≤ w.heap.size + 1 + 1 by omega) _)
  have l13 : w.heap.size + 1 + 1 < w1.heap.size := l3
  clear hC1 hcc hT
  rw [HO.out] at hcall
  go_wp2_with fail
  (with_reducible refine hcall.mono ?_)
  rintro e w2 ⟨⟨cs, rfl, hF2⟩, hT2, hk2⟩
  obtain ⟨An, cn, Am, cm, rfl, ln, Fn, lm, Fm⟩ := FK35_openF hF2
  have eB : (((w1.setCell ⟨w.heap.size + 1, 0, none⟩ (.int .i64 0)).setCell ⟨w.heap.size + 1 + 1, 0, none⟩ (.int .i64 0)).alloc (.cells #[.slice A1 ts.length c1, .int .i64 (l.length : Int), .int .i64 fl] 65)).heap.size = w1.heap.size + 1 := by simp
  have hs2 : w1.heap.size + 1 ≤ w2.heap.size := by have h5 := hk2.1; rw [eB] at h5; exact h5
  have hp1 := hk2.blk HA1.out (by omega) (by simp)
  have hp2 := hk2.blk HA2.out (by omega) (by simp)
  have hp3 := hk2.blk HA3.out (by omega) (by simp)
  obtain ⟨y0, y1, y2, y3, y4⟩ := node_cells hp1
  have x2 : w2.cell? ⟨w.heap.size + 1, 0, none⟩ = some (.int .i64 0) := by simpa using blk_cell hp2 0
  have x3 : w2.cell? ⟨w.heap.size + 1 + 1, 0, none⟩ = some (.int .i64 0) := by simpa using blk_cell hp3 0
  have r1 := blk_frozen hp1
  have r2 : w2.frozen? ⟨w.heap.size + 1, 0, none⟩ = false := blk_frozen hp2 0
  have r3 : w2.frozen? ⟨w.heap.size + 1 + 1, 0, none⟩ = false := blk_frozen hp3 0
  have r10 := r1 0
  have r11 := r1 1
  have r12 := r1 2
  have r13 := r1 3
  have r14 := r1 4
  have HP1 := Aside0.mk hp1
  have HP2 := Aside0.mk hp2
  have HP3 := Aside0.mk hp3
  have HT2 := Aside0.mk hT2
  have HBW := Aside0.mk (show Below w.heap.size w w2 from HBA.out.trans (hT2.below.mono (by rw [eA]; omega)))
  have HF2 := Aside0.mk (Kd.FK_mono hF2 (ok' := fun k => w.heap.size + 1 + 1 < k) (fun k hk => by rw [eB] at hk; omega))
  have hn1 : ¬ w1.heap.size = w.heap.size := by omega
  have hn2 : ¬ w1.heap.size = w.heap.size + 1 := by omega
  have hn3 : ¬ w1.heap.size = w.heap.size + 1 + 1 := by omega
  obtain ⟨ad, cq, d0, d4⟩ := hT2.head
  have hadl := World.block_lt_of_cell? _ _ d4
  have d1 : (0 : Int) < (v.length : Int) + 1 := by omega
  have hadd : ad.add 0 = ad := rfl
  have hab : ¬ ad.block = w.heap.size := by
    intro he
    rw [he] at d4
    have h5 := blk_cell hp1 (ad.off + 4)
    rw [d4] at h5
    cases h6 : ad.off with
    | zero => rw [h6] at h5; simp at h5
    | succ k => rw [h6] at h5; simp at h5
  clear hT2 hk2 hp1 hp2 hp3 hF2 ln Fn lm Fm hcall r1
  go_wp2_with fail
  exact panic_end (below_set5 HBW.out w.heap.size (Nat.le_refl _) _ _ _ _ _) (blk_set5 HP1.out _ _ _ _ _) (blk_far5 HP2.out (by omega) _ _ _ _ _) (blk_far5 HP3.out (by omega) _ _ _ _ _) u.f4 5 _ (by rfl) (by rfl) (by rfl)
set_option maxRecDepth 100000 in
set_option maxHeartbeats 1000000 in
theorem parse_size (hr : Kd.C (Kd.int .i64) w A l.length l) (h0 : ¬ fl < 0) (h7 : ¬ 7 < fl) {ts : List S68} (hb : tokOf l = .done ts) (HWF : Aside0 (wfT 0 ts)) (HLN : Aside0 (ts.length ≤ 1000)) {n : S35} (HO : Aside0 (orP l.length fl 21 0 ts = .ok n [])) (HLO : Aside0 (LoOk n)) (hbig : 400 < sizeP n) :
    Calls Tryz.prog 20 #[.slice A l.length c, .int .i64 fl] w (ParsePost (nodeN, 0, 10) w) := by
  have b0 : decide (fl < 0) = false := decide_eq_false (by omega)
  have b1 : decide (7 < fl) = false := decide_eq_false (by omega)
  have hof := Of_all A c l (((w.alloc nodeZ).alloc (.cells #[.int .i64 0] 3)).alloc (.cells #[.int .i64 0] 36)) (Kd.C_below hr (below_alloc (below_alloc (below_alloc (Below.refl _ _) _) _) _))
  have hz : (((w.alloc nodeZ).alloc (.cells #[.int .i64 0] 3)).alloc (.cells #[.int .i64 0] 36)).heap.size = w.heap.size + 3 := by simp
  have hx1 : (((w.alloc nodeZ).alloc (.cells #[.int .i64 0] 3)).alloc (.cells #[.int .i64 0] 36)).heap[w.heap.size]? = some nodeZ := blk_alloc (blk_alloc (blk_new w nodeZ) _) _
  have hx2 : (((w.alloc nodeZ).alloc (.cells #[.int .i64 0] 3)).alloc (.cells #[.int .i64 0] 36)).heap[w.heap.size + 1]? = some (.cells #[.int .i64 0] 3 (0, 0)) := blk_alloc (by simpa using blk_new (w.alloc nodeZ) (.cells #[.int .i64 0] 3)) _
  have hx3 : (((w.alloc nodeZ).alloc (.cells #[.int .i64 0] 3)).alloc (.cells #[.int .i64 0] 36)).heap[w.heap.size + 2]? = some (.cells #[.int .i64 0] 36 (0, 0)) := by simpa using blk_new ((w.alloc nodeZ).alloc (.cells #[.int .i64 0] 3)) (.cells #[.int .i64 0] 36)
  have HB0 := Aside0.mk (show Below w.heap.size w (((w.alloc nodeZ).alloc (.cells #[.int .i64 0] 3)).alloc (.cells #[.int .i64 0] 36)) from below_alloc (below_alloc (below_alloc (Below.refl _ _) _) _) _)
  have HX1 := Aside0.mk hx1
  have HX2 := Aside0.mk hx2
  have HX3 := Aside0.mk hx3
  have HR0 := Aside0.mk hr
  clear hx1 hx2 hx3 hr h0 h7
  have hmf : ∀ (fn : Fn) (first cap : Array Value) (w : World), (Instr.makeFunc fn first cap).run Tryz.prog w = .ok (.func fn first cap) w := fun _ _ _ _ => rfl
  rw [hb] at hof
  clear hb
  go_enter_defers Tryz.func20, Tryz.ntmps20
  unfold nodeZ at hof
  go_wp2_with fail
  refine hof.mono ?_
  rintro e w1 ⟨v, a1, er1, ts1, rfl, hR1, hb1, hcase⟩
  obtain ⟨rfl, rfl, rfl⟩ : ts = ts1 ∧ a1 = 0 ∧ er1 = 0 := by
    rcases hcase with ⟨h, h2, h3⟩ | ⟨h, _⟩
    · injection h with h1; exact ⟨h1, h2, h3⟩
    · cases h
  clear hcase
  obtain ⟨A1, c1, rfl⟩ := Kd.R_slice hR1
  have HR1 := Aside0.mk hR1
  clear hR1
  have hy1 := blk_below HX1.out hb1
  have hy2 := blk_below HX2.out hb1
  have hy3 := blk_below HX3.out hb1
  have HY1 := Aside0.mk hy1
  have HY2 := Aside0.mk hy2
  have HY3 := Aside0.mk hy3
  have d2 : w1.cell? ⟨w.heap.size + 1, 0, none⟩ = some (.int .i64 0) := by simpa using blk_cell hy2 0
  have d3 : w1.cell? ⟨w.heap.size + 1 + 1, 0, none⟩ = some (.int .i64 0) := by simpa using blk_cell hy3 0
  have q2 : w1.frozen? ⟨w.heap.size + 1, 0, none⟩ = false := blk_frozen hy2 0
  have q3 : w1.frozen? ⟨w.heap.size + 1 + 1, 0, none⟩ = false := blk_frozen hy3 0
  have l3 : w.heap.size + 1 + 1 < w1.heap.size := blk_lt hy3
  have hB1 : Below w.heap.size w w1 := HB0.out.trans (hb1.mono (by simp; omega))
  have HB1 := Aside0.mk hB1
  clear hy2 hy3 hb1 hB1
  obtain ⟨z0, z1, z2, z3, z4⟩ := node_cells hy1
  have q1 := blk_frozen hy1
  have l1 := blk_lt hy1
  clear hof hy1
  have hC1 : Kd.C k68 ((w1.setCell ⟨w.heap.size + 1, 0, none⟩ (.int .i64 0)).setCell ⟨w.heap.size + 1 + 1, 0, none⟩ (.int .i64 0)) A1 ts.length ts := (Kd.R_reads' (Kd.R_far (Kd.R_far (Kd.R_mono (Kd.R_bound HR1.out) (ok' := fun k => w.heap.size + 3 ≤ k) (fun k hk => by have h5 := hk.2.1; simp at h5; omega)) (p := ⟨w.heap.size + 1, 0, none⟩) (fun k hk => by simp; omega) (.int .i64 0)) (p := ⟨w.heap.size + 1 + 1, 0, none⟩) (fun k hk => by simp; omega) (.int .i64 0))).2.2
  have hcc := (Kd.R_reads' HR1.out).2.1
  have eA : ((w1.setCell ⟨w.heap.size + 1, 0, none⟩ (.int .i64 0)).setCell ⟨w.heap.size + 1 + 1, 0, none⟩ (.int .i64 0)).heap.size = w1.heap.size := by simp
  have hT : Rdr ((w1.setCell ⟨w.heap.size + 1, 0, none⟩ (.int .i64 0)).setCell ⟨w.heap.size + 1 + 1, 0, none⟩ (.int .i64 0)) w1.heap.size l.length fl ts (((w1.setCell ⟨w.heap.size + 1, 0, none⟩ (.int .i64 0)).setCell ⟨w.heap.size + 1 + 1, 0, none⟩ (.int .i64 0)).alloc (.cells #[.slice A1 ts.length c1, .int .i64 (l.length : Int), .int .i64 fl] 65)) := ⟨below_alloc (Below.refl _ _) _, by rw [eA]; exact Nat.le_refl _, A1, c1, hcc, hC1, by have h5 := blk_new ((w1.setCell ⟨w.heap.size + 1, 0, none⟩ (.int .i64 0)).setCell ⟨w.heap.size + 1 + 1, 0, none⟩ (.int .i64 0)) (.cells #[.slice A1 ts.length c1, .int .i64 (l.length : Int), .int .i64 fl] 65); rwa [eA] at h5⟩
  have hcall := or_all ((w1.setCell ⟨w.heap.size + 1, 0, none⟩ (.int .i64 0)).setCell ⟨w.heap.size + 1 + 1, 0, none⟩ (.int .i64 0)) w1.heap.size l.length fl 21 0 ts (((w1.setCell ⟨w.heap.size + 1, 0, none⟩ (.int .i64 0)).setCell ⟨w.heap.size + 1 + 1, 0, none⟩ (.int .i64 0)).alloc (.cells #[.slice A1 ts.length c1, .int .i64 (l.length : Int), .int .i64 fl] 65)) (by omega) (by omega) (by omega) HWF.out (by have h5 := HLN.out; omega) hT
  have HB01 := Aside0.mk (show ((w1.setCell ⟨w.heap.size + 1, 0, none⟩ (.int .i64 0)).setCell ⟨w.heap.size + 1 + 1, 0, none⟩ (.int .i64 0)).heap[w.heap.size]? = some (.cells #[.int .i64 0, .slice none 0 0, .int .i64 0, .int .i64 0, .slice none 0 0] 35 (0, 0)) from blk_far (blk_far HY1.out (p := ⟨w.heap.size + 1, 0, none⟩) (show w.heap.size ≠ w.heap.size + 1 by omega) _) (p := ⟨w.heap.size + 1 + 1, 0, none⟩) (show w.heap.size ≠ w.heap.size + 1 + 1 by omega) _)
  have HB02 := Aside0.mk (show ((w1.setCell ⟨w.heap.size + 1, 0, none⟩ (.int .i64 0)).setCell ⟨w.heap.size + 1 + 1, 0, none⟩ (.int .i64 0)).heap[w.heap.size + 1]? = some (.cells #[.int .i64 0] 3 (0, 0)) from blk_far (by simpa using blk_set HY2.out 0 (.int .i64 0)) (p := ⟨w.heap.size + 1 + 1, 0, none⟩) (show w.heap.size + 1 ≠ w.heap.size + 1 + 1 by omega) _)
  have HB03 := Aside0.mk (show ((w1.setCell ⟨w.heap.size + 1, 0, none⟩ (.int .i64 0)).setCell ⟨w.heap.size + 1 + 1, 0, none⟩ (.int .i64 0)).heap[w.heap.size + 1 + 1]? = some (.cells #[.int .i64 0] 36 (0, 0)) from by simpa using blk_set (blk_far HY3.out (p := ⟨w.heap.size + 1, 0, none⟩) (show w.heap.size + 1 + 1 ≠ w.heap.size + 1 by omega) (.int .i64 0)) 0 (.int .i64 0))
  have HA1 := Aside0.mk (blk_alloc HB01.out (.cells #[.slice A1 ts.length c1, .int .i64 (l.length : Int), .int .i64 fl] 65))
  have HA2 := Aside0.mk (blk_alloc HB02.out (.cells #[.slice A1 ts.length c1, .int .i64 (l.length : Int), .int .i64 fl] 65))
  have HA3 := Aside0.mk (blk_alloc HB03.out (.cells #[.slice A1 ts.length c1, .int .i64 (l.length : Int), .int .i64 fl] 65))
  have HBA := Aside0.mk (show Below w.heap.size w (((w1.setCell ⟨w.heap.size + 1, 0, none⟩ (.int .i64 0)).setCell ⟨w.heap.size + 1 + 1, 0, none⟩ (.int .i64 0))) from (HB1.out.setCell (Nat.le_succ _) _).setCell (show w.heap.size ≤ w.heap.size + 1 + 1 by omega) _)
  have l13 : w.heap.size + 1 + 1 < w1.heap.size := l3
  clear hC1 hcc hT
  rw [HO.out] at hcall
  go_wp2_with fail
  (with_reducible refine hcall.mono ?_)
  rintro e w2 ⟨⟨cs, rfl, hF2⟩, hT2, hk2⟩
  obtain ⟨An, cn, Am, cm, rfl, ln, Fn, lm, Fm⟩ := FK35_openF hF2
  have eB : (((w1.setCell ⟨w.heap.size + 1, 0, none⟩ (.int .i64 0)).setCell ⟨w.heap.size + 1 + 1, 0, none⟩ (.int .i64 0)).alloc (.cells #[.slice A1 ts.length c1, .int .i64 (l.length : Int), .int .i64 fl] 65)).heap.size = w1.heap.size + 1 := by simp
  have hs2 : w1.heap.size + 1 ≤ w2.heap.size := by have h5 := hk2.1; rw [eB] at h5; exact h5
  have hp1 := hk2.blk HA1.out (by omega) (by simp)
  have hp2 := hk2.blk HA2.out (by omega) (by simp)
  have hp3 := hk2.blk HA3.out (by omega) (by simp)
  obtain ⟨y0, y1, y2, y3, y4⟩ := node_cells hp1
  have x2 : w2.cell? ⟨w.heap.size + 1, 0, none⟩ = some (.int .i64 0) := by simpa using blk_cell hp2 0
  have x3 : w2.cell? ⟨w.heap.size + 1 + 1, 0, none⟩ = some (.int .i64 0) := by simpa using blk_cell hp3 0
  have r1 := blk_frozen hp1
  have r2 : w2.frozen? ⟨w.heap.size + 1, 0, none⟩ = false := blk_frozen hp2 0
  have r3 : w2.frozen? ⟨w.heap.size + 1 + 1, 0, none⟩ = false := blk_frozen hp3 0
  have r10 := r1 0
  have r11 := r1 1
  have r12 := r1 2
  have r13 := r1 3
  have r14 := r1 4
  have HP1 := Aside0.mk hp1
  have HP2 := Aside0.mk hp2
  have HP3 := Aside0.mk hp3
  have HT2 := Aside0.mk hT2
  have HBW := Aside0.mk (show Below w.heap.size w w2 from HBA.out.trans (hT2.below.mono (by rw [eA]; omega)))
  have HF2 := Aside0.mk (Kd.FK_mono hF2 (ok' := fun k => w.heap.size + 1 + 1 < k) (fun k hk => by rw [eB] at hk; omega))
  have hn1 : ¬ w1.heap.size = w.heap.size := by omega
  have hn2 : ¬ w1.heap.size = w.heap.size + 1 := by omega
  have hn3 : ¬ w1.heap.size = w.heap.size + 1 + 1 := by omega
  obtain ⟨A0, c0, _, _, d0, _, _, _⟩ := hT2.cells
  have d0 : w2.cell? ⟨w1.heap.size, 0, none⟩ = some (.slice A0 0 c0) := d0
  have hFs := FK_set5 HF2.out w.heap.size (fun k hk => by omega) (.int .i64 n.f0) (.slice An n.f1.length cn) (.int .i64 n.f2) (.int .i64 n.f3) (.slice Am n.f4.length cm)
  obtain ⟨_, _, _, _, hcs, _, _, _, hCm⟩ := k35_open (Kd.FK_now hFs)
  simp only [List.cons.injEq, Value.slice.injEq, and_true, true_and, Value.int.injEq] at hcs
  obtain ⟨⟨rfl, rfl⟩, rfl, rfl⟩ := hcs
  have hsz := size_ok (SizeOf.sizeOf n + 1) n (Nat.lt_succ_self _) An cn Am cm _ hCm HLO.out
  have HFS := Aside0.mk hFs
  clear hT2 hk2 hFs hCm hp1 hp2 hp3 hF2 ln Fn lm Fm hcall r1
  have b9 : decide (400 < sizeP n) = true := decide_eq_true hbig
  clear hbig
  generalize sizeP n = sz at *
  go_wp2_with fail
  (with_reducible refine hsz.mono ?_)
  rintro e w3 ⟨rfl, hb3⟩
  have HB3 := Aside0.mk hb3
  clear hb3 hsz
  go_wp2_with fail
  have hsz3 : w2.heap.size ≤ w3.heap.size := by have h5 := HB3.out.size; simpa using h5
  exact panic_end ((below_set5 HBW.out w.heap.size (Nat.le_refl _) _ _ _ _ _).trans (HB3.out.mono (by simp; omega))) (blk_below (blk_set5 HP1.out _ _ _ _ _) HB3.out) (blk_below (blk_far5 HP2.out (by omega) _ _ _ _ _) HB3.out) (blk_below (blk_far5 HP3.out (by omega) _ _ _ _ _) HB3.out) 0 10 _ (by rfl) (by rfl) (by rfl)
set_option maxRecDepth 100000 in
set_option maxHeartbeats 1000000 in
theorem parse_ok (hr : Kd.C (Kd.int .i64) w A l.length l) (h0 : ¬ fl < 0) (h7 : ¬ 7 < fl) {ts : List S68} (hb : tokOf l = .done ts) (HWF : Aside0 (wfT 0 ts)) (HLN : Aside0 (ts.length ≤ 1000)) {n : S35} (HO : Aside0 (orP l.length fl 21 0 ts = .ok n [])) (HLO : Aside0 (LoOk n)) (hbig : ¬ 400 < sizeP n) :
    Calls Tryz.prog 20 #[.slice A l.length c, .int .i64 fl] w (ParsePost (n, 0, 0) w) := by
  have b0 : decide (fl < 0) = false := decide_eq_false (by omega)
  have b1 : decide (7 < fl) = false := decide_eq_false (by omega)
  have hof := Of_all A c l (((w.alloc nodeZ).alloc (.cells #[.int .i64 0] 3)).alloc (.cells #[.int .i64 0] 36)) (Kd.C_below hr (below_alloc (below_alloc (below_alloc (Below.refl _ _) _) _) _))
  have hz : (((w.alloc nodeZ).alloc (.cells #[.int .i64 0] 3)).alloc (.cells #[.int .i64 0] 36)).heap.size = w.heap.size + 3 := by simp
  have hx1 : (((w.alloc nodeZ).alloc (.cells #[.int .i64 0] 3)).alloc (.cells #[.int .i64 0] 36)).heap[w.heap.size]? = some nodeZ := blk_alloc (blk_alloc (blk_new w nodeZ) _) _
  have hx2 : (((w.alloc nodeZ).alloc (.cells #[.int .i64 0] 3)).alloc (.cells #[.int .i64 0] 36)).heap[w.heap.size + 1]? = some (.cells #[.int .i64 0] 3 (0, 0)) := blk_alloc (by simpa using blk_new (w.alloc nodeZ) (.cells #[.int .i64 0] 3)) _
  have hx3 : (((w.alloc nodeZ).alloc (.cells #[.int .i64 0] 3)).alloc (.cells #[.int .i64 0] 36)).heap[w.heap.size + 2]? = some (.cells #[.int .i64 0] 36 (0, 0)) := by simpa using blk_new ((w.alloc nodeZ).alloc (.cells #[.int .i64 0] 3)) (.cells #[.int .i64 0] 36)
  have HB0 := Aside0.mk (show Below w.heap.size w (((w.alloc nodeZ).alloc (.cells #[.int .i64 0] 3)).alloc (.cells #[.int .i64 0] 36)) from below_alloc (below_alloc (below_alloc (Below.refl _ _) _) _) _)
  have HX1 := Aside0.mk hx1
  have HX2 := Aside0.mk hx2
  have HX3 := Aside0.mk hx3
  have HR0 := Aside0.mk hr
  clear hx1 hx2 hx3 hr h0 h7
  have hmf : ∀ (fn : Fn) (first cap : Array Value) (w : World), (Instr.makeFunc fn first cap).run Tryz.prog w = .ok (.func fn first cap) w := fun _ _ _ _ => rfl
  rw [hb] at hof
  clear hb
  go_enter_defers Tryz.func20, Tryz.ntmps20
  unfold nodeZ at hof
  go_wp2_with fail
  refine hof.mono ?_
  rintro e w1 ⟨v, a1, er1, ts1, rfl, hR1, hb1, hcase⟩
  obtain ⟨rfl, rfl, rfl⟩ : ts = ts1 ∧ a1 = 0 ∧ er1 = 0 := by
    rcases hcase with ⟨h, h2, h3⟩ | ⟨h, _⟩
    · injection h with h1; exact ⟨h1, h2, h3⟩
    · cases h
  clear hcase
  obtain ⟨A1, c1, rfl⟩ := Kd.R_slice hR1
  have HR1 := Aside0.mk hR1
  clear hR1
  have hy1 := blk_below HX1.out hb1
  have hy2 := blk_below HX2.out hb1
  have hy3 := blk_below HX3.out hb1
  have HY1 := Aside0.mk hy1
  have HY2 := Aside0.mk hy2
  have HY3 := Aside0.mk hy3
  have d2 : w1.cell? ⟨w.heap.size + 1, 0, none⟩ = some (.int .i64 0) := by simpa using blk_cell hy2 0
  have d3 : w1.cell? ⟨w.heap.size + 1 + 1, 0, none⟩ = some (.int .i64 0) := by simpa using blk_cell hy3 0
  have q2 : w1.frozen? ⟨w.heap.size + 1, 0, none⟩ = false := blk_frozen hy2 0
  have q3 : w1.frozen? ⟨w.heap.size + 1 + 1, 0, none⟩ = false := blk_frozen hy3 0
  have l3 : w.heap.size + 1 + 1 < w1.heap.size := blk_lt hy3
  have hB1 : Below w.heap.size w w1 := HB0.out.trans (hb1.mono (by simp; omega))
  have HB1 := Aside0.mk hB1
  clear hy2 hy3 hb1 hB1
  obtain ⟨z0, z1, z2, z3, z4⟩ := node_cells hy1
  have q1 := blk_frozen hy1
  have l1 := blk_lt hy1
  clear hof hy1
  have hC1 : Kd.C k68 ((w1.setCell ⟨w.heap.size + 1, 0, none⟩ (.int .i64 0)).setCell ⟨w.heap.size + 1 + 1, 0, none⟩ (.int .i64 0)) A1 ts.length ts := (Kd.R_reads' (Kd.R_far (Kd.R_far (Kd.R_mono (Kd.R_bound HR1.out) (ok' := fun k => w.heap.size + 3 ≤ k) (fun k hk => by have h5 := hk.2.1; simp at h5; omega)) (p := ⟨w.heap.size + 1, 0, none⟩) (fun k hk => by simp; omega) (.int .i64 0)) (p := ⟨w.heap.size + 1 + 1, 0, none⟩) (fun k hk => by simp; omega) (.int .i64 0))).2.2
  have hcc := (Kd.R_reads' HR1.out).2.1
  have eA : ((w1.setCell ⟨w.heap.size + 1, 0, none⟩ (.int .i64 0)).setCell ⟨w.heap.size + 1 + 1, 0, none⟩ (.int .i64 0)).heap.size = w1.heap.size := by simp
  have hT : Rdr ((w1.setCell ⟨w.heap.size + 1, 0, none⟩ (.int .i64 0)).setCell ⟨w.heap.size + 1 + 1, 0, none⟩ (.int .i64 0)) w1.heap.size l.length fl ts (((w1.setCell ⟨w.heap.size + 1, 0, none⟩ (.int .i64 0)).setCell ⟨w.heap.size + 1 + 1, 0, none⟩ (.int .i64 0)).alloc (.cells #[.slice A1 ts.length c1, .int .i64 (l.length : Int), .int .i64 fl] 65)) := ⟨below_alloc (Below.refl _ _) _, by rw [eA]; exact Nat.le_refl _, A1, c1, hcc, hC1, by have h5 := blk_new ((w1.setCell ⟨w.heap.size + 1, 0, none⟩ (.int .i64 0)).setCell ⟨w.heap.size + 1 + 1, 0, none⟩ (.int .i64 0)) (.cells #[.slice A1 ts.length c1, .int .i64 (l.length : Int), .int .i64 fl] 65); rwa [eA] at h5⟩
  have hcall := or_all ((w1.setCell ⟨w.heap.size + 1, 0, none⟩ (.int .i64 0)).setCell ⟨w.heap.size + 1 + 1, 0, none⟩ (.int .i64 0)) w1.heap.size l.length fl 21 0 ts (((w1.setCell ⟨w.heap.size + 1, 0, none⟩ (.int .i64 0)).setCell ⟨w.heap.size + 1 + 1, 0, none⟩ (.int .i64 0)).alloc (.cells #[.slice A1 ts.length c1, .int .i64 (l.length : Int), .int .i64 fl] 65)) (by omega) (by omega) (by omega) HWF.out (by have h5 := HLN.out; omega) hT
  have HB01 := Aside0.mk (show ((w1.setCell ⟨w.heap.size + 1, 0, none⟩ (.int .i64 0)).setCell ⟨w.heap.size + 1 + 1, 0, none⟩ (.int .i64 0)).heap[w.heap.size]? = some (.cells #[.int .i64 0, .slice none 0 0, .int .i64 0, .int .i64 0, .slice none 0 0] 35 (0, 0)) from blk_far (blk_far HY1.out (p := ⟨w.heap.size + 1, 0, none⟩) (show w.heap.size ≠ w.heap.size + 1 by omega) _) (p := ⟨w.heap.size + 1 + 1, 0, none⟩) (show w.heap.size ≠ w.heap.size + 1 + 1 by omega) _)
  have HB02 := Aside0.mk (show ((w1.setCell ⟨w.heap.size + 1, 0, none⟩ (.int .i64 0)).setCell ⟨w.heap.size + 1 + 1, 0, none⟩ (.int .i64 0)).heap[w.heap.size + 1]? = some (.cells #[.int .i64 0] 3 (0, 0)) from blk_far (by simpa using blk_set HY2.out 0 (.int .i64 0)) (p := ⟨w.heap.size + 1 + 1, 0, none⟩) (show w.heap.size + 1 ≠ w.heap.size + 1 + 1 by omega) _)
  have HB03 := Aside0.mk (show ((w1.setCell ⟨w.heap.size + 1, 0, none⟩ (.int .i64 0)).setCell ⟨w.heap.size + 1 + 1, 0, none⟩ (.int .i64 0)).heap[w.heap.size + 1 + 1]? = some (.cells #[.int .i64 0] 36 (0, 0)) from by simpa using blk_set (blk_far HY3.out (p := ⟨w.heap.size + 1, 0, none⟩) (show w.heap.size + 1 + 1 ≠ w.heap.size + 1 by omega) (.int .i64 0)) 0 (.int .i64 0))
  have HA1 := Aside0.mk (blk_alloc HB01.out (.cells #[.slice A1 ts.length c1, .int .i64 (l.length : Int), .int .i64 fl] 65))
  have HA2 := Aside0.mk (blk_alloc HB02.out (.cells #[.slice A1 ts.length c1, .int .i64 (l.length : Int), .int .i64 fl] 65))
  have HA3 := Aside0.mk (blk_alloc HB03.out (.cells #[.slice A1 ts.length c1, .int .i64 (l.length : Int), .int .i64 fl] 65))
  have HBA := Aside0.mk (show Below w.heap.size w (((w1.setCell ⟨w.heap.size + 1, 0, none⟩ (.int .i64 0)).setCell ⟨w.heap.size + 1 + 1, 0, none⟩ (.int .i64 0))) from (HB1.out.setCell (Nat.le_succ _) _).setCell (show w.heap.size ≤ w.heap.size + 1 + 1 by omega) _)
  have l13 : w.heap.size + 1 + 1 < w1.heap.size := l3
  clear hC1 hcc hT
  rw [HO.out] at hcall
  go_wp2_with fail
  (with_reducible refine hcall.mono ?_)
  rintro e w2 ⟨⟨cs, rfl, hF2⟩, hT2, hk2⟩
  obtain ⟨An, cn, Am, cm, rfl, ln, Fn, lm, Fm⟩ := FK35_openF hF2
  have eB : (((w1.setCell ⟨w.heap.size + 1, 0, none⟩ (.int .i64 0)).setCell ⟨w.heap.size + 1 + 1, 0, none⟩ (.int .i64 0)).alloc (.cells #[.slice A1 ts.length c1, .int .i64 (l.length : Int), .int .i64 fl] 65)).heap.size = w1.heap.size + 1 := by simp
  have hs2 : w1.heap.size + 1 ≤ w2.heap.size := by have h5 := hk2.1; rw [eB] at h5; exact h5
  have hp1 := hk2.blk HA1.out (by omega) (by simp)
  have hp2 := hk2.blk HA2.out (by omega) (by simp)
  have hp3 := hk2.blk HA3.out (by omega) (by simp)
  obtain ⟨y0, y1, y2, y3, y4⟩ := node_cells hp1
  have x2 : w2.cell? ⟨w.heap.size + 1, 0, none⟩ = some (.int .i64 0) := by simpa using blk_cell hp2 0
  have x3 : w2.cell? ⟨w.heap.size + 1 + 1, 0, none⟩ = some (.int .i64 0) := by simpa using blk_cell hp3 0
  have r1 := blk_frozen hp1
  have r2 : w2.frozen? ⟨w.heap.size + 1, 0, none⟩ = false := blk_frozen hp2 0
  have r3 : w2.frozen? ⟨w.heap.size + 1 + 1, 0, none⟩ = false := blk_frozen hp3 0
  have r10 := r1 0
  have r11 := r1 1
  have r12 := r1 2
  have r13 := r1 3
  have r14 := r1 4
  have HP1 := Aside0.mk hp1
  have HP2 := Aside0.mk hp2
  have HP3 := Aside0.mk hp3
  have HT2 := Aside0.mk hT2
  have HBW := Aside0.mk (show Below w.heap.size w w2 from HBA.out.trans (hT2.below.mono (by rw [eA]; omega)))
  have HF2 := Aside0.mk (Kd.FK_mono hF2 (ok' := fun k => w.heap.size + 1 + 1 < k) (fun k hk => by rw [eB] at hk; omega))
  have hn1 : ¬ w1.heap.size = w.heap.size := by omega
  have hn2 : ¬ w1.heap.size = w.heap.size + 1 := by omega
  have hn3 : ¬ w1.heap.size = w.heap.size + 1 + 1 := by omega
  obtain ⟨A0, c0, _, _, d0, _, _, _⟩ := hT2.cells
  have d0 : w2.cell? ⟨w1.heap.size, 0, none⟩ = some (.slice A0 0 c0) := d0
  have hFs := FK_set5 HF2.out w.heap.size (fun k hk => by omega) (.int .i64 n.f0) (.slice An n.f1.length cn) (.int .i64 n.f2) (.int .i64 n.f3) (.slice Am n.f4.length cm)
  obtain ⟨_, _, _, _, hcs, _, _, _, hCm⟩ := k35_open (Kd.FK_now hFs)
  simp only [List.cons.injEq, Value.slice.injEq, and_true, true_and, Value.int.injEq] at hcs
  obtain ⟨⟨rfl, rfl⟩, rfl, rfl⟩ := hcs
  have hsz := size_ok (SizeOf.sizeOf n + 1) n (Nat.lt_succ_self _) An cn Am cm _ hCm HLO.out
  have HFS := Aside0.mk hFs
  clear hT2 hk2 hFs hCm hp1 hp2 hp3 hF2 ln Fn lm Fm hcall r1
  have b9 : decide (400 < sizeP n) = false := decide_eq_false (by omega)
  clear hbig
  generalize sizeP n = sz at *
  go_wp2_with fail
  (with_reducible refine hsz.mono ?_)
  rintro e w3 ⟨rfl, hb3⟩
  have hm1 := blk_below (blk_set5 HP1.out _ _ _ _ _) hb3
  have hm2 := blk_below (blk_far5 HP2.out (show w.heap.size + 1 ≠ w.heap.size by omega) _ _ _ _ _) hb3
  have hm3 := blk_below (blk_far5 HP3.out (show w.heap.size + 1 + 1 ≠ w.heap.size by omega) _ _ _ _ _) hb3
  obtain ⟨u0, u1, u2, u3, u4⟩ := node_cells hm1
  have f1 := blk_frozen hm1
  have f10 := f1 0
  have f11 := f1 1
  have f12 := f1 2
  have f13 := f1 3
  have f14 := f1 4
  have u5 : w3.cell? ⟨w.heap.size + 1, 0, none⟩ = some (.int .i64 0) := by simpa using blk_cell hm2 0
  have u6 : w3.cell? ⟨w.heap.size + 1 + 1, 0, none⟩ = some (.int .i64 0) := by simpa using blk_cell hm3 0
  have f2 : w3.frozen? ⟨w.heap.size + 1, 0, none⟩ = false := blk_frozen hm2 0
  have f3 : w3.frozen? ⟨w.heap.size + 1 + 1, 0, none⟩ = false := blk_frozen hm3 0
  have HB3 := Aside0.mk hb3
  clear hb3 hsz hm1 hm2 hm3 f1
  have hsz3 : w2.heap.size ≤ w3.heap.size := by have h5 := HB3.out.size; simpa using h5
  have hBW := (below_set5 HBW.out w.heap.size (Nat.le_refl _) (.int .i64 n.f0) (.slice An n.f1.length cn) (.int .i64 n.f2) (.int .i64 n.f3) (.slice Am n.f4.length cm)).trans (HB3.out.mono (by simp; omega))
  have HBL := Aside0.mk (((below_set5 hBW w.heap.size (Nat.le_refl _) (.int .i64 n.f0) (.slice An n.f1.length cn) (.int .i64 n.f2) (.int .i64 n.f3) (.slice Am n.f4.length cm)).setCell (p := ⟨w.heap.size + 1, 0, none⟩) (Nat.le_succ _) (.int .i64 0)).setCell (p := ⟨w.heap.size + 1 + 1, 0, none⟩) (show w.heap.size ≤ w.heap.size + 1 + 1 by omega) (.int .i64 0))
  have HFL := Aside0.mk (Kd.FK_step (W1 := (((((((w3.setCell ⟨w.heap.size, 0, none⟩ (.int .i64 n.f0)).setCell ⟨w.heap.size, 1, none⟩ (.slice An n.f1.length cn)).setCell ⟨w.heap.size, 2, none⟩ (.int .i64 n.f2)).setCell ⟨w.heap.size, 3, none⟩ (.int .i64 n.f3)).setCell ⟨w.heap.size, 4, none⟩ (.slice Am n.f4.length cm)).setCell ⟨w.heap.size + 1, 0, none⟩ (.int .i64 0)).setCell ⟨w.heap.size + 1 + 1, 0, none⟩ (.int .i64 0))) (FK_set5 (Kd.FK_below HFS.out HB3.out) w.heap.size (fun k hk => by omega) (.int .i64 n.f0) (.slice An n.f1.length cn) (.int .i64 n.f2) (.int .i64 n.f3) (.slice Am n.f4.length cm)) (fun k hk _ => (Below.heap_setCell _ _ _ k (show k ≠ w.heap.size + 1 + 1 by omega)).trans (Below.heap_setCell _ _ _ k (show k ≠ w.heap.size + 1 by omega))))
  have k0 : (((((((w3.setCell ⟨w.heap.size, 0, none⟩ (.int .i64 n.f0)).setCell ⟨w.heap.size, 1, none⟩ (.slice An n.f1.length cn)).setCell ⟨w.heap.size, 2, none⟩ (.int .i64 n.f2)).setCell ⟨w.heap.size, 3, none⟩ (.int .i64 n.f3)).setCell ⟨w.heap.size, 4, none⟩ (.slice Am n.f4.length cm)).setCell ⟨w.heap.size + 1, 0, none⟩ (.int .i64 0)).setCell ⟨w.heap.size + 1 + 1, 0, none⟩ (.int .i64 0)).cell? ⟨w.heap.size, 0, none⟩ = some (.int .i64 n.f0) := by go_simp
  have k1 : (((((((w3.setCell ⟨w.heap.size, 0, none⟩ (.int .i64 n.f0)).setCell ⟨w.heap.size, 1, none⟩ (.slice An n.f1.length cn)).setCell ⟨w.heap.size, 2, none⟩ (.int .i64 n.f2)).setCell ⟨w.heap.size, 3, none⟩ (.int .i64 n.f3)).setCell ⟨w.heap.size, 4, none⟩ (.slice Am n.f4.length cm)).setCell ⟨w.heap.size + 1, 0, none⟩ (.int .i64 0)).setCell ⟨w.heap.size + 1 + 1, 0, none⟩ (.int .i64 0)).cell? ⟨w.heap.size, 1, none⟩ = some (.slice An n.f1.length cn) := by go_simp
  have k2 : (((((((w3.setCell ⟨w.heap.size, 0, none⟩ (.int .i64 n.f0)).setCell ⟨w.heap.size, 1, none⟩ (.slice An n.f1.length cn)).setCell ⟨w.heap.size, 2, none⟩ (.int .i64 n.f2)).setCell ⟨w.heap.size, 3, none⟩ (.int .i64 n.f3)).setCell ⟨w.heap.size, 4, none⟩ (.slice Am n.f4.length cm)).setCell ⟨w.heap.size + 1, 0, none⟩ (.int .i64 0)).setCell ⟨w.heap.size + 1 + 1, 0, none⟩ (.int .i64 0)).cell? ⟨w.heap.size, 2, none⟩ = some (.int .i64 n.f2) := by go_simp
  have k3 : (((((((w3.setCell ⟨w.heap.size, 0, none⟩ (.int .i64 n.f0)).setCell ⟨w.heap.size, 1, none⟩ (.slice An n.f1.length cn)).setCell ⟨w.heap.size, 2, none⟩ (.int .i64 n.f2)).setCell ⟨w.heap.size, 3, none⟩ (.int .i64 n.f3)).setCell ⟨w.heap.size, 4, none⟩ (.slice Am n.f4.length cm)).setCell ⟨w.heap.size + 1, 0, none⟩ (.int .i64 0)).setCell ⟨w.heap.size + 1 + 1, 0, none⟩ (.int .i64 0)).cell? ⟨w.heap.size, 3, none⟩ = some (.int .i64 n.f3) := by go_simp
  have k4 : (((((((w3.setCell ⟨w.heap.size, 0, none⟩ (.int .i64 n.f0)).setCell ⟨w.heap.size, 1, none⟩ (.slice An n.f1.length cn)).setCell ⟨w.heap.size, 2, none⟩ (.int .i64 n.f2)).setCell ⟨w.heap.size, 3, none⟩ (.int .i64 n.f3)).setCell ⟨w.heap.size, 4, none⟩ (.slice Am n.f4.length cm)).setCell ⟨w.heap.size + 1, 0, none⟩ (.int .i64 0)).setCell ⟨w.heap.size + 1 + 1, 0, none⟩ (.int .i64 0)).cell? ⟨w.heap.size, 4, none⟩ = some (.slice Am n.f4.length cm) := by go_simp
  have k5 : (((((((w3.setCell ⟨w.heap.size, 0, none⟩ (.int .i64 n.f0)).setCell ⟨w.heap.size, 1, none⟩ (.slice An n.f1.length cn)).setCell ⟨w.heap.size, 2, none⟩ (.int .i64 n.f2)).setCell ⟨w.heap.size, 3, none⟩ (.int .i64 n.f3)).setCell ⟨w.heap.size, 4, none⟩ (.slice Am n.f4.length cm)).setCell ⟨w.heap.size + 1, 0, none⟩ (.int .i64 0)).setCell ⟨w.heap.size + 1 + 1, 0, none⟩ (.int .i64 0)).cell? ⟨w.heap.size + 1, 0, none⟩ = some (.int .i64 0) := by go_simp
  have k6 : (((((((w3.setCell ⟨w.heap.size, 0, none⟩ (.int .i64 n.f0)).setCell ⟨w.heap.size, 1, none⟩ (.slice An n.f1.length cn)).setCell ⟨w.heap.size, 2, none⟩ (.int .i64 n.f2)).setCell ⟨w.heap.size, 3, none⟩ (.int .i64 n.f3)).setCell ⟨w.heap.size, 4, none⟩ (.slice Am n.f4.length cm)).setCell ⟨w.heap.size + 1, 0, none⟩ (.int .i64 0)).setCell ⟨w.heap.size + 1 + 1, 0, none⟩ (.int .i64 0)).cell? ⟨w.heap.size + 1 + 1, 0, none⟩ = some (.int .i64 0) := by go_simp
  clear hBW
  go_wp2_with fail
  refine leaves_cons (f := 43) (args := #[.pointer (some ⟨w.heap.size, 0, none⟩), .pointer (some ⟨w.heap.size + 1, 0, none⟩), .pointer (some ⟨w.heap.size + 1 + 1, 0, none⟩)]) (by simp) (by simp [go_sem]) ?_
  generalize (((((((w3.setCell ⟨w.heap.size, 0, none⟩ (.int .i64 n.f0)).setCell ⟨w.heap.size, 1, none⟩ (.slice An n.f1.length cn)).setCell ⟨w.heap.size, 2, none⟩ (.int .i64 n.f2)).setCell ⟨w.heap.size, 3, none⟩ (.int .i64 n.f3)).setCell ⟨w.heap.size, 4, none⟩ (.slice Am n.f4.length cm)).setCell ⟨w.heap.size + 1, 0, none⟩ (.int .i64 0)).setCell ⟨w.heap.size + 1 + 1, 0, none⟩ (.int .i64 0)) = W4 at *
  refine (parse1_idle _ _ _ _).mono ?_
  rintro e u' w5 ⟨rfl, rfl, hb⟩
  have j0 := pw_cell_below hb k0
  have j1 := pw_cell_below hb k1
  have j2 := pw_cell_below hb k2
  have j3 := pw_cell_below hb k3
  have j4 := pw_cell_below hb k4
  have j5 := pw_cell_below hb k5
  have j6 := pw_cell_below hb k6
  simp [Leaves, settle, results, Tryz.results20, go_sem, j0, j1, j2, j3, j4, j5, j6]
  exact ⟨⟨_, rfl, Kd.FK_mono (Kd.FK_below HFL.out hb) (fun k hk => by omega)⟩, HBL.out.trans (hb.mono HBL.out.size)⟩
end
end Go.Proofs.YtglolcejfbhbdaaGreat.P
end
section
namespace Go.Proofs.YtglolcejfbhbdaaGreat.P
open Go.RowKit Go.Shelf Go.Proofs.YtglolcejfbhbdaaGreatW.PrintWords Go.Proofs.YtglolcejfbhbdaaGreatW.PrintLast Go.Proofs.YtglolcejfbhbdaaGreatW.PrintMore
set_option linter.unusedVariables false
set_option linter.unusedSimpArgs false
def Pre (s : Nat) (ts : List S68) : Prop := ∀ rest, wfT s rest → wfT 0 (ts ++ rest)
theorem Pre.nil : Pre 0 [] := fun _ h => h
theorem Pre.snoc {s s' : Nat} {ts : List S68} (h : Pre s ts) (t : S68) (ht : ∀ rest, wfT s' rest → wfT s (t :: rest)) : Pre s' (ts ++ [t]) := fun rest hr => by
  rw [List.append_assoc]
  exact h _ (ht rest hr)
theorem wf_cls0 (t : S68) (h : t.f0 = 7) (rest : List S68) (hr : wfT 1 rest) : wfT 0 (t :: rest) := by
  unfold wfT
  simp only [show ¬ (0 : Nat) = 1 by decide, if_false]
  rwa [if_pos h]
theorem wf_plain (t : S68) (h : t.f0 = 2 ∨ t.f0 = 3 ∨ t.f0 = 4 ∨ t.f0 = 5 ∨ t.f0 = 10 ∨ t.f0 = 11 ∨ okSet t) (h7 : ¬ t.f0 = 7) (h6 : ¬ t.f0 = 6) (h13 : ¬ t.f0 = 13) (rest : List S68) (hr : wfT 0 rest) : wfT 0 (t :: rest) := by
  unfold wfT
  simp only [show ¬ (0 : Nat) = 1 by decide, if_false]
  rw [if_neg h7, if_neg h6, if_neg h13]
  exact ⟨h, hr⟩
theorem wf_end (t : S68) (h : t.f0 = 8) (rest : List S68) (hr : wfT 0 rest) : wfT 1 (t :: rest) := by
  unfold wfT
  rw [if_pos rfl, if_pos h]
  exact hr
theorem wf_in (t : S68) (h8 : ¬ t.f0 = 8) (h : okSet t) (rest : List S68) (hr : wfT 1 rest) : wfT 1 (t :: rest) := by
  unfold wfT
  rw [if_pos rfl, if_neg h8]
  exact ⟨h, hr⟩
theorem wf_rep (t : S68) (h : t.f0 = 6) (hl : -1 ≤ t.f2) (rest : List S68) (hr : wfT 2 rest) : wfT 0 (t :: rest) := by
  unfold wfT
  simp only [show ¬ (0 : Nat) = 1 by decide, if_false]
  rw [if_neg (by omega), if_pos h]
  exact ⟨hl, hr⟩
theorem wf_lazy (t : S68) (h : t.f0 = 13) (rest : List S68) (hr : wfT 0 rest) : wfT 2 (t :: rest) := by
  unfold wfT
  simp only [show ¬ (2 : Nat) = 1 by decide, if_false]
  rw [if_neg (by omega), if_neg (by omega), if_pos h]
  exact ⟨trivial, hr⟩
theorem repF_pre {l : List Int} {i : Nat} {ts : List S68} (h : Pre 0 ts) (a lo hi : Int) (hl : -1 ≤ lo) : Pre 0 (repF l i ts a lo hi).2 := by
  have h6 : Pre 2 (ts ++ [⟨6, 0, lo, hi, a⟩]) := h.snoc _ (fun rest hr => wf_rep _ rfl hl rest hr)
  unfold repF
  by_cases hz : lazyAt l i
  · rw [if_pos hz]
    exact h6.snoc _ (fun rest hr => wf_lazy _ rfl rest hr)
  · rw [if_neg hz]
    exact fun rest hr => h6 rest (wfT_02 rest hr)
theorem esc_group (c : Int) (h : (escF c).2.2 = true) (h2 : (escF c).2.1 = true) : (escF c).1 = 100 ∨ (escF c).1 = 115 ∨ (escF c).1 = 119 ∨ (escF c).1 = 68 ∨ (escF c).1 = 83 ∨ (escF c).1 = 87 := by
  unfold escF at *
  by_cases h110 : c = 110
  · rw [if_pos h110] at h2; cases h2
  rw [if_neg h110] at *
  by_cases h116 : c = 116
  · rw [if_pos h116] at h2; cases h2
  rw [if_neg h116] at *
  by_cases hg : groupL.contains c = true
  · rw [if_pos hg]
    have hm : c ∈ groupL := by simpa using hg
    unfold groupL at hm
    simp at hm
    dsimp only
    omega
  · rw [if_neg hg] at *
    by_cases hs : signL.contains c = true
    · rw [if_pos hs] at h2; cases h2
    · rw [if_neg hs] at h2; cases h2
theorem charF_ok {l : List Int} {i : Nat} {a : Int × Bool} {j : Nat} (h : charF l i = .ok a j) (h2 : a.2 = true) : a.1 = 100 ∨ a.1 = 115 ∨ a.1 = 119 ∨ a.1 = 68 ∨ a.1 = 83 ∨ a.1 = 87 := by
  unfold charF at h
  by_cases h1 : i < l.length
  · rw [if_pos h1] at h
    by_cases h3 : rd l (i : Nat) = 92
    · rw [if_pos h3] at h
      by_cases h4 : i + 1 < l.length
      · rw [if_pos h4] at h
        by_cases h5 : (escF (rd l (i + 1 : Nat))).2.2 = true
        · rw [if_pos h5] at h
          injection h with e1 e2
          subst e1
          exact esc_group _ h5 h2
        · rw [if_neg h5] at h; cases h
      · rw [if_neg h4] at h; cases h
    · rw [if_neg h3] at h
      injection h with e1 e2
      subst e1
      cases h2
  · rw [if_neg h1] at h; cases h
theorem charF_bad {l : List Int} {i : Nat} {a e : Int} (h : charF l i = .bad a e) : e ≠ 0 := by
  unfold charF at h
  repeat' split at h
  all_goals first
    | (cases h; done)
    | (injection h with e1 e2; omega)
theorem singleF_ok {l : List Int} {i : Nat} {t : S68} {j : Nat} (h : singleF l i = .ok t j) : okSet t ∧ (t.f0 = 1 ∨ t.f0 = 12) := by
  unfold singleF at h
  cases hc : charF l i with
  | bad a e => rw [hc] at h; cases h
  | ok a k =>
    rw [hc] at h
    injection h with e1 e2
    subst e1
    cases h2 : a.2 with
    | true =>
      have := charF_ok hc h2
      unfold okSet
      simp
      omega
    | false =>
      unfold okSet
      simp
theorem singleF_bad {l : List Int} {i : Nat} {a e : Int} (h : singleF l i = .bad a e) : e ≠ 0 := by
  unfold singleF at h
  cases hc : charF l i with
  | bad b e => rw [hc] at h; injection h with e1 e2; subst e2; exact charF_bad hc
  | ok a k => rw [hc] at h; cases h
theorem itemF_ok {l : List Int} {i : Nat} {t : S68} {j : Nat} (h : itemF l i = .ok t j) : okSet t ∧ ¬ t.f0 = 8 := by
  unfold itemF at h
  cases hc : singleF l i with
  | bad b e => rw [hc] at h; cases h
  | ok u k =>
    rw [hc] at h
    have hu := singleF_ok hc
    dsimp only at h
    by_cases hs : itemStop l u k
    · rw [if_pos hs] at h
      injection h with e1 e2
      subst e1
      exact ⟨hu.1, by omega⟩
    · rw [if_neg hs] at h
      cases hd : singleF l (k + 1) with
      | bad b e => rw [hd] at h; cases h
      | ok v m =>
        rw [hd] at h
        dsimp only at h
        by_cases h12 : v.f0 = 12
        · rw [if_pos h12] at h; cases h
        · rw [if_neg h12] at h
          by_cases hlt : v.f1 < u.f1
          · rw [if_pos hlt] at h; cases h
          · rw [if_neg hlt] at h
            injection h with e1 e2
            subst e1
            exact ⟨.inr (.inl rfl), by dsimp only; omega⟩
theorem itemF_bad {l : List Int} {i : Nat} {a e : Int} (h : itemF l i = .bad a e) : e ≠ 0 := by
  unfold itemF at h
  cases hc : singleF l i with
  | bad b e => rw [hc] at h; injection h with e1 e2; subst e2; exact singleF_bad hc
  | ok u k =>
    rw [hc] at h
    dsimp only at h
    by_cases hs : itemStop l u k
    · rw [if_pos hs] at h; cases h
    · rw [if_neg hs] at h
      cases hd : singleF l (k + 1) with
      | bad b e => rw [hd] at h; injection h with e1 e2; subst e2; exact singleF_bad hd
      | ok v m =>
        rw [hd] at h
        dsimp only at h
        repeat' split at h
        all_goals first
          | (cases h; done)
          | (injection h with e1 e2; omega)
theorem digS_lo (n x : Int) (h : 0 ≤ n) (hx : 48 ≤ x) : 0 ≤ digS n x := by unfold digS; split <;> omega
theorem digL_lo (l : List Int) : ∀ f i n, 0 ≤ n → 0 ≤ (digL l f i n).1
  | 0, i, n, h => by simpa [digL] using h
  | f + 1, i, n, h => by
    unfold digL
    by_cases hd : isDig (rd l (i : Nat)) = true
    · rw [if_pos hd]
      exact digL_lo l f (i + 1) _ (digS_lo _ _ h ((isDig_iff _).1 hd).1)
    · rw [if_neg hd]; exact h
theorem digitsF_lo (l : List Int) (i : Nat) : -1 ≤ (digitsF l i).1 := by
  unfold digitsF
  dsimp only
  have := digL_lo l (l.length - i) i 0 (by omega)
  split <;> omega
theorem bracesF_lo {l : List Int} {i : Nat} {a : Int × Int × Bool} {j : Nat} (h : bracesF l i = .ok a j) : -1 ≤ a.1 := by
  have hd := digitsF_lo l i
  unfold bracesF at h
  dsimp only at h
  repeat' split at h
  all_goals first
    | (cases h; done)
    | (injection h with e1 e2; subst e1; dsimp only; omega)
theorem bracesF_bad {l : List Int} {i : Nat} {a e : Int} (h : bracesF l i = .bad a e) : e ≠ 0 := by
  unfold bracesF at h
  dsimp only at h
  repeat' split at h
  all_goals first
    | (cases h; done)
    | (injection h with e1 e2; omega)
theorem outStep_pre {l : List Int} {i : Nat} {ts ts' : List S68} {cls : Bool} {j : Nat} (hp : Pre 0 ts) (h : outStep l i ts = .go cls j ts') : Pre (if cls = true then 1 else 0) ts' := by
  unfold outStep at h
  by_cases h0 : l.length ≤ i
  · rw [if_pos h0] at h; cases h
  rw [if_neg h0] at h
  dsimp only at h
  by_cases c91 : rd l (i : Nat) = 91
  · rw [if_pos c91] at h
    by_cases c0 : i + 1 < l.length ∧ rd l (i + 1 : Nat) = 94
    · rw [if_pos c0] at h; injection h with e1 e2 e3; subst e1; subst e3; exact hp.snoc _ (wf_cls0 _ rfl)
    · rw [if_neg c0] at h; injection h with e1 e2 e3; subst e1; subst e3; exact hp.snoc _ (wf_cls0 _ rfl)
  rw [if_neg c91] at h
  by_cases c123 : rd l (i : Nat) = 123
  · rw [if_pos c123] at h
    cases hb : bracesF l (i + 1) with
    | bad a e => rw [hb] at h; cases h
    | ok a m =>
      rw [hb] at h
      dsimp only at h
      by_cases c0 : a.2.2 = false
      · rw [if_pos c0] at h; cases h
      · rw [if_neg c0] at h
        injection h with e1 e2 e3
        subst e1; subst e3
        exact repF_pre hp _ _ _ (bracesF_lo hb)
  rw [if_neg c123] at h
  by_cases c63 : rd l (i : Nat) = 63
  · rw [if_pos c63] at h
    injection h with e1 e2 e3; subst e1; subst e3
    exact repF_pre hp _ _ _ (by omega)
  rw [if_neg c63] at h
  by_cases c42 : rd l (i : Nat) = 42
  · rw [if_pos c42] at h
    injection h with e1 e2 e3; subst e1; subst e3
    exact repF_pre hp _ _ _ (by omega)
  rw [if_neg c42] at h
  by_cases c43 : rd l (i : Nat) = 43
  · rw [if_pos c43] at h
    injection h with e1 e2 e3; subst e1; subst e3
    exact repF_pre hp _ _ _ (by omega)
  rw [if_neg c43] at h
  by_cases c46 : rd l (i : Nat) = 46
  · rw [if_pos c46] at h
    injection h with e1 e2 e3; subst e1; subst e3; exact hp.snoc _ (wf_plain _ (.inl rfl) (by dsimp only; omega) (by dsimp only; omega) (by dsimp only; omega))
  rw [if_neg c46] at h
  by_cases c40 : rd l (i : Nat) = 40
  · rw [if_pos c40] at h
    injection h with e1 e2 e3; subst e1; subst e3; exact hp.snoc _ (wf_plain _ (.inr (.inl rfl)) (by dsimp only; omega) (by dsimp only; omega) (by dsimp only; omega))
  rw [if_neg c40] at h
  by_cases c41 : rd l (i : Nat) = 41
  · rw [if_pos c41] at h
    injection h with e1 e2 e3; subst e1; subst e3; exact hp.snoc _ (wf_plain _ (.inr (.inr (.inl rfl))) (by dsimp only; omega) (by dsimp only; omega) (by dsimp only; omega))
  rw [if_neg c41] at h
  by_cases c124 : rd l (i : Nat) = 124
  · rw [if_pos c124] at h
    injection h with e1 e2 e3; subst e1; subst e3; exact hp.snoc _ (wf_plain _ (.inr (.inr (.inr (.inl rfl)))) (by dsimp only; omega) (by dsimp only; omega) (by dsimp only; omega))
  rw [if_neg c124] at h
  by_cases c94 : rd l (i : Nat) = 94
  · rw [if_pos c94] at h
    injection h with e1 e2 e3; subst e1; subst e3; exact hp.snoc _ (wf_plain _ (.inr (.inr (.inr (.inr (.inl rfl))))) (by dsimp only; omega) (by dsimp only; omega) (by dsimp only; omega))
  rw [if_neg c94] at h
  by_cases c36 : rd l (i : Nat) = 36
  · rw [if_pos c36] at h
    injection h with e1 e2 e3; subst e1; subst e3; exact hp.snoc _ (wf_plain _ (.inr (.inr (.inr (.inr (.inr (.inl rfl)))))) (by dsimp only; omega) (by dsimp only; omega) (by dsimp only; omega))
  rw [if_neg c36] at h
  cases hb : singleF l i with
  | bad a e => rw [hb] at h; cases h
  | ok t m =>
    rw [hb] at h
    injection h with e1 e2 e3
    subst e1; subst e3
    have ht := singleF_ok hb
    exact hp.snoc _ (wf_plain _ (.inr (.inr (.inr (.inr (.inr (.inr ht.1)))))) (by omega) (by omega) (by omega))
theorem outStep_bad {l : List Int} {i : Nat} {ts : List S68} {a e : Int} (h : outStep l i ts = .bad a e) : e ≠ 0 := by
  unfold outStep at h
  by_cases h0 : l.length ≤ i
  · rw [if_pos h0] at h; cases h
  rw [if_neg h0] at h
  dsimp only at h
  by_cases c91 : rd l (i : Nat) = 91
  · rw [if_pos c91] at h
    split at h <;> cases h
  rw [if_neg c91] at h
  by_cases c123 : rd l (i : Nat) = 123
  · rw [if_pos c123] at h
    cases hb : bracesF l (i + 1) with
    | bad a e => rw [hb] at h; injection h with e1 e2; subst e2; exact bracesF_bad hb
    | ok a m =>
      rw [hb] at h
      dsimp only at h
      split at h
      · injection h with e1 e2; omega
      · cases h
  rw [if_neg c123] at h
  cases hb : singleF l i with
  | bad b e2 =>
    rw [hb] at h
    dsimp only at h
    repeat' split at h
    all_goals first
      | (cases h; done)
      | (injection h with e1 e3; subst e3; exact singleF_bad hb)
  | ok t m =>
    rw [hb] at h
    dsimp only at h
    repeat' split at h
    all_goals cases h
theorem classStep_pre {l : List Int} {i : Nat} {ts ts' : List S68} {cls : Bool} {j : Nat} (hp : Pre 1 ts) (h : classStep l i ts = .go cls j ts') : Pre (if cls = true then 1 else 0) ts' := by
  unfold classStep at h
  by_cases h0 : l.length ≤ i
  · rw [if_pos h0] at h; cases h
  rw [if_neg h0] at h
  by_cases c0 : rd l (i : Nat) = 93
  · rw [if_pos c0] at h; injection h with e1 e2 e3; subst e1; subst e3; exact hp.snoc _ (wf_end _ rfl)
  rw [if_neg c0] at h
  cases hb : itemF l i with
  | bad a e => rw [hb] at h; cases h
  | ok t m =>
    rw [hb] at h
    injection h with e1 e2 e3
    subst e1; subst e3
    have ht := itemF_ok hb
    exact hp.snoc _ (wf_in _ ht.2 ht.1)
theorem classStep_bad {l : List Int} {i : Nat} {ts : List S68} {a e : Int} (h : classStep l i ts = .bad a e) : e ≠ 0 := by
  unfold classStep at h
  by_cases h0 : l.length ≤ i
  · rw [if_pos h0] at h; injection h with e1 e2; omega
  rw [if_neg h0] at h
  by_cases c0 : rd l (i : Nat) = 93
  · rw [if_pos c0] at h; cases h
  rw [if_neg c0] at h
  cases hb : itemF l i with
  | bad b e2 => rw [hb] at h; injection h with e1 e3; subst e3; exact itemF_bad hb
  | ok t m => rw [hb] at h; cases h
theorem classStep_notdone {l : List Int} {i : Nat} {ts : List S68} : classStep l i ts ≠ .done := by
  intro h
  unfold classStep at h
  repeat' split at h
  all_goals cases h
def ROk (l : List Int) : RO → Prop
  | .done ts => wfT 0 ts ∧ ts.length ≤ l.length
  | .bad _ e => e ≠ 0
theorem readF_ok (l : List Int) : ∀ (k : Nat) (cls : Bool) (i : Nat) (ts : List S68), Pre (if cls = true then 1 else 0) ts → ts.length ≤ i → i ≤ l.length → l.length - i < k → ROk l (readF l k cls i ts)
  | 0, _, _, _, _, _, _, h => absurd h (Nat.not_lt_zero _)
  | k + 1, cls, i, ts, hp, ht, hi, hk => by
    unfold readF
    cases cls with
    | true =>
      rw [if_pos rfl]
      cases hs : classStep l i ts with
      | done => exact absurd hs classStep_notdone
      | bad a e => exact classStep_bad hs
      | go c j us =>
        have h1 := classStep_go hs ht
        exact readF_ok l k c j us (classStep_pre hp hs) h1.2.2 h1.2.1 (by omega)
    | false =>
      rw [if_neg (by decide)]
      cases hs : outStep l i ts with
      | done => exact ⟨by have := hp [] (by simp [wfT]); simpa using this, by omega⟩
      | bad a e => exact outStep_bad hs
      | go c j us =>
        have h1 := outStep_go hs ht
        exact readF_ok l k c j us (outStep_pre hp hs) h1.2.2 h1.2.1 (by omega)
theorem tokOf_ok (l : List Int) : (∀ ts, tokOf l = .done ts → wfT 0 ts ∧ ts.length ≤ 1000) ∧ (∀ a e, tokOf l = .bad a e → e ≠ 0) := by
  unfold tokOf
  by_cases h : l.length > 200
  · rw [if_pos h]
    exact ⟨fun ts h9 => (by cases h9), fun a e h9 => (by injection h9 with h1 h2; omega)⟩
  · rw [if_neg h]
    have hr := readF_ok l (l.length + 1) false 0 [] Pre.nil (by simp) (by omega) (by omega)
    exact ⟨fun ts h2 => (by rw [h2] at hr; exact ⟨hr.1, by have := hr.2; omega⟩), fun a e h2 => (by rw [h2] at hr; exact hr)⟩
end Go.Proofs.YtglolcejfbhbdaaGreat.P
end
section
namespace Go.Proofs.YtglolcejfbhbdaaGreat.P
open Go.RowKit Go.Shelf Go.Proofs.YtglolcejfbhbdaaGreatW.PrintWords Go.Proofs.YtglolcejfbhbdaaGreatW.PrintLast Go.Proofs.YtglolcejfbhbdaaGreatW.PrintMore
set_option linter.unusedVariables false
set_option linter.unusedSimpArgs false
theorem parse_all (A : Option Addr) (c : Nat) (l : List Int) (fl : Int) (w : World) (hr : Kd.C (Kd.int .i64) w A l.length l) :
    Calls Tryz.prog 20 #[.slice A l.length c, .int .i64 fl] w (ParsePost (parseP l fl) w) := by
  unfold parseP
  by_cases h0 : fl < 0
  · rw [if_pos (.inl h0)]; exact parse_neg h0
  by_cases h7 : 7 < fl
  · rw [if_pos (.inr h7)]; exact parse_big h7
  rw [if_neg (by omega)]
  have hok := tokOf_ok l
  cases ht : tokOf l with
  | bad a e => exact parse_tok hr h0 h7 ht (hok.2 a e ht)
  | done ts =>
    obtain ⟨hwf, hln⟩ := hok.1 ts ht
    have hg := orP_good l.length fl 21 0 ts hwf
    dsimp only
    cases ho : orP l.length fl 21 0 ts with
    | bad a e => exact parse_bad hr h0 h7 ht ⟨hwf⟩ ⟨hln⟩ ⟨ho⟩
    | ok n rest =>
      rw [ho] at hg
      cases rest with
      | cons u v => exact parse_rest hr h0 h7 ht ⟨hwf⟩ ⟨hln⟩ ⟨ho⟩
      | nil =>
        dsimp only
        by_cases hb : 400 < sizeP n
        · rw [if_pos hb]; exact parse_size hr h0 h7 ht ⟨hwf⟩ ⟨hln⟩ ⟨ho⟩ ⟨hg.2.2⟩ hb
        · rw [if_neg hb]; exact parse_ok hr h0 h7 ht ⟨hwf⟩ ⟨hln⟩ ⟨ho⟩ ⟨hg.2.2⟩ hb
end Go.Proofs.YtglolcejfbhbdaaGreat.P
end
section
namespace Go.Proofs.YtglolcejfbhbdaaGreat.P
open Go.RowKit Go.Shelf Go.Proofs.YtglolcejfbhbdaaGreatW.PrintWords Go.Proofs.YtglolcejfbhbdaaGreatW.PrintLast Go.Proofs.YtglolcejfbhbdaaGreatW.PrintMore
set_option linter.unusedVariables false
set_option linter.unusedSimpArgs false
theorem setL_short (l : List S30) : (setL l).length ≤ l.length := by
  unfold setL
  split
  · simp
  · have h1 := foldl_len (sortR (cutl l)) []
    have h2 := (sortR_spec (cutl l)).1.length_eq
    have h3 := List.length_filter_le (fun r : S30 => decide (r.f0 ≤ r.f1)) (l.map cutR)
    rw [List.length_map] at h3
    unfold cutl at *
    simp only [List.length_nil] at h1
    omega
theorem setL_self {m : List S30} (h : Norm m) (hl : m.length ≤ 500) : setL m = m :=
  setL_eq hl h (fun c => ⟨fun hc => ⟨(h.bound hc).1, (h.bound hc).2, hc⟩, fun hc => hc.2.2⟩)
def inTop (c : Int) : Prop := 0 ≤ c ∧ c ≤ 1114111
theorem rm_one (a b c : Int) : rm [⟨a, b⟩] c ↔ a ≤ c ∧ c ≤ b := by
  rw [rm_cons]
  have := rm_nil c
  constructor
  · rintro (h | h)
    · exact h
    · exact absurd h this
  · exact .inl
theorem add1_spec {m : List S30} (h : Norm m) (hl : m.length ≤ 499) (y : Int) : Norm (add1L m y) ∧ (∀ c, rm (add1L m y) c ↔ rm m c ∨ (c = y ∧ inTop c)) ∧ (add1L m y).length ≤ m.length + 1 := by
  have hs := setL_spec (m ++ [⟨y, y⟩]) (by simp; omega)
  refine ⟨hs.1, fun c => ?_, Nat.le_trans (setL_short _) (by simp)⟩
  unfold add1L
  rw [hs.2 c, rm_append, rm_one]
  unfold inTop
  constructor
  · rintro ⟨h1, h2, h3 | h3⟩
    · exact .inl h3
    · exact .inr ⟨by omega, h1, h2⟩
  · rintro (h3 | ⟨rfl, h1, h2⟩)
    · exact ⟨(h.bound h3).1, (h.bound h3).2, .inl h3⟩
    · exact ⟨h1, h2, .inr ⟨by omega, by omega⟩⟩
theorem addAll_spec : ∀ (ys : List Int) (m : List S30), Norm m → m.length + ys.length ≤ 500 → Norm (addAll m ys) ∧ (∀ c, rm (addAll m ys) c ↔ rm m c ∨ (c ∈ ys ∧ inTop c)) ∧ (addAll m ys).length ≤ m.length + ys.length
  | [], m, h, _ => ⟨h, fun c => by simp [addAll], Nat.le_refl _⟩
  | y :: ys, m, h, hl => by
    simp only [List.length_cons] at hl
    obtain ⟨h1, h2, h3⟩ := add1_spec h (by omega) y
    obtain ⟨g1, g2, g3⟩ := addAll_spec ys (add1L m y) h1 (by omega)
    refine ⟨g1, fun c => ?_, by simp only [List.length_cons]; exact Nat.le_trans g3 (by omega)⟩
    show rm (addAll (add1L m y) ys) c ↔ _
    rw [g2 c, h2 c, List.mem_cons]
    constructor
    · rintro ((h5 | h5) | h5)
      · exact .inl h5
      · exact .inr ⟨.inl h5.1, h5.2⟩
      · exact .inr ⟨.inr h5.1, h5.2⟩
    · rintro (h5 | ⟨h5 | h5, h6⟩)
      · exact .inl (.inl h5)
      · exact .inl (.inr ⟨h5, h6⟩)
      · exact .inr ⟨h5, h6⟩
theorem hasS_rm (s : List S30) (c : Int) : hasS s c = true ↔ rm s c := any_rm s c
theorem ofP_cases (c : Int) : (∃ s ∈ stL, s.f0 ≤ c ∧ c ≤ s.f1 ∧ ofP c = c + s.f2) ∨ (ofP c = c ∧ ∀ s ∈ stL, ¬ (s.f0 ≤ c ∧ c ≤ s.f1)) := by
  unfold ofP
  cases h : stL.find? (fun s => decide (s.f0 ≤ c) && decide (c ≤ s.f1)) with
  | none =>
    refine .inr ⟨rfl, fun s hs => ?_⟩
    have := List.find?_eq_none.1 h s hs
    simpa using this
  | some s =>
    have h1 := List.mem_of_find?_eq_some h
    have h2 := List.find?_some h
    simp only [Bool.and_eq_true, decide_eq_true_eq] at h2
    exact .inl ⟨s, h1, h2.1, h2.2, rfl⟩
theorem stL_apart : ∀ s ∈ stL, ∀ t ∈ stL, s.f1 + s.f2 < t.f0 ∨ t.f1 < s.f0 + s.f2 := by decide
theorem stL_own : ∀ s ∈ stL, ∀ t ∈ stL, s.f2 = t.f2 ∨ s.f1 < t.f0 ∨ t.f1 < s.f0 := by decide
theorem stL_low : ∀ s ∈ stL, 65 ≤ s.f0 ∧ s.f1 ≤ 7838 := by decide
theorem ofP_in (c : Int) (s : S76) (hs : s ∈ stL) (h0 : s.f0 ≤ c) (h1 : c ≤ s.f1) : ofP c = c + s.f2 := by
  rcases ofP_cases c with ⟨t, ht, g0, g1, hc⟩ | ⟨_, hn⟩
  · rcases stL_own s hs t ht with h | h | h
    · rw [hc, h]
    · omega
    · omega
  · exact absurd ⟨h0, h1⟩ (hn s hs)
theorem ofP_out (c : Int) (h : ∀ s ∈ stL, ¬ (s.f0 ≤ c ∧ c ≤ s.f1)) : ofP c = c := by
  rcases ofP_cases c with ⟨t, ht, g0, g1, hc⟩ | ⟨hc, _⟩
  · exact absurd ⟨g0, g1⟩ (h t ht)
  · exact hc
theorem ofP_idem (c : Int) : ofP (ofP c) = ofP c := by
  rcases ofP_cases c with ⟨t, ht, g0, g1, hc⟩ | ⟨hc, _⟩
  · rw [hc]
    refine ofP_out _ (fun s hs h => ?_)
    rcases stL_apart t ht s hs with h2 | h2 <;> omega
  · rw [hc, hc]
theorem ofP_low (c : Int) (h : ofP c ≠ c) : 65 ≤ c ∧ c ≤ 7838 := by
  rcases ofP_cases c with ⟨t, ht, g0, g1, hc⟩ | ⟨hc, _⟩
  · have := stL_low t ht
    omega
  · exact absurd hc h
theorem kin_iff (c k : Int) : k ∈ kinP c ↔ ofP k = ofP c := by
  rw [kinP_mem, kinGo_mem]
  constructor
  · rintro (rfl | ⟨s, hs, h1, h2, h3⟩)
    · exact ofP_idem c
    · rw [← h3]; exact ofP_in k s hs h1 h2
  · intro h
    rcases ofP_cases k with ⟨t, ht, g0, g1, hc⟩ | ⟨hc, _⟩
    · exact .inr ⟨t, ht, g0, g1, by omega⟩
    · exact .inl (by omega)
theorem yields1_mem (s : List S30) (n : Nat) (c : Int) : c ∈ yields1 s n ↔ ∃ k : Nat, k < n ∧ c ∈ foldYield s k := by
  unfold yields1
  rw [List.mem_flatMap]
  constructor
  · rintro ⟨k, h1, h2⟩; exact ⟨k, List.mem_range.1 h1, h2⟩
  · rintro ⟨k, h1, h2⟩; exact ⟨k, List.mem_range.2 h1, h2⟩
theorem foldYield_mem (s : List S30) (k c : Int) : c ∈ foldYield s k ↔ ofP k ≠ k ∧ (∃ q, rm s q ∧ ofP q = ofP k) ∧ (c = k ∨ c = ofP k) := by
  have hc : (hasS s k || hasS s (ofP k) || (kinP (ofP k)).any (hasS s)) = true ↔ ∃ q, rm s q ∧ ofP q = ofP k := by
    rw [Bool.or_eq_true, Bool.or_eq_true, hasS_rm, hasS_rm, List.any_eq_true]
    constructor
    · rintro ((h | h) | ⟨q, h1, h2⟩)
      · exact ⟨k, h, rfl⟩
      · exact ⟨_, h, ofP_idem k⟩
      · rw [kin_iff, ofP_idem] at h1
        exact ⟨q, (hasS_rm s q).1 h2, h1⟩
    · rintro ⟨q, h1, h2⟩
      exact .inr ⟨q, by rw [kin_iff, ofP_idem]; exact h2, (hasS_rm s q).2 h1⟩
  unfold foldYield
  by_cases h : ofP k ≠ k ∧ (hasS s k || hasS s (ofP k) || (kinP (ofP k)).any (hasS s)) = true
  · rw [if_pos h]
    simp only [List.mem_cons, List.not_mem_nil, or_false]
    constructor
    · intro h2; exact ⟨h.1, hc.1 h.2, h2⟩
    · exact fun h2 => h2.2.2
  · rw [if_neg h]
    constructor
    · intro h2; simp at h2
    · rintro ⟨h1, h2, _⟩; exact absurd ⟨h1, hc.2 h2⟩ h
theorem yields1_iff (s : List S30) (c : Int) : c ∈ yields1 s 7936 ↔ ∃ q, rm s q ∧ ofP q = ofP c ∧ ∃ k, ofP k = ofP c ∧ ofP k ≠ k := by
  rw [yields1_mem]
  constructor
  · rintro ⟨k, _, h⟩
    rw [foldYield_mem] at h
    obtain ⟨h1, ⟨q, h2, h3⟩, h4⟩ := h
    have hk : ofP (k : Int) = ofP c := by
      rcases h4 with rfl | rfl
      · rfl
      · exact (ofP_idem _).symm
    exact ⟨q, h2, h3.trans hk, k, hk, h1⟩
  · rintro ⟨q, h1, h2, k, h3, h4⟩
    by_cases hc : ofP c = c
    · have hb := ofP_low k h4
      refine ⟨k.toNat, by omega, ?_⟩
      rw [show ((k.toNat : Nat) : Int) = k by omega, foldYield_mem]
      exact ⟨h4, ⟨q, h1, h2.trans h3.symm⟩, .inr (by rw [h3, hc])⟩
    · have hb := ofP_low c hc
      refine ⟨c.toNat, by omega, ?_⟩
      rw [show ((c.toNat : Nat) : Int) = c by omega, foldYield_mem]
      exact ⟨hc, ⟨q, h1, h2⟩, .inl rfl⟩
end Go.Proofs.YtglolcejfbhbdaaGreat.P
end
section
namespace Go.Proofs.YtglolcejfbhbdaaGreat.P
open Go.RowKit Go.Shelf Go.Proofs.YtglolcejfbhbdaaGreatW.PrintWords Go.Proofs.YtglolcejfbhbdaaGreatW.PrintLast Go.Proofs.YtglolcejfbhbdaaGreatW.PrintMore
set_option linter.unusedVariables false
set_option linter.unusedSimpArgs false
theorem y1_gap (s : List S30) (a : Nat) : ∀ (k : Nat), (∀ t ∈ stL, t.f1 < ((a : Nat) : Int) ∨ ((a + k : Nat) : Int) ≤ t.f0) → (yields1 s (a + k)).length = (yields1 s a).length
  | 0, _ => rfl
  | k + 1, h => by
    rw [show a + (k + 1) = (a + k) + 1 from rfl, yields1_succ, List.length_append, y1_gap s a k (fun t ht => by rcases h t ht with h1 | h1; exact .inl h1; exact .inr (by omega))]
    have h2 : ofP ((a + k : Nat) : Int) = ((a + k : Nat) : Int) := ofP_out _ (fun t ht h3 => by rcases h t ht with h1 | h1 <;> omega)
    unfold foldYield
    rw [if_neg (fun h3 => h3.1 h2)]
    rfl
theorem y1_step (s : List S30) (a : Nat) : ∀ (k : Nat), (yields1 s (a + k)).length ≤ (yields1 s a).length + 2 * k
  | 0 => Nat.le_refl _
  | k + 1 => by
    rw [show a + (k + 1) = (a + k) + 1 from rfl, yields1_succ, List.length_append]
    have h1 := y1_step s a k
    have h2 : (foldYield s ((a + k : Nat) : Int)).length ≤ 2 := by
      unfold foldYield
      split <;> simp
    omega
theorem yields1_len (s : List S30) : (yields1 s 7936).length ≤ 262 := by
  have e0 := y1_gap s 0 65 (by decide)
  have e1 := y1_step s 65 26
  have e2 := y1_gap s 91 90 (by decide)
  have e3 := y1_step s 181 1
  have e4 := y1_gap s 182 10 (by decide)
  have e5 := y1_step s 192 23
  have e6 := y1_gap s 215 1 (by decide)
  have e7 := y1_step s 216 7
  have e8 := y1_gap s 223 690 (by decide)
  have e9 := y1_step s 913 17
  have f0 := y1_gap s 930 1 (by decide)
  have f1 := y1_step s 931 7
  have f2 := y1_gap s 938 24 (by decide)
  have f3 := y1_step s 962 1
  have f4 := y1_gap s 963 61 (by decide)
  have f5 := y1_step s 1024 48
  have f6 := y1_gap s 1072 6766 (by decide)
  have f7 := y1_step s 7838 1
  have f8 := y1_gap s 7839 97 (by decide)
  have z : (yields1 s 0).length = 0 := rfl
  simp only [Nat.reduceAdd] at e0 e1 e2 e3 e4 e5 e6 e7 e8 e9 f0 f1 f2 f3 f4 f5 f6 f7 f8
  omega
theorem fold1_spec (s : List S30) (h : Norm s) (hl : s.length ≤ 200) : Norm (fold1 s) ∧ (∀ c, rm (fold1 s) c ↔ inTop c ∧ ∃ q, rm s q ∧ ofP q = ofP c) ∧ (fold1 s).length ≤ s.length + 262 := by
  have h1 := yields1_len s
  obtain ⟨g1, g2, g3⟩ := addAll_spec (yields1 s 7936) s h (by omega)
  have he : fold1 s = addAll s (yields1 s 7936) := setL_self g1 (by omega)
  rw [he]
  refine ⟨g1, fun c => ?_, by omega⟩
  rw [g2 c, yields1_iff]
  constructor
  · rintro (h2 | ⟨⟨q, h2, h3, _⟩, h4⟩)
    · exact ⟨h.bound h2, c, h2, rfl⟩
    · exact ⟨h4, q, h2, h3⟩
  · rintro ⟨h4, q, h2, h3⟩
    by_cases hq : q = c
    · exact .inl (hq ▸ h2)
    · refine .inr ⟨⟨q, h2, h3, ?_⟩, h4⟩
      by_cases hc : ofP c = c
      · exact ⟨q, h3, fun h5 => hq (by rw [← h5, h3, hc])⟩
      · exact ⟨c, rfl, hc⟩
theorem mir26_inv : ∀ q ∈ mirL26, mirrorP q ∈ mirL26 ∧ mirrorP (mirrorP q) = q ∧ mirrorP q ≠ q := by decide
theorem yields2_mem (s : List S30) (l : List Int) (c : Int) : c ∈ yields2 s l ↔ ∃ q ∈ l, rm s q ∧ mirrorP q = c := by
  unfold yields2
  rw [List.mem_map]
  constructor
  · rintro ⟨q, h1, h2⟩
    rw [List.mem_filter, hasS_rm] at h1
    exact ⟨q, h1.1, h1.2, h2⟩
  · rintro ⟨q, h1, h3, h2⟩
    exact ⟨q, by rw [List.mem_filter, hasS_rm]; exact ⟨h1, h3⟩, h2⟩
theorem yields2_len (s : List S30) : (yields2 s mirL26).length ≤ 26 := by
  unfold yields2
  rw [List.length_map]
  exact Nat.le_trans (List.length_filter_le _ _) (by decide)
theorem mirr1_spec (s : List S30) (h : Norm s) (hl : s.length ≤ 470) : Norm (mirr1 s) ∧ (∀ c, rm (mirr1 s) c ↔ rm s c ∨ ((∃ q ∈ mirL26, rm s q ∧ mirrorP q = c) ∧ inTop c)) ∧ (mirr1 s).length ≤ s.length + 26 := by
  have h1 := yields2_len s
  obtain ⟨g1, g2, g3⟩ := addAll_spec (yields2 s mirL26) s h (by omega)
  have he : mirr1 s = addAll s (yields2 s mirL26) := setL_self g1 (by omega)
  rw [he]
  refine ⟨g1, fun c => ?_, by omega⟩
  rw [g2 c, yields2_mem]
theorem Norm.two {a b : S30} (h : a.f1 + 1 < b.f0) (ha : 0 ≤ a.f0 ∧ a.f0 ≤ a.f1 ∧ a.f1 ≤ 1114111) (hb : 0 ≤ b.f0 ∧ b.f0 ≤ b.f1 ∧ b.f1 ≤ 1114111) : Norm [a, b] :=
  ⟨List.pairwise_pair.2 h, fun r hr => by rcases List.mem_cons.1 hr with rfl | hr; exact ha; rcases List.mem_cons.1 hr with rfl | hr; exact hb; simp at hr⟩
theorem Norm.one {a : S30} (ha : 0 ≤ a.f0 ∧ a.f0 ≤ a.f1 ∧ a.f1 ≤ 1114111) : Norm [a] :=
  ⟨List.pairwise_singleton _ _, fun r hr => by rcases List.mem_cons.1 hr with rfl | hr; exact ha; simp at hr⟩
theorem rm_two (a b c d x : Int) : rm [⟨a, b⟩, ⟨c, d⟩] x ↔ (a ≤ x ∧ x ≤ b) ∨ (c ≤ x ∧ x ≤ d) := by
  rw [rm_cons, rm_one]
theorem al_set : setL [⟨3, 4⟩, ⟨1, 2⟩] = [⟨1, 4⟩] :=
  setL_eq (by decide) (Norm.one (by decide)) (fun c => by rw [rm_one, rm_two]; omega)
theorem al_turn : turnL [] = [⟨0, 1114111⟩] := by
  have h := turnL_spec []
  refine Norm.uniq h.1 (Norm.one (by decide)) (fun c => ?_)
  have h2 : ¬ rm (setL []) c := fun h3 => rm_nil c (((setL_spec [] (by decide)).2 c).1 h3).2.2
  rw [h.2 c, rm_one]
  exact ⟨fun h3 => ⟨h3.1, h3.2.1⟩, fun h3 => ⟨h3.1, h3.2, h2⟩⟩
theorem ofP_65 (c : Int) : ofP c = 97 ↔ c = 65 ∨ c = 97 := by
  constructor
  · intro h
    rcases ofP_cases c with ⟨t, ht, g0, g1, hc⟩ | ⟨hc, _⟩
    · simp only [stL, List.mem_cons, List.not_mem_nil, or_false] at ht
      rcases ht with rfl | rfl | rfl | rfl | rfl | rfl | rfl | rfl | rfl | rfl <;> dsimp only at g0 g1 hc <;> omega
    · omega
  · rintro (rfl | rfl) <;> rfl
theorem al_close : closeL [⟨65, 65⟩] 1 = [⟨65, 65⟩, ⟨97, 97⟩] := by
  have hs : setL [⟨65, 65⟩] = [⟨65, 65⟩] := setL_self (Norm.one (by decide)) (by decide)
  have h1 : (Go.bits .and .i64 1 1 != 0) = true := by decide
  have h2 : (Go.bits .and .i64 1 2 != 0) = false := by decide
  unfold closeL
  simp only [hs, h1, h2, if_true]
  rw [if_neg (by decide)]
  obtain ⟨g1, g2, _⟩ := fold1_spec [⟨65, 65⟩] (Norm.one (by decide)) (by decide)
  refine Norm.uniq g1 (Norm.two (by decide) (by decide) (by decide)) (fun c => ?_)
  rw [g2 c, rm_two]
  constructor
  · rintro ⟨_, q, hq, he⟩
    rw [rm_one] at hq
    obtain rfl : q = 65 := by omega
    have := (ofP_65 c).1 (he.symm.trans rfl)
    omega
  · intro h
    have hc : c = 65 ∨ c = 97 := by omega
    exact ⟨by unfold inTop; omega, 65, (rm_one _ _ _).2 (by decide), ((ofP_65 c).2 hc).symm ▸ rfl⟩
end Go.Proofs.YtglolcejfbhbdaaGreat.P
end
