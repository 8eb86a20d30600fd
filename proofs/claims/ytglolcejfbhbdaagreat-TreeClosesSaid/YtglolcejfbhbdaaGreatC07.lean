/- Part 7 of what the three laws on sets of ranges share: the words of the walks, contracts of the functions that they reach, and plain lemmas. No conditions. -/
import Derived.Test.YtglolcejfbhbdaaGreatC06
import Derived.Defers
import Derived.Recover
import Derived.Deep.DrawnRows
section
namespace Go.Proofs.YtglolcejfbhbdaaGreat.P
open Go.RowKit Go.Shelf Go.Proofs.YtglolcejfbhbdaaGreatW.PrintWords Go.Proofs.YtglolcejfbhbdaaGreatW.PrintLast Go.Proofs.YtglolcejfbhbdaaGreatW.PrintMore
set_option linter.unusedVariables false
set_option linter.unusedSimpArgs false
section
variable {w0 : World} {g : Nat} {A : Option Addr} {c : Nat} {l : List Int} {i : Nat} {tv : Value} {w : World}
theorem peel (a : Act) (hd : a.defers = []) (hs : a.tmps.size = 150) (h0 : a.tmps.getD 0 undef = .pointer (some ⟨g, 0, none⟩)) : ∃ u, a = { tmps := fr150 (.pointer (some ⟨g, 0, none⟩)) u, defers := [] } := by
  obtain ⟨tmps, defers⟩ := a
  dsimp only at hd hs h0
  subst hd
  refine ⟨fun n => tmps.getD n undef, ?_⟩
  have := fr150_of tmps hs
  rw [h0] at this
  rw [← this]
theorem read_pass (hl : l.length ≤ 100000) (r : RO) (lab k : Nat) (a : Act) (w : World) (hJ : ReadJ w0 g A c l r lab k a w) :
    (restX lab).wp Tryz.prog (jumpN (fun l' a' w' => ∃ m, m < k ∧ ReadJ w0 g A c l r l' m a' w') (bodyPost Tryz.prog Tryz.f60 (ReadPost w0 g A c l r))) a w := by
  obtain ⟨hlab, hd, hs, h0, i, tv, ts, hT, hR, hi, hts, hk, hr⟩ := hJ
  obtain ⟨u, rfl⟩ := peel a hd hs h0
  clear hd hs h0
  obtain ⟨k, rfl⟩ : ∃ k', k = k' + 1 := ⟨k - 1, by omega⟩
  have hgo : ∀ (cls : Bool) (i' : Nat) (ts' : List S68), i < i' ∧ i' ≤ l.length ∧ ts'.length ≤ i' → readF l k cls i' ts' = r → ∀ (a' : Act) (w' : World), a'.defers = [] → a'.tmps.size = 150 → a'.tmps.getD 0 undef = .pointer (some ⟨g, 0, none⟩) → TokPut w0 g A c l i' ts' (.returned (.tuple #[])) w' →
      (jumpN (fun l' a' w' => ∃ m, m < k + 1 ∧ ReadJ w0 g A c l r l' m a' w') (bodyPost Tryz.prog Tryz.f60 (ReadPost w0 g A c l r))) (.goto (if cls = true then 1 else 0)) a' w' := by
    intro cls i' ts' hle hrd a' w' h1 h2 h3 h4
    obtain ⟨_, tv', h5, h6⟩ := h4
    refine ⟨k, by omega, by split <;> omega, h1, h2, h3, i', tv', ts', h5, h6, hle.2.1, hle.2.2, by omega, ?_⟩
    cases cls <;> exact hrd
  have hgo1 : ∀ (i' : Nat) (ts' : List S68), i < i' ∧ i' ≤ l.length ∧ ts'.length ≤ i' → readF l k true i' ts' = r → _ := hgo true
  have hgo0 : ∀ (i' : Nat) (ts' : List S68), i < i' ∧ i' ≤ l.length ∧ ts'.length ≤ i' → readF l k false i' ts' = r → _ := hgo false
  simp only [if_true] at hgo1
  simp only [Bool.false_eq_true, if_false] at hgo0
  have hbad : ∀ (at_ er : Int), r = .bad at_ er → ∀ (a' : Act) (w' : World), a'.defers = [] → Below w0.heap.size w0 w' →
      (jumpN (fun l' a' w' => ∃ m, m < k + 1 ∧ ReadJ w0 g A c l r l' m a' w') (bodyPost Tryz.prog Tryz.f60 (ReadPost w0 g A c l r))) (.panic (wrongT at_ er)) a' w' := by
    intro at_ er he a' w' h1 h2
    subst he
    exact ⟨h1, rfl, h2⟩
  clear hgo
  have hts2 : ts.length + 2 < 1000000 := by omega
  have hl2 : l.length ≤ 1000000 := by omega
  unfold readF at hr
  rcases (show lab = 0 ∨ lab = 1 by omega) with rfl | rfl
  · have hr : (match outStep l i ts with | .done => RO.done ts | .bad a e => .bad a e | .go cls' i' ts' => readF l k cls' i' ts') = r := hr
    have hle := fun cls j ts' (e : outStep l i ts = .go cls j ts') => outStep_go e hts
    by_cases c0 : l.length ≤ i
    · have he : outStep l i ts = .done := by unfold outStep; rw [if_pos c0]
      rw [he] at hr
      subst hr
      refine out_end u hT hR hl2 hts2 c0 ?_
      rintro a' w' h1 ⟨_, tv', h5, h6⟩
      exact ⟨h1, _, (by simp [results, Tryz.results60]), rfl, i, tv', h5, h6⟩
    · have ci : i < l.length := by omega
      by_cases c91 : rd l (i : Nat) = 91
      · by_cases d0 : i + 1 < l.length ∧ rd l (i + 1 : Nat) = 94
        · have he : outStep l i ts = .go true (i + 2) (ts ++ [⟨7, 1, 0, 0, (i : Int)⟩]) := by unfold outStep; rw [if_neg c0]; dsimp only; rw [if_pos c91]; rw [if_pos d0]
          rw [he] at hr
          exact out_91y u hT hR hl2 hts2 ci c91 d0.1 d0.2 (hgo1 _ _ (hle _ _ _ he) hr)
        · have he : outStep l i ts = .go true (i + 1) (ts ++ [⟨7, 0, 0, 0, (i : Int)⟩]) := by unfold outStep; rw [if_neg c0]; dsimp only; rw [if_pos c91]; rw [if_neg d0]
          rw [he] at hr
          exact out_91n u hT hR hl2 hts2 ci c91 (fun h1 h2 => d0 ⟨h1, h2⟩) (hgo1 _ _ (hle _ _ _ he) hr)
      · skip
        by_cases c123 : rd l (i : Nat) = 123
        · cases hb : bracesF l (i + 1) with
          | bad a e =>
            have he : outStep l i ts = .bad a e := by unfold outStep; rw [if_neg c0]; dsimp only; rw [if_neg c91]; rw [if_pos c123]; rw [hb]
            rw [he] at hr
            exact out_123_bad u hT hR hl2 hts2 ci c123 hb (hbad _ _ hr.symm)
          | ok a j =>
            cases ha : a.2.2 with
            | false =>
              have he : outStep l i ts = .bad (i : Int) 8 := by unfold outStep; rw [if_neg c0]; dsimp only; rw [if_neg c91]; rw [if_pos c123]; rw [hb]; dsimp only; rw [if_pos ha]
              rw [he] at hr
              exact out_123_no u hT hR hl2 hts2 ci c123 hb ha (hbad _ _ hr.symm)
            | true =>
              have he : outStep l i ts = .go false (repF l j ts i a.1 a.2.1).1 (repF l j ts i a.1 a.2.1).2 := by unfold outStep; rw [if_neg c0]; dsimp only; rw [if_neg c91]; rw [if_pos c123]; rw [hb]; dsimp only; rw [if_neg (by rw [ha]; simp)]
              rw [he] at hr
              exact out_123_ok u hT hR hl2 hts2 ci c123 hb ha (hgo0 _ _ (hle _ _ _ he) hr)
        · skip
          by_cases c63 : rd l (i : Nat) = 63
          · have he : outStep l i ts = .go false (repF l (i + 1) ts i 0 1).1 (repF l (i + 1) ts i 0 1).2 := by unfold outStep; rw [if_neg c0]; dsimp only; rw [if_neg c91]; rw [if_neg c123]; rw [if_pos c63]
            rw [he] at hr
            exact out_63 u hT hR hl2 hts2 ci c63 (hgo0 _ _ (hle _ _ _ he) hr)
          · skip
            by_cases c42 : rd l (i : Nat) = 42
            · have he : outStep l i ts = .go false (repF l (i + 1) ts i 0 (-1)).1 (repF l (i + 1) ts i 0 (-1)).2 := by unfold outStep; rw [if_neg c0]; dsimp only; rw [if_neg c91]; rw [if_neg c123]; rw [if_neg c63]; rw [if_pos c42]
              rw [he] at hr
              exact out_42 u hT hR hl2 hts2 ci c42 (hgo0 _ _ (hle _ _ _ he) hr)
            · skip
              by_cases c43 : rd l (i : Nat) = 43
              · have he : outStep l i ts = .go false (repF l (i + 1) ts i 1 (-1)).1 (repF l (i + 1) ts i 1 (-1)).2 := by unfold outStep; rw [if_neg c0]; dsimp only; rw [if_neg c91]; rw [if_neg c123]; rw [if_neg c63]; rw [if_neg c42]; rw [if_pos c43]
                rw [he] at hr
                exact out_43 u hT hR hl2 hts2 ci c43 (hgo0 _ _ (hle _ _ _ he) hr)
              · skip
                by_cases c46 : rd l (i : Nat) = 46
                · have he : outStep l i ts = .go false (i + 1) (ts ++ [⟨2, 0, 0, 0, (i : Int)⟩]) := by unfold outStep; rw [if_neg c0]; dsimp only; rw [if_neg c91]; rw [if_neg c123]; rw [if_neg c63]; rw [if_neg c42]; rw [if_neg c43]; rw [if_pos c46]
                  rw [he] at hr
                  exact out_46 u hT hR hl2 hts2 ci c46 (hgo0 _ _ (hle _ _ _ he) hr)
                · skip
                  by_cases c40 : rd l (i : Nat) = 40
                  · have he : outStep l i ts = .go false (i + 1) (ts ++ [⟨3, 0, 0, 0, (i : Int)⟩]) := by unfold outStep; rw [if_neg c0]; dsimp only; rw [if_neg c91]; rw [if_neg c123]; rw [if_neg c63]; rw [if_neg c42]; rw [if_neg c43]; rw [if_neg c46]; rw [if_pos c40]
                    rw [he] at hr
                    exact out_40 u hT hR hl2 hts2 ci c40 (hgo0 _ _ (hle _ _ _ he) hr)
                  · skip
                    by_cases c41 : rd l (i : Nat) = 41
                    · have he : outStep l i ts = .go false (i + 1) (ts ++ [⟨4, 0, 0, 0, (i : Int)⟩]) := by unfold outStep; rw [if_neg c0]; dsimp only; rw [if_neg c91]; rw [if_neg c123]; rw [if_neg c63]; rw [if_neg c42]; rw [if_neg c43]; rw [if_neg c46]; rw [if_neg c40]; rw [if_pos c41]
                      rw [he] at hr
                      exact out_41 u hT hR hl2 hts2 ci c41 (hgo0 _ _ (hle _ _ _ he) hr)
                    · skip
                      by_cases c124 : rd l (i : Nat) = 124
                      · have he : outStep l i ts = .go false (i + 1) (ts ++ [⟨5, 0, 0, 0, (i : Int)⟩]) := by unfold outStep; rw [if_neg c0]; dsimp only; rw [if_neg c91]; rw [if_neg c123]; rw [if_neg c63]; rw [if_neg c42]; rw [if_neg c43]; rw [if_neg c46]; rw [if_neg c40]; rw [if_neg c41]; rw [if_pos c124]
                        rw [he] at hr
                        exact out_124 u hT hR hl2 hts2 ci c124 (hgo0 _ _ (hle _ _ _ he) hr)
                      · skip
                        by_cases c94 : rd l (i : Nat) = 94
                        · have he : outStep l i ts = .go false (i + 1) (ts ++ [⟨10, 0, 0, 0, (i : Int)⟩]) := by unfold outStep; rw [if_neg c0]; dsimp only; rw [if_neg c91]; rw [if_neg c123]; rw [if_neg c63]; rw [if_neg c42]; rw [if_neg c43]; rw [if_neg c46]; rw [if_neg c40]; rw [if_neg c41]; rw [if_neg c124]; rw [if_pos c94]
                          rw [he] at hr
                          exact out_94 u hT hR hl2 hts2 ci c94 (hgo0 _ _ (hle _ _ _ he) hr)
                        · skip
                          by_cases c36 : rd l (i : Nat) = 36
                          · have he : outStep l i ts = .go false (i + 1) (ts ++ [⟨11, 0, 0, 0, (i : Int)⟩]) := by unfold outStep; rw [if_neg c0]; dsimp only; rw [if_neg c91]; rw [if_neg c123]; rw [if_neg c63]; rw [if_neg c42]; rw [if_neg c43]; rw [if_neg c46]; rw [if_neg c40]; rw [if_neg c41]; rw [if_neg c124]; rw [if_neg c94]; rw [if_pos c36]
                            rw [he] at hr
                            exact out_36 u hT hR hl2 hts2 ci c36 (hgo0 _ _ (hle _ _ _ he) hr)
                          · skip
                            cases hb : singleF l i with
                            | bad a e =>
                              have he : outStep l i ts = .bad a e := by unfold outStep; rw [if_neg c0]; dsimp only; rw [if_neg c91]; rw [if_neg c123]; rw [if_neg c63]; rw [if_neg c42]; rw [if_neg c43]; rw [if_neg c46]; rw [if_neg c40]; rw [if_neg c41]; rw [if_neg c124]; rw [if_neg c94]; rw [if_neg c36]; rw [hb]
                              rw [he] at hr
                              exact out_bad u hT hR hl2 hts2 c91 c123 c63 c42 c43 c46 c40 c41 c124 c94 c36 ci hb (hbad _ _ hr.symm)
                            | ok t j =>
                              have he : outStep l i ts = .go false j (ts ++ [t]) := by unfold outStep; rw [if_neg c0]; dsimp only; rw [if_neg c91]; rw [if_neg c123]; rw [if_neg c63]; rw [if_neg c42]; rw [if_neg c43]; rw [if_neg c46]; rw [if_neg c40]; rw [if_neg c41]; rw [if_neg c124]; rw [if_neg c94]; rw [if_neg c36]; rw [hb]
                              rw [he] at hr
                              exact out_ok u hT hR hl2 hts2 c91 c123 c63 c42 c43 c46 c40 c41 c124 c94 c36 ci hb (hgo0 _ _ (hle _ _ _ he) hr)
  · have hr : (match classStep l i ts with | .done => RO.done ts | .bad a e => .bad a e | .go cls' i' ts' => readF l k cls' i' ts') = r := hr
    have hle := fun cls j ts' (e : classStep l i ts = .go cls j ts') => classStep_go e hts
    by_cases c0 : l.length ≤ i
    · have he : classStep l i ts = .bad i 4 := by unfold classStep; rw [if_pos c0]
      rw [he] at hr
      exact cls_end u hT hR hl2 hts2 c0 (hbad _ _ hr.symm)
    · have ci : i < l.length := by omega
      by_cases c1 : rd l (i : Nat) = 93
      · have he : classStep l i ts = .go false (i + 1) (ts ++ [⟨8, 0, 0, 0, (i : Int)⟩]) := by unfold classStep; rw [if_neg c0, if_pos c1]
        rw [he] at hr
        exact cls_93 u hT hR hl2 hts2 ci c1 (hgo0 _ _ (hle _ _ _ he) hr)
      · cases hb : itemF l i with
        | bad a e =>
          have he : classStep l i ts = .bad a e := by unfold classStep; rw [if_neg c0, if_neg c1, hb]
          rw [he] at hr
          exact cls_bad u hT hR hl2 hts2 ci c1 hb (hbad _ _ hr.symm)
        | ok t j =>
          have he : classStep l i ts = .go true j (ts ++ [t]) := by unfold classStep; rw [if_neg c0, if_neg c1, hb]
          rw [he] at hr
          exact cls_ok u hT hR hl2 hts2 ci c1 hb (hgo1 _ _ (hle _ _ _ he) hr)
set_option maxRecDepth 100000 in
/-- (*token.reader).read: all tokens, or where it is wrong. -/
theorem read_all (hl : l.length ≤ 100000) (h : Tok w0 g A c l 0 (.slice none 0 0) w) :
    Calls Tryz.prog 60 #[.pointer (some ⟨g, 0, none⟩)] w (ReadPost w0 g A c l (readF l (l.length + 1) false 0 [])) := by
  have HT := Aside0.mk h
  clear h
  generalize hr : readF l (l.length + 1) false 0 [] = r
  have HRR := Aside0.mk hr
  clear hr
  go_enter Tryz.func60, Tryz.ntmps60
  have hpass : ∀ (lab n : Nat) (a : Act) (w : World), ReadJ w0 g A c l r lab n a w → (restR lab).wp Tryz.prog (jumpN (fun l' a' w' => ∃ m, m < n ∧ ReadJ w0 g A c l r l' m a' w') (bodyPost Tryz.prog Tryz.f60 (ReadPost w0 g A c l r))) a w := by
    intro lab n a w hJ
    have h1 := read_pass hl r lab n a w hJ
    rcases (show lab = 0 ∨ lab = 1 by have := hJ.1; omega) with rfl | rfl
    · rw [restR_0]
      exact wp_seq (wp_skip h1)
    · rw [restR_1]
      exact wp_seq (wp_skip h1)
  refine wp_scope_labels restR (ReadJ w0 g A c l r) ?_ ?_ hpass
  · rintro lab n a w ⟨hlab, _⟩
    rcases (show lab = 0 ∨ lab = 1 by omega) with rfl | rfl
    · rfl
    · rfl
  · have hf := fun (a : Act) (h1 : a.defers = []) (h2 : a.tmps.size = 150) (h3 : a.tmps.getD 0 undef = .pointer (some ⟨g, 0, none⟩)) => read_pass hl r 0 (l.length + 1) a w ⟨by omega, h1, h2, h3, 0, _, [], HT.out, Kd.R_nil _ _ _ _ _, Nat.zero_le _, Nat.le_refl _, by omega, HRR.out⟩
    refine wp_seq (wp_region ?_)
    simp [wpOps, go_sem, Oper.wp, Region.wanted]
    refine Or.inl (wp_seq (wp_label ?_))
    refine wp_mono (hf _ rfl rfl rfl) ?_
    intro e a' w' hq
    cases e with
    | goto lab =>
      obtain ⟨m, _, hJ⟩ := hq
      exact ⟨m, hJ⟩
    | normal => exact hq
    | exit id => exact hq
    | ret => exact hq
    | panic ch => exact hq
    | outgrown => exact hq
end
end Go.Proofs.YtglolcejfbhbdaaGreat.P
end
section
namespace Go.Proofs.YtglolcejfbhbdaaGreat.P
open Go.RowKit Go.Shelf Go.Proofs.YtglolcejfbhbdaaGreatW.PrintWords Go.Proofs.YtglolcejfbhbdaaGreatW.PrintLast Go.Proofs.YtglolcejfbhbdaaGreatW.PrintMore
set_option linter.unusedVariables false
set_option linter.unusedSimpArgs false
set_option maxRecDepth 100000 in
theorem of1_panicking (b1 b2 b3 : Nat) (at_ er : Int) (w : World) (v1 v2 v3 : Value) (h1 : w.cell? ⟨b1, 0, none⟩ = some v1) (h2 : w.cell? ⟨b2, 0, none⟩ = some v2) (h3 : w.cell? ⟨b3, 0, none⟩ = some v3)
    (f1 : w.frozen? ⟨b1, 0, none⟩ = false) (f2 : w.frozen? ⟨b2, 0, none⟩ = false) (f3 : w.frozen? ⟨b3, 0, none⟩ = false) (n12 : b1 ≠ b2) (n13 : b1 ≠ b3) (n23 : b2 ≠ b3) (older : List PanicEntry) :
    CallsD Tryz.prog 59 #[.pointer (some ⟨b1, 0, none⟩), .pointer (some ⟨b2, 0, none⟩), .pointer (some ⟨b3, 0, none⟩)] (.panicking ({ v := .iface 83 (.agg #[.int .i64 at_, .int .i64 er]), recovered := false } :: older)) w fun e u' w' =>
      e = .returned (.tuple #[]) ∧ u' = .panicking ({ v := .iface 83 (.agg #[.int .i64 at_, .int .i64 er]), recovered := true } :: older) ∧
        w' = (((((w.setCell ⟨b1, 0, none⟩ (.slice none 0 0)).setCell ⟨b2, 0, none⟩ (.int .i64 at_)).setCell ⟨b3, 0, none⟩ (.int .i64 er)).alloc (.cells #[.int .i64 at_, .int .i64 er] 83)).drew) := by
  have z1 : b1 < w.heap.size := World.block_lt_of_cell? w _ h1
  have z2 : b2 < w.heap.size := World.block_lt_of_cell? w _ h2
  have z3 : b3 < w.heap.size := World.block_lt_of_cell? w _ h3
  have hrep : (Array.replicate 17 undef : Array Value) = #[undef, undef, undef, undef, undef, undef, undef, undef, undef, undef, undef, undef, undef, undef, undef, undef, undef] := rfl
  have hta : ∀ (v : Value) (w : World), (Instr.typeAssert (.iface 83 v) 20 83 true).run Tryz.prog w = .ok (.tuple #[v, .bool true]) w := fun _ _ => by kernel_rfl
  refine callsD_of_wpS Tryz.func59 rfl fun c₀ cs hu => ?_
  apply wpS_seq
  apply wpS_region
  simp [wpOpsS, go_sem, recoverD, hu, Tryz.ntmps59, Exit.thenS, hrep]
  refine wpS_of_wp ?_
  go_wp2
  all_goals go_region
  all_goals exact ⟨rfl, _, rfl, .tuple #[], by simp [results, Tryz.results59], rfl, rfl, rfl⟩
set_option maxRecDepth 100000 in
theorem of1_idle (b1 b2 b3 : Nat) (w : World) :
    CallsD Tryz.prog 59 #[.pointer (some ⟨b1, 0, none⟩), .pointer (some ⟨b2, 0, none⟩), .pointer (some ⟨b3, 0, none⟩)] .returning w fun e u' w' =>
      e = .returned (.tuple #[]) ∧ u' = .returning ∧ Below w.heap.size w w' := by
  have hrep : (Array.replicate 17 undef : Array Value) = #[undef, undef, undef, undef, undef, undef, undef, undef, undef, undef, undef, undef, undef, undef, undef, undef, undef] := rfl
  have hta : ∀ (w : World), (Instr.typeAssert .nilIface 20 83 true).run Tryz.prog w = .ok (.tuple #[.agg #[.int .i64 0, .int .i64 0], .bool false]) w := fun _ => by kernel_rfl
  refine callsD_of_wpS Tryz.func59 rfl fun c₀ cs hu => ?_
  apply wpS_seq
  apply wpS_region
  simp [wpOpsS, go_sem, recoverD, hu, Tryz.ntmps59, Exit.thenS, hrep]
  refine wpS_of_wp ?_
  go_wp2
  refine ⟨rfl, .returning, ?_, .tuple #[], by simp [results, Tryz.results59], rfl, rfl, below_alloc (Below.refl _ _) _⟩
  cases c₀
  simp_all
end Go.Proofs.YtglolcejfbhbdaaGreat.P
end
section
namespace Go.Proofs.YtglolcejfbhbdaaGreat.P
open Go.RowKit Go.Shelf Go.Proofs.YtglolcejfbhbdaaGreatW.PrintWords Go.Proofs.YtglolcejfbhbdaaGreatW.PrintLast Go.Proofs.YtglolcejfbhbdaaGreatW.PrintMore
set_option linter.unusedVariables false
set_option linter.unusedSimpArgs false
def tokOf (l : List Int) : RO := if l.length > 200 then .bad 0 10 else readF l (l.length + 1) false 0 []
structure OfPost (r : RO) (W : World) (e : Ending) (w' : World) : Prop where
  st : ∃ (v : Value) (at_ er : Int) (ts : List S68), e = .returned (.tuple #[v, .int .i64 at_, .int .i64 er]) ∧ Kd.R k68 68 w' W.heap.size (fun _ => True) v ts ∧ Below W.heap.size W w' ∧
    ((r = .done ts ∧ at_ = 0 ∧ er = 0) ∨ (r = .bad at_ er ∧ ts = []))
set_option maxRecDepth 100000 in
theorem Of_done (A : Option Addr) (c : Nat) (l : List Int) (w : World) (hr : Kd.C (Kd.int .i64) w A l.length l) (hl : l.length ≤ 200) {ts : List S68} (hd : readF l (l.length + 1) false 0 [] = .done ts) :
    Calls Tryz.prog 42 #[.slice A l.length c] w (OfPost (tokOf l) w) := by
  have HR := Aside0.mk hr
  have HF := Aside0.mk (show tokOf l = .done ts by unfold tokOf; rw [if_neg (by omega)]; exact hd)
  have hmf : ∀ (fn : Fn) (first cap : Array Value) (w : World), (Instr.makeFunc fn first cap).run Tryz.prog w = .ok (.func fn first cap) w := fun _ _ _ _ => rfl
  have hread := fun (w0 W : World) (g : Nat) (hT : Tok w0 g A c l 0 (.slice none 0 0) W) => read_all (by omega) hT
  rw [hd] at hread
  have b1 : decide ((l.length : Int) > 200) = false := decide_eq_false (by omega)
  have b2 : decide (200 < l.length) = false := decide_eq_false (by omega)
  clear hr hd hl
  go_enter_defers Tryz.func42, Tryz.ntmps42
  go_wp2_with fail
  refine (hread (((w.alloc (.cells #[.slice none 0 0] 57)).alloc (.cells #[.int .i64 0] 3)).alloc (.cells #[.int .i64 0] 36)) _ _ ⟨below_alloc (Below.refl _ _) _, by simp, Kd.C_below HR.out (below_alloc (below_alloc (below_alloc (Below.refl _ _) _) _) _), ?_⟩).mono ?_
  · have := blk_new (((w.alloc (.cells #[.slice none 0 0] 57)).alloc (.cells #[.int .i64 0] 3)).alloc (.cells #[.int .i64 0] 36)) (.cells #[.slice A l.length c, .int .i64 0, .slice none 0 0] 87)
    simpa using this
  rintro e w1 ⟨rfl, i, tv, hst, hR1⟩
  obtain ⟨A2, c2, rfl⟩ := Kd.R_slice hR1
  have HS := Aside0.mk hst
  have HRR := Aside0.mk hR1
  obtain ⟨hc2, hf2⟩ := hst.cell2
  have hb1 := blk_below (w1 := w1) (w := ((w.alloc (.cells #[.slice none 0 0] 57)).alloc (.cells #[.int .i64 0] 3)).alloc (.cells #[.int .i64 0] 36)) (blk_alloc (blk_alloc (blk_new _ _) _) _) hst.below
  have hb2 := blk_below (w1 := w1) (w := ((w.alloc (.cells #[.slice none 0 0] 57)).alloc (.cells #[.int .i64 0] 3)).alloc (.cells #[.int .i64 0] 36)) (blk_alloc (blk_new _ _) _) hst.below
  have hb3 := blk_below (w1 := w1) (w := ((w.alloc (.cells #[.slice none 0 0] 57)).alloc (.cells #[.int .i64 0] 3)).alloc (.cells #[.int .i64 0] 36)) (blk_new _ _) hst.below
  simp at hb1 hb2 hb3
  have d1 := blk_cell hb1 0
  have d2 := blk_cell hb2 0
  have d3 := blk_cell hb3 0
  simp at d1 d2 d3
  have q1 := blk_frozen hb1 0
  have q2 := blk_frozen hb2 0
  have q3 := blk_frozen hb3 0
  clear hst hR1 hread
  go_wp2
  refine leaves_cons (f := 59) (args := #[.pointer (some ⟨w.heap.size, 0, none⟩), .pointer (some ⟨w.heap.size + 1, 0, none⟩), .pointer (some ⟨w.heap.size + 1 + 1, 0, none⟩)]) (by simp) (by simp [go_sem]) ?_
  refine (of1_idle _ _ _ _).mono ?_
  rintro e u' w2 ⟨rfl, rfl, hb⟩
  have x1 := pw_cell_below hb (a := ⟨w.heap.size, 0, none⟩) (v := .slice A2 ts.length c2) (by simp [go_sem, d1, d2, d3])
  have x2 := pw_cell_below hb (a := ⟨w.heap.size + 1, 0, none⟩) (v := .int .i64 0) (by simp [go_sem, d1, d2, d3])
  have x3 := pw_cell_below hb (a := ⟨w.heap.size + 1 + 1, 0, none⟩) (v := .int .i64 0) (by simp [go_sem, d1, d2, d3])
  simp [Leaves, settle, results, Tryz.results42, go_sem, x1, x2, x3]
  refine ⟨⟨.slice A2 ts.length c2, 0, 0, ts, rfl, ?_, ?_, .inl ⟨HF.out, rfl, rfl⟩⟩⟩
  · have h1 := Kd.R_bound HRR.out
    have hz : (((w.alloc (.cells #[.slice none 0 0] 57)).alloc (.cells #[.int .i64 0] 3)).alloc (.cells #[.int .i64 0] 36)).heap.size = w.heap.size + 3 := by simp
    rw [hz] at h1
    have h2 := Kd.R_far (p := ⟨w.heap.size, 0, none⟩) h1 (fun k hk => by have := hk.2.1; simp; omega) (.slice A2 ts.length c2)
    have h3 := Kd.R_far (p := ⟨w.heap.size + 1, 0, none⟩) h2 (fun k hk => by have := hk.2.1; simp; omega) (.int .i64 0)
    have h4 := Kd.R_far (p := ⟨w.heap.size + 1 + 1, 0, none⟩) h3 (fun k hk => by have := hk.2.1; simp; omega) (.int .i64 0)
    exact Kd.R_lower (Kd.R_mono (Kd.R_below h4 hb) (fun _ _ => trivial)) (by omega)
  · have hB := HS.out.below
    have hB2 : Below w.heap.size w w1 := (below_alloc (below_alloc (below_alloc (Below.refl _ _) _) _) _).trans (hB.mono (by simp; omega))
    have hB3 := ((hB2.setCell (p := ⟨w.heap.size, 0, none⟩) (Nat.le_refl _) (.slice A2 ts.length c2)).setCell (p := ⟨w.heap.size + 1, 0, none⟩) (Nat.le_succ _) (.int .i64 0)).setCell (p := ⟨w.heap.size + 1 + 1, 0, none⟩) (show w.heap.size ≤ w.heap.size + 1 + 1 by omega) (.int .i64 0)
    exact hB3.trans (hb.mono hB3.size)
set_option maxRecDepth 100000 in
theorem Of_bad (A : Option Addr) (c : Nat) (l : List Int) (w : World) (hr : Kd.C (Kd.int .i64) w A l.length l) (hl : l.length ≤ 200) {at_ er : Int} (hd : readF l (l.length + 1) false 0 [] = .bad at_ er) :
    Calls Tryz.prog 42 #[.slice A l.length c] w (OfPost (tokOf l) w) := by
  have HR := Aside0.mk hr
  have HF := Aside0.mk (show tokOf l = .bad at_ er by unfold tokOf; rw [if_neg (by omega)]; exact hd)
  have hmf : ∀ (fn : Fn) (first cap : Array Value) (w : World), (Instr.makeFunc fn first cap).run Tryz.prog w = .ok (.func fn first cap) w := fun _ _ _ _ => rfl
  have hread := fun (w0 W : World) (g : Nat) (hT : Tok w0 g A c l 0 (.slice none 0 0) W) => read_all (by omega) hT
  rw [hd] at hread
  have b1 : decide ((l.length : Int) > 200) = false := decide_eq_false (by omega)
  have b2 : decide (200 < l.length) = false := decide_eq_false (by omega)
  clear hr hd hl
  go_enter_defers Tryz.func42, Tryz.ntmps42
  go_wp2_with fail
  refine (hread (((w.alloc (.cells #[.slice none 0 0] 57)).alloc (.cells #[.int .i64 0] 3)).alloc (.cells #[.int .i64 0] 36)) _ _ ⟨below_alloc (Below.refl _ _) _, by simp, Kd.C_below HR.out (below_alloc (below_alloc (below_alloc (Below.refl _ _) _) _) _), ?_⟩).mono ?_
  · have := blk_new (((w.alloc (.cells #[.slice none 0 0] 57)).alloc (.cells #[.int .i64 0] 3)).alloc (.cells #[.int .i64 0] 36)) (.cells #[.slice A l.length c, .int .i64 0, .slice none 0 0] 87)
    simpa using this
  rintro e w1 ⟨rfl, hst⟩
  have HS := Aside0.mk hst
  have hb1 := blk_below (w1 := w1) (w := ((w.alloc (.cells #[.slice none 0 0] 57)).alloc (.cells #[.int .i64 0] 3)).alloc (.cells #[.int .i64 0] 36)) (blk_alloc (blk_alloc (blk_new _ _) _) _) hst
  have hb2 := blk_below (w1 := w1) (w := ((w.alloc (.cells #[.slice none 0 0] 57)).alloc (.cells #[.int .i64 0] 3)).alloc (.cells #[.int .i64 0] 36)) (blk_alloc (blk_new _ _) _) hst
  have hb3 := blk_below (w1 := w1) (w := ((w.alloc (.cells #[.slice none 0 0] 57)).alloc (.cells #[.int .i64 0] 3)).alloc (.cells #[.int .i64 0] 36)) (blk_new _ _) hst
  simp at hb1 hb2 hb3
  have d1 := blk_cell hb1 0
  have d2 := blk_cell hb2 0
  have d3 := blk_cell hb3 0
  simp at d1 d2 d3
  have q1 := blk_frozen hb1 0
  have q2 := blk_frozen hb2 0
  have q3 := blk_frozen hb3 0
  have z3 := blk_lt hb3
  clear hst hread
  refine leaves_cons (f := 59) (args := #[.pointer (some ⟨w.heap.size, 0, none⟩), .pointer (some ⟨w.heap.size + 1, 0, none⟩), .pointer (some ⟨w.heap.size + 1 + 1, 0, none⟩)]) (by simp) (by simp [go_sem]) ?_
  refine (of1_panicking _ _ _ at_ er _ _ _ _ d1 d2 d3 q1 q2 q3 (by omega) (by omega) (by omega) []).mono ?_
  rintro e u' w2 ⟨rfl, rfl, hw2⟩
  have hb : Below (((w1.setCell ⟨w.heap.size, 0, none⟩ (.slice none 0 0)).setCell ⟨w.heap.size + 1, 0, none⟩ (.int .i64 at_)).setCell ⟨w.heap.size + 1 + 1, 0, none⟩ (.int .i64 er)).heap.size (((w1.setCell ⟨w.heap.size, 0, none⟩ (.slice none 0 0)).setCell ⟨w.heap.size + 1, 0, none⟩ (.int .i64 at_)).setCell ⟨w.heap.size + 1 + 1, 0, none⟩ (.int .i64 er)) w2 := by
    rw [hw2]
    exact below_drew (below_alloc (Below.refl _ _) _)
  clear hw2
  have x1 := pw_cell_below hb (a := ⟨w.heap.size, 0, none⟩) (v := .slice none 0 0) (by simp [go_sem, d1, d2, d3])
  have x2 := pw_cell_below hb (a := ⟨w.heap.size + 1, 0, none⟩) (v := .int .i64 at_) (by simp [go_sem, d1, d2, d3])
  have x3 := pw_cell_below hb (a := ⟨w.heap.size + 1 + 1, 0, none⟩) (v := .int .i64 er) (by simp [go_sem, d1, d2, d3])
  simp [Leaves, settle, results, Tryz.results42, go_sem, x1, x2, x3]
  refine ⟨⟨.slice none 0 0, at_, er, [], rfl, Kd.R_nil _ _ _ _ _, ?_, .inr ⟨HF.out, rfl⟩⟩⟩
  · have hB2 : Below w.heap.size w w1 := (below_alloc (below_alloc (below_alloc (Below.refl _ _) _) _) _).trans (HS.out.mono (by simp; omega))
    have hB3 := ((hB2.setCell (p := ⟨w.heap.size, 0, none⟩) (Nat.le_refl _) (.slice none 0 0)).setCell (p := ⟨w.heap.size + 1, 0, none⟩) (Nat.le_succ _) (.int .i64 at_)).setCell (p := ⟨w.heap.size + 1 + 1, 0, none⟩) (show w.heap.size ≤ w.heap.size + 1 + 1 by omega) (.int .i64 er)
    exact hB3.trans (hb.mono hB3.size)
set_option maxRecDepth 100000 in
theorem Of_long (A : Option Addr) (c : Nat) (l : List Int) (w : World) (hl : 200 < l.length) :
    Calls Tryz.prog 42 #[.slice A l.length c] w (OfPost (tokOf l) w) := by
  have HF := Aside0.mk (show tokOf l = .bad 0 10 by unfold tokOf; rw [if_pos (by omega)])
  have b3 : decide ((200 : Int) < (l.length : Int)) = true := decide_eq_true (by omega)
  have b4 : (200 : Int) < (l.length : Int) := by omega
  clear hl
  go_enter_defers Tryz.func42, Tryz.ntmps42
  go_wp2
  simp [Leaves, settle, results, Tryz.results42, go_sem, bodyPostD]

  exact ⟨⟨.slice none 0 0, 0, 10, [], rfl, Kd.R_nil _ _ _ _ _, (below_alloc (below_alloc (below_alloc (Below.refl _ _) _) _) _), .inr ⟨HF.out, rfl⟩⟩⟩
theorem Of_all (A : Option Addr) (c : Nat) (l : List Int) (w : World) (hr : Kd.C (Kd.int .i64) w A l.length l) :
    Calls Tryz.prog 42 #[.slice A l.length c] w (OfPost (tokOf l) w) := by
  by_cases hl : l.length ≤ 200
  · cases hd : readF l (l.length + 1) false 0 [] with
    | done ts => exact Of_done A c l w hr hl hd
    | bad a e => exact Of_bad A c l w hr hl hd
  · exact Of_long A c l w (by omega)
end Go.Proofs.YtglolcejfbhbdaaGreat.P
end
section
namespace Go.Proofs.YtglolcejfbhbdaaGreat.P
open Go.RowKit Go.Shelf Go.Proofs.YtglolcejfbhbdaaGreatW.PrintWords Go.Proofs.YtglolcejfbhbdaaGreatW.PrintLast Go.Proofs.YtglolcejfbhbdaaGreatW.PrintMore
set_option linter.unusedVariables false
set_option linter.unusedSimpArgs false
structure Rdr (w0 : World) (g : Nat) (en fl : Int) (ts : List S68) (w : World) : Prop where
  below : Below w0.heap.size w0 w
  ge : w0.heap.size ≤ g
  blk : ∃ A c, ts.length ≤ c ∧ Kd.C k68 w0 A ts.length ts ∧ w.heap[g]? = some (.cells #[.slice A ts.length c, .int .i64 en, .int .i64 fl] 65 (0, 0))
structure RdrOk (w0 : World) (g : Nat) (en fl : Int) (ts : List S68) (W : World) (v : Value) (e : Ending) (w : World) : Prop where
  ret : e = .returned v
  st : Rdr w0 g en fl ts w
  keep : KeepBut W w g none
section
variable {w0 : World} {g : Nat} {en fl : Int} {ts : List S68} {w : World}
theorem Rdr.grow (h : Rdr w0 g en fl ts w) {w' : World} (hb : Below w.heap.size w w') : Rdr w0 g en fl ts w' := by
  obtain ⟨h1, h2, A, c, h3, h4, h5⟩ := h
  exact ⟨h1.trans (hb.mono h1.size), h2, A, c, h3, h4, blk_below h5 hb⟩
theorem Rdr.drewN (h : Rdr w0 g en fl ts w) (n : Nat) : Rdr w0 g en fl ts (w.drewN n) := h.grow (pw_below_drewN (Below.refl _ _) n)
theorem Rdr.far (h : Rdr w0 g en fl ts w) (a : Addr) (ha : g ≠ a.block) (hw : w0.heap.size ≤ a.block) (v : Value) : Rdr w0 g en fl ts (w.setCell a v) := by
  obtain ⟨h1, h2, A, c, h3, h4, h5⟩ := h
  exact ⟨h1.setCell hw _, h2, A, c, h3, h4, blk_far h5 ha v⟩
theorem Rdr.cells (h : Rdr w0 g en fl ts w) : ∃ A c, ts.length ≤ c ∧ Kd.C k68 w A ts.length ts ∧ w.cell? ⟨g, 0, none⟩ = some (.slice A ts.length c) ∧ w.cell? ⟨g, 1, none⟩ = some (.int .i64 en) ∧ w.cell? ⟨g, 2, none⟩ = some (.int .i64 fl) ∧ w.frozen? ⟨g, 0, none⟩ = false := by
  obtain ⟨h1, h2, A, c, h3, h4, h5⟩ := h
  exact ⟨A, c, h3, Kd.C_below h4 h1, by simpa using blk_cell h5 0, by simpa using blk_cell h5 1, by simpa using blk_cell h5 2, blk_frozen h5 0⟩
theorem Rdr.lt (h : Rdr w0 g en fl ts w) : g < w.heap.size := by
  obtain ⟨h1, h2, A, c, h3, h4, h5⟩ := h
  exact blk_lt h5
theorem Rdr.set0 {x : Value} (h1 : Below w0.heap.size w0 w) (h2 : w0.heap.size ≤ g) (h5 : w.heap[g]? = some (.cells #[x, .int .i64 en, .int .i64 fl] 65 (0, 0))) {A : Option Addr} {c : Nat} (h3 : ts.length ≤ c) (h4 : Kd.C k68 w0 A ts.length ts) : Rdr w0 g en fl ts (w.setCell ⟨g, 0, none⟩ (.slice A ts.length c)) :=
  ⟨h1.setCell h2 _, h2, A, c, h3, h4, by simpa using blk_set h5 0 (.slice A ts.length c)⟩
set_option maxRecDepth 100000 in
theorem rnext_ok {t : S68} (h : Rdr w0 g en fl (t :: ts) w) :
    Calls Tryz.prog 63 #[.pointer (some ⟨g, 0, none⟩)] w (RdrOk w0 g en fl ts w (tokV t)) := by
  have hw0 := h.below.size
  have hglt := h.lt
  obtain ⟨h1, h2, A, c, h3, h4, h5⟩ := h
  have HB := Aside0.mk h1
  have HGE := Aside0.mk h2
  have HG := Aside0.mk h5
  have HC0 := Aside0.mk h4
  obtain ⟨ad, e1, hx0, hx1⟩ := at_T68 (Kd.C_below h4 h1) 0 (by omega) (by simp)
  cases e1
  have hx1 : w.cell? ⟨ad.block, ad.off + 1, none⟩ = some (.int .i64 t.f1) ∧ w.cell? ⟨ad.block, ad.off + 2, none⟩ = some (.int .i64 t.f2) ∧ w.cell? ⟨ad.block, ad.off + 3, none⟩ = some (.int .i64 t.f3) ∧ w.cell? ⟨ad.block, ad.off + 4, none⟩ = some (.int .i64 t.f4) := hx1
  obtain ⟨hx1, hx2, hx3, hx4⟩ := hx1
  have hx0 : w.cell? ad = some (.int .i64 t.f0) := hx0
  have adlt : ad.block < w.heap.size := World.block_lt_of_cell? w _ hx0
  have hadd : ad.add 0 = ad := rfl
  have d0 : w.cell? ⟨g, 0, none⟩ = some (.slice (some ad) (ts.length + 1) c) := by simpa using blk_cell h5 0
  have q0 := blk_frozen h5 0
  have hdrop := Kd.C_drop (m := 1) (c := c) h4 (by simp) h3
  simp only [List.drop_succ_cons, List.drop_zero] at hdrop
  have HD := Aside0.mk hdrop
  have h3' : ts.length + 1 ≤ c := h3
  have h30 : (ts.length : Int) + 1 ≤ (c : Int) := by omega
  clear h1 h2 h4 h5 h3 hdrop
  by_cases hc1 : c = 1
  · subst hc1
    obtain rfl : ts = [] := List.length_eq_zero_iff.1 (by omega)
    have HD2 := Aside0.mk (show Kd.C k68 w0 (some ad) ([] : List S68).length [] by have := HD.out; rwa [if_pos rfl] at this)
    go_enter Tryz.func63, Tryz.ntmps63
    go_wp2
    refine bodyPost_ret (v := tokV t) ?_ rfl ?_
    · simp [results, Tryz.results63, go_sem, tokV]
    · refine ⟨rfl, ?_, ?_⟩
      · exact ((Rdr.set0 (ts := []) (c := 0) HB.out HGE.out HG.out (Nat.le_refl _) HD2.out).grow (below_alloc (Below.refl _ _) _)).grow (below_alloc (Below.refl _ _) _)
      · exact keepAlloc (keepAlloc ((KeepBut.refl w g none).set_ _ _) _) _
  · have HD2 := Aside0.mk (show Kd.C k68 w0 (some ⟨ad.block, ad.off + 5, none⟩) ts.length ts by have := HD.out; rwa [if_neg hc1] at this)
    go_enter Tryz.func63, Tryz.ntmps63
    go_wp2
    refine bodyPost_ret (v := tokV t) ?_ rfl ?_
    · simp [results, Tryz.results63, go_sem, tokV]
    · refine ⟨rfl, ?_, ?_⟩
      · exact ((Rdr.set0 HB.out HGE.out HG.out (by omega) HD2.out).grow (below_alloc (Below.refl _ _) _)).grow (below_alloc (Below.refl _ _) _)
      · exact keepAlloc (keepAlloc ((KeepBut.refl w g none).set_ _ _) _) _
def hasI (l : List Int) (x : Int) : Bool := l.contains x
def isTok (ks : List Int) : List S68 → Bool
  | [] => false
  | t :: _ => hasI ks t.f0
end
set_option maxRecDepth 100000 in
theorem indexI.calls (A0 : Option Addr) (c0 : Nat) (l0 : List Int) (x : Int) (w : World) (hr0 : Kd.C (Kd.int .i64) w A0 l0.length l0) :
    Calls Tryz.prog 106 #[.slice A0 l0.length c0, .int .i64 x] w fun e w' => ∃ i : Int, e = .returned (.int .i64 i) ∧ Aside0 (decide (0 ≤ i) = hasI l0 x) ∧ Drawn0 w w' := by
  have HR := Aside0.mk hr0
  have HL : l0.length ≤ 9223372036854775807 := hr0.2.1
  clear hr0
  go_enter Tryz.func106, Tryz.ntmps106
  go_wp2
  go_loopg [5, 8] l0.length (fun kq v5 v8 w' => ∃ i : Nat, v8 = .int .i64 i ∧ i ≤ l0.length ∧ l0.length - i ≤ kq ∧ Aside0 (hasI (l0.take i) x = false) ∧ Drawn0 w w')
  case atStart => exact ⟨0, rfl, by omega, by omega, ⟨by simp [hasI]⟩, Drawn0.refl _⟩
  case round =>
    obtain ⟨i, rfl, hi, hk, HA, ⟨m1, rfl⟩⟩ := hrel
    by_cases hlt : i < l0.length
    · have hlt' : (i : Int) < (l0.length : Int) := by omega
      obtain ⟨ad, e1, hx⟩ := Kd.at_int HR.out (i : Int) (by omega) hlt'
      cases e1
      rw [Int.toNat_natCast] at hx
      have HS := Aside0.mk (show hasI (l0.take (i + 1)) x = (x == rd l0 i) by
        have h1 := HA.out
        unfold hasI at h1 ⊢
        rw [List.take_succ_eq_append_getElem hlt, List.contains_append, h1]
        simp only [rd, Int.toNat_natCast, List.getD_eq_getElem?_getD, List.getElem?_eq_getElem hlt, Option.getD_some, Bool.false_or, List.contains_cons, List.contains_nil, Bool.or_false])
      generalize rd l0 (i : Nat) = y at *
      cases hq : (x == y) with
      | true =>
        rw [hq] at HS
        go_wp2
        go_ret
        refine ⟨_, rfl, ⟨?_⟩, ⟨⟨_, rfl⟩⟩⟩
        have : hasI l0 x = true := by
          have h2 := HS.out; unfold hasI at h2 ⊢; rw [← List.take_append_drop (i + 1) l0, List.contains_append, h2]; rfl
        rw [this]
        simp
      | false =>
        rw [hq] at HS
        go_wp2
        go_roundg (l0.length - (i + 1))
        case measure => omega
        case rel => exact ⟨i + 1, by go_num, by omega, by omega, HS, ⟨⟨_, rfl⟩⟩⟩
    · have hltz : ¬ (i : Int) < (l0.length : Int) := by omega
      have hi' : i = l0.length := by omega
      subst hi'
      go_wp2
      go_ret
      refine ⟨_, rfl, ⟨?_⟩, ⟨⟨_, rfl⟩⟩⟩
      have := HA.out
      rw [List.take_length] at this
      rw [this]
      rfl
set_option maxRecDepth 100000 in
theorem containsI.calls (A0 : Option Addr) (c0 : Nat) (l0 : List Int) (x : Int) (w : World) (hr0 : Kd.C (Kd.int .i64) w A0 l0.length l0) :
    Calls Tryz.prog 87 #[.slice A0 l0.length c0, .int .i64 x] w fun e w' => e = .returned (.bool (hasI l0 x)) ∧ Drawn0 w w' := by
  have hcall := indexI.calls A0 c0 l0 x w hr0
  clear hr0
  go_enter Tryz.func87, Tryz.ntmps87
  go_wp2_with (go_at_call 106; refine hcall.mono ?_; rintro e w' ⟨i, rfl, HI, hb'⟩)
  go_ret
  exact ⟨by rw [← HI.out]; rfl, hb'⟩
section
variable {w0 : World} {g : Nat} {en fl : Int} {ts : List S68} {w : World}
set_option maxRecDepth 100000 in
theorem ris_ok (h : Rdr w0 g en fl ts w) (ks : List Int) (A : Option Addr) (c : Nat) (hk : Kd.C (Kd.int .i64) w A ks.length ks) :
    Calls Tryz.prog 62 #[.pointer (some ⟨g, 0, none⟩), .slice A ks.length c] w (RdrOk w0 g en fl ts w (.bool (isTok ks ts))) := by
  have HT := Aside0.mk h
  have HK := Aside0.mk hk
  obtain ⟨A1, c1, h3, h4, hc0, hc1, hc2, hf⟩ := h.cells
  have hw := h.lt
  clear h hk
  cases ts with
  | nil =>
    have b1 : decide ((0 : Int) < (([] : List S68).length : Int)) = false := rfl
    go_enter Tryz.func62, Tryz.ntmps62
    go_wp2
    repeat (go_quiet (fail); try go_wp2)
    go_ret
    exact ⟨rfl, by first | exact HT.out | exact HT.out.drewN _, by first | exact KeepBut.refl _ _ _ | exact keepN _ _ _⟩
  | cons t r =>
    obtain ⟨ad, e1, hx0, _⟩ := at_T68 h4 0 (by omega) (by simp)
    cases e1
    have hx : w.cell? ad = some (.int .i64 t.f0) := hx0
    have hadd : ad.add 0 = ad := rfl
    have b1 : decide ((0 : Int) < (r.length : Int) + 1) = true := decide_eq_true (by omega)
    have b2 : (0 : Int) < (r.length : Int) + 1 := by omega
    have hcon := fun W (hW : Below w.heap.size w W) => containsI.calls A c ks t.f0 W (Kd.C_below HK.out hW)
    clear hx0 h4
    go_enter Tryz.func62, Tryz.ntmps62
    go_wp2_with fail
    refine (hcon _ (by first | exact Below.refl _ _ | exact pw_below_drewN (Below.refl _ _) _)).mono ?_
    rintro e w1 ⟨rfl, ⟨m1, rfl⟩⟩
    go_wp2
    go_ret
    exact ⟨rfl, by first | exact HT.out.drewN _ | exact (HT.out.drewN _).drewN _, by first | exact keepN _ _ _ | exact keepTr (keepN _ _ _) (keepN _ _ _)⟩
end
end Go.Proofs.YtglolcejfbhbdaaGreat.P
end
section
namespace Go.Proofs.YtglolcejfbhbdaaGreat.P
open Go.RowKit Go.Shelf Go.Maps Go.Proofs.YtglolcejfbhbdaaGreatW.PrintWords Go.Proofs.YtglolcejfbhbdaaGreatW.PrintLast Go.Proofs.YtglolcejfbhbdaaGreatW.PrintMore
set_option linter.unusedVariables false
set_option linter.unusedSimpArgs false
def digitsL : List S30 := [⟨48, 57⟩]
def blanksL : List S30 := [⟨9, 13⟩, ⟨32, 32⟩, ⟨133, 133⟩, ⟨160, 160⟩, ⟨8232, 8233⟩]
def lettersL : List S30 := [⟨48, 57⟩, ⟨65, 90⟩, ⟨95, 95⟩, ⟨97, 122⟩, ⟨192, 214⟩, ⟨216, 246⟩, ⟨248, 591⟩, ⟨880, 1023⟩, ⟨1024, 1279⟩, ⟨1488, 1514⟩, ⟨1568, 1610⟩, ⟨1632, 1641⟩]
theorem digits_f : tree_digits.f = some digitsL := rfl
theorem blanks_f : tree_blanks.f = some blanksL := rfl
theorem letters_f : tree_letters.f = some lettersL := rfl
structure RowOk (w0 : World) (g : Nat) (en fl : Int) (ts : List S68) (W : World) (l : List S30) (e : Ending) (w : World) : Prop where
  ret : ∃ v, e = .returned v ∧ Kd.R k30 30 w W.heap.size (fun _ => True) v l
  st : Rdr w0 g en fl ts w
  keep : KeepBut W w g none
  below : Below W.heap.size W w
def fnElem : Value → Option (DataW Unit × List MemPlace)
  | .func (.func n) ⟨[]⟩ ⟨[]⟩ => some (.lit (.int .i64 n), [])
  | .nilFunc => some (.lit (.int .i64 0), [])
  | _ => none
theorem fnElem_inv {v : Value} {n : Nat} {ps : List MemPlace} (h : fnElem v = some (.lit (.int .i64 n), ps)) (hn : n ≠ 0) : v = .func (.func n) #[] #[] := by
  unfold fnElem at h
  split at h
  · rename_i m
    simp only [Option.some.injEq, Prod.mk.injEq, DataW.lit.injEq, Lit.int.injEq, true_and] at h
    obtain rfl : m = n := Int.ofNat.inj h.1
    rfl
  · simp only [Option.some.injEq, Prod.mk.injEq, DataW.lit.injEq, Lit.int.injEq, true_and] at h
    have := h.1
    omega
  · cases h
def grD : DataW Unit := .map [(.int .i64 100, .lit (.int .i64 119)), (.int .i64 115, .lit (.int .i64 120)), (.int .i64 119, .lit (.int .i64 121))]
theorem zero134 (w : World) : (zeroValue 134).run Tryz.prog w = .ok .nilFunc w := by kernel_rfl
end Go.Proofs.YtglolcejfbhbdaaGreat.P
end
section
namespace Go.Proofs.YtglolcejfbhbdaaGreat.P
open Go.RowKit Go.Shelf Go.Maps Go.Proofs.YtglolcejfbhbdaaGreatW.PrintWords Go.Proofs.YtglolcejfbhbdaaGreatW.PrintLast Go.Proofs.YtglolcejfbhbdaaGreatW.PrintMore
set_option linter.unusedVariables false
set_option linter.unusedSimpArgs false
def tokB (t : S68) : Obj := .cells #[.int .i64 t.f0, .int .i64 t.f1, .int .i64 t.f2, .int .i64 t.f3, .int .i64 t.f4] 68
theorem tok_cells {w w' : World} {t : S68} (hb : Below (w.alloc (tokB t)).heap.size (w.alloc (tokB t)) w') :
    w'.cell? ⟨w.heap.size, 0, none⟩ = some (.int .i64 t.f0) ∧ w'.cell? ⟨w.heap.size, 1, none⟩ = some (.int .i64 t.f1) ∧ w'.cell? ⟨w.heap.size, 2, none⟩ = some (.int .i64 t.f2) ∧ w'.cell? ⟨w.heap.size, 3, none⟩ = some (.int .i64 t.f3) ∧ w'.cell? ⟨w.heap.size, 4, none⟩ = some (.int .i64 t.f4) := by
  have h := blk_below (blk_new w (tokB t)) hb
  exact ⟨by simpa using blk_cell h 0, by simpa using blk_cell h 1, by simpa using blk_cell h 2, by simpa using blk_cell h 3, by simpa using blk_cell h 4⟩
theorem Rdr.fl_cell {w0 : World} {g : Nat} {en fl : Int} {ts : List S68} {w : World} (h : Rdr w0 g en fl ts w) : w.cell? ⟨g, 2, none⟩ = some (.int .i64 fl) := by
  obtain ⟨A, c, _, _, _, _, h2, _⟩ := h.cells
  exact h2
theorem close_of_R {W : World} {base : Nat} {ok : Nat → Prop} {A : Option Addr} {c : Nat} {l : List S30} (fl : Int) (h : Kd.R k30 30 W base ok (.slice A l.length c) l) :
    Calls Tryz.prog 12 #[.slice A l.length c, .int .i64 fl] W fun e w' => ∃ v, e = .returned v ∧ Kd.R k30 30 w' W.heap.size (fun _ => True) v (closeL l fl) ∧ Below W.heap.size W w' :=
  tree_Close.calls A c l fl _ W (Kd.R_reads' h).2.2 (Kd.R_reads' h).2.1 rfl
set_option maxRecDepth 100000 in
set_option maxHeartbeats 1000000 in
theorem set_char {w0 : World} {g : Nat} {en fl : Int} {ts : List S68} {w : World} (h : Rdr w0 g en fl ts w) (t : S68) (h1 : t.f0 = 1) :
    Calls Tryz.prog 116 #[.pointer (some ⟨g, 0, none⟩), tokV t] w (RowOk w0 g en fl ts w (closeL [⟨t.f1, t.f1⟩] fl)) := by
  have HT := Aside0.mk h
  have hg2 := h.fl_cell
  have hglt := h.lt
  clear h
  have HE := Aside0.mk (show closeL [⟨t.f1, t.f1⟩] fl = closeL [⟨t.f1, t.f1⟩] fl from rfl)
  have hx0 := tok_cells (t := t) (w := w) (Below.refl _ _)
  have hgx := (HT.out.grow (below_alloc (Below.refl _ _) (tokB t))).fl_cell
  have q1 : (t.f0 == 1) = true := by simp [h1]
  have H1 := Aside0.mk h1
  clear h1
  unfold tokV
  go_enter Tryz.func116, Tryz.ntmps116
  go_wp2_with fail
  refine start_ (n := 10) (S := fun w' => w'.cell? ⟨w.heap.size, 1, none⟩ = some (.int .i64 t.f1) ∧ w'.cell? ⟨g, 2, none⟩ = some (.int .i64 fl)) (ds := []) #[false, false, false, false, false, false, false, false, false, false] (by kernel_rfl) rfl rfl ⟨hx0.2.1, hgx⟩ (fun hHeld => ?_)
  refine pure_ (i := 0) (N := some 12) (v := ?_) (a' := ?_) #[true, false, false, false, false, false, false, false, false, false] rfl rfl (by kernel_rfl) (fun _ _ _ h => h) (Or.inl ⟨by rfl, ?_⟩) ?_ ?_
  rotate_left
  · intro w'
    go_simp
    with_reducible rfl
  rotate_left
  · simp only [Act.put, List.setIfInBounds_toArray, List.set_cons_zero, List.set_cons_succ, i64_w, i32_w]
    rfl
  refine pure_ (i := 4) (N := some 16) (v := ?_) (a' := ?_) #[true, false, false, false, true, false, false, false, false, false] rfl rfl (by kernel_rfl) (fun _ _ _ h => h) (Or.inl ⟨by rfl, ?_⟩) ?_ ?_
  rotate_left
  · intro w'
    go_simp
    with_reducible rfl
  rotate_left
  · simp only [Act.put, List.setIfInBounds_toArray, List.set_cons_zero, List.set_cons_succ, i64_w, i32_w]
    rfl
  refine pure_ (i := 5) (N := some 17) (v := ?_) (a' := ?_) #[true, false, false, false, true, true, false, false, false, false] rfl rfl (by kernel_rfl) (fun _ _ _ h => h) (Or.inl ⟨by rfl, ?_⟩) ?_ ?_
  rotate_left
  · intro w'
    go_simp
    with_reducible rfl
  rotate_left
  · simp only [Act.put, List.setIfInBounds_toArray, List.set_cons_zero, List.set_cons_succ, i64_w, i32_w]
    rfl
  refine pure_ (i := 6) (N := some 18) (v := ?_) (a' := ?_) #[true, false, false, false, true, true, true, false, false, false] rfl rfl (by kernel_rfl) (fun _ _ _ h => h) (Or.inl ⟨by rfl, ?_⟩) ?_ ?_
  rotate_left
  · intro w'
    go_simp
    with_reducible rfl
  rotate_left
  · simp only [Act.put, List.setIfInBounds_toArray, List.set_cons_zero, List.set_cons_succ, i64_w, i32_w]
    rfl
  refine take_ (i := 1) (N := some 13) (v := ?_) (a' := ?_) #[true, true, false, false, true, true, true, false, false, false] rfl rfl (by kernel_rfl) (fun _ _ _ h => h) (Or.inl ⟨by rfl, ?_⟩) hHeld ?_ ?_
  rotate_left
  · rintro w' ⟨s0, s1⟩
    go_simp
    with_reducible rfl
  rotate_left
  · simp only [Act.put, List.setIfInBounds_toArray, List.set_cons_zero, List.set_cons_succ, i64_w, i32_w]
    rfl
  refine take_ (i := 7) (N := some 19) (v := ?_) (a' := ?_) #[true, true, false, false, true, true, true, true, false, false] rfl rfl (by kernel_rfl) (fun _ _ _ h => h) (Or.inl ⟨by rfl, ?_⟩) hHeld ?_ ?_
  rotate_left
  · rintro w' ⟨s0, s1⟩
    go_simp
    with_reducible rfl
  rotate_left
  · simp only [Act.put, List.setIfInBounds_toArray, List.set_cons_zero, List.set_cons_succ, i64_w, i32_w]
    rfl
  refine one_ (i := 2) (N := some 14) #[true, true, true, false, true, true, true, true, false, false] rfl rfl (by kernel_rfl) (by decide) (fun K hK => ?_)
  refine goes_ Tryz.func53 (by kernel_rfl) rfl #[.int .i64 t.f1] (by rfl) rfl rfl (by simp only [List.map_toArray, List.map_cons, List.map_nil]; rfl) ?_
  with_reducible refine ((tree_single.calls t.f1 t.f1 t.f1 _ rfl)).mono ?_
  rintro e w1 ⟨rfl, hb1⟩
  refine ⟨_, rfl, ?_⟩
  have hb1 : Below (w.alloc (tokB t)).heap.size (w.alloc (tokB t)) w1 := below_step (below_drew1 (Below.refl _ _)) hb1
  have hx1 := tok_cells hb1
  have HT1 := Aside0.mk ((HT.out.grow (below_alloc (Below.refl _ _) (tokB t))).grow hb1)
  have hg1 := HT1.out.fl_cell
  have hlt1 := HT1.out.lt
  refine hK.out _ _ ⟨hx1.2.1, hg1⟩ (fun hHeld => ?_)
  clear hK K
  refine norm_ (a' := ?_) ?_ ?_
  rotate_left
  · show Act.put _ (some 14) _ = _
    simp only [Act.put, List.setIfInBounds_toArray, List.set_cons_zero, List.set_cons_succ, i64_w, i32_w]
    rfl
  refine one_ (i := 3) (N := some 15) #[true, true, true, true, true, true, true, true, false, false] rfl rfl (by kernel_rfl) (by decide) (fun K hK => ?_)
  refine value_ (w1 := ?_) (v := ?_) (by rfl) rfl ?_ ?_
  rotate_left 2
  · go_simp
    constructor
    · rfl
    · rfl
  have HT2 := Aside0.mk (HT1.out.grow (below_alloc (Below.refl _ _) (.cells #[.int .i64 t.f1, .int .i64 t.f1] 30)))
  have hcl := close_of_R fl (show Kd.R k30 30 (w1.alloc (.cells #[.int .i64 t.f1, .int .i64 t.f1] 30)) 0 (fun _ => True) (.slice (some ⟨w1.heap.size, 0, none⟩) [(⟨t.f1, t.f1⟩ : S30)].length 1) [⟨t.f1, t.f1⟩] from R_lit1 w1 0 ⟨t.f1, t.f1⟩ (Nat.zero_le _))
  change Calls Tryz.prog 12 #[.slice (some ⟨w1.heap.size, 0, none⟩) 1 1, .int .i64 fl] _ _ at hcl
  have HB := Aside0.mk (show Below w.heap.size w (w1.alloc (.cells #[.int .i64 t.f1, .int .i64 t.f1] 30)) from below_alloc ((below_alloc (Below.refl _ _) (tokB t)).trans (hb1.mono (by simp))) _)
  refine hK.out _ _ ⟨(pw_cell_below (below_alloc (Below.refl _ _) _) hx1.2.1), HT2.out.fl_cell⟩ (fun hHeld => ?_)
  clear hK K
  refine norm_ (a' := ?_) ?_ ?_
  rotate_left
  · show Act.put _ (some 15) _ = _
    simp only [Act.put, List.setIfInBounds_toArray, List.set_cons_zero, List.set_cons_succ, i64_w, i32_w]
    rfl
  refine one_ (i := 8) (N := some 20) #[true, true, true, true, true, true, true, true, true, false] rfl rfl (by kernel_rfl) (by decide) (fun K hK => ?_)
  refine goes_ Tryz.func12 (by kernel_rfl) rfl #[.slice (some ⟨w1.heap.size, 0, none⟩) 1 1, .int .i64 fl] (by rfl) rfl rfl (by simp only [List.map_toArray, List.map_cons, List.map_nil]; rfl) ?_
  with_reducible refine (hcl).mono ?_
  rintro e w2 ⟨v2, rfl, hR2, hb2⟩
  refine ⟨_, rfl, ?_⟩
  have HT3 := Aside0.mk (HT2.out.grow hb2)
  have HR2 := Aside0.mk (Kd.R_lower hR2 HB.out.size)
  have HB2 := Aside0.mk (HB.out.trans (hb2.mono HB.out.size))
  have hx2 := pw_cell_below hb2 hHeld.1
  clear hR2 hb2
  refine hK.out _ _ ⟨hx2, HT3.out.fl_cell⟩ (fun hHeld => ?_)
  clear hK K
  refine norm_ (a' := ?_) ?_ ?_
  rotate_left
  · show Act.put _ (some 20) _ = _
    simp only [Act.put, List.setIfInBounds_toArray, List.set_cons_zero, List.set_cons_succ, i64_w, i32_w]
    rfl
  refine pure_ (i := 9) (N := some 4) (v := ?_) (a' := ?_) #[true, true, true, true, true, true, true, true, true, true] rfl rfl (by kernel_rfl) (fun _ _ _ h => h) (Or.inl ⟨by rfl, ?_⟩) ?_ ?_
  rotate_left
  · intro w'
    go_simp
    with_reducible rfl
  rotate_left
  · simp only [Act.put, List.setIfInBounds_toArray, List.set_cons_zero, List.set_cons_succ, i64_w, i32_w]
    rfl
  refine done_ (by kernel_rfl) ?_

  go_wp2_with fail
  go_ret
  exact ⟨⟨_, rfl, HR2.out⟩, HT3.out, KeepBut.of_below HB2.out g none, HB2.out⟩
end Go.Proofs.YtglolcejfbhbdaaGreat.P
end
section
namespace Go.Proofs.YtglolcejfbhbdaaGreat.P
open Go.RowKit Go.Shelf Go.Maps Go.Proofs.YtglolcejfbhbdaaGreatW.PrintWords Go.Proofs.YtglolcejfbhbdaaGreatW.PrintLast Go.Proofs.YtglolcejfbhbdaaGreatW.PrintMore
set_option linter.unusedVariables false
set_option linter.unusedSimpArgs false
theorem goesV_ {P : Program} {ops : Array Oper} {Q : Exit → Act → World → Prop} {oi : Oper} {N : Option Tmp} {a : Act} {w : World} {K : Act → World → Prop} {f : FuncId} {fn : Func} {as_ : Array Operand} {ts : Array TypeId} {x : Operand} (hf : P.funcs[f]? = some fn) (hname : (fn.name == "runtime.NumGoroutine") = false) (hb : fn.body.isSome = true) (args : Array Value)
    (hw : Region.wanted oi (yielded ops a.tmps) = true) (hN : oi.dst = N) (hop : oi.op = .call { callee := .value x, args := as_, argTypes := ts }) (hx : a.eval x = .func (.func f) #[] #[]) (hargs : as_.map a.eval = args)
    (h : Calls P f args w fun e w' => ∃ v, e = .returned v ∧ K (a.put N v) w') : if Region.wanted oi (yielded ops a.tmps) = true then Oper.wp P oi a w K Q else K (a.put N undef) w := by
  refine call_ f args hw hN ?_ h
  have he := enters_ hf hname hb args w
  unfold execOp
  simp [hop, resolve, Deferred.ofValue, invoke, hx, hargs, he]
theorem gr_at (c : Int) (n : Nat) (h : (c = 100 ∧ n = 119) ∨ (c = 115 ∧ n = 120) ∨ (c = 119 ∧ n = 121)) : grD.atKey (.int .i64 c) (.lit (.int .i64 0)) = .lit (.int .i64 n) ∧ Maps.has grD (.int .i64 c) = true := by
  rcases h with ⟨rfl, rfl⟩ | ⟨rfl, rfl⟩ | ⟨rfl, rfl⟩ <;> exact ⟨rfl, rfl⟩
set_option maxRecDepth 100000 in
set_option maxHeartbeats 1000000 in
theorem set_range {w0 : World} {g : Nat} {en fl : Int} {ts : List S68} {w : World} (h : Rdr w0 g en fl ts w) (t : S68) (h9 : t.f0 = 9) :
    Calls Tryz.prog 116 #[.pointer (some ⟨g, 0, none⟩), tokV t] w (RowOk w0 g en fl ts w (closeL [⟨t.f2, t.f3⟩] fl)) := by
  have HT := Aside0.mk h
  have hg2 := h.fl_cell
  have hglt := h.lt
  clear h
  have hx0 := tok_cells (t := t) (w := w) (Below.refl _ _)
  have hgx := (HT.out.grow (below_alloc (Below.refl _ _) (tokB t))).fl_cell
  try dsimp only at hx0
  have q1 : (t.f0 == 1) = false := by rw [h9]; rfl
  have q9 : (t.f0 == 9) = true := by rw [h9]; rfl
  have H9 := Aside0.mk h9
  clear h9
  unfold tokV
  go_enter Tryz.func116, Tryz.ntmps116
  go_wp2_with fail
  refine start_ (n := 12) (S := fun w' => w'.cell? ⟨w.heap.size, 2, none⟩ = some (.int .i64 t.f2) ∧ w'.cell? ⟨w.heap.size, 3, none⟩ = some (.int .i64 t.f3) ∧ w'.cell? ⟨g, 2, none⟩ = some (.int .i64 fl)) (ds := []) #[false, false, false, false, false, false, false, false, false, false, false, false] (by kernel_rfl) rfl rfl ⟨hx0.2.2.1, hx0.2.2.2.1, hgx⟩ (fun hHeld => ?_)
  refine pure_ (i := 0) (N := some 23) (v := ?_) (a' := ?_) #[true, false, false, false, false, false, false, false, false, false, false, false] rfl rfl (by kernel_rfl) (fun _ _ _ h => h) (Or.inl ⟨by rfl, ?_⟩) ?_ ?_
  rotate_left
  · intro w'
    go_simp
    with_reducible rfl
  rotate_left
  · simp only [Act.put, List.setIfInBounds_toArray, List.set_cons_zero, List.set_cons_succ, i64_w, i32_w]
    rfl
  refine pure_ (i := 2) (N := some 25) (v := ?_) (a' := ?_) #[true, false, true, false, false, false, false, false, false, false, false, false] rfl rfl (by kernel_rfl) (fun _ _ _ h => h) (Or.inl ⟨by rfl, ?_⟩) ?_ ?_
  rotate_left
  · intro w'
    go_simp
    with_reducible rfl
  rotate_left
  · simp only [Act.put, List.setIfInBounds_toArray, List.set_cons_zero, List.set_cons_succ, i64_w, i32_w]
    rfl
  refine pure_ (i := 6) (N := some 29) (v := ?_) (a' := ?_) #[true, false, true, false, false, false, true, false, false, false, false, false] rfl rfl (by kernel_rfl) (fun _ _ _ h => h) (Or.inl ⟨by rfl, ?_⟩) ?_ ?_
  rotate_left
  · intro w'
    go_simp
    with_reducible rfl
  rotate_left
  · simp only [Act.put, List.setIfInBounds_toArray, List.set_cons_zero, List.set_cons_succ, i64_w, i32_w]
    rfl
  refine pure_ (i := 7) (N := some 30) (v := ?_) (a' := ?_) #[true, false, true, false, false, false, true, true, false, false, false, false] rfl rfl (by kernel_rfl) (fun _ _ _ h => h) (Or.inl ⟨by rfl, ?_⟩) ?_ ?_
  rotate_left
  · intro w'
    go_simp
    with_reducible rfl
  rotate_left
  · simp only [Act.put, List.setIfInBounds_toArray, List.set_cons_zero, List.set_cons_succ, i64_w, i32_w]
    rfl
  refine pure_ (i := 8) (N := some 31) (v := ?_) (a' := ?_) #[true, false, true, false, false, false, true, true, true, false, false, false] rfl rfl (by kernel_rfl) (fun _ _ _ h => h) (Or.inl ⟨by rfl, ?_⟩) ?_ ?_
  rotate_left
  · intro w'
    go_simp
    with_reducible rfl
  rotate_left
  · simp only [Act.put, List.setIfInBounds_toArray, List.set_cons_zero, List.set_cons_succ, i64_w, i32_w]
    rfl
  refine take_ (i := 1) (N := some 24) (v := ?_) (a' := ?_) #[true, true, true, false, false, false, true, true, true, false, false, false] rfl rfl (by kernel_rfl) (fun _ _ _ h => h) (Or.inl ⟨by rfl, ?_⟩) hHeld ?_ ?_
  rotate_left
  · rintro w' ⟨s0, s1, s2⟩
    go_simp
    with_reducible rfl
  rotate_left
  · simp only [Act.put, List.setIfInBounds_toArray, List.set_cons_zero, List.set_cons_succ, i64_w, i32_w]
    rfl
  refine take_ (i := 3) (N := some 26) (v := ?_) (a' := ?_) #[true, true, true, true, false, false, true, true, true, false, false, false] rfl rfl (by kernel_rfl) (fun _ _ _ h => h) (Or.inl ⟨by rfl, ?_⟩) hHeld ?_ ?_
  rotate_left
  · rintro w' ⟨s0, s1, s2⟩
    go_simp
    with_reducible rfl
  rotate_left
  · simp only [Act.put, List.setIfInBounds_toArray, List.set_cons_zero, List.set_cons_succ, i64_w, i32_w]
    rfl
  refine pure_ (i := 4) (N := some 27) (v := ?_) (a' := ?_) #[true, true, true, true, true, false, true, true, true, false, false, false] rfl rfl (by kernel_rfl) (fun _ _ _ h => h) (Or.inl ⟨by rfl, ?_⟩) ?_ ?_
  rotate_left
  · intro w'
    go_simp
    with_reducible rfl
  rotate_left
  · simp only [Act.put, List.setIfInBounds_toArray, List.set_cons_zero, List.set_cons_succ, i64_w, i32_w]
    rfl
  refine take_ (i := 9) (N := some 32) (v := ?_) (a' := ?_) #[true, true, true, true, true, false, true, true, true, true, false, false] rfl rfl (by kernel_rfl) (fun _ _ _ h => h) (Or.inl ⟨by rfl, ?_⟩) hHeld ?_ ?_
  rotate_left
  · rintro w' ⟨s0, s1, s2⟩
    go_simp
    with_reducible rfl
  rotate_left
  · simp only [Act.put, List.setIfInBounds_toArray, List.set_cons_zero, List.set_cons_succ, i64_w, i32_w]
    rfl
  refine one_ (i := 5) (N := some 28) #[true, true, true, true, true, true, true, true, true, true, false, false] rfl rfl (by kernel_rfl) (by decide) (fun K hK => ?_)
  refine value_ (w1 := ?_) (v := ?_) (by rfl) rfl ?_ ?_
  rotate_left 2
  · go_simp
    constructor
    · rfl
    · rfl
  have HT2 := Aside0.mk (((HT.out.grow (below_alloc (Below.refl _ _) (tokB t))).grow (below_alloc (Below.refl (w.alloc (tokB t)).heap.size _) (.cells #[.int .i64 t.f2, .int .i64 t.f3] 30))).grow (below_drew1 (Below.refl _ _)))
  have HB2 := Aside0.mk (below_drew1 (below_alloc (below_alloc (Below.refl w.heap.size w) (tokB t)) (.cells #[.int .i64 t.f2, .int .i64 t.f3] 30)))
  have HR := Aside0.mk (Kd.R_drew (R_lit1 (w.alloc (tokB t)) 0 ⟨t.f2, t.f3⟩ (Nat.zero_le _)))
  have hX2 := pw_cell_below (below_drew1 (below_alloc (Below.refl _ _) (.cells #[.int .i64 t.f2, .int .i64 t.f3] 30))) hx0.2.2.1
  have hX3 := pw_cell_below (below_drew1 (below_alloc (Below.refl _ _) (.cells #[.int .i64 t.f2, .int .i64 t.f3] 30))) hx0.2.2.2.1
  have e9 : (w.alloc (tokB t)).heap.size = w.heap.size + 1 := by simp
  rw [e9] at HR
  unfold tokB at HT2 HB2 HR hX2 hX3
  generalize ((w.alloc (.cells #[.int .i64 t.f0, .int .i64 t.f1, .int .i64 t.f2, .int .i64 t.f3, .int .i64 t.f4] 68)).alloc (.cells #[.int .i64 t.f2, .int .i64 t.f3] 30)).drew = W2 at *
  have hcl := close_of_R fl (show Kd.R k30 30 W2 0 (fun _ => True) (.slice (some ⟨w.heap.size + 1, 0, none⟩) [(⟨t.f2, t.f3⟩ : S30)].length 1) [⟨t.f2, t.f3⟩] from HR.out)
  change Calls Tryz.prog 12 #[.slice (some ⟨w.heap.size + 1, 0, none⟩) 1 1, .int .i64 fl] _ _ at hcl
  refine hK.out _ _ ⟨hX2, hX3, HT2.out.fl_cell⟩ (fun hHeld => ?_)
  clear hK K
  refine norm_ (a' := ?_) ?_ ?_
  rotate_left
  · show Act.put _ (some 28) _ = _
    simp only [Act.put, List.setIfInBounds_toArray, List.set_cons_zero, List.set_cons_succ, i64_w, i32_w]
    rfl
  refine one_ (i := 10) (N := some 33) #[true, true, true, true, true, true, true, true, true, true, true, false] rfl rfl (by kernel_rfl) (by decide) (fun K hK => ?_)
  refine goes_ Tryz.func12 (by kernel_rfl) rfl #[.slice (some ⟨w.heap.size + 1, 0, none⟩) 1 1, .int .i64 fl] (by rfl) rfl rfl (by simp only [List.map_toArray, List.map_cons, List.map_nil]; rfl) ?_
  with_reducible refine (hcl).mono ?_
  rintro e w2 ⟨v2, rfl, hR2, hb2⟩
  refine ⟨_, rfl, ?_⟩
  have HT3 := Aside0.mk (HT2.out.grow hb2)
  have HR2 := Aside0.mk (Kd.R_lower hR2 HB2.out.size)
  have HB3 := Aside0.mk (HB2.out.trans (hb2.mono HB2.out.size))
  have hY2 := pw_cell_below hb2 hX2
  have hY3 := pw_cell_below hb2 hX3
  clear hR2 hb2
  refine hK.out _ _ ⟨hY2, hY3, HT3.out.fl_cell⟩ (fun hHeld => ?_)
  clear hK K
  refine norm_ (a' := ?_) ?_ ?_
  rotate_left
  · show Act.put _ (some 33) _ = _
    simp only [Act.put, List.setIfInBounds_toArray, List.set_cons_zero, List.set_cons_succ, i64_w, i32_w]
    rfl
  refine pure_ (i := 11) (N := some 4) (v := ?_) (a' := ?_) #[true, true, true, true, true, true, true, true, true, true, true, true] rfl rfl (by kernel_rfl) (fun _ _ _ h => h) (Or.inl ⟨by rfl, ?_⟩) ?_ ?_
  rotate_left
  · intro w'
    go_simp
    with_reducible rfl
  rotate_left
  · simp only [Act.put, List.setIfInBounds_toArray, List.set_cons_zero, List.set_cons_succ, i64_w, i32_w]
    rfl
  refine done_ (by kernel_rfl) ?_

  go_wp2_with fail
  go_ret
  exact ⟨⟨_, rfl, HR2.out⟩, HT3.out, KeepBut.of_below HB3.out g none, HB3.out⟩
end Go.Proofs.YtglolcejfbhbdaaGreat.P
end
