/- Part 4 of what the three laws on sets of ranges share: the words of the walks, contracts of the functions that they reach, and plain lemmas. No conditions. -/
import Derived.Test.YtglolcejfbhbdaaGreatC03
import Derived.Deep.DrawnRows
import Derived.Maps.RangeWalk
import Derived.Maps.OwnSet
section
namespace Go.Proofs.YtglolcejfbhbdaaGreat.P
open Go.RowKit Go.Proofs.YtglolcejfbhbdaaGreatW.PrintWords Go.Proofs.YtglolcejfbhbdaaGreatW.PrintLast Go.Proofs.YtglolcejfbhbdaaGreatW.PrintMore
attribute [local go_sem] max2_int min2_int max_two min_two max_three min_three max_four min_four
set_option linter.unusedVariables false
set_option linter.unusedSimpArgs false
theorem cutl_snoc (l : List S30) (i : Nat) (h : i < l.length) : cutl (l.take (i + 1)) = if mx 0 (rd_T30 l i).f0 ≤ mn 1114111 (rd_T30 l i).f1 then cutl (l.take i) ++ [⟨mx 0 (rd_T30 l i).f0, mn 1114111 (rd_T30 l i).f1⟩] else cutl (l.take i) := by
  have e : rd_T30 l i = l[i] := by simp [rd_T30, List.getD_eq_getElem?_getD, h]
  unfold cutl
  rw [List.take_succ_eq_append_getElem h, List.map_append, List.filter_append, ← e]
  simp only [List.map, cutR, List.filter_cons, List.filter_nil]
  by_cases h2 : mx 0 (rd_T30 l i).f0 ≤ mn 1114111 (rd_T30 l i).f1
  · rw [if_pos h2, if_pos (decide_eq_true h2)]
  · rw [if_neg h2, if_neg (by simpa using h2)]
    simp
theorem stepR_len (o : List S30) (r : S30) : (stepR o r).length ≤ o.length + 1 := by
  unfold stepR
  split
  · rw [List.length_set]; omega
  · rw [List.length_append]; exact Nat.le_refl _
theorem foldl_len : ∀ (l o : List S30), (l.foldl stepR o).length ≤ o.length + l.length
  | [], o => Nat.le_refl _
  | r :: l, o => by
    have h1 := stepR_len o r
    have h2 := foldl_len l (stepR o r)
    simp only [List.foldl_cons, List.length_cons]
    omega
theorem take_norm (l : List S30) (i : Nat) : Norm (((sortR (cutl l)).take i).foldl stepR []) := by
  have hs := sortR_spec (cutl l)
  exact (foldl_spec ((sortR (cutl l)).take i) [] Norm.nil (hs.2.sublist (List.take_sublist _ _)) (fun r hr => cutl_mem l r (hs.1.mem_iff.1 (List.mem_of_mem_take hr))) (fun x hx => by simp at hx)).1
theorem setHigh {W : World} {base g n cap : Nat} {ok : Nat → Prop} {o : List S30} {j m : Int} {q : S30} (h : Kd.R k30 30 W base ok (.slice (some ⟨g, 0, none⟩) n cap) o) (h0 : 0 ≤ j) (h1 : j < n) (hq : rd_T30 o j = q) :
    Kd.R k30 30 (W.setCell ⟨g, j.toNat * 2 + 1, none⟩ (.int .i64 m)) base ok (.slice (some ⟨g, 0, none⟩) n cap) (o.set j.toNat ⟨q.f0, m⟩) ∧ W.grownBy (W.setCell ⟨g, j.toNat * 2 + 1, none⟩ (.int .i64 m)) (some g) := by
  obtain ⟨c, hcl, hM, hcc, _⟩ := Kd.R_elem h ⟨0, 0⟩ j h0 h1
  have hq' : o.getD j.toNat ⟨0, 0⟩ = q := hq
  rw [hq'] at hM
  obtain rfl := k30_openM hM
  exact Kd.R_seg h j h0 h1 (c := [.int .i64 q.f0, .int .i64 q.f1]) (seg := [.int .i64 m]) (j := 1) hcl hcc (Nat.le_refl 2) (x' := ⟨q.f0, m⟩) (okp := fun _ => False) (k30_mkM _ _ _ _) (fun _ hk => hk.elim)
set_option maxRecDepth 100000 in
set_option maxHeartbeats 4000000 in
theorem Set_short (A0 : Option Addr) (c0 : Nat) (l0 : List S30) (w : World) (hr0 : Kd.C k30 w A0 l0.length l0) (hl : l0.length ≤ 500) :
    Calls Tryz.prog 10 #[.slice A0 l0.length c0] w fun e w' => ∃ v0_ : Value, e = .returned (v0_) ∧ Kd.R k30 30 w' w.heap.size (fun _ => True) v0_ (setL l0) ∧ Below w.heap.size w w' := by
  have HR := Aside0.mk hr0
  have HF := Aside0.mk (show setL l0 = (sortR (cutl l0)).foldl stepR [] by unfold setL; rw [if_neg (by omega)])
  have b1 : decide ((l0.length : Int) > 500) = false := decide_eq_false (by omega)
  have b2 : decide (500 < l0.length) = false := decide_eq_false (by omega)
  have hu30 := Tryz.underlying30
  clear hr0
  go_enter Tryz.func10, Tryz.ntmps10
  go_wp2
  go_loopg [3, 15] l0.length (fun kq v3 v15 w' => ∃ i : Nat, v15 = .int .i64 i ∧ i ≤ l0.length ∧ l0.length - i ≤ kq ∧ Aside0 (Kd.R k30 30 w' w.heap.size (fun _ => True) v3 (cutl (l0.take i))) ∧ Aside0 (Below w.heap.size w w'))
  case atStart => exact ⟨0, rfl, by omega, by omega, ⟨Kd.R_nil _ _ _ _ _⟩, ⟨Below.refl _ _⟩⟩
  case round =>
    obtain ⟨i, rfl, hi, hk, HO, HB⟩ := hrel
    by_cases hlt : i < l0.length
    · have hlt' : (i : Int) < (l0.length : Int) := by omega
      obtain ⟨ad, e1, hx0, hx1⟩ := at_T30 (Kd.C_below HR.out HB.out) i (by omega) hlt'
      cases e1
      rw [Int.toNat_natCast] at hx0 hx1
      have HS := Aside0.mk (cutl_snoc l0 i hlt)
      have HL := Aside0.mk (show (cutl (l0.take i)).length ≤ 500 by
        unfold cutl
        have h1 := List.length_filter_le (fun r : S30 => decide (r.f0 ≤ r.f1)) ((l0.take i).map cutR)
        rw [List.length_map, List.length_take] at h1
        omega)
      generalize rd_T30 l0 i = r at *
      obtain ⟨a, ha⟩ : ∃ a, mx 0 r.f0 = a := ⟨_, rfl⟩
      obtain ⟨b, hb⟩ : ∃ b, mn 1114111 r.f1 = b := ⟨_, rfl⟩
      rw [ha, hb] at HS
      have ha' : (if (0 : Int) < r.f0 then r.f0 else 0) = a := ha
      have hb' : (if r.f1 < 1114111 then r.f1 else 1114111) = b := hb
      clear ha hb
      by_cases hab : a ≤ b
      · have hab' : decide (a ≤ b) = true := decide_eq_true hab
        rw [if_pos hab] at HS
        clear hab
        go_wp2_with (at_builtin; go_loud (refine Kd.R_append k30 (w0 := w) w.heap.size rfl (.tmp 31) (.tmp 33) 22 30 (.agg #[(.int .i64 0), (.int .i64 0)]) 16 rfl Tryz.underlying22 info30 rfl (by decide) (by omega) u3 (cutl (l0.take i)) ⟨a, b⟩ [.int .i64 a, .int .i64 b] (fun _ => True) (fun _ => False) rfl (congrArg (fun n => Value.slice (some ⟨n, 0, none⟩) 1 1) (Array.size_push _).symm) ?aP (fun _ hk => hk.elim) ?aF ?aO ?aB ?aS ?aL ?_; (case aP => exact k30_mkM _ _ _ _); (case aF => exact fun _ _ => trivial); (case aO => exact Kd.R_alloc HO.out _); (case aB => exact below_alloc HB.out _); (case aS => exact below_size (below_alloc HB.out _)); (case aL => have q := HL.out; omega); intro v1 w1 ho hb_ hg hat))
        go_roundg (l0.length - (i + 1))
        case measure => omega
        case rel => exact ⟨i + 1, by go_num, by omega, by omega, ⟨by rw [HS.out]; exact ho⟩, ⟨hb_⟩⟩
      · have hab' : decide (a ≤ b) = false := decide_eq_false hab
        rw [if_neg hab] at HS
        clear hab
        go_wp2_with fail
        go_roundg (l0.length - (i + 1))
        case measure => omega
        case rel => exact ⟨i + 1, by go_num, by omega, by omega, ⟨by rw [HS.out]; exact Kd.R_alloc HO.out _⟩, ⟨below_alloc HB.out _⟩⟩
    · have hltz : ¬ (i : Int) < (l0.length : Int) := by omega
      have hi' : i = l0.length := by omega
      subst hi'
      have HO' := Aside0.mk (show Kd.R k30 30 wr w.heap.size (fun _ => True) u3 (cutl l0) by have q := HO.out; rwa [List.take_length] at q)
      clear HO
      have HN := Aside0.mk (fun i => take_norm l0 i)
      have HSL := Aside0.mk (show (sortR (cutl l0)).length ≤ 500 by
        rw [(sortR_spec (cutl l0)).1.length_eq]
        have h1 := List.length_filter_le (fun r : S30 => decide (r.f0 ≤ r.f1)) (l0.map cutR)
        rw [List.length_map] at h1
        unfold cutl
        omega)
      obtain ⟨s, hs⟩ : ∃ s, sortR (cutl l0) = s := ⟨_, rfl⟩
      rw [hs] at HF HN HSL
      have HQ := Aside0.mk (show slices_SortFunc_R.f (cutl l0) = some s by
        unfold slices_SortFunc_R.f
        have h1 := List.length_filter_le (fun r : S30 => decide (r.f0 ≤ r.f1)) (l0.map cutR)
        rw [List.length_map] at h1
        rw [if_pos (by unfold cutl; omega), hs])
      go_wp2_with fail
      refine (slices_SortFunc_R.calls (fun k_ => some k_ = u3.ownBlock) u3 (cutl l0) s w _ HB.out (Kd.R_tight rfl HO'.out) HQ.out).mono ?_
      rintro e w2 ⟨rfl, hy0, hb2, _⟩
      have HC := Aside0.mk (Kd.R_reok rfl hy0 (fun k_ e_ => e_))
      have HB2 := Aside0.mk hb2
      clear hy0 hb2 HB HO'
      obtain ⟨Ao, co, rfl⟩ := Kd.R_slice HC.out
      have HC2 := Aside0.mk (Kd.R_reads' HC.out).2.2
      go_wp2
      go_loopg [6, 40] s.length (fun kq v6 v40 w' => ∃ i : Nat, v40 = .int .i64 i ∧ i ≤ s.length ∧ s.length - i ≤ kq ∧ Aside0 (Kd.R k30 30 w' w.heap.size (fun k_ => some k_ ≠ (Value.slice Ao s.length co).ownBlock) v6 ((s.take i).foldl stepR [])) ∧ Aside0 (Kd.R k30 30 w' w.heap.size (fun k_ => some k_ = (Value.slice Ao s.length co).ownBlock) (Value.slice Ao s.length co) s) ∧ Aside0 (Below w.heap.size w w'))
      case atStart => exact ⟨0, rfl, by omega, by omega, ⟨Kd.R_nil _ _ _ _ _⟩, ⟨Kd.R_mono HC.out (fun _ hk => hk.symm)⟩, HB2⟩
      case round =>
        clear HC HC2 HB2
        obtain ⟨i, rfl, hi, hk, HO, HC, HB⟩ := hrel
        by_cases hlt : i < s.length
        · have hlt' : (i : Int) < (s.length : Int) := by omega
          obtain ⟨ad, e1, hx0, hx1⟩ := at_T30 (Kd.R_reads' HC.out).2.2 i (by omega) hlt'
          cases e1
          rw [Int.toNat_natCast] at hx0 hx1
          have e : rd_T30 s i = s[i] := by simp [rd_T30, List.getD_eq_getElem?_getD, hlt]
          have HS := Aside0.mk (show (s.take (i + 1)).foldl stepR [] = stepR ((s.take i).foldl stepR []) (rd_T30 s i) by
            rw [List.take_succ_eq_append_getElem hlt, List.foldl_append, e]; rfl)
          clear e
          have HNi := Aside0.mk (HN.out i)
          have HOL := Aside0.mk (show ((s.take i).foldl stepR []).length ≤ 500 by
            have h1 := foldl_len (s.take i) []
            have h2 := HSL.out
            rw [List.length_take] at h1
            simp only [List.length_nil] at h1
            omega)
          obtain ⟨o, ho⟩ : ∃ o, (s.take i).foldl stepR [] = o := ⟨_, rfl⟩
          rw [ho] at HO HS HNi HOL
          clear ho
          generalize rd_T30 s i = r at *
          obtain ⟨A6, c6, rfl⟩ := Kd.R_slice HO.out
          rcases o.eq_nil_or_concat with rfl | ⟨pre, q, rfl⟩
          · rw [stepR_nil] at HS
            have hd : decide (0 < ((([] : List S30).length : Nat) : Int)) = false := rfl
            have hd2 : decide (0 < ([] : List S30).length) = false := rfl
            go_wp2_with fail
            go_quiet (fail)
            go_wp2_with (at_builtin; go_loud (refine Kd.R_append k30 (w0 := w) w.heap.size rfl (.tmp 74) (.tmp 76) 22 30 (.agg #[(.int .i64 0), (.int .i64 0)]) 16 rfl Tryz.underlying22 info30 rfl (by decide) (by omega) (.slice A6 ([] : List S30).length c6) [] r [.int .i64 r.f0, .int .i64 r.f1] (fun k_ => some k_ ≠ (Value.slice (some ad) s.length co).ownBlock) (fun _ => False) rfl (congrArg (fun n => Value.slice (some ⟨n, 0, none⟩) 1 1) (Array.size_push _).symm) ?aP (fun _ hk => hk.elim) ?aF ?aO ?aB ?aS ?aL ?_; (case aP => exact k30_mkM _ _ _ _); (case aF => exact (fun k_ hk => Kd.fresh' (Kd.R_lt (by (with_reducible repeat (first | apply Kd.R_alloc | apply Kd.R_drewN | apply Kd.R_drew)); exact HC.out)) k_ hk)); (case aO => exact (by (with_reducible repeat (first | apply Kd.R_alloc | apply Kd.R_drewN | apply Kd.R_drew)); exact HO.out)); (case aB => exact (by repeat (first | (with_reducible first | exact HB.out | apply below_alloc | apply pw_below_drewN | apply below_drew1) | exact HB.out))); (case aS => exact (below_size (by repeat (first | (with_reducible first | exact HB.out | apply below_alloc | apply pw_below_drewN | apply below_drew1) | exact HB.out)))); (case aL => have q9 := HOL.out; omega); intro v1 w1 ho hb_ hg hat; have HC9 := Aside0.mk (Kd.R_grown2 (by (with_reducible repeat (first | apply Kd.R_alloc | apply Kd.R_drewN | apply Kd.R_drew)); exact HC.out) rfl hg (fun k hk => HO.out.1 k hk))))
            go_roundg (s.length - (i + 1))
            case measure => omega
            case rel => have hsl := HSL.out; exact ⟨i + 1, (by rw [← i64_w, IntWalk.i64_in _ (by omega)]; simp), by omega, by omega, ⟨by rw [HS.out]; exact ho⟩, HC9, ⟨hb_⟩⟩
          · rw [List.concat_eq_append] at HS HNi HOL HO
            rw [List.concat_eq_append]
            have HQ2 := Aside0.mk (stepR_snoc pre q r)
            have HQB := (norm_snoc.1 HNi.out).2.2
            have hj1 : (0 : Int) ≤ (((pre ++ [q]).length : Nat) : Int) - 1 := by simp
            have hj2 : (((pre ++ [q]).length : Nat) : Int) - 1 < (((pre ++ [q]).length : Nat) : Int) := by omega
            obtain ⟨ad6, e6, hy0, hy1⟩ := at_T30 (Kd.R_reads' HO.out).2.2 _ hj1 hj2
            cases e6
            have hrd := rd_last pre q
            rw [rd_last] at hy0 hy1
            obtain ⟨g6, hg6, had6, HC6⟩ : ∃ g6, w.heap.size ≤ g6 ∧ ad6 = ⟨g6, 0, none⟩ ∧ ∃ cells6, wr.heap[g6]? = some (.cells cells6 30 (0, 0)) := by
              obtain ⟨_, inner, hown, _⟩ := HO.out
              have hown' := hown
              obtain ⟨_, ho⟩ := hown
              rcases ho with ⟨_, hn9⟩ | ⟨g, cap, cur, hx, hb, _⟩
              · simp at hn9
              · injection hx with h1
                injection h1 with h1
                subst h1
                exact ⟨g, hb, rfl, own_typed hown' g (by simp [Value.ownBlock])⟩
            obtain ⟨cells6, hc6⟩ := HC6
            have hfz : wr.frozen? ⟨(ad6.add (((((pre ++ [q]).length : Nat) : Int) - 1).toNat * 2)).block, (ad6.add (((((pre ++ [q]).length : Nat) : Int) - 1).toNat * 2)).off + 1, none⟩ = false := by
              rw [had6]
              rw [add_plain]; exact blk_frozen hc6 _
            have HC6 := Aside0.mk hc6
            have HA6 := Aside0.mk had6
            clear hc6 had6
            have hb6 := World.block_lt_of_cell? _ _ hy0
            have hb7 := World.block_lt_of_cell? _ _ hy1
            have hd : decide (0 < (((pre ++ [q]).length : Nat) : Int)) = true := decide_eq_true (by omega)
            have hd2 : decide (0 < (pre ++ [q]).length) = true := decide_eq_true (by omega)
            have hq1 : IntKind.i64.wrap (q.f1 + 1) = q.f1 + 1 := IntWalk.i64_in _ (by omega)
            have hj3 : IntKind.i64.wrap ((((pre ++ [q]).length : Nat) : Int) - 1) = (((pre ++ [q]).length : Nat) : Int) - 1 := IntWalk.i64_in _ (by have := HOL.out; omega)
            generalize hn : (((pre ++ [q]).length : Nat) : Int) - 1 = j at *
            have hj1' := eq_true hj1
            have hj2' := eq_true hj2
            clear HQB
            have HSI := Aside0.mk (show ∀ x : S30, (pre ++ [q]).set j.toNat x = pre ++ [x] by
              intro x
              have e9 : j.toNat = pre.length := by rw [← hn]; simp
              rw [e9]; simp)
            by_cases hle : r.f0 ≤ q.f1 + 1
            · have hle2 : decide (r.f0 ≤ q.f1 + 1) = true := decide_eq_true hle
              rw [HQ2.out, if_pos hle] at HS
              clear hle HQ2
              rw [← HSI.out] at HS
              clear HSI
              generalize pre ++ [q] = o at *
              obtain ⟨m, hm⟩ : ∃ m, mx q.f1 r.f1 = m := ⟨_, rfl⟩
              rw [hm] at HS
              have hm' : (if q.f1 < r.f1 then r.f1 else q.f1) = m := hm
              clear hm
              go_wp2_with fail
              go_quiet (fail)
              go_wp2_with fail
              go_region
              go_wp2_with fail
              obtain rfl := HA6.out
              have HRD := Aside0.mk (hrd)
              obtain ⟨hz1, hz2⟩ := setHigh (j := j) (m := m) (Kd.R_drewN (Kd.R_alloc HO.out (Obj.cells #[Value.int IntKind.i64 r.f0, Value.int IntKind.i64 r.f1] 30)) (nq + 1)) hj1 hj2 hrd
              have HZ1 := Aside0.mk hz1
              have HC9 := Aside0.mk (Kd.R_grown2 (Kd.R_drewN (Kd.R_alloc HC.out (Obj.cells #[Value.int IntKind.i64 r.f0, Value.int IntKind.i64 r.f1] 30)) (nq + 1)) rfl hz2 (fun k hk => HO.out.1 k hk))
              have HB9 := Aside0.mk (below_set (g := g6) (j := j.toNat * 2 + 1) (v := .int .i64 m) (pw_below_drewN (below_alloc HB.out (Obj.cells #[Value.int IntKind.i64 r.f0, Value.int IntKind.i64 r.f1] 30)) (nq + 1)) hg6)
              rw [add_plain]
              clear hz1 hz2
              go_roundg (s.length - (i + 1))
              case measure => omega
              case rel => have hsl := HSL.out; exact ⟨i + 1, (by rw [← i64_w, IntWalk.i64_in _ (by omega)]; simp), by omega, by omega, ⟨by rw [HS.out]; exact HZ1.out⟩, HC9, HB9⟩
            · have hle2 : decide (r.f0 ≤ q.f1 + 1) = false := decide_eq_false hle
              rw [HQ2.out, if_neg hle] at HS
              clear hle HQ2 HSI
              generalize pre ++ [q] = o at *
              go_wp2_with fail
              go_quiet (fail)
              go_wp2_with (at_builtin; go_loud (refine Kd.R_append k30 (w0 := w) w.heap.size rfl (.tmp 74) (.tmp 76) 22 30 (.agg #[(.int .i64 0), (.int .i64 0)]) 16 rfl Tryz.underlying22 info30 rfl (by decide) (by omega) (.slice (some ad6) o.length c6) o r [.int .i64 r.f0, .int .i64 r.f1] (fun k_ => some k_ ≠ (Value.slice (some ad) s.length co).ownBlock) (fun _ => False) rfl (congrArg (fun n => Value.slice (some ⟨n, 0, none⟩) 1 1) (Array.size_push _).symm) ?aP (fun _ hk => hk.elim) ?aF ?aO ?aB ?aS ?aL ?_; (case aP => exact k30_mkM _ _ _ _); (case aF => exact (fun k_ hk => Kd.fresh' (Kd.R_lt (by (with_reducible repeat (first | apply Kd.R_alloc | apply Kd.R_drewN | apply Kd.R_drew)); exact HC.out)) k_ hk)); (case aO => exact (by (with_reducible repeat (first | apply Kd.R_alloc | apply Kd.R_drewN | apply Kd.R_drew)); exact HO.out)); (case aB => exact (by repeat (first | (with_reducible first | exact HB.out | apply below_alloc | apply pw_below_drewN | apply below_drew1) | exact HB.out))); (case aS => exact (below_size (by repeat (first | (with_reducible first | exact HB.out | apply below_alloc | apply pw_below_drewN | apply below_drew1) | exact HB.out)))); (case aL => have q9 := HOL.out; omega); intro v1 w1 ho hb_ hg hat; have HC9 := Aside0.mk (Kd.R_grown2 (by (with_reducible repeat (first | apply Kd.R_alloc | apply Kd.R_drewN | apply Kd.R_drew)); exact HC.out) rfl hg (fun k hk => HO.out.1 k hk))))
              go_roundg (s.length - (i + 1))
              case measure => omega
              case rel => have hsl := HSL.out; exact ⟨i + 1, (by rw [← i64_w, IntWalk.i64_in _ (by omega)]; simp), by omega, by omega, ⟨by rw [HS.out]; exact ho⟩, HC9, ⟨hb_⟩⟩
        · have hltz : ¬ (i : Int) < (s.length : Int) := by omega
          have hi' : i = s.length := by omega
          subst hi'
          have HO' := Aside0.mk (show Kd.R k30 30 wr w.heap.size (fun _ => True) u6 (setL l0) by
            have q := HO.out
            rw [List.take_length] at q
            rw [HF.out]
            exact Kd.R_mono q (fun _ _ => trivial))
          clear HO
          go_wp2
          go_ret
          exact ⟨_, rfl, HO'.out, HB.out⟩
set_option maxRecDepth 100000 in
theorem Set_long (A0 : Option Addr) (c0 : Nat) (l0 : List S30) (w : World) (hl : 500 < l0.length) :
    Calls Tryz.prog 10 #[.slice A0 l0.length c0] w fun e w' => ∃ v0_ : Value, e = .returned (v0_) ∧ Kd.R k30 30 w' w.heap.size (fun _ => True) v0_ (setL l0) ∧ Below w.heap.size w w' := by
  have HF := Aside0.mk (show setL l0 = [] by unfold setL; rw [if_pos (by omega)])
  have b1 : decide ((l0.length : Int) > 500) = true := decide_eq_true (by omega)
  have b2 : decide (500 < l0.length) = true := decide_eq_true (by omega)
  go_enter Tryz.func10, Tryz.ntmps10
  go_wp2
  go_ret
  exact ⟨_, rfl, by rw [HF.out]; exact Kd.R_nil _ _ _ _ _, Below.refl _ _⟩
def tree_Set.f (l0 : List S30) : Option (List S30) := some (setL l0)
theorem tree_Set.calls (A0 : Option Addr) (c0 : Nat) (l0 : List S30) (r : List S30) (w : World) (hr0 : Kd.C k30 w A0 l0.length l0) (_hc0 : l0.length ≤ c0) (h : tree_Set.f l0 = some r) :
    Calls Tryz.prog 10 #[.slice A0 l0.length c0] w fun e w' => ∃ v0_ : Value, e = .returned (v0_) ∧ Kd.R k30 30 w' w.heap.size (fun _ => True) v0_ r ∧ Below w.heap.size w w' := by
  obtain rfl := Option.some.inj h
  by_cases hl : l0.length ≤ 500
  · exact Set_short A0 c0 l0 w hr0 hl
  · exact Set_long A0 c0 l0 w (by omega)
end Go.Proofs.YtglolcejfbhbdaaGreat.P
end
section
namespace Go.Proofs.YtglolcejfbhbdaaGreat.P
open Go.RowKit Go.Proofs.YtglolcejfbhbdaaGreatW.PrintWords Go.Proofs.YtglolcejfbhbdaaGreatW.PrintLast Go.Proofs.YtglolcejfbhbdaaGreatW.PrintMore
attribute [local go_sem] max2_int min2_int max_two min_two max_three min_three max_four min_four   -- for this text's walks alone
set_option linter.unusedVariables false
set_option linter.unusedSimpArgs false
def tTurn.l0 : Nat → List (S30) → Int → List (S30) → Int → Int → Option ((List (S30)))
  | 0, _, _, _, _, _ => none
  | k + 1, x3, x4, x11, x12, x13 => if x13 < x12 then (if 0 ≤ x13 then (if x13 < (x11.length : Int) then (if x4 < ((rd_T30 x11 x13).f0) then (if x3.length < 8796093022208 then (tTurn.l0 k (x3 ++ [(⟨x4, wrap64 (((rd_T30 x11 x13).f0) - 1)⟩ : S30)]) (wrap64 (((rd_T30 x11 x13).f1) + 1)) x11 x12 (wrap64 (x13 + 1))) else (none)) else (tTurn.l0 k x3 (wrap64 (((rd_T30 x11 x13).f1) + 1)) x11 x12 (wrap64 (x13 + 1)))) else (none)) else (none)) else (some x3)
def tTurn.f (k : Nat) (l0 : List (S30)) : Option ((List (S30))) := (tree_Set.f l0).bind fun t197 => (if t197.length < 8796093022208 then ((some (t197 ++ [(⟨1114112, 1114112⟩ : S30)] : List (S30))).bind fun y200 => (tTurn.l0 k ([] : List (S30)) 0 y200 (y200.length : Int) 0)) else (none))
theorem tTurn.mono_l : ∀ k, (∀ y0 y1 y2 y3 y4, LeO (tTurn.l0 k y0 y1 y2 y3 y4) (tTurn.l0 (k + 1) y0 y1 y2 y3 y4))
  | 0 => fun _ _ _ _ _ r h => by simp [tTurn.l0] at h
  | k + 1 => by
    have ih0 := tTurn.mono_l k
    · intro y0 y1 y2 y3 y4
      unfold tTurn.l0
      repeat' first
      | (with_reducible exact ih0 _ _ _ _ _)
      | (with_reducible exact LeO.refl _)
      | (with_reducible exact LeO.none _)
      | (with_reducible refine LeO.ite ?_ ?_)
      | (with_reducible refine LeO.bind ?_ (fun _ => ?_))
      | exact ih0 _ _ _ _ _
      | exact LeO.none _
      | refine LeO.ite ?_ ?_
      | refine LeO.bind ?_ (fun _ => ?_)
theorem tTurn.mono : ∀ a0 k, LeO (tTurn.f k a0) (tTurn.f (k + 1) a0) := by
  intro a0 k
  have ih0 := tTurn.mono_l k
  unfold tTurn.f
  repeat' first
      | (with_reducible exact ih0 _ _ _ _ _)
      | (with_reducible exact LeO.refl _)
      | (with_reducible exact LeO.none _)
      | (with_reducible refine LeO.ite ?_ ?_)
      | (with_reducible refine LeO.bind ?_ (fun _ => ?_))
      | exact ih0 _ _ _ _ _
      | exact LeO.none _
      | refine LeO.ite ?_ ?_
      | refine LeO.bind ?_ (fun _ => ?_)
set_option maxHeartbeats 8000000 in
set_option maxRecDepth 100000 in
theorem tTurn.calls (k : Nat) (A0 : Option Addr) (c0 : Nat) (l0 : List (S30)) (r : List (S30)) (w : World) (hr0 : Kd.C k30 w A0 l0.length l0) (hc0 : l0.length ≤ c0) (h : tTurn.f k l0 = some r) :
    Calls Tryz.prog 14 #[.slice A0 l0.length c0] w fun e w' => ∃ v0_ : Value, e = .returned (v0_) ∧ Kd.R k30 30 w' w.heap.size (fun _ => True) v0_ r ∧ Below w.heap.size w w' := by
  have hu30 := Tryz.underlying30
  have HR0 := Aside0.mk hr0
  have HC0 := Aside0.mk hc0
  clear hr0 hc0
  have HB := Aside0.mk (Below.refl w.heap.size w)
  have H : ((tree_Set.f l0).bind fun t197 => (if t197.length < 8796093022208 then ((some (t197 ++ [(⟨1114112, 1114112⟩ : S30)] : List (S30))).bind fun y200 => (tTurn.l0 k ([] : List (S30)) 0 y200 (y200.length : Int) 0)) else (none))) = some r := h
  clear h
  replace H := Option.bind_eq_some_iff.mp H
  obtain ⟨t197, A20, H⟩ := H
  replace H : (if t197.length < 8796093022208 then ((some (t197 ++ [(⟨1114112, 1114112⟩ : S30)] : List (S30))).bind fun y200 => (tTurn.l0 k ([] : List (S30)) 0 y200 (y200.length : Int) 0)) else (none)) = some r := H
  have A2 := Aside0.mk A20
  clear A20
  by_cases c3 : t197.length < 8796093022208
  · rw [if_pos c3] at H
    have LMc3 := Aside0.mk c3
    clear c3
    obtain ⟨y200, hy200⟩ : ∃ y_ : List (S30), y_ = (t197 ++ [(⟨1114112, 1114112⟩ : S30)]) := ⟨_, rfl⟩
    replace H : (tTurn.l0 k ([] : List (S30)) 0 y200 (y200.length : Int) 0) = some r := by first | (rw [hy200]; with_reducible exact H) | (have H2_ := (Option.bind_some _ _).symm.trans H; rw [hy200]; with_reducible exact H2_) | (have H2_ := (Option.bind_some _ _).symm.trans H; with_reducible exact H2_) | with_reducible exact H | (rw [hy200]; exact H) | exact H
    have Ny200 := Aside0.mk hy200
    clear hy200
    have H' := Aside0.mk H
    clear H
    go_enter Tryz.func14, Tryz.ntmps14
    go_wp2_with (first | ((with_reducible refine gate_callee (f := 10) rfl ?_); refine goesL_ (some 8) rfl rfl Tryz.func10 (by kernel_rfl) rfl #[.slice A0 l0.length c0] rfl (by (try simp only [List.map_toArray, List.map_cons, List.map_nil]); first | done | rfl | (simp only [List.length_drop, List.length_take]; rfl)) ?_; (with_reducible refine (tree_Set.calls _ _ l0 t197 _ ?side1 ?side2 A2.out).mono ?_); (case side1 => repeat (first | exact HR0.out | (with_reducible refine Kd.C_alloc ?_ _) | (with_reducible refine Kd.C_drewN ?_ _) | (with_reducible refine Kd.C_drew ?_))); (case side2 => exact HC0.out); rintro e w4 ⟨v198, rfl, ho0, hb⟩; refine ⟨_, rfl, ?_⟩; have n0_ := Aside0.mk (Kd.R_lower ho0 (below_size (by repeat (first | (with_reducible first | exact HB.out | apply below_alloc | apply pw_below_drewN | apply below_drew1) | exact HB.out)))); have n1_ := Aside0.mk (below_step (by repeat (first | (with_reducible first | exact HB.out | apply below_alloc | apply pw_below_drewN | apply below_drew1) | exact HB.out)) hb); clear HB; have HO199 := n0_; have HB := n1_; clear n0_ n1_; (try clear hb); (try clear hb2); (try clear hk); (try clear hi); (try clear ho0)) | ((with_reducible refine gate_builtin (b := .append) (xs := #[.tmp 8, .tmp 10]) rfl ?_); at_builtin; refine Kd.R_append k30 (w0 := w) w.heap.size rfl (.tmp 8) (.tmp 10) 22 30 (.agg #[(.int .i64 0), (.int .i64 0)]) 16 rfl Tryz.underlying22 info30 rfl (by decide) (by omega) v198 t197 (⟨1114112, 1114112⟩ : S30) [.int .i64 1114112, .int .i64 1114112] (fun _ => True) (fun _ => False) rfl rfl ?aP (fun _ hk => hk.elim) ?aF ?aO ?aB ?aS ?aL ?_; (case aP => exact k30_mkM _ _ _ (⟨1114112, 1114112⟩ : S30)); (case aB => exact (by repeat (first | (with_reducible first | exact HB.out | apply below_alloc | apply pw_below_drewN | apply below_drew1) | exact HB.out))); (case aF => exact (fun _ _ => trivial)); (case aO => exact (by (with_reducible repeat (first | apply Kd.R_alloc | apply Kd.R_drewN | apply Kd.R_drew)); exact HO199.out)); (case aS => exact (below_size (by repeat (first | (with_reducible first | exact HB.out | apply below_alloc | apply pw_below_drewN | apply below_drew1) | exact HB.out)))); (case aL => have := LMc3.out; omega); intro v201 w5 ho hb hg hat; rw [← Ny200.out] at ho; have n0_ := Aside0.mk (hb); have n1_ := Aside0.mk (ho); clear HB; clear HO199; have HB := n0_; have HO202 := n1_; clear n0_ n1_; clear ho hb hg hat; obtain ⟨Ao6, co6, eo6⟩ := Kd.R_slice HO202.out; subst eo6))
    go_loopg [3, 4, 13] k (fun kq v3 v4 v13 w' => ∃ (x3_1 : List (S30)) (x4_1 : Int) (x13_1 : Int), v4 = .int .i64 x4_1 ∧ v13 = .int .i64 x13_1 ∧ Aside0 (tTurn.l0 kq x3_1 x4_1 y200 (y200.length : Int) x13_1 = some r) ∧ Aside0 (kq ≤ k) ∧ Aside0 (Kd.R k30 30 w' w.heap.size (fun k_ => some k_ ≠ ((.slice Ao6 y200.length co6) : Value).ownBlock) v3 x3_1) ∧ Aside0 (Kd.R k30 30 w' w.heap.size (fun k_ => some k_ ≠ (v3 : Value).ownBlock) (.slice Ao6 y200.length co6) y200) ∧ Aside0 (Below w.heap.size w w'))
    case atStart => exact ⟨(([] : List (S30))), (0), (0), (by first | rfl | (simp; done) | (simp [*]; done)), (by first | rfl | (simp; done) | (simp [*]; done)), H', ⟨Nat.le_refl _⟩, ⟨by first | exact Kd.R_nil _ _ _ _ _ | exact Kd.N_nil _ _ _ _ _ | exact Kd.V_nil _ _ _ _ _ | exact Kd.Q_nil _ _ _ _ _ | exact Kd.S_nil _ _ _ _ _⟩, ⟨by (with_reducible repeat (first | apply Kd.R_alloc | apply Kd.R_drewN | apply Kd.R_drew)); exact Kd.R_mono HO202.out (fun _ hk => (by simp [Value.ownBlock]))⟩, ⟨by repeat (first | (with_reducible first | exact HB.out | apply below_alloc | apply pw_below_drewN | apply below_drew1) | exact HB.out)⟩⟩
    case round =>
      clear H'
      try clear c1
      try clear p2
      try clear c3
      obtain ⟨x3_1, x4_1, x13_1, rfl, rfl, HA, HK1, HO_3, HO_11, HB⟩ := hrel
      cases gk with
      | zero => exact absurd HA.out (by simp [tTurn.l0])
      | succ k1 =>
        have H := HA.out
        clear HA
        simp only [tTurn.l0] at H
        by_cases c7 : x13_1 < (y200.length : Int)
        · rw [if_pos c7] at H
          have c7b0 : decide (x13_1 < (y200.length : Int)) = true := decide_eq_true c7
          clear c7
          by_cases c8 : 0 ≤ x13_1
          · rw [if_pos c8] at H
            have c8b0 : decide (0 ≤ x13_1) = true := decide_eq_true c8
            clear c8
            by_cases c9 : x13_1 < (y200.length : Int)
            · rw [if_pos c9] at H
              have c9b0 : decide (x13_1 < (y200.length : Int)) = true := decide_eq_true c9
              clear c9
              by_cases c10 : x4_1 < ((rd_T30 y200 x13_1).f0)
              · rw [if_pos c10] at H
                have c10b0 : decide (x4_1 < ((rd_T30 y200 x13_1).f0)) = true := decide_eq_true c10
                clear c10
                by_cases c11 : x3_1.length < 8796093022208
                · rw [if_pos c11] at H
                  have LMc11 := Aside0.mk c11
                  clear c11
                  obtain ⟨y205, hy205⟩ : ∃ y_ : List (S30), y_ = (x3_1 ++ [(⟨x4_1, wrap64 (((rd_T30 y200 x13_1).f0) - 1)⟩ : S30)]) := ⟨_, rfl⟩
                  replace H : (tTurn.l0 k1 y205 (wrap64 (((rd_T30 y200 x13_1).f1) + 1)) y200 (y200.length : Int) (wrap64 (x13_1 + 1))) = some r := by first | (rw [hy205]; with_reducible exact H) | (have H2_ := (Option.bind_some _ _).symm.trans H; rw [hy205]; with_reducible exact H2_) | (have H2_ := (Option.bind_some _ _).symm.trans H; with_reducible exact H2_) | with_reducible exact H | (rw [hy205]; exact H) | exact H
                  have Ny205 := Aside0.mk hy205
                  clear hy205
                  have H' := Aside0.mk H
                  clear H
                  have p203 : 0 ≤ (x13_1 : Int) := of_decide_eq_true (by first | (with_reducible assumption) | assumption)
                  have q203 : x13_1 < (y200.length : Int) := of_decide_eq_true (by first | (with_reducible assumption) | assumption)
                  obtain ⟨ad203, e203, hx203_0, hx203_1⟩ := at_T30 (Kd.R_reads' HO_11.out).2.2 x13_1 p203 q203
                  cases e203
                  replace p203 := eq_true p203
                  replace q203 := eq_true q203
                  go_wp2_with (first | ((with_reducible refine gate_dst (N := 6) rfl ?_); refine box_event ?hg (N := 6) ?hd (cs := #[.int .i64 0, .int .i64 0]) (t := 30) ?hr ?_; (case hd => rfl); (case hg => rfl); (case hr => first | (go_simp; done) | (go_simp; rfl)); intro gb204 hg w12 hbox hb; have n0_ := Aside0.mk (Kd.R_below (Kd.R_elderB (by (with_reducible repeat (first | apply Kd.R_alloc | apply Kd.R_drewN | apply Kd.R_drew)); exact HO_3.out) gb204 (Nat.le_of_eq hg.symm)) hb); have n1_ := Aside0.mk (Kd.R_below (Kd.R_elderB (by (with_reducible repeat (first | apply Kd.R_alloc | apply Kd.R_drewN | apply Kd.R_drew)); exact HO_11.out) gb204 (Nat.le_of_eq hg.symm)) hb); have n2_ := Aside0.mk (below_step (by repeat (first | (with_reducible first | exact HB.out | apply below_alloc | apply pw_below_drewN | apply below_drew1) | exact HB.out)) hb); have n3_ := Aside0.mk (hbox); have n4_ := Aside0.mk ((by rw [hg]; exact (below_size (by repeat (first | (with_reducible first | exact HB.out | apply below_alloc | apply pw_below_drewN | apply below_drew1) | exact HB.out))) : w.heap.size ≤ gb204)); have n5_ := Aside0.mk ((by rw [hg]; exact (below_size (by repeat (first | (with_reducible first | exact HB.out | apply below_alloc | apply pw_below_drewN | apply below_drew1) | exact HB.out))) : w.heap.size ≤ gb204)); clear HO_3; clear HO_11; clear HB; have HO_3 := n0_; have HO_11 := n1_; have HB := n2_; have BK204 := n3_; have GW204 := n4_; have GE204 := n5_; clear n0_ n1_ n2_ n3_ n4_ n5_; clear hb hbox hg; have hcz13_0 : w12.cell? ⟨gb204, 0, none⟩ = some (.int .i64 0) := (blk_cell BK204.out 0).trans rfl; have hcz13_1 : w12.cell? ⟨gb204, 1, none⟩ = some (.int .i64 0) := (blk_cell BK204.out 1).trans rfl; have hfz13_0 := blk_frozen BK204.out 0; have hfz13_1 := blk_frozen BK204.out 1) | ((with_reducible refine gate_builtin (b := .append) (xs := #[.tmp 21, .tmp 27]) rfl ?_); at_builtin; refine Kd.R_append k30 (w0 := w) w.heap.size rfl (.tmp 21) (.tmp 27) 22 30 (.agg #[(.int .i64 0), (.int .i64 0)]) 16 rfl Tryz.underlying22 info30 rfl (by decide) (by omega) u3 x3_1 (⟨x4_1, wrap64 (((rd_T30 y200 x13_1).f0) - 1)⟩ : S30) [.int .i64 x4_1, .int .i64 (wrap64 (((rd_T30 y200 x13_1).f0) - 1))] (fun k_ => some k_ ≠ (.slice (some ad203) y200.length co6 : Value).ownBlock ∧ k_ ≠ gb204) (fun _ => False) rfl (by first | (go_simp; done) | (go_simp; rfl)) ?aP (fun _ hk => hk.elim) ?aF ?aO ?aB ?aS ?aL ?_; (case aP => exact k30_mkM _ _ _ (⟨x4_1, wrap64 (((rd_T30 y200 x13_1).f0) - 1)⟩ : S30)); (case aB => exact (by repeat (first | (with_reducible first | exact HB.out | apply below_alloc | apply pw_below_drewN | apply below_drew1 | refine below_set ?_ GE204.out) | exact HB.out))); (case aF => exact (fun k_ hk => ⟨Kd.fresh' (Kd.R_lt (by (with_reducible repeat (first | apply Kd.R_alloc | apply Kd.R_drewN | apply Kd.R_drew)); exact (Kd.R_mono (Kd.R_far (p := ⟨gb204, 1, none⟩) (Kd.R_far (p := ⟨gb204, 0, none⟩) (Kd.R_mono HO_11.out (fun k_ hk => (⟨hk, hk.2⟩ : _ ∧ k_ ≠ gb204))) (fun _ hk => hk.2) (.int .i64 ((rd_T30 y200 x13_1).f0))) (fun _ hk => hk.2) (.int .i64 ((rd_T30 y200 x13_1).f1))) (fun _ h_ => h_.1)))) k_ hk, Kd.freshB (g := gb204) (o := .cells #[.int .i64 ((rd_T30 y200 x13_1).f0), .int .i64 ((rd_T30 y200 x13_1).f1)] 30 (0, 0)) (by (with_reducible repeat (first | refine blk_drewN ?_ _ | refine blk_drew ?_ | refine blk_alloc ?_ _)); refine blk_put (cs := #[.int .i64 ((rd_T30 y200 x13_1).f0), .int .i64 0]) ?_ 1 _ rfl; (with_reducible repeat (first | refine blk_drewN ?_ _ | refine blk_drew ?_ | refine blk_alloc ?_ _)); refine blk_put (cs := #[.int .i64 0, .int .i64 0]) ?_ 0 _ rfl; (with_reducible repeat (first | refine blk_drewN ?_ _ | refine blk_drew ?_ | refine blk_alloc ?_ _)); exact BK204.out) k_ hk⟩)); (case aO => exact (by (with_reducible repeat (first | apply Kd.R_alloc | apply Kd.R_drewN | apply Kd.R_drew)); exact Kd.R_mono (Kd.R_far (p := ⟨gb204, 1, none⟩) (Kd.R_far (p := ⟨gb204, 0, none⟩) (Kd.R_mono HO_3.out (fun k_ hk => (⟨hk, hk.2⟩ : _ ∧ k_ ≠ gb204))) (fun _ hk => hk.2) (.int .i64 ((rd_T30 y200 x13_1).f0))) (fun _ hk => hk.2) (.int .i64 ((rd_T30 y200 x13_1).f1))) (fun _ hk => ⟨hk.1.1, hk.1.2⟩))); (case aS => exact (below_size (by repeat (first | (with_reducible first | exact HB.out | apply below_alloc | apply pw_below_drewN | apply below_drew1 | refine below_set ?_ GE204.out) | exact HB.out)))); (case aL => have := LMc11.out; omega); intro v206 w14 ho hb hg hat; rw [← Ny205.out] at ho; have n0_ := Aside0.mk (Kd.R_after (ok := (fun k_ => k_ ≠ gb204)) (by (with_reducible repeat (first | apply Kd.R_alloc | apply Kd.R_drewN | apply Kd.R_drew)); exact Kd.R_mono (Kd.R_far (p := ⟨gb204, 1, none⟩) (Kd.R_far (p := ⟨gb204, 0, none⟩) (Kd.R_mono HO_11.out (fun k_ hk => (⟨hk, hk.2⟩ : _ ∧ k_ ≠ gb204))) (fun _ hk => hk.2) (.int .i64 ((rd_T30 y200 x13_1).f0))) (fun _ hk => hk.2) (.int .i64 ((rd_T30 y200 x13_1).f1))) (fun _ hk => ⟨hk.1.2, hk.1.1⟩)) hg hat); have n1_ := Aside0.mk (blk_grown (g := gb204) (o := .cells #[.int .i64 ((rd_T30 y200 x13_1).f0), .int .i64 ((rd_T30 y200 x13_1).f1)] 30 (0, 0)) (by (with_reducible repeat (first | refine blk_drewN ?_ _ | refine blk_drew ?_ | refine blk_alloc ?_ _)); refine blk_put (cs := #[.int .i64 ((rd_T30 y200 x13_1).f0), .int .i64 0]) ?_ 1 _ rfl; (with_reducible repeat (first | refine blk_drewN ?_ _ | refine blk_drew ?_ | refine blk_alloc ?_ _)); refine blk_put (cs := #[.int .i64 0, .int .i64 0]) ?_ 0 _ rfl; (with_reducible repeat (first | refine blk_drewN ?_ _ | refine blk_drew ?_ | refine blk_alloc ?_ _)); exact BK204.out) hg (Kd.R_away HO_3.out (fun _ hk => hk.2))); have n2_ := Aside0.mk (hb); have n3_ := Aside0.mk (ho); clear HO_11; clear BK204; clear HB; clear HO_3; have HO_11 := n0_; have BK204 := n1_; have HB := n2_; have HO207 := n3_; clear n0_ n1_ n2_ n3_; clear ho hb hg hat; have hcz15_0 : w14.cell? ⟨gb204, 0, none⟩ = some (.int .i64 ((rd_T30 y200 x13_1).f0)) := (blk_cell BK204.out 0).trans rfl; have hcz15_1 : w14.cell? ⟨gb204, 1, none⟩ = some (.int .i64 ((rd_T30 y200 x13_1).f1)) := (blk_cell BK204.out 1).trans rfl; have hfz15_0 := blk_frozen BK204.out 0; have hfz15_1 := blk_frozen BK204.out 1))
                  go_roundg k1
                  case measure => have := HK1.out; omega
                  case rel => exact ⟨(y205), (wrap64 (((rd_T30 y200 x13_1).f1) + 1)), (wrap64 (x13_1 + 1)), (by first | rfl | (simp; done) | (simp [*]; done)), (by first | rfl | (simp; done) | (simp [*]; done)), H', ⟨by have := HK1.out; omega⟩, ⟨by (with_reducible repeat (first | apply Kd.R_alloc | apply Kd.R_drewN | apply Kd.R_drew)); exact Kd.R_mono HO207.out (fun _ hk => hk.1)⟩, ⟨by (with_reducible repeat (first | apply Kd.R_alloc | apply Kd.R_drewN | apply Kd.R_drew)); exact Kd.R_mono HO_11.out (fun _ hk => hk.2)⟩, ⟨by repeat (first | (with_reducible first | exact HB.out | apply below_alloc | apply pw_below_drewN | apply below_drew1 | refine below_set ?_ GE204.out) | exact HB.out)⟩⟩
                · rw [if_neg c11] at H
                  exact absurd H (by simp)
              · rw [if_neg c10] at H
                have c10b0 : decide (x4_1 < ((rd_T30 y200 x13_1).f0)) = false := decide_eq_false c10
                clear c10
                have H' := Aside0.mk H
                clear H
                have p203 : 0 ≤ (x13_1 : Int) := of_decide_eq_true (by first | (with_reducible assumption) | assumption)
                have q203 : x13_1 < (y200.length : Int) := of_decide_eq_true (by first | (with_reducible assumption) | assumption)
                obtain ⟨ad203, e203, hx203_0, hx203_1⟩ := at_T30 (Kd.R_reads' HO_11.out).2.2 x13_1 p203 q203
                cases e203
                replace p203 := eq_true p203
                replace q203 := eq_true q203
                go_wp2_with (first | ((with_reducible refine gate_dst (N := 6) rfl ?_); refine box_event ?hg (N := 6) ?hd (cs := #[.int .i64 0, .int .i64 0]) (t := 30) ?hr ?_; (case hd => rfl); (case hg => rfl); (case hr => first | (go_simp; done) | (go_simp; rfl)); intro gb204 hg w16 hbox hb; have n0_ := Aside0.mk (Kd.R_below (Kd.R_elderB (by (with_reducible repeat (first | apply Kd.R_alloc | apply Kd.R_drewN | apply Kd.R_drew)); exact HO_3.out) gb204 (Nat.le_of_eq hg.symm)) hb); have n1_ := Aside0.mk (Kd.R_below (Kd.R_elderB (by (with_reducible repeat (first | apply Kd.R_alloc | apply Kd.R_drewN | apply Kd.R_drew)); exact HO_11.out) gb204 (Nat.le_of_eq hg.symm)) hb); have n2_ := Aside0.mk (below_step (by repeat (first | (with_reducible first | exact HB.out | apply below_alloc | apply pw_below_drewN | apply below_drew1) | exact HB.out)) hb); have n3_ := Aside0.mk (hbox); have n4_ := Aside0.mk ((by rw [hg]; exact (below_size (by repeat (first | (with_reducible first | exact HB.out | apply below_alloc | apply pw_below_drewN | apply below_drew1) | exact HB.out))) : w.heap.size ≤ gb204)); have n5_ := Aside0.mk ((by rw [hg]; exact (below_size (by repeat (first | (with_reducible first | exact HB.out | apply below_alloc | apply pw_below_drewN | apply below_drew1) | exact HB.out))) : w.heap.size ≤ gb204)); clear HO_3; clear HO_11; clear HB; have HO_3 := n0_; have HO_11 := n1_; have HB := n2_; have BK204 := n3_; have GW204 := n4_; have GE204 := n5_; clear n0_ n1_ n2_ n3_ n4_ n5_; clear hb hbox hg; have hcz17_0 : w16.cell? ⟨gb204, 0, none⟩ = some (.int .i64 0) := (blk_cell BK204.out 0).trans rfl; have hcz17_1 : w16.cell? ⟨gb204, 1, none⟩ = some (.int .i64 0) := (blk_cell BK204.out 1).trans rfl; have hfz17_0 := blk_frozen BK204.out 0; have hfz17_1 := blk_frozen BK204.out 1))
                go_roundg k1
                case measure => have := HK1.out; omega
                case rel => exact ⟨(x3_1), (wrap64 (((rd_T30 y200 x13_1).f1) + 1)), (wrap64 (x13_1 + 1)), (by first | rfl | (simp; done) | (simp [*]; done)), (by first | rfl | (simp; done) | (simp [*]; done)), H', ⟨by have := HK1.out; omega⟩, ⟨by (with_reducible repeat (first | apply Kd.R_alloc | apply Kd.R_drewN | apply Kd.R_drew)); exact Kd.R_mono (Kd.R_far (p := ⟨gb204, 1, none⟩) (Kd.R_far (p := ⟨gb204, 0, none⟩) (Kd.R_mono HO_3.out (fun k_ hk => (⟨hk, hk.2⟩ : _ ∧ k_ ≠ gb204))) (fun _ hk => hk.2) (.int .i64 ((rd_T30 y200 x13_1).f0))) (fun _ hk => hk.2) (.int .i64 ((rd_T30 y200 x13_1).f1))) (fun _ hk => hk.1.1)⟩, ⟨by (with_reducible repeat (first | apply Kd.R_alloc | apply Kd.R_drewN | apply Kd.R_drew)); exact Kd.R_mono (Kd.R_far (p := ⟨gb204, 1, none⟩) (Kd.R_far (p := ⟨gb204, 0, none⟩) (Kd.R_mono HO_11.out (fun k_ hk => (⟨hk, hk.2⟩ : _ ∧ k_ ≠ gb204))) (fun _ hk => hk.2) (.int .i64 ((rd_T30 y200 x13_1).f0))) (fun _ hk => hk.2) (.int .i64 ((rd_T30 y200 x13_1).f1))) (fun _ hk => hk.1.1)⟩, ⟨by repeat (first | (with_reducible first | exact HB.out | apply below_alloc | apply pw_below_drewN | apply below_drew1 | refine below_set ?_ GE204.out) | exact HB.out)⟩⟩
            · rw [if_neg c9] at H
              exact absurd H (by simp)
          · rw [if_neg c8] at H
            exact absurd H (by simp)
        · rw [if_neg c7] at H
          have c7b0 : decide (x13_1 < (y200.length : Int)) = false := decide_eq_false c7
          clear c7
          obtain rfl := Option.some.inj H
          go_wp2
          go_ret
          exact ⟨_, by first | rfl | (simp [errW_none, errW_some] <;> rfl) | (simp [*, errW_none, errW_some] <;> rfl), by (with_reducible repeat (first | apply Kd.R_alloc | apply Kd.R_drewN | apply Kd.R_drew)); exact Kd.R_mono HO_3.out (fun _ hk => trivial), by repeat (first | (with_reducible first | exact HB.out | apply below_alloc | apply pw_below_drewN | apply below_drew1) | exact HB.out)⟩
  · rw [if_neg c3] at H
    exact absurd H (by simp)
end Go.Proofs.YtglolcejfbhbdaaGreat.P
end
section
namespace Go.Proofs.YtglolcejfbhbdaaGreat.P
open Go.RowKit Go.Proofs.YtglolcejfbhbdaaGreatW.PrintWords Go.Proofs.YtglolcejfbhbdaaGreatW.PrintLast Go.Proofs.YtglolcejfbhbdaaGreatW.PrintMore
set_option linter.unusedVariables false
set_option linter.unusedSimpArgs false
theorem setL_len (l : List S30) : (setL l).length ≤ 500 := by
  unfold setL
  split
  · simp
  · have h1 := foldl_len (sortR (cutl l)) []
    rw [(sortR_spec (cutl l)).1.length_eq] at h1
    have h2 := List.length_filter_le (fun r : S30 => decide (r.f0 ≤ r.f1)) (l.map cutR)
    rw [List.length_map] at h2
    unfold cutl at h1 ⊢
    simp only [List.length_nil] at h1
    omega
def turnGo : List S30 → Int → List S30 → List S30
  | [], _, acc => acc
  | r :: t, at_, acc => turnGo t (r.f1 + 1) (if at_ < r.f0 then acc ++ [⟨at_, r.f0 - 1⟩] else acc)
def topR : S30 := ⟨1114112, 1114112⟩
def turnL (l : List S30) : List S30 := turnGo (setL l ++ [topR]) 0 []
theorem l0_done (k : Nat) (x3 : List S30) (x4 : Int) (x11 : List S30) (a b : Int) (h : ¬ b < a) : tTurn.l0 (k + 1) x3 x4 x11 a b = some x3 := by
  rw [tTurn.l0, if_neg h]
theorem l0_step (k : Nat) (x3 : List S30) (x4 : Int) (x11 : List S30) (b : Int) (r : S30) (h0 : 0 ≤ b) (h : b < (x11.length : Int)) (h3 : x3.length < 8796093022208) (hr : rd_T30 x11 b = r)
    (w1 : wrap64 (r.f0 - 1) = r.f0 - 1) (w2 : wrap64 (r.f1 + 1) = r.f1 + 1) (w3 : wrap64 (b + 1) = b + 1) :
    tTurn.l0 (k + 1) x3 x4 x11 (x11.length : Int) b = tTurn.l0 k (if x4 < r.f0 then x3 ++ [⟨x4, r.f0 - 1⟩] else x3) (r.f1 + 1) x11 (x11.length : Int) (b + 1) := by
  rw [tTurn.l0, if_pos h, if_pos h0, if_pos h, hr, w1, w2, w3, if_pos h3]
  by_cases h4 : x4 < r.f0
  · rw [if_pos h4, if_pos h4]
  · rw [if_neg h4, if_neg h4]
theorem turnGo_loop (x11 : List S30) (hl : x11.length ≤ 501) (hb : ∀ r ∈ x11, 0 ≤ r.f0 ∧ r.f1 ≤ 1114112 ∧ 0 ≤ r.f1 ∧ r.f0 ≤ 1114112) (n : Nat) :
    ∀ (i : Nat) (k : Nat) (x3 : List S30) (x4 : Int), x11.length - i = n → i ≤ x11.length → n < k → x3.length ≤ i → tTurn.l0 k x3 x4 x11 (x11.length : Int) (i : Int) = some (turnGo (x11.drop i) x4 x3) := by
  induction n with
  | zero =>
    intro i k x3 x4 hn hi hk h3
    obtain ⟨k, rfl⟩ : ∃ k', k = k' + 1 := ⟨k - 1, by omega⟩
    have : i = x11.length := by omega
    subst this
    rw [l0_done _ _ _ _ _ _ (Int.lt_irrefl _), List.drop_length, turnGo]
  | succ n ih =>
    intro i k x3 x4 hn hi hk h3
    obtain ⟨k, rfl⟩ : ∃ k', k = k' + 1 := ⟨k - 1, by omega⟩
    have hlt : i < x11.length := by omega
    have e : rd_T30 x11 (i : Int) = x11[i] := by simp [rd_T30, List.getD_eq_getElem?_getD, hlt]
    have hm := hb x11[i] (List.getElem_mem _)
    rw [List.drop_eq_getElem_cons hlt, turnGo]
    generalize x11[i] = r at e hm ⊢
    have q1 : (0 : Int) ≤ (i : Int) := by omega
    have q2 : (i : Int) < (x11.length : Int) := by omega
    have w1 : wrap64 (r.f0 - 1) = r.f0 - 1 := by rw [← i64_w]; exact IntWalk.i64_in _ (by omega)
    have w2 : wrap64 (r.f1 + 1) = r.f1 + 1 := by rw [← i64_w]; exact IntWalk.i64_in _ (by omega)
    have w3 : wrap64 ((i : Int) + 1) = (i : Int) + 1 := by rw [← i64_w]; exact IntWalk.i64_in _ (by omega)
    rw [l0_step k x3 x4 x11 i r q1 q2 (Nat.lt_of_le_of_lt (Nat.le_trans h3 (Nat.le_trans hi hl)) (by decide)) e w1 w2 w3]
    clear w1 w2 w3 e q1 q2
    refine ih (i + 1) k _ _ (by clear ih; omega) (by clear ih; omega) (by clear ih; omega) ?_
    clear ih
    split
    · rw [List.length_append, List.length_cons, List.length_nil]; omega
    · omega
theorem tTurn_unf (k : Nat) (l s : List S30) (h : tree_Set.f l = some s) (h5 : s.length < 8796093022208) : tTurn.f k l = tTurn.l0 k [] 0 (s ++ [topR]) ((s ++ [topR]).length : Int) 0 := by
  unfold tTurn.f
  rw [h, Option.bind_some, if_pos h5, Option.bind_some]
  rfl
theorem tTurn_eq (l : List S30) : tTurn.f 600 l = some (turnL l) := by
  have h1 := setL_len l
  have h2 := (setL_norm l).2
  rw [tTurn_unf 600 l (setL l) rfl (Nat.lt_of_le_of_lt h1 (by decide))]
  have h3 := turnGo_loop (setL l ++ [topR]) (by simp; omega) (fun r hr => by
    rcases List.mem_append.1 hr with h | h
    · have := h2 r h; omega
    · simp [topR] at h; subst h; simp) (setL l ++ [topR]).length 0 600 [] 0 (by simp) (by simp) (by simp; omega) (by simp)
  exact h3
theorem turnGo_spec : ∀ (l : List S30) (at_ : Int) (acc : List S30), Norm l → Norm acc → 0 ≤ at_ → at_ ≤ 1114112 → (∀ r ∈ l, at_ ≤ r.f0) → (∀ x ∈ acc, x.f1 + 1 < at_) → (at_ ≤ 0 ∨ ∀ r ∈ l, at_ < r.f0) →
    Norm (turnGo (l ++ [topR]) at_ acc) ∧ ∀ c, rm (turnGo (l ++ [topR]) at_ acc) c ↔ rm acc c ∨ (at_ ≤ c ∧ c ≤ 1114111 ∧ ¬ rm l c)
  | [], at_, acc, hl, ha, h0, h1, hr, hx, hz => by
    simp only [List.nil_append, turnGo, topR]
    by_cases h : at_ < 1114112
    · rw [if_pos h]
      refine ⟨norm_snoc.2 ⟨ha, fun x hx' => hx x hx', by simpa using h0, ?_, ?_⟩, fun c => ?_⟩
      · show at_ ≤ 1114112 - 1; omega
      · show (1114112 : Int) - 1 ≤ 1114111; omega
      · rw [rm_append, rm_cons]
        simp only [rm_nil, or_false, not_false_eq_true, and_true]
        constructor
        · rintro (h5 | h5)
          · exact .inl h5
          · exact .inr ⟨h5.1, by have := h5.2; simp at this; omega⟩
        · rintro (h5 | h5)
          · exact .inl h5
          · exact .inr ⟨h5.1, by simp; omega⟩
    · rw [if_neg h]
      refine ⟨ha, fun c => ?_⟩
      simp only [rm_nil, not_false_eq_true, and_true]
      constructor
      · exact fun h5 => .inl h5
      · rintro (h5 | h5)
        · exact h5
        · omega
  | r :: l, at_, acc, hl, ha, h0, h1, hr, hx, hz => by
    have hb := hl.2 r List.mem_cons_self
    have hp := (List.pairwise_cons.1 hl.1).1
    have hr0 := hr r List.mem_cons_self
    simp only [List.cons_append, turnGo]
    by_cases h : at_ < r.f0
    · rw [if_pos h]
      obtain ⟨h4, h5⟩ := turnGo_spec l (r.f1 + 1) (acc ++ [⟨at_, r.f0 - 1⟩]) hl.tail (norm_snoc.2 ⟨ha, fun x hx' => hx x hx', by simpa using h0, by show at_ ≤ r.f0 - 1; omega, by show r.f0 - 1 ≤ 1114111; omega⟩) (by omega) (by omega)
        (fun x hx' => by have := hp x hx'; omega) (fun x hx' => by
          rcases List.mem_append.1 hx' with h6 | h6
          · have := hx x h6; omega
          · simp at h6; subst h6; show r.f0 - 1 + 1 < r.f1 + 1; omega) (.inr fun x hx' => hp x hx')
      refine ⟨h4, fun c => ?_⟩
      rw [h5 c, rm_append, rm_cons, rm_cons]
      have hgt : rm l c → r.f1 + 1 < c := fun h7 => hl.gt h7
      simp only [rm_nil, or_false]
      constructor
      · rintro ((h6 | h6) | h6)
        · exact .inl h6
        · refine .inr ⟨h6.1, by have h9 : c ≤ r.f0 - 1 := h6.2; omega, ?_⟩
          rintro (h7 | h7)
          · have h9 : c ≤ r.f0 - 1 := h6.2; omega
          · have h8 := hgt h7; have h9 : c ≤ r.f0 - 1 := h6.2; omega
        · refine .inr ⟨by omega, h6.2.1, ?_⟩
          rintro (h7 | h7)
          · omega
          · exact h6.2.2 h7
      · rintro (h6 | h6)
        · exact .inl (.inl h6)
        · by_cases h8 : c < r.f0
          · exact .inl (.inr ⟨h6.1, by show c ≤ r.f0 - 1; omega⟩)
          · refine .inr ⟨?_, h6.2.1, fun h7 => h6.2.2 (.inr h7)⟩
            rcases Int.lt_or_le r.f1 c with h9 | h9
            · omega
            · exact absurd (.inl ⟨by omega, h9⟩) h6.2.2
    · rw [if_neg h]
      have hat : at_ = r.f0 := by omega
      have hat0 : at_ ≤ 0 := by
        rcases hz with hz | hz
        · exact hz
        · have := hz r List.mem_cons_self; omega
      obtain ⟨h4, h5⟩ := turnGo_spec l (r.f1 + 1) acc hl.tail ha (by omega) (by omega)
        (fun x hx' => by have := hp x hx'; omega) (fun x hx' => by have := hx x hx'; omega) (.inr fun x hx' => hp x hx')
      refine ⟨h4, fun c => ?_⟩
      rw [h5 c, rm_cons]
      have hgt : rm l c → r.f1 + 1 < c := fun h7 => hl.gt h7
      constructor
      · rintro (h6 | h6)
        · exact .inl h6
        · refine .inr ⟨by omega, h6.2.1, ?_⟩
          rintro (h7 | h7)
          · omega
          · exact h6.2.2 h7
      · rintro (h6 | h6)
        · exact .inl h6
        · refine .inr ⟨?_, h6.2.1, fun h7 => h6.2.2 (.inr h7)⟩
          rcases Int.lt_or_le r.f1 c with h9 | h9
          · omega
          · exact absurd (.inl ⟨by omega, h9⟩) h6.2.2
theorem turnL_spec (l : List S30) : Norm (turnL l) ∧ ∀ c, rm (turnL l) c ↔ 0 ≤ c ∧ c ≤ 1114111 ∧ ¬ rm (setL l) c := by
  have hn := setL_norm l
  obtain ⟨h1, h2⟩ := turnGo_spec (setL l) 0 [] hn Norm.nil (by omega) (by omega) (fun r hr => (hn.2 r hr).1) (fun x hx => by simp at hx) (.inl (Int.le_refl _))
  refine ⟨h1, fun c => ?_⟩
  unfold turnL
  rw [h2 c]
  simp [rm_nil]
def tree_Turn.f (l0 : List S30) : Option (List S30) := some (turnL l0)
theorem tree_Turn.calls (A0 : Option Addr) (c0 : Nat) (l0 : List S30) (r : List S30) (w : World) (hr0 : Kd.C k30 w A0 l0.length l0) (hc0 : l0.length ≤ c0) (h : tree_Turn.f l0 = some r) :
    Calls Tryz.prog 14 #[.slice A0 l0.length c0] w fun e w' => ∃ v0_ : Value, e = .returned (v0_) ∧ Kd.R k30 30 w' w.heap.size (fun _ => True) v0_ r ∧ Below w.heap.size w w' :=
  tTurn.calls 600 A0 c0 l0 r w hr0 hc0 ((tTurn_eq l0).trans h)
end Go.Proofs.YtglolcejfbhbdaaGreat.P
end
section
namespace Go.Proofs.YtglolcejfbhbdaaGreat.P
open Go.RowKit Go.Shelf Go.Proofs.YtglolcejfbhbdaaGreatW.PrintWords Go.Proofs.YtglolcejfbhbdaaGreatW.PrintLast Go.Proofs.YtglolcejfbhbdaaGreatW.PrintMore
set_option linter.unusedVariables false
set_option linter.unusedSimpArgs false
structure Cap (B : Nat) (s : List S30) (w : World) : Prop where
  st : ∃ A c, w.cell? ⟨B, 0, none⟩ = some (.slice A s.length c) ∧ s.length ≤ c ∧ Kd.C k30 w A s.length s
theorem Cap.below {B : Nat} {s : List S30} {w w1 : World} (h : Cap B s w) (hb : Below w.heap.size w w1) : Cap B s w1 := by
  obtain ⟨A, c, h1, h2, h3⟩ := h
  exact ⟨A, c, pw_cell_below hb h1, h2, Kd.C_below h3 hb⟩
def hasS (s : List S30) (c : Int) : Bool := s.any (inR c)
theorem has_calls (A : Option Addr) (c0 : Nat) (s : List S30) (c : Int) (w : World) (hr : Kd.C k30 w A s.length s) (hc : s.length ≤ c0) :
    Calls Tryz.prog 16 #[.slice A s.length c0, .int .i64 c] w fun e w' => e = .returned (.bool (hasS s c)) ∧ Below w.heap.size w w' :=
  tree_Has.calls A c0 s c _ w hr hc rfl
set_option maxRecDepth 100000 in
theorem close11_calls (B : Nat) (s : List S30) (x : Int) (w : World) (h : Cap B s w) :
    Calls Tryz.prog 32 #[.int .i64 x, .pointer (some ⟨B, 0, none⟩)] w fun e w' => e = .returned (.bool (hasS s x)) ∧ Below w.heap.size w w' := by
  obtain ⟨A, c, h1, h2, h3⟩ := h
  have hc := has_calls A c s x w h3 h2
  clear h3
  go_enter Tryz.func32, Tryz.ntmps32
  go_wp2_with fail
  refine hc.mono ?_
  rintro e w1 ⟨rfl, hb⟩
  go_wp2_with fail
  go_ret
  exact ⟨rfl, hb⟩
set_option maxRecDepth 100000 in
set_option maxHeartbeats 1000000 in
theorem IndexI_calls (A0 : Option Addr) (c0 : Nat) (l0 : List Int) (B : Nat) (s : List S30) (w : World) (hr0 : Kd.C (Kd.int .i64) w A0 l0.length l0) (hB : Cap B s w) :
    Calls Tryz.prog 55 #[.slice A0 l0.length c0, .func (.func 32) #[] #[.pointer (some ⟨B, 0, none⟩)]] w fun e w' => ∃ i : Int, e = .returned (.int .i64 i) ∧ Aside0 (decide (0 ≤ i) = l0.any (hasS s)) ∧ Below w.heap.size w w' := by
  have HR := Aside0.mk hr0
  have HC := Aside0.mk hB
  have HL : l0.length ≤ 9223372036854775807 := hr0.2.1
  clear hr0 hB
  go_enter Tryz.func55, Tryz.ntmps55
  go_wp2
  go_loopg [5, 8] l0.length (fun kq v5 v8 w' => ∃ i : Nat, v8 = .int .i64 i ∧ i ≤ l0.length ∧ l0.length - i ≤ kq ∧ Aside0 ((l0.take i).any (hasS s) = false) ∧ Aside0 (Below w.heap.size w w'))
  case atStart => exact ⟨0, rfl, by omega, by omega, ⟨by simp⟩, ⟨Below.refl _ _⟩⟩
  case round =>
    obtain ⟨i, rfl, hi, hk, HA, HB⟩ := hrel
    by_cases hlt : i < l0.length
    · have hlt' : (i : Int) < (l0.length : Int) := by omega
      obtain ⟨ad, e1, hx⟩ := Kd.at_int (Kd.C_below HR.out HB.out) (i : Int) (by omega) hlt'
      cases e1
      rw [Int.toNat_natCast] at hx
      have hcall := close11_calls B s (rd l0 i) wr (HC.out.below HB.out)
      have hst := any_take_succ (hasS s) l0 i hlt 0
      have HS := Aside0.mk (show (l0.take (i + 1)).any (hasS s) = hasS s (rd l0 i) by rw [hst, HA.out]; simp [rd])
      clear hst
      generalize rd l0 i = r at *
      cases hq : hasS s r with
      | true =>
        rw [hq] at hcall
        have HQ := Aside0.mk hq
        clear hq
        go_wp2_with fail
        refine hcall.mono ?_
        rintro e w' ⟨rfl, hb'⟩
        go_wp2_with fail
        go_ret
        refine ⟨_, rfl, ⟨?_⟩, HB.out.trans (hb'.mono HB.out.size)⟩
        have : l0.any (hasS s) = true := by
          rw [← List.take_append_drop (i + 1) l0, List.any_append, HS.out, HQ.out]; rfl
        rw [this]
        simp
      | false =>
        rw [hq] at hcall
        have HQ := Aside0.mk hq
        clear hq
        go_wp2_with fail
        refine hcall.mono ?_
        rintro e w' ⟨rfl, hb'⟩
        go_wp2_with fail
        go_roundg (l0.length - (i + 1))
        case measure => omega
        case rel => exact ⟨i + 1, by go_num, by omega, by omega, ⟨by rw [HS.out, HQ.out]⟩, ⟨HB.out.trans (hb'.mono HB.out.size)⟩⟩
    · have hltz : ¬ (i : Int) < (l0.length : Int) := by omega
      have hi' : i = l0.length := by omega
      subst hi'
      go_wp2
      go_ret
      refine ⟨_, rfl, ⟨?_⟩, HB.out⟩
      have := HA.out
      rw [List.take_length] at this
      rw [this]
      rfl
set_option maxRecDepth 100000 in
set_option maxHeartbeats 1000000 in
theorem ContainsI_calls (A0 : Option Addr) (c0 : Nat) (l0 : List Int) (B : Nat) (s : List S30) (w : World) (hr0 : Kd.C (Kd.int .i64) w A0 l0.length l0) (hB : Cap B s w) :
    Calls Tryz.prog 30 #[.slice A0 l0.length c0, .func (.func 32) #[] #[.pointer (some ⟨B, 0, none⟩)]] w fun e w' => e = .returned (.bool (l0.any (hasS s))) ∧ Below w.heap.size w w' := by
  have hcall := IndexI_calls A0 c0 l0 B s w hr0 hB
  clear hr0 hB
  go_enter Tryz.func30, Tryz.ntmps30
  go_wp2_with fail
  refine hcall.mono ?_
  rintro e w' ⟨i, rfl, HI, hb'⟩
  go_wp2_with fail
  go_ret
  exact ⟨by rw [← HI.out]; rfl, hb'⟩
end Go.Proofs.YtglolcejfbhbdaaGreat.P
end
section
namespace Go.Proofs.YtglolcejfbhbdaaGreat.P
open Go.RowKit Go.Shelf Go.Proofs.YtglolcejfbhbdaaGreatW.PrintWords Go.Proofs.YtglolcejfbhbdaaGreatW.PrintLast Go.Proofs.YtglolcejfbhbdaaGreatW.PrintMore
attribute [local go_sem ↓] Go.wp_at_zero Go.wp_at_succ
set_option linter.unusedVariables false
set_option linter.unusedSimpArgs false
structure Box (w0 : World) (g : Nat) (m : List S30) (w : World) : Prop where
  below : Below w0.heap.size w0 w
  ge : w0.heap.size ≤ g
  row : ∃ v, w.heap[g]? = some (.cells #[v] 22 (0, 0)) ∧ Kd.R k30 30 w w0.heap.size (fun k => k ≠ g) v m
def KeepT (w w' : World) (g : Nat) : Prop := ∀ (p : Nat) (cells : Array Value) (t : Nat), p ≠ g → w.heap[p]? = some (.cells cells t (0, 0)) → t ≠ 30 → w'.heap[p]? = some (.cells cells t (0, 0))
theorem R_keepT {w w' : World} {g base : Nat} {ok : Nat → Prop} {v : Value} {xs : List Int} (h : Kd.R (Kd.int .i64) 3 w base ok v xs) (hk : KeepT w w' g) (hok : ∀ k, ok k → k ≠ g) : Kd.R (Kd.int .i64) 3 w' base ok v xs := by
  refine Kd.R_mono (Kd.R_step (Kd.R_tight rfl h) (fun k hk1 hlt => ?_)) (fun k hk1 => h.1 k hk1.symm)
  obtain ⟨cells, hc⟩ := Kd.R_typed h k hk1.symm
  rw [hc]
  exact hk k cells 3 (hok k (h.1 k hk1.symm)) hc (by decide)
def add1L (m : List S30) (c : Int) : List S30 := setL (m ++ [⟨c, c⟩])
set_option maxRecDepth 100000 in
set_option maxHeartbeats 200000 in
theorem add1_ok {w0 w : World} {g : Nat} {m : List S30} (h : Box w0 g m w) (c : Int) (hm : m.length ≤ 1000) :
    Calls Tryz.prog 52 #[.int .i64 c, .pointer (some ⟨g, 0, none⟩)] w fun e w' => e = .returned (.tuple #[]) ∧ Box w0 g (add1L m c) w' ∧ KeepT w w' g := by
  obtain ⟨h1, h2, v, h3, h4⟩ := h
  have HB := Aside0.mk h1
  have HGE := Aside0.mk h2
  have HG := Aside0.mk h3
  have HR := Aside0.mk h4
  have HH := Aside0.mk (show add1L m c = setL (m ++ [⟨c, c⟩]) from rfl)
  have hc0 : w.cell? ⟨g, 0, none⟩ = some v := blk_cell h3 0
  have hf0 : w.frozen? ⟨g, 0, none⟩ = false := blk_frozen h3 0
  have hglt := World.block_lt_of_cell? _ _ hc0
  generalize add1L m c = R at *
  clear h1 h3 h4
  go_enter Tryz.func52, Tryz.ntmps52
  go_wp2_with fail
  refine start_ (n := 7) (S := fun w' => w'.cell? ⟨g, 0, none⟩ = some v) (ds := [6]) #[false, false, false, false, false, false, false] (by kernel_rfl) rfl rfl (hc0) (fun hHeld => ?_)
  refine pure_ (i := 1) (N := some 4) (v := ?_) (a' := ?_) #[false, true, false, false, false, false, false] rfl rfl (by kernel_rfl) (fun _ _ _ h => h) (Or.inl ⟨by rfl, ?_⟩) ?_ ?_
  rotate_left
  · intro w'
    go_simp
    with_reducible rfl
  rotate_left
  · simp only [Act.put, List.setIfInBounds_toArray, List.set_cons_zero, List.set_cons_succ, i64_w, i32_w]
    rfl
  refine take_ (i := 0) (N := some 3) (v := ?_) (a' := ?_) #[true, true, false, false, false, false, false] rfl rfl (by kernel_rfl) (fun _ _ _ h => h) (Or.inl ⟨by rfl, ?_⟩) hHeld ?_ ?_
  rotate_left
  · intro w' s0
    go_simp
    with_reducible rfl
  rotate_left
  · simp only [Act.put, List.setIfInBounds_toArray, List.set_cons_zero, List.set_cons_succ, i64_w, i32_w]
    rfl
  refine one_ (i := 2) (N := some 5) #[true, true, true, false, false, false, false] rfl rfl (by kernel_rfl) (by decide) (fun K hK => ?_)
  refine goes_ Tryz.func53 (by kernel_rfl) rfl #[.int .i64 c] (by rfl) rfl rfl (by simp only [List.map_toArray, List.map_cons, List.map_nil]; rfl) ?_
  with_reducible refine ((tree_single.calls c c c _ rfl)).mono ?_
  rintro e w1 ⟨rfl, hb1⟩
  refine ⟨_, rfl, ?_⟩
  have hk1 : w1.cell? ⟨g, 0, none⟩ = some v := (hb1.cell (by simpa using hglt)).trans (by simpa using hc0)
  have HR1 := Aside0.mk (Kd.R_below (Kd.R_drew HR.out) hb1)
  have HB1 := Aside0.mk (below_step (below_drew1 HB.out) hb1)
  have HG1 := Aside0.mk (blk_below (blk_drew HG.out) hb1)
  refine hK.out _ _ (hk1) (fun hHeld => ?_)
  clear hK K
  refine norm_ (a' := ?_) ?_ ?_
  rotate_left
  · show Act.put _ (some 5) _ = _
    simp only [Act.put, List.setIfInBounds_toArray, List.set_cons_zero, List.set_cons_succ, i64_w, i32_w]
    rfl
  refine one_ (i := 3) (N := some 6) #[true, true, true, true, false, false, false] rfl rfl (by kernel_rfl) (by decide) (fun K hK => ?_)
  refine value_ (w1 := ?_) (v := ?_) (by rfl) rfl ?_ ?_
  rotate_left 2
  · go_simp
    constructor
    · rfl
    · rfl
  refine hK.out _ _ ((by have := World.block_lt_of_cell? _ _ hk1; go_simp)) (fun hHeld => ?_)
  clear hK K
  refine norm_ (a' := ?_) ?_ ?_
  rotate_left
  · show Act.put _ (some 6) _ = _
    simp only [Act.put, List.setIfInBounds_toArray, List.set_cons_zero, List.set_cons_succ, i64_w, i32_w]
    rfl
  refine one_ (i := 4) (N := some 7) #[true, true, true, true, true, false, false] rfl rfl (by kernel_rfl) (by decide) (fun K hK => ?_)
  refine Kd.R_append_step k30 (w0 := w0) (W := w1) w0.heap.size (by rfl) (.tmp 3) (.tmp 6) 22 30 (.agg #[(.int .i64 0), (.int .i64 0)]) 16 (by rfl) Tryz.underlying22 info30 rfl (by decide) (by decide) v m ⟨c, c⟩ [.int .i64 c, .int .i64 c] (fun k => k ≠ g) (fun _ => False) (by rfl) (by rfl) (k30_mkM _ _ _ ⟨c, c⟩) (fun _ hk => hk.elim) (fun k hk => by have := blk_lt HG1.out; omega) HR1.out HB1.out HB1.out.size (by omega) ?_
  intro v2 w2 ho2 hb2 hg2 hat2
  have HG2 := Aside0.mk (blk_grown HG1.out hg2 (fun e => HR1.out.1 _ e.symm rfl))
  have HO2 := Aside0.mk ho2
  have HB2 := Aside0.mk hb2
  have hk2 : w2.cell? ⟨g, 0, none⟩ = some v := blk_cell HG2.out 0
  obtain ⟨A2, c2, rfl⟩ := Kd.R_slice ho2
  generalize m ++ [(⟨c, c⟩ : S30)] = m2 at *
  have hset := tree_Set.calls A2 c2 m2 R w2 (Kd.R_reads' HO2.out).2.2 (Kd.R_reads' HO2.out).2.1 (by rw [HH.out]; rfl)
  have HP2 := Aside0.mk (show KeepT w w2 g from fun p cells t hpg hp ht => blk_grown (blk_below (blk_drew hp) hb1) hg2 (Kd.R_ne HR1.out (blk_below (blk_drew hp) hb1) (Ne.symm ht)))
  clear hat2 hg2 ho2 hb2
  refine hK.out _ _ (hk2) (fun hHeld => ?_)
  clear hK K
  refine norm_ (a' := ?_) ?_ ?_
  rotate_left
  · show Act.put _ (some 7) _ = _
    simp only [Act.put, List.setIfInBounds_toArray, List.set_cons_zero, List.set_cons_succ, i64_w, i32_w]
    rfl
  refine one_ (i := 5) (N := some 8) #[true, true, true, true, true, true, false] rfl rfl (by kernel_rfl) (by decide) (fun K hK => ?_)
  refine goes_ Tryz.func10 (by kernel_rfl) rfl #[.slice A2 m2.length c2] (by rfl) rfl rfl (by simp only [List.map_toArray, List.map_cons, List.map_nil]; rfl) ?_
  with_reducible refine (hset).mono ?_
  rintro e w3 ⟨v3, rfl, ho3, hb3⟩
  refine ⟨_, rfl, ?_⟩
  have HG3 := Aside0.mk (blk_below HG2.out hb3)
  have HO3 := Aside0.mk (Kd.R_lower (Kd.R_mono (Kd.R_bound ho3) (ok' := fun k => k ≠ g) (fun k hk => by have := blk_lt HG2.out; have := hk.2.1; omega)) HB2.out.size)
  have HB3 := Aside0.mk (show Below w0.heap.size w0 w3 from HB2.out.trans (hb3.mono HB2.out.size))
  have hk3 : w3.cell? ⟨g, 0, none⟩ = some v := blk_cell HG3.out 0
  have hf3 : w3.frozen? ⟨g, 0, none⟩ = false := blk_frozen HG3.out 0
  obtain ⟨A3, c3, rfl⟩ := Kd.R_slice ho3
  have HP3 := Aside0.mk (show KeepT w w3 g from fun p cells t hpg hp ht => blk_below (HP2.out p cells t hpg hp ht) hb3)
  clear ho3 hb3
  refine hK.out _ _ (hk3) (fun hHeld => ?_)
  clear hK K
  refine norm_ (a' := ?_) ?_ ?_
  rotate_left
  · show Act.put _ (some 8) _ = _
    simp only [Act.put, List.setIfInBounds_toArray, List.set_cons_zero, List.set_cons_succ, i64_w, i32_w]
    rfl
  refine last_ (i := 6) (N := none) #[true, true, true, true, true, true, true] rfl rfl (by kernel_rfl) (by decide) (fun K hK => ?_)
  refine skip_ (w1 := ?_) (by rfl) rfl ?_ ?_
  rotate_left
  · go_simp
    rfl
  refine hK.out _ _ ?_
  clear hK K
  refine done_ (by kernel_rfl) ?_

  go_end0
  exact ⟨rfl, ⟨HB3.out.setCell HGE.out _, HGE.out, _, by simpa using blk_set HG3.out 0 (.slice A3 R.length c3), Kd.R_far HO3.out (fun k hk => hk) _⟩, fun p cells t hpg hp ht => blk_far (HP3.out p cells t hpg hp ht) hpg _⟩
end Go.Proofs.YtglolcejfbhbdaaGreat.P
end
section
namespace Go.Proofs.YtglolcejfbhbdaaGreat.P
open Go.RowKit Go.Shelf Go.Proofs.YtglolcejfbhbdaaGreatW.PrintWords Go.Proofs.YtglolcejfbhbdaaGreatW.PrintLast Go.Proofs.YtglolcejfbhbdaaGreatW.PrintMore
set_option linter.unusedVariables false
set_option linter.unusedSimpArgs false
theorem ofP_up (c : Int) (h0 : 0 ≤ c) : 0 ≤ ofP c ∧ ofP c ≤ c + 775 := by
  unfold ofP
  cases h : stL.find? (fun s => decide (s.f0 ≤ c) && decide (c ≤ s.f1)) with
  | none => exact ⟨h0, by show c ≤ _; omega⟩
  | some s =>
    have hm := List.mem_of_find?_eq_some h
    have hp := List.find?_some h
    simp only [Bool.and_eq_true, decide_eq_true_eq] at hp
    simp only [stL, List.mem_cons, List.not_mem_nil, or_false] at hm
    show 0 ≤ c + s.f2 ∧ c + s.f2 ≤ c + 775
    rcases hm with rfl | rfl | rfl | rfl | rfl | rfl | rfl | rfl | rfl | rfl <;> (dsimp only at hp ⊢; omega)
theorem Box.grow {w0 w w1 : World} {g : Nat} {m : List S30} (h : Box w0 g m w) (hb : Below w.heap.size w w1) : Box w0 g m w1 := by
  obtain ⟨h1, h2, v, h3, h4⟩ := h
  exact ⟨h1.trans (hb.mono h1.size), h2, v, blk_below h3 hb, Kd.R_below h4 hb⟩
theorem add1_len (m : List S30) (c : Int) : (add1L m c).length ≤ 500 := setL_len _
def foldYield (s : List S30) (c : Int) : List Int := if ofP c ≠ c ∧ (hasS s c || hasS s (ofP c) || (kinP (ofP c)).any (hasS s)) = true then [c, ofP c] else []
def yields1 (s : List S30) (n : Nat) : List Int := (List.range n).flatMap (fun (c : Nat) => foldYield s c)
theorem yields1_succ (s : List S30) (n : Nat) : yields1 s (n + 1) = yields1 s n ++ foldYield s n := by
  unfold yields1
  rw [List.range_succ, List.flatMap_append]
  simp
def addAll (m : List S30) (l : List Int) : List S30 := l.foldl add1L m
theorem addAll_len (m : List S30) (l : List Int) (h : m.length ≤ 500) : (addAll m l).length ≤ 500 := by
  induction l generalizing m with
  | nil => exact h
  | cons c l ih => exact ih _ (add1_len _ _)
theorem addAll_append (m : List S30) (l k : List Int) : addAll m (l ++ k) = addAll (addAll m l) k := List.foldl_append
set_option maxRecDepth 100000 in
set_option maxHeartbeats 2000000 in
theorem close1_ok (B : Nat) (s : List S30) {w0 w : World} {g : Nat} {m : List S30} (hC : Cap B s w0) (hX : Box w0 g m w) (hm : m.length ≤ 500) :
    Calls Tryz.prog 28 #[.func (.func 52) #[] #[.pointer (some ⟨g, 0, none⟩)], .pointer (some ⟨B, 0, none⟩)] w fun e w' => e = .returned (.tuple #[]) ∧ Box w0 g (addAll m (yields1 s 7936)) w' := by
  have HC := Aside0.mk hC
  have HX := Aside0.mk hX
  have HM := Aside0.mk hm
  clear hC hX hm
  go_enter Tryz.func28, Tryz.ntmps28
  go_wp2_with fail
  go_loopg [5] 7936 (fun kq v5 w' => ∃ i : Nat, v5 = .int .i64 i ∧ i ≤ 7936 ∧ 7936 - i ≤ kq ∧ Aside0 (Box w0 g (addAll m (yields1 s i)) w'))
  case atStart => exact ⟨0, rfl, by omega, by omega, HX⟩
  case round =>
    obtain ⟨i, rfl, hi, hk, HB⟩ := hrel
    by_cases hlt : i < 7936
    · have hlt' : (i : Int) < 7936 := by omega
      have HL := Aside0.mk (addAll_len m (yields1 s i) HM.out)
      have HS := Aside0.mk (show addAll m (yields1 s (i + 1)) = addAll (addAll m (yields1 s i)) (foldYield s i) by rw [yields1_succ, addAll_append])
      have HF := Aside0.mk (show foldYield s i = if ofP (i : Int) ≠ i ∧ (hasS s i || hasS s (ofP i) || (kinP (ofP i)).any (hasS s)) = true then [(i : Int), ofP i] else [] from rfl)
      have HO := Aside0.mk (ofP_up (i : Int) (by omega))
      have hof := fun W => foldOf_calls (i : Int) W
      generalize addAll m (yields1 s i) = mi at *
      generalize foldYield s i = fy at *
      obtain ⟨tt, htt⟩ : ∃ tt, ofP (i : Int) = tt := ⟨_, rfl⟩
      rw [htt] at hof HO
      simp only [htt] at HF
      have HOF := Aside0.mk hof
      have HKN := Aside0.mk (fun W => fold_Kin_calls tt HO.out.1 (by have := HO.out.2; omega) W)
      clear htt hof
      obtain ⟨A, cs, hA1, hA2, hA3⟩ := HC.out
      have HA3 := Aside0.mk hA3
      have hBlt := World.block_lt_of_cell? _ _ hA1
      have HCL := Aside0.mk (fun (W : World) (hW : Below w0.heap.size w0 W) => pw_cell_below hW hA1)
      have HHAS := Aside0.mk (fun (x : Int) (W : World) (hW : Below w0.heap.size w0 W) => has_calls A cs s x W (Kd.C_below HA3.out hW) hA2)
      have HANY := Aside0.mk (fun (A0 : Option Addr) (c0 : Nat) (l0 : List Int) (W : World) (h : Kd.C (Kd.int .i64) W A0 l0.length l0) (hW : Below w0.heap.size w0 W) => ContainsI_calls A0 c0 l0 B s W h (HC.out.below hW))
      clear hA1 hA2 hA3
      by_cases k0 : ¬ tt = (i : Int)
      · cases h1 : hasS s (i : Int) with
        | true =>
          have q0 : (tt != (i : Int)) = true := by simpa using k0
          have HE := Aside0.mk (show fy = [(i : Int), tt] by rw [HF.out]; rw [if_pos ⟨k0, by rw [h1]; rfl⟩])
          go_wp2_with fail
          refine (HOF.out _).mono ?_
          rintro e w1 ⟨rfl, hb1⟩
          have HB1 := Aside0.mk (HB.out.grow hb1)
          have hc1 := HCL.out w1 HB1.out.below
          clear hb1
          go_wp2_with fail
          refine (HHAS.out (i : Int) w1 HB1.out.below).mono ?_
          rintro e w2 ⟨rfl, hb2⟩
          have HB2 := Aside0.mk (HB1.out.grow hb2)
          have hc2 := HCL.out w2 HB2.out.below
          clear hb2
          rw [h1]
          go_wp2_with fail
          refine (add1_ok HB2.out (i : Int) (by have := HL.out; omega)).mono ?_
          rintro e w3 ⟨rfl, hX3, _⟩
          have HB3 := Aside0.mk hX3
          clear hX3
          go_wp2_with fail
          refine (add1_ok HB3.out tt (by have := add1_len mi (i : Int); omega)).mono ?_
          rintro e w4 ⟨rfl, hX4, _⟩
          have HB4 := Aside0.mk hX4
          clear hX4
          go_wp2_with fail
          go_roundg (7936 - (i + 1))
          case measure => omega
          case rel => exact ⟨i + 1, by go_num, by omega, by omega, ⟨by rw [HS.out, HE.out]; exact HB4.out⟩⟩
        | false =>
          cases h2 : hasS s tt with
          | true =>
            have q0 : (tt != (i : Int)) = true := by simpa using k0
            have HE := Aside0.mk (show fy = [(i : Int), tt] by rw [HF.out]; rw [if_pos ⟨k0, by rw [h1, h2]; rfl⟩])
            go_wp2_with fail
            refine (HOF.out _).mono ?_
            rintro e w1 ⟨rfl, hb1⟩
            have HB1 := Aside0.mk (HB.out.grow hb1)
            have hc1 := HCL.out w1 HB1.out.below
            clear hb1
            go_wp2_with fail
            refine (HHAS.out (i : Int) w1 HB1.out.below).mono ?_
            rintro e w2 ⟨rfl, hb2⟩
            have HB2 := Aside0.mk (HB1.out.grow hb2)
            have hc2 := HCL.out w2 HB2.out.below
            clear hb2
            rw [h1]
            go_wp2_with fail
            refine (HHAS.out tt w2 HB2.out.below).mono ?_
            rintro e w3 ⟨rfl, hb3⟩
            have HB3 := Aside0.mk (HB2.out.grow hb3)
            have hc3 := HCL.out w3 HB3.out.below
            clear hb3
            rw [h2]
            go_wp2_with fail
            refine (add1_ok HB3.out (i : Int) (by have := HL.out; omega)).mono ?_
            rintro e w4 ⟨rfl, hX4, _⟩
            have HB4 := Aside0.mk hX4
            clear hX4
            go_wp2_with fail
            refine (add1_ok HB4.out tt (by have := add1_len mi (i : Int); omega)).mono ?_
            rintro e w5 ⟨rfl, hX5, _⟩
            have HB5 := Aside0.mk hX5
            clear hX5
            go_wp2_with fail
            go_roundg (7936 - (i + 1))
            case measure => omega
            case rel => exact ⟨i + 1, by go_num, by omega, by omega, ⟨by rw [HS.out, HE.out]; exact HB5.out⟩⟩
          | false =>
            cases h3 : (kinP tt).any (hasS s) with
            | true =>
              have q0 : (tt != (i : Int)) = true := by simpa using k0
              have HE := Aside0.mk (show fy = [(i : Int), tt] by rw [HF.out]; rw [if_pos ⟨k0, by rw [h1, h2, h3]; rfl⟩])
              go_wp2_with fail
              refine (HOF.out _).mono ?_
              rintro e w1 ⟨rfl, hb1⟩
              have HB1 := Aside0.mk (HB.out.grow hb1)
              have hc1 := HCL.out w1 HB1.out.below
              clear hb1
              go_wp2_with fail
              refine (HHAS.out (i : Int) w1 HB1.out.below).mono ?_
              rintro e w2 ⟨rfl, hb2⟩
              have HB2 := Aside0.mk (HB1.out.grow hb2)
              have hc2 := HCL.out w2 HB2.out.below
              clear hb2
              rw [h1]
              go_wp2_with fail
              refine (HHAS.out tt w2 HB2.out.below).mono ?_
              rintro e w3 ⟨rfl, hb3⟩
              have HB3 := Aside0.mk (HB2.out.grow hb3)
              have hc3 := HCL.out w3 HB3.out.below
              clear hb3
              rw [h2]
              go_wp2_with fail
              refine (HKN.out w3).mono ?_
              rintro e w4 ⟨v4, rfl, hR4, hb4⟩
              have HB4 := Aside0.mk (HB3.out.grow hb4)
              obtain ⟨A4, c4, rfl⟩ := Kd.R_slice hR4
              have HK4 := Aside0.mk (Kd.R_reads' hR4).2.2
              clear hb4 hR4
              go_wp2_with fail
              refine (HANY.out A4 c4 _ w4 HK4.out HB4.out.below).mono ?_
              rintro e w5 ⟨rfl, hb5⟩
              have HB5 := Aside0.mk (HB4.out.grow hb5)
              clear hb5
              rw [h3]
              go_wp2_with fail
              refine (add1_ok HB5.out (i : Int) (by have := HL.out; omega)).mono ?_
              rintro e w6 ⟨rfl, hX6, _⟩
              have HB6 := Aside0.mk hX6
              clear hX6
              go_wp2_with fail
              refine (add1_ok HB6.out tt (by have := add1_len mi (i : Int); omega)).mono ?_
              rintro e w7 ⟨rfl, hX7, _⟩
              have HB7 := Aside0.mk hX7
              clear hX7
              go_wp2_with fail
              go_roundg (7936 - (i + 1))
              case measure => omega
              case rel => exact ⟨i + 1, by go_num, by omega, by omega, ⟨by rw [HS.out, HE.out]; exact HB7.out⟩⟩
            | false =>
              have q0 : (tt != (i : Int)) = true := by simpa using k0
              have HE := Aside0.mk (show fy = [] by rw [HF.out]; rw [if_neg (by rw [h1, h2, h3]; simp)])
              go_wp2_with fail
              refine (HOF.out _).mono ?_
              rintro e w1 ⟨rfl, hb1⟩
              have HB1 := Aside0.mk (HB.out.grow hb1)
              have hc1 := HCL.out w1 HB1.out.below
              clear hb1
              go_wp2_with fail
              refine (HHAS.out (i : Int) w1 HB1.out.below).mono ?_
              rintro e w2 ⟨rfl, hb2⟩
              have HB2 := Aside0.mk (HB1.out.grow hb2)
              have hc2 := HCL.out w2 HB2.out.below
              clear hb2
              rw [h1]
              go_wp2_with fail
              refine (HHAS.out tt w2 HB2.out.below).mono ?_
              rintro e w3 ⟨rfl, hb3⟩
              have HB3 := Aside0.mk (HB2.out.grow hb3)
              have hc3 := HCL.out w3 HB3.out.below
              clear hb3
              rw [h2]
              go_wp2_with fail
              refine (HKN.out w3).mono ?_
              rintro e w4 ⟨v4, rfl, hR4, hb4⟩
              have HB4 := Aside0.mk (HB3.out.grow hb4)
              obtain ⟨A4, c4, rfl⟩ := Kd.R_slice hR4
              have HK4 := Aside0.mk (Kd.R_reads' hR4).2.2
              clear hb4 hR4
              go_wp2_with fail
              refine (HANY.out A4 c4 _ w4 HK4.out HB4.out.below).mono ?_
              rintro e w5 ⟨rfl, hb5⟩
              have HB5 := Aside0.mk (HB4.out.grow hb5)
              clear hb5
              rw [h3]
              go_wp2_with fail
              go_roundg (7936 - (i + 1))
              case measure => omega
              case rel => exact ⟨i + 1, by go_num, by omega, by omega, ⟨by rw [HS.out, HE.out]; exact HB5.out⟩⟩
      · have q0 : (tt != (i : Int)) = false := by simpa using k0
        have HE := Aside0.mk (show fy = [] by rw [HF.out]; rw [if_neg (fun h => k0 h.1)])
        go_wp2_with fail
        refine (HOF.out _).mono ?_
        rintro e w1 ⟨rfl, hb1⟩
        have HB1 := Aside0.mk (HB.out.grow hb1)
        have hc1 := HCL.out w1 HB1.out.below
        clear hb1
        go_wp2_with fail
        go_roundg (7936 - (i + 1))
        case measure => omega
        case rel => exact ⟨i + 1, by go_num, by omega, by omega, ⟨by rw [HS.out, HE.out]; exact HB1.out⟩⟩
    · have hltz : ¬ (i : Int) < 7936 := by omega
      obtain rfl : i = 7936 := by omega
      go_wp2_with fail
      go_end0
      exact ⟨rfl, HB.out⟩
end Go.Proofs.YtglolcejfbhbdaaGreat.P
end
section
namespace Go.Proofs.YtglolcejfbhbdaaGreat.P
open Go.RowKit Go.Maps Go.Proofs.YtglolcejfbhbdaaGreatW.PrintWords Go.Proofs.YtglolcejfbhbdaaGreatW.PrintLast Go.Proofs.YtglolcejfbhbdaaGreatW.PrintMore
set_option linter.unusedVariables false
set_option linter.unusedSimpArgs false
theorem wpList_insert_own {H : Type} {P : Program} (w : World) {ops : Array Oper} {rest : List Oper} {o : Oper} {a : Act} {Q : Exit → Act → World → Prop}
    (hg : o.guard = none) (m x v : Operand) (t : TypeId) (hop : o.op = Op.insert t m x v)
    (k e : TypeId) (K : Keyed P k) (ht : P.underlying t = some (.map k e)) (R : Value → Option (DataW H × List MemPlace)) (b n : Nat) (D : DataW H)
    (hm : a.eval m = .map (some b)) (hown : w.ownsMap P k R b n D) (hn : n < maxLen) (key val : Value) (kl : Lit) (hx : a.eval x = key) (hv : a.eval v = val) (hkey : keyOf P k key = some kl)
    (d : DataW H) (ps : List MemPlace) (hval : R val = some (d, ps))
    (hK : ∀ w', w'.ownsMap P k R b (n + 1) (D.put kl d) → w.grownBy w' (some b) → wpList P ops Q rest (a.put o.dst undef) w') :
    wpList P ops Q (o :: rest) a w := by
  refine wpList_plain hg fun K' hK' => ?_
  obtain ⟨w', hrun, r1, r2⟩ := hown.update K ht hn hkey hval
  unfold Oper.wp
  simp [execOp, hop, hm, hx, hv, hrun, Result.andThen]
  exact hK' _ _ (hK w' r1 r2)
theorem gate_insert {P : Program} {w : World} {ops : Array Oper} {rest : List Oper} {o : Oper} {a : Act} {Q : Exit → Act → World → Prop} (t : TypeId) (m x v : Operand) (_ho : o.op = .insert t m x v) (h : wpList P ops Q (o :: rest) a w) : wpList P ops Q (o :: rest) a w := h
def brL : List (Int × Int) := [(40, 41), (91, 93), (123, 125), (9001, 9002), (12296, 12297), (12298, 12299), (12300, 12301), (12302, 12303), (12304, 12305)]
def brD : DataW Unit := brL.foldl (fun D p => D.put (.int .i64 p.1) (.lit (.int .i64 p.2))) (.map [])
theorem law3 : Keyed Tryz.prog 3 := int_keyed Tryz.underlying3
theorem zero3 (w : World) : (zeroValue 3).run Tryz.prog w = .ok (.int .i64 0) w := by kernel_rfl
theorem key3 (c : Int) (h : (Lit.int .i64 c).wf = true) : keyOf Tryz.prog 3 (.int .i64 c) = some (.int .i64 c) := keyOf_int_mk Tryz.underlying3 h
theorem el3 (c : Int) (h : (Lit.int .i64 c).wf = true) : plainElem (H := Unit) Tryz.prog 3 (.int .i64 c) = some (.lit (.int .i64 c), []) := plainElem_int Tryz.underlying3 h
set_option maxRecDepth 100000 in
theorem brackets_calls (w : World) : Calls Tryz.prog 77 #[] w fun e w' => e = .returned (.map (some w.heap.size)) ∧ w'.ownsMap Tryz.prog 3 (plainElem (H := Unit) Tryz.prog 3) w.heap.size 9 brD ∧ Below w.heap.size w w' := by
  have hmm := @run_makeMap Tryz.prog
  have ho0 := World.ownsMap_made (H := Unit) w Tryz.prog 3 (plainElem (H := Unit) Tryz.prog 3)
  have hb0 := below_alloc (Below.refl w.heap.size w) (.map #[] 0)
  have HB0 := Aside0.mk hb0
  have HO0 := Aside0.mk ho0
  clear ho0 hb0
  go_enter Tryz.func77, Tryz.ntmps77
  go_wp2_with (first
    | ((with_reducible refine gate_insert 105 (.tmp 1) (.const (.int .i64 40)) (.const (.int .i64 41)) rfl ?_); refine wpList_insert_own _ rfl (.tmp 1) (.const (.int .i64 40)) (.const (.int .i64 41)) 105 rfl 3 3 law3 Tryz.underlying105 _ w.heap.size 0 _ (by rfl) HO0.out (by decide) (.int .i64 40) (.int .i64 41) (.int .i64 40) (by rfl) (by rfl) (key3 40 (by decide)) (.lit (.int .i64 41)) [] (el3 41 (by decide)) ?_; intro w1 ho1 hg1; have HO1 := Aside0.mk ho1; have HB1 := Aside0.mk (HB0.out.grown hg1 HB0.out.size (fun k hk => by cases hk; exact Nat.le_refl _)); clear ho1 hg1)
    | ((with_reducible refine gate_insert 105 (.tmp 1) (.const (.int .i64 91)) (.const (.int .i64 93)) rfl ?_); refine wpList_insert_own _ rfl (.tmp 1) (.const (.int .i64 91)) (.const (.int .i64 93)) 105 rfl 3 3 law3 Tryz.underlying105 _ w.heap.size 1 _ (by rfl) HO1.out (by decide) (.int .i64 91) (.int .i64 93) (.int .i64 91) (by rfl) (by rfl) (key3 91 (by decide)) (.lit (.int .i64 93)) [] (el3 93 (by decide)) ?_; intro w2 ho2 hg2; have HO2 := Aside0.mk ho2; have HB2 := Aside0.mk (HB1.out.grown hg2 HB1.out.size (fun k hk => by cases hk; exact Nat.le_refl _)); clear ho2 hg2)
    | ((with_reducible refine gate_insert 105 (.tmp 1) (.const (.int .i64 123)) (.const (.int .i64 125)) rfl ?_); refine wpList_insert_own _ rfl (.tmp 1) (.const (.int .i64 123)) (.const (.int .i64 125)) 105 rfl 3 3 law3 Tryz.underlying105 _ w.heap.size 2 _ (by rfl) HO2.out (by decide) (.int .i64 123) (.int .i64 125) (.int .i64 123) (by rfl) (by rfl) (key3 123 (by decide)) (.lit (.int .i64 125)) [] (el3 125 (by decide)) ?_; intro w3 ho3 hg3; have HO3 := Aside0.mk ho3; have HB3 := Aside0.mk (HB2.out.grown hg3 HB2.out.size (fun k hk => by cases hk; exact Nat.le_refl _)); clear ho3 hg3)
    | ((with_reducible refine gate_insert 105 (.tmp 1) (.const (.int .i64 9001)) (.const (.int .i64 9002)) rfl ?_); refine wpList_insert_own _ rfl (.tmp 1) (.const (.int .i64 9001)) (.const (.int .i64 9002)) 105 rfl 3 3 law3 Tryz.underlying105 _ w.heap.size 3 _ (by rfl) HO3.out (by decide) (.int .i64 9001) (.int .i64 9002) (.int .i64 9001) (by rfl) (by rfl) (key3 9001 (by decide)) (.lit (.int .i64 9002)) [] (el3 9002 (by decide)) ?_; intro w4 ho4 hg4; have HO4 := Aside0.mk ho4; have HB4 := Aside0.mk (HB3.out.grown hg4 HB3.out.size (fun k hk => by cases hk; exact Nat.le_refl _)); clear ho4 hg4)
    | ((with_reducible refine gate_insert 105 (.tmp 1) (.const (.int .i64 12296)) (.const (.int .i64 12297)) rfl ?_); refine wpList_insert_own _ rfl (.tmp 1) (.const (.int .i64 12296)) (.const (.int .i64 12297)) 105 rfl 3 3 law3 Tryz.underlying105 _ w.heap.size 4 _ (by rfl) HO4.out (by decide) (.int .i64 12296) (.int .i64 12297) (.int .i64 12296) (by rfl) (by rfl) (key3 12296 (by decide)) (.lit (.int .i64 12297)) [] (el3 12297 (by decide)) ?_; intro w5 ho5 hg5; have HO5 := Aside0.mk ho5; have HB5 := Aside0.mk (HB4.out.grown hg5 HB4.out.size (fun k hk => by cases hk; exact Nat.le_refl _)); clear ho5 hg5)
    | ((with_reducible refine gate_insert 105 (.tmp 1) (.const (.int .i64 12298)) (.const (.int .i64 12299)) rfl ?_); refine wpList_insert_own _ rfl (.tmp 1) (.const (.int .i64 12298)) (.const (.int .i64 12299)) 105 rfl 3 3 law3 Tryz.underlying105 _ w.heap.size 5 _ (by rfl) HO5.out (by decide) (.int .i64 12298) (.int .i64 12299) (.int .i64 12298) (by rfl) (by rfl) (key3 12298 (by decide)) (.lit (.int .i64 12299)) [] (el3 12299 (by decide)) ?_; intro w6 ho6 hg6; have HO6 := Aside0.mk ho6; have HB6 := Aside0.mk (HB5.out.grown hg6 HB5.out.size (fun k hk => by cases hk; exact Nat.le_refl _)); clear ho6 hg6)
    | ((with_reducible refine gate_insert 105 (.tmp 1) (.const (.int .i64 12300)) (.const (.int .i64 12301)) rfl ?_); refine wpList_insert_own _ rfl (.tmp 1) (.const (.int .i64 12300)) (.const (.int .i64 12301)) 105 rfl 3 3 law3 Tryz.underlying105 _ w.heap.size 6 _ (by rfl) HO6.out (by decide) (.int .i64 12300) (.int .i64 12301) (.int .i64 12300) (by rfl) (by rfl) (key3 12300 (by decide)) (.lit (.int .i64 12301)) [] (el3 12301 (by decide)) ?_; intro w7 ho7 hg7; have HO7 := Aside0.mk ho7; have HB7 := Aside0.mk (HB6.out.grown hg7 HB6.out.size (fun k hk => by cases hk; exact Nat.le_refl _)); clear ho7 hg7)
    | ((with_reducible refine gate_insert 105 (.tmp 1) (.const (.int .i64 12302)) (.const (.int .i64 12303)) rfl ?_); refine wpList_insert_own _ rfl (.tmp 1) (.const (.int .i64 12302)) (.const (.int .i64 12303)) 105 rfl 3 3 law3 Tryz.underlying105 _ w.heap.size 7 _ (by rfl) HO7.out (by decide) (.int .i64 12302) (.int .i64 12303) (.int .i64 12302) (by rfl) (by rfl) (key3 12302 (by decide)) (.lit (.int .i64 12303)) [] (el3 12303 (by decide)) ?_; intro w8 ho8 hg8; have HO8 := Aside0.mk ho8; have HB8 := Aside0.mk (HB7.out.grown hg8 HB7.out.size (fun k hk => by cases hk; exact Nat.le_refl _)); clear ho8 hg8)
    | ((with_reducible refine gate_insert 105 (.tmp 1) (.const (.int .i64 12304)) (.const (.int .i64 12305)) rfl ?_); refine wpList_insert_own _ rfl (.tmp 1) (.const (.int .i64 12304)) (.const (.int .i64 12305)) 105 rfl 3 3 law3 Tryz.underlying105 _ w.heap.size 8 _ (by rfl) HO8.out (by decide) (.int .i64 12304) (.int .i64 12305) (.int .i64 12304) (by rfl) (by rfl) (key3 12304 (by decide)) (.lit (.int .i64 12305)) [] (el3 12305 (by decide)) ?_; intro w9 ho9 hg9; have HO9 := Aside0.mk ho9; have HB9 := Aside0.mk (HB8.out.grown hg9 HB8.out.size (fun k hk => by cases hk; exact Nat.le_refl _)); clear ho9 hg9)
    | fail)
  go_ret
  exact ⟨rfl, HO9.out, HB9.out⟩
end Go.Proofs.YtglolcejfbhbdaaGreat.P
end
section
namespace Go.Proofs.YtglolcejfbhbdaaGreat.P
open Go.RowKit Go.Maps Go.Proofs.YtglolcejfbhbdaaGreatW.PrintWords Go.Proofs.YtglolcejfbhbdaaGreatW.PrintLast Go.Proofs.YtglolcejfbhbdaaGreatW.PrintMore
set_option linter.unusedVariables false
set_option linter.unusedSimpArgs false
theorem brD_eq : brD = .map [(.int .i64 40, .lit (.int .i64 41)), (.int .i64 91, .lit (.int .i64 93)), (.int .i64 123, .lit (.int .i64 125)), (.int .i64 9001, .lit (.int .i64 9002)), (.int .i64 12296, .lit (.int .i64 12297)), (.int .i64 12298, .lit (.int .i64 12299)), (.int .i64 12300, .lit (.int .i64 12301)), (.int .i64 12302, .lit (.int .i64 12303)), (.int .i64 12304, .lit (.int .i64 12305))] := by rfl
theorem br_has (c : Int) : Maps.has brD (.int .i64 c) = brL.any (fun p => decide (p.1 = c)) := by
  rw [brD_eq]
  simp [Maps.has, Lit.sameKey, brL]
theorem br_at (c : Int) (z : DataW Unit) : brD.atKey (.int .i64 c) z = match brL.find? (fun p => decide (p.1 = c)) with | some p => .lit (.int .i64 p.2) | none => z := by
  by_cases h : ∃ p ∈ brL, p.1 = c
  · obtain ⟨p, hp, rfl⟩ := h
    simp only [brL, List.mem_cons, List.not_mem_nil, or_false] at hp
    rcases hp with rfl | rfl | rfl | rfl | rfl | rfl | rfl | rfl | rfl <;> rfl
  · have h2 : ∀ p ∈ brL, ¬ p.1 = c := fun p hp e => h ⟨p, hp, e⟩
    have h3 : brL.find? (fun p => decide (p.1 = c)) = none := by
      rw [List.find?_eq_none]
      intro p hp
      simpa using h2 p hp
    rw [h3, brD_eq]
    unfold DataW.atKey
    have h4 : ([(.int .i64 40, .lit (.int .i64 41)), (.int .i64 91, .lit (.int .i64 93)), (.int .i64 123, .lit (.int .i64 125)), (.int .i64 9001, .lit (.int .i64 9002)), (.int .i64 12296, .lit (.int .i64 12297)), (.int .i64 12298, .lit (.int .i64 12299)), (.int .i64 12300, .lit (.int .i64 12301)), (.int .i64 12302, .lit (.int .i64 12303)), (.int .i64 12304, .lit (.int .i64 12305))] : List (Lit × DataW Unit)).find? (fun p => p.1.sameKey (.int .i64 c)) = none := by
      rw [List.find?_eq_none]
      simp only [brL, List.mem_cons, List.not_mem_nil, or_false, forall_eq_or_imp, forall_eq] at h2
      simp [Lit.sameKey]
      omega
    dsimp only
    rw [h4]
def otherP (c : Int) : Int × Bool × Bool := match brL.find? (fun p => decide (p.1 = c)) with
  | some p => (p.2, true, true)
  | none => match brL.find? (fun p => decide (p.2 = c)) with
    | some p => (p.1, false, true)
    | none => (0, false, false)
theorem br_uniq (p q : Int × Int) (hp : p ∈ brL) (hq : q ∈ brL) (h : p.2 = q.2) : p = q := by
  simp only [brL, List.mem_cons, List.not_mem_nil, or_false] at hp hq
  rcases hp with rfl | rfl | rfl | rfl | rfl | rfl | rfl | rfl | rfl <;> rcases hq with rfl | rfl | rfl | rfl | rfl | rfl | rfl | rfl | rfl <;> first | rfl | (exfalso; revert h; decide)
theorem br_mem (x v : Int) (h : ∀ zd : DataW Unit, brD.atKey (.int .i64 x) zd = .lit (.int .i64 v)) : (x, v) ∈ brL := by
  have h1 := h (.lit (.int .i64 (v + 1)))
  rw [br_at] at h1
  cases hf : brL.find? (fun p => decide (p.1 = x)) with
  | none =>
    rw [hf] at h1
    injection h1 with h1
    injection h1 with _ h1
    omega
  | some p =>
    rw [hf] at h1
    have hm := List.mem_of_find?_eq_some hf
    have hp := List.find?_some hf
    simp only [decide_eq_true_eq] at hp
    have h2 : p.2 = v := by injection h1 with h1; injection h1
    rw [← hp, ← h2]
    exact hm
theorem wf_of (c : Int) (h0 : -9223372036854775808 ≤ c) (h1 : c ≤ 9223372036854775807) : (Lit.int .i64 c).wf = true := by
  simp [Lit.wf, IntKind.min, IntKind.max, IntKind.signed, IntKind.bits]
  omega
set_option maxRecDepth 100000 in
set_option maxHeartbeats 1000000 in
theorem other_calls (c : Int) (h0 : -9223372036854775808 ≤ c) (h1 : c ≤ 9223372036854775807) (w : World) :
    Calls Tryz.prog 57 #[.int .i64 c] w fun e w' => e = .returned (.tuple #[.int .i64 (otherP c).1, .bool (otherP c).2.1, .bool (otherP c).2.2]) ∧ Below w.heap.size w w' := by
  have hwf := wf_of c h0 h1
  have hkey := key3 c hwf
  have HO := Aside0.mk (show otherP c = match brL.find? (fun p => decide (p.1 = c)) with
    | some p => (p.2, true, true)
    | none => match brL.find? (fun p => decide (p.2 = c)) with
      | some p => (p.1, false, true)
      | none => (0, false, false) from rfl)
  have HH := Aside0.mk (br_has c)
  have HA := Aside0.mk (br_at c)
  have HK := Aside0.mk hkey
  clear hkey h0 h1 hwf
  generalize otherP c = R at *
  go_enter Tryz.func57, Tryz.ntmps57
  go_wp2_with fail
  refine (brackets_calls w).mono ?_
  rintro e w1 ⟨rfl, ho1, hb1⟩
  have HO1 := Aside0.mk ho1
  have HB1 := Aside0.mk hb1
  clear ho1 hb1
  cases hf : brL.find? (fun p => decide (p.1 = c)) with
  | some p =>
    have HE := Aside0.mk (show R = (p.2, true, true) by rw [HO.out, hf])
    have hh : Maps.has brD (.int .i64 c) = true := by
      rw [HH.out, List.any_eq_true]
      exact ⟨p, List.mem_of_find?_eq_some hf, by have h5 := List.find?_some hf; simpa using h5⟩
    have HAT := Aside0.mk (show brD.atKey (.int .i64 c) (.lit (.int .i64 0)) = .lit (.int .i64 p.2) by rw [HA.out, hf])
    have HHH := Aside0.mk hh
    clear hf hh
    go_wp2_with (first
      | (at_lookup; refine wpList_lookup_own_ok_int _ rfl _ _ 105 rfl 3 3 .i64 law3 Tryz.underlying105 Tryz.underlying3 (zero3 _) w.heap.size 9 brD (by rfl) HO1.out (.int .i64 c) (.int .i64 c) (by rfl) HK.out ?_; intro c1 hat hwc; obtain rfl : p.2 = c1 := (by have h5 := HAT.out.symm.trans hat; injection h5 with h5; injection h5); rw [HHH.out])
      | fail)
    go_ret3
    exact ⟨by rw [HE.out]; rfl, HB1.out⟩
  | none =>
    have HN := Aside0.mk hf
    have hh : Maps.has brD (.int .i64 c) = false := by
      rw [HH.out, List.any_eq_false]
      intro q hq
      have := List.find?_eq_none.1 hf q hq
      simpa using this
    have HHH := Aside0.mk hh
    have HAT := Aside0.mk (show brD.atKey (.int .i64 c) (.lit (.int .i64 0)) = .lit (.int .i64 0) by rw [HA.out, hf])
    clear hf hh
    go_wp2_with (first
      | (at_lookup; refine wpList_lookup_own_ok_int _ rfl _ _ 105 rfl 3 3 .i64 law3 Tryz.underlying105 Tryz.underlying3 (zero3 _) w.heap.size 9 brD (by rfl) HO1.out (.int .i64 c) (.int .i64 c) (by rfl) HK.out ?_; intro c1 hat hwc; obtain rfl : 0 = c1 := (by have h5 := HAT.out.symm.trans hat; injection h5 with h5; injection h5); rw [HHH.out])
      | (at_range; refine wpList_range_own _ rfl _ 105 rfl 3 3 law3 Tryz.underlying105 _ w.heap.size 9 brD (by rfl) HO1.out ?_; intro w2 hrg2 hg2 hs2)
      | fail)
    go_frame
    have HR2 := Aside0.mk hrg2
    have HB2 := Aside0.mk (HB1.out.grown hg2 HB1.out.size (fun j hj => by cases hj))
    clear hrg2 hg2
    go_loopw [6] (fun _ wr => ∃ (left : Lit → Bool) (cnt : Nat), wr.ranges Tryz.prog 3 (plainElem (H := Unit) Tryz.prog 3) w.heap.size w1.heap.size 9 brD left cnt ∧ Aside0 (Below w.heap.size w wr) ∧ Aside0 (∀ p ∈ brL, p.2 = c → left (.int .i64 p.1) = true)) (fun _ wr => wr.rangeLeft w.heap.size w1.heap.size)
    case atStart => exact ⟨_, _, HR2.out, HB2, ⟨fun p hp _ => by rw [br_has]; rw [List.any_eq_true]; exact ⟨p, hp, by simp⟩⟩⟩
    case round =>
      obtain ⟨left, cnt, hrg, HB, HL⟩ := hrel
      go_wp2_with (first
        | (at_next; refine wpList_next_ranges_ii _ rfl _ rfl 3 3 .i64 .i64 law3 Tryz.underlying3 Tryz.underlying3 w.heap.size w1.heap.size 9 brD _ _ (by rfl) hrg ?_ ?_)
        | fail)
      · intro hc0 hl0
        have HE := Aside0.mk (show R = (0, false, false) by
          rw [HO.out, HN.out]
          have : brL.find? (fun p => decide (p.2 = c)) = none := by
            rw [List.find?_eq_none]
            intro p hp hc
            have h5 := HL.out p hp (by simpa using hc)
            rw [hl0] at h5
            cases h5
          rw [this])
        clear hl0
        go_wp2
        go_ret3
        exact ⟨by rw [HE.out]; rfl, HB.out⟩
      · intro x v w3 cnt1 hwx hwc hlx hat hrg3 hlt hg3 hs3 hen
        have HM := Aside0.mk (br_mem x v hat)
        have HB3 := Aside0.mk (HB.out.grown hg3 HB.out.size (fun j hj => by cases hj; exact HB1.out.size))
        have HRG := Aside0.mk hrg3
        have HLT := Aside0.mk hlt
        have HR0 := Aside0.mk hrg
        clear hlt hg3 hat hlx hrg3 hrg
        by_cases hvc : v = c
        · have q : (v == c) = true := by simpa using hvc
          have HE := Aside0.mk (show R = (x, false, true) by
            rw [HO.out, HN.out]
            cases h5 : brL.find? (fun p => decide (p.2 = c)) with
            | none => exact absurd (by simpa using hvc) (by simpa using List.find?_eq_none.1 h5 (x, v) HM.out)
            | some p =>
              have h6 := List.find?_some h5
              simp only [decide_eq_true_eq] at h6
              rw [br_uniq p (x, v) (List.mem_of_find?_eq_some h5) HM.out (h6.trans hvc.symm)])
          have HV := Aside0.mk hvc
          clear hvc
          go_wp2
          go_ret3
          exact ⟨by rw [HE.out]; rfl, HB3.out⟩
        · have q : (v == c) = false := by simpa using hvc
          have HV := Aside0.mk hvc
          clear hvc
          go_wp2
          go_roundw
          case rel => exact ⟨_, cnt1, HRG.out, HB3, ⟨fun p hp hc => by
            rw [HL.out p hp hc]
            have : (Lit.int .i64 p.1).sameKey (.int .i64 x) = false := by
              simp only [Lit.sameKey, true_and, decide_eq_false_iff_not]
              intro e
              have hmx : ∀ p ∈ brL, p.1 = x → p.2 = v := fun p hp e => by
                have h7 := HM.out
                revert hp h7
                simp only [brL, List.mem_cons, List.not_mem_nil, or_false, Prod.mk.injEq]
                intro hp h7
                rcases hp with rfl | rfl | rfl | rfl | rfl | rfl | rfl | rfl | rfl <;> (dsimp only at e ⊢; omega)
              exact HV.out ((hmx p hp e).symm.trans hc)
            rw [this]; rfl⟩⟩
          case measure => rw [HRG.out.left_eq, HR0.out.left_eq]; exact HLT.out
end Go.Proofs.YtglolcejfbhbdaaGreat.P
end
section
namespace Go.Proofs.YtglolcejfbhbdaaGreat.P
open Go.RowKit Go.Maps Go.Proofs.YtglolcejfbhbdaaGreatW.PrintWords Go.Proofs.YtglolcejfbhbdaaGreatW.PrintLast Go.Proofs.YtglolcejfbhbdaaGreatW.PrintMore
set_option linter.unusedVariables false
set_option linter.unusedSimpArgs false
def mirL : List (Int × Int) := [(60, 62), (62, 60), (171, 187), (187, 171), (8804, 8805), (8805, 8804), (8810, 8811), (8811, 8810)]
def mirrorP (c : Int) : Int := match mirL.find? (fun p => decide (p.1 = c)) with
  | some p => p.2
  | none => if (otherP c).2.2 = true then (otherP c).1 else c
set_option maxRecDepth 100000 in
theorem mirror_at (p : Int × Int) (hp : p ∈ mirL) (w : World) : Calls Tryz.prog 35 #[.int .i64 p.1] w fun e w' => e = .returned (.int .i64 p.2) ∧ Below w.heap.size w w' := by
  simp only [mirL, List.mem_cons, List.not_mem_nil, or_false] at hp
  rcases hp with rfl | rfl | rfl | rfl | rfl | rfl | rfl | rfl
  all_goals
    go_enter Tryz.func35, Tryz.ntmps35
    go_wp2_with fail
    go_ret
    exact ⟨rfl, Below.refl _ _⟩
set_option maxRecDepth 100000 in
theorem mirror_else (c : Int) (h0 : -9223372036854775808 ≤ c) (h1 : c ≤ 9223372036854775807) (hn : ∀ p ∈ mirL, ¬ p.1 = c) (w : World) :
    Calls Tryz.prog 35 #[.int .i64 c] w fun e w' => e = .returned (.int .i64 (if (otherP c).2.2 = true then (otherP c).1 else c)) ∧ Below w.heap.size w w' := by
  simp only [mirL, List.mem_cons, List.not_mem_nil, or_false, forall_eq_or_imp, forall_eq] at hn
  have hcall := other_calls c h0 h1 w
  generalize otherP c = R at hcall ⊢
  obtain ⟨o, b1, b2⟩ := R
  dsimp only at hcall ⊢
  have q60 : (c == 60) = false := by simp; omega
  have q62 : (c == 62) = false := by simp; omega
  have q171 : (c == 171) = false := by simp; omega
  have q187 : (c == 187) = false := by simp; omega
  have q8804 : (c == 8804) = false := by simp; omega
  have q8805 : (c == 8805) = false := by simp; omega
  have q8810 : (c == 8810) = false := by simp; omega
  have q8811 : (c == 8811) = false := by simp; omega
  clear hn h0 h1
  cases b2 with
  | true =>
    go_enter Tryz.func35, Tryz.ntmps35
    go_wp2_with fail
    refine hcall.mono ?_
    rintro e w1 ⟨rfl, hb⟩
    go_wp2_with fail
    go_ret
    exact ⟨rfl, hb⟩
  | false =>
    go_enter Tryz.func35, Tryz.ntmps35
    go_wp2_with fail
    refine hcall.mono ?_
    rintro e w1 ⟨rfl, hb⟩
    go_wp2_with fail
    go_ret
    exact ⟨rfl, hb⟩
theorem mirror_calls (c : Int) (h0 : -9223372036854775808 ≤ c) (h1 : c ≤ 9223372036854775807) (w : World) :
    Calls Tryz.prog 35 #[.int .i64 c] w fun e w' => e = .returned (.int .i64 (mirrorP c)) ∧ Below w.heap.size w w' := by
  unfold mirrorP
  cases h : mirL.find? (fun p => decide (p.1 = c)) with
  | some p =>
    have hm := List.mem_of_find?_eq_some h
    have hp : p.1 = c := by have h5 := List.find?_some h; simpa using h5
    subst hp
    exact mirror_at p hm w
  | none => exact mirror_else c h0 h1 (fun p hp e => by have := List.find?_eq_none.1 h p hp; simp [e] at this) w
end Go.Proofs.YtglolcejfbhbdaaGreat.P
end
