/- Part 9 of what the three laws on sets of ranges share: the words of the walks, contracts of the functions that they reach, and plain lemmas. No conditions. -/
import Derived.Test.YtglolcejfbhbdaaGreatC08
section
namespace Go.Proofs.YtglolcejfbhbdaaGreat.P
open Go.RowKit Go.Shelf Go.Proofs.YtglolcejfbhbdaaGreatW.PrintWords Go.Proofs.YtglolcejfbhbdaaGreatW.PrintLast Go.Proofs.YtglolcejfbhbdaaGreatW.PrintMore
set_option linter.unusedVariables false
set_option linter.unusedSimpArgs false
inductive PR where
  | ok (n : S35) (rest : List S68)
  | bad (at_ er : Int)
def atomP (orP : Int → List S68 → PR) (en fl deep : Int) : List S68 → PR
  | [] => .bad 0 0
  | t :: ts =>
    if t.f0 = 6 then .bad t.f4 5
    else if t.f0 = 3 then
      if deep = 20 then .bad t.f4 9
      else match orP (deep + 1) ts with
        | .bad a e => .bad a e
        | .ok n rest => if isTok [4] rest = true then .ok n rest.tail else .bad en 4
    else if t.f0 = 10 then .ok ⟨6, [], 0, 0, []⟩ ts
    else if t.f0 = 11 then .ok ⟨7, [], 0, 0, []⟩ ts
    else if t.f0 = 7 then .ok ⟨2, roundP fl (decide (t.f1 = 1)) ts, 0, 0, []⟩ (classP fl ts []).2
    else if t.f0 = 2 then .ok ⟨2, anyP fl, 0, 0, []⟩ ts
    else .ok ⟨2, setP fl t, 0, 0, []⟩ ts
def lazyOff (ts : List S68) : List S68 := if isTok [13] ts = true then ts.tail else ts
def pieceP (orP : Int → List S68 → PR) (en fl deep : Int) (ts : List S68) : PR :=
  match atomP orP en fl deep ts with
  | .bad a e => .bad a e
  | .ok n [] => .ok n []
  | .ok n (t :: r) =>
    if t.f0 = 6 then
      match lazyOff r with
      | [] => .ok ⟨5, [], t.f2, t.f3, [n]⟩ []
      | u :: v => if u.f0 = 6 then .bad u.f4 5 else .ok ⟨5, [], t.f2, t.f3, [n]⟩ (u :: v)
    else .ok n (t :: r)
def joinGo (orP : Int → List S68 → PR) (en fl deep : Int) : Nat → List S68 → List S35 → PR
  | 0, _, _ => .bad 0 0
  | k + 1, ts, kids =>
    if ts = [] ∨ isTok [5, 4] ts = true then .ok (severalP 3 kids) ts
    else match pieceP orP en fl deep ts with
      | .bad a e => .bad a e
      | .ok n rest => joinGo orP en fl deep k rest (kids ++ [n])
def joinP (orP : Int → List S68 → PR) (en fl deep : Int) (ts : List S68) : PR := joinGo orP en fl deep (ts.length + 1) ts []
def orGo (orP : Int → List S68 → PR) (en fl deep : Int) : Nat → List S68 → List S35 → PR
  | 0, _, _ => .bad 0 0
  | k + 1, ts, kids =>
    if isTok [5] ts = true then
      match joinP orP en fl deep ts.tail with
      | .bad a e => .bad a e
      | .ok n rest => orGo orP en fl deep k rest (kids ++ [n])
    else .ok (severalP 4 kids) ts
def orT (orP : Int → List S68 → PR) (en fl deep : Int) (ts : List S68) : PR :=
  match joinP orP en fl deep ts with
  | .bad a e => .bad a e
  | .ok n rest => orGo orP en fl deep (rest.length + 1) rest [n]
def orP (en fl : Int) : Nat → Int → List S68 → PR
  | 0, _, _ => .bad 0 0
  | k + 1, deep, ts => orT (orP en fl k) en fl deep ts
def wfT : Nat → List S68 → Prop
  | s, [] => s ≠ 1
  | s, t :: ts =>
    if s = 1 then (if t.f0 = 8 then wfT 0 ts else okSet t ∧ wfT 1 ts)
    else if t.f0 = 7 then wfT 1 ts
    else if t.f0 = 6 then (-1 ≤ t.f2 ∧ wfT 2 ts)
    else if t.f0 = 13 then (s = 2 ∧ wfT 0 ts)
    else ((t.f0 = 2 ∨ t.f0 = 3 ∨ t.f0 = 4 ∨ t.f0 = 5 ∨ t.f0 = 10 ∨ t.f0 = 11 ∨ okSet t) ∧ wfT 0 ts)
theorem wfT_02 : ∀ ts, wfT 0 ts → wfT 2 ts
  | [], _ => by simp [wfT]
  | t :: ts, h => by
    unfold wfT at h ⊢
    simp only [show ¬ (0 : Nat) = 1 by decide, show ¬ (2 : Nat) = 1 by decide, if_false] at h ⊢
    repeat' split
    all_goals simp_all
theorem clsT_of : ∀ ts, wfT 1 ts → clsT ts
  | [], h => by simp [wfT] at h
  | t :: ts, h => by
    unfold wfT at h
    rw [if_pos rfl] at h
    unfold clsT
    by_cases h8 : t.f0 = 8
    · exact .inl h8
    · rw [if_neg h8] at h
      exact .inr ⟨h.1, clsT_of ts h.2⟩
theorem classP_wf (fl : Int) : ∀ (ts : List S68) (all : List S30), wfT 1 ts → wfT 0 (classP fl ts all).2 ∧ (classP fl ts all).2.length ≤ ts.length
  | [], all, h => by simp [wfT] at h
  | t :: ts, all, h => by
    unfold wfT at h
    rw [if_pos rfl] at h
    unfold classP
    by_cases h8 : t.f0 = 8
    · rw [if_pos h8] at h ⊢
      exact ⟨h, by simp⟩
    · rw [if_neg h8] at h ⊢
      have := classP_wf fl ts (setL (all ++ setP fl t)) h.2
      exact ⟨this.1, by simp; omega⟩
theorem lazyOff_wf (ts : List S68) (h : wfT 2 ts) : wfT 0 (lazyOff ts) ∧ (lazyOff ts).length ≤ ts.length := by
  unfold lazyOff
  cases ts with
  | nil => exact ⟨by simp [wfT, isTok], by simp [isTok]⟩
  | cons t r =>
    rw [isTok1]
    unfold wfT at h
    simp only [show ¬ (2 : Nat) = 1 by decide, if_false] at h
    by_cases h13 : t.f0 = 13
    · rw [if_pos (by simpa using h13)]
      rw [if_neg (by omega), if_neg (by omega), if_pos h13] at h
      exact ⟨h.2, by simp⟩
    · rw [if_neg (by simpa using h13)]
      refine ⟨?_, Nat.le_refl _⟩
      unfold wfT
      simp only [show ¬ (0 : Nat) = 1 by decide, if_false]
      by_cases h7 : t.f0 = 7
      · rw [if_pos h7] at h ⊢; exact h
      · rw [if_neg h7] at h ⊢
        by_cases h6 : t.f0 = 6
        · rw [if_pos h6] at h ⊢; exact h
        · rw [if_neg h6, if_neg h13] at h ⊢; exact h
def Good (ts : List S68) : PR → Prop
  | .bad _ _ => True
  | .ok n rest => wfT 0 rest ∧ rest.length ≤ ts.length ∧ LoOk n
def Good1 (ts : List S68) : PR → Prop
  | .bad _ _ => True
  | .ok n rest => wfT 0 rest ∧ rest.length < ts.length ∧ LoOk n
theorem lo_leaf (k : Int) (l : List S30) : LoOk ⟨k, l, 0, 0, []⟩ := by
  rw [LoOk, LoOkL]; exact ⟨by omega, trivial⟩
theorem wf_tail {t : S68} {ts : List S68} (h : wfT 0 (t :: ts)) (h7 : ¬ t.f0 = 7) (h6 : ¬ t.f0 = 6) : wfT 0 ts ∧ ¬ t.f0 = 13 ∧ (t.f0 = 2 ∨ t.f0 = 3 ∨ t.f0 = 4 ∨ t.f0 = 5 ∨ t.f0 = 10 ∨ t.f0 = 11 ∨ okSet t) := by
  unfold wfT at h
  simp only [show ¬ (0 : Nat) = 1 by decide, if_false] at h
  rw [if_neg h7, if_neg h6] at h
  by_cases h13 : t.f0 = 13
  · rw [if_pos h13] at h; exact absurd h.1 (by decide)
  · rw [if_neg h13] at h; exact ⟨h.2, h13, h.1⟩
theorem wf_tail7 {t : S68} {ts : List S68} (h : wfT 0 (t :: ts)) (h7 : t.f0 = 7) : wfT 1 ts := by
  unfold wfT at h
  simp only [show ¬ (0 : Nat) = 1 by decide, if_false] at h
  rwa [if_pos h7] at h
theorem wf_tail6 {t : S68} {ts : List S68} (h : wfT 0 (t :: ts)) (h6 : t.f0 = 6) : -1 ≤ t.f2 ∧ wfT 2 ts := by
  unfold wfT at h
  simp only [show ¬ (0 : Nat) = 1 by decide, if_false] at h
  rwa [if_neg (by omega), if_pos h6] at h
section
variable {orP : Int → List S68 → PR} {en fl : Int}
theorem atomP_good (hor : ∀ deep ts, wfT 0 ts → Good ts (orP deep ts)) (deep : Int) (t : S68) (ts : List S68) (h : wfT 0 (t :: ts)) : Good1 (t :: ts) (atomP orP en fl deep (t :: ts)) := by
  unfold atomP
  dsimp only
  by_cases h6 : t.f0 = 6
  · rw [if_pos h6]; trivial
  rw [if_neg h6]
  by_cases h7 : t.f0 = 7
  · rw [if_neg (by omega), if_neg (by omega), if_neg (by omega), if_pos h7]
    have := classP_wf fl ts [] (wf_tail7 h h7)
    exact ⟨this.1, by simp; omega, lo_leaf _ _⟩
  obtain ⟨hw, h13, hk⟩ := wf_tail h h7 h6
  by_cases h3 : t.f0 = 3
  · rw [if_pos h3]
    by_cases hd : deep = 20
    · rw [if_pos hd]; trivial
    rw [if_neg hd]
    have hg := hor (deep + 1) ts hw
    cases ho : orP (deep + 1) ts with
    | bad a e => trivial
    | ok n rest =>
      rw [ho] at hg
      obtain ⟨g1, g2, g3⟩ := hg
      dsimp only
      cases rest with
      | nil => rw [if_neg (by simp [isTok])]; trivial
      | cons u v =>
        rw [isTok1]
        by_cases h4 : u.f0 = 4
        · rw [if_pos (by simpa using h4)]
          exact ⟨(wf_tail g1 (by omega) (by omega)).1, by simp at g2 ⊢; omega, g3⟩
        · rw [if_neg (by simpa using h4)]; trivial
  rw [if_neg h3, if_neg h7]
  repeat' split
  all_goals exact ⟨hw, by simp, lo_leaf _ _⟩
theorem pieceP_good (hor : ∀ deep ts, wfT 0 ts → Good ts (orP deep ts)) (deep : Int) (t : S68) (ts : List S68) (h : wfT 0 (t :: ts)) : Good1 (t :: ts) (pieceP orP en fl deep (t :: ts)) := by
  have ha := atomP_good (en := en) (fl := fl) hor deep t ts h
  unfold pieceP
  cases hq : atomP orP en fl deep (t :: ts) with
  | bad a e => trivial
  | ok n rest =>
    rw [hq] at ha
    obtain ⟨g1, g2, g3⟩ := ha
    cases rest with
    | nil => exact ⟨g1, g2, g3⟩
    | cons u r =>
      dsimp only
      by_cases h6 : u.f0 = 6
      · rw [if_pos h6]
        obtain ⟨w1, w2⟩ := wf_tail6 g1 h6
        have hl := lazyOff_wf r w2
        have hlo : LoOk ⟨5, [], u.f2, u.f3, [n]⟩ := by
          rw [LoOk, LoOkL, LoOkL]; exact ⟨w1, g3, trivial⟩
        cases hz : lazyOff r with
        | nil => exact ⟨by simp [wfT], by simp, hlo⟩
        | cons x y =>
          rw [hz] at hl
          dsimp only
          by_cases hx : x.f0 = 6
          · rw [if_pos hx]; trivial
          · rw [if_neg hx]
            exact ⟨hl.1, by simp at g2 hl ⊢; omega, hlo⟩
      · rw [if_neg h6]
        exact ⟨g1, g2, g3⟩
theorem several_lo (k : Int) (kids : List S35) (h : LoOkL kids) : LoOk (severalP k kids) := by
  match kids, h with
  | [], _ => exact lo_leaf _ _
  | [x], h => rw [LoOkL] at h; exact h.1
  | x :: y :: r, h => rw [severalP_two, LoOk]; exact ⟨by omega, h⟩
theorem joinGo_good (hor : ∀ deep ts, wfT 0 ts → Good ts (orP deep ts)) (deep : Int) : ∀ (k : Nat) (ts : List S68) (kids : List S35), wfT 0 ts → LoOkL kids → Good ts (joinGo orP en fl deep k ts kids)
  | 0, ts, kids, _, _ => trivial
  | k + 1, ts, kids, h, hk => by
    unfold joinGo
    by_cases hc : ts = [] ∨ isTok [5, 4] ts = true
    · rw [if_pos hc]; exact ⟨h, Nat.le_refl _, several_lo _ _ hk⟩
    · rw [if_neg hc]
      cases ts with
      | nil => exact absurd (.inl rfl) hc
      | cons t r =>
        have hp := pieceP_good (en := en) (fl := fl) hor deep t r h
        cases hq : pieceP orP en fl deep (t :: r) with
        | bad a e => trivial
        | ok n rest =>
          rw [hq] at hp
          obtain ⟨g1, g2, g3⟩ := hp
          have hr := joinGo_good hor deep k rest (kids ++ [n]) g1 (LoOkL_append _ _ hk (by rw [LoOkL, LoOkL]; exact ⟨g3, trivial⟩))
          dsimp only
          cases hz : joinGo orP en fl deep k rest (kids ++ [n]) with
          | bad a e => trivial
          | ok m rr =>
            rw [hz] at hr
            exact ⟨hr.1, by have := hr.2.1; omega, hr.2.2⟩
theorem joinP_good (hor : ∀ deep ts, wfT 0 ts → Good ts (orP deep ts)) (deep : Int) (ts : List S68) (h : wfT 0 ts) : Good ts (joinP orP en fl deep ts) :=
  joinGo_good hor deep _ ts [] h (by rw [LoOkL]; trivial)
theorem orGo_good (hor : ∀ deep ts, wfT 0 ts → Good ts (orP deep ts)) (deep : Int) : ∀ (k : Nat) (ts : List S68) (kids : List S35), wfT 0 ts → LoOkL kids → Good ts (orGo orP en fl deep k ts kids)
  | 0, ts, kids, _, _ => trivial
  | k + 1, ts, kids, h, hk => by
    unfold orGo
    by_cases hc : isTok [5] ts = true
    · rw [if_pos hc]
      cases ts with
      | nil => simp [isTok] at hc
      | cons t r =>
        rw [isTok1] at hc
        have h5 : t.f0 = 5 := by simpa using hc
        have hp := joinP_good (en := en) (fl := fl) hor deep r (wf_tail h (by omega) (by omega)).1
        simp only [List.tail_cons]
        cases hq : joinP orP en fl deep r with
        | bad a e => trivial
        | ok n rest =>
          rw [hq] at hp
          obtain ⟨g1, g2, g3⟩ := hp
          have hr := orGo_good hor deep k rest (kids ++ [n]) g1 (LoOkL_append _ _ hk (by rw [LoOkL, LoOkL]; exact ⟨g3, trivial⟩))
          dsimp only
          cases hz : orGo orP en fl deep k rest (kids ++ [n]) with
          | bad a e => trivial
          | ok m rr =>
            rw [hz] at hr
            exact ⟨hr.1, by have := hr.2.1; simp; omega, hr.2.2⟩
    · rw [if_neg hc]
      exact ⟨h, Nat.le_refl _, several_lo _ _ hk⟩
theorem orT_good (hor : ∀ deep ts, wfT 0 ts → Good ts (orP deep ts)) (deep : Int) (ts : List S68) (h : wfT 0 ts) : Good ts (orT orP en fl deep ts) := by
  unfold orT
  have hp := joinP_good (en := en) (fl := fl) hor deep ts h
  cases hq : joinP orP en fl deep ts with
  | bad a e => trivial
  | ok n rest =>
    rw [hq] at hp
    obtain ⟨g1, g2, g3⟩ := hp
    have hr := orGo_good (en := en) (fl := fl) hor deep (rest.length + 1) rest [n] g1 (by rw [LoOkL, LoOkL]; exact ⟨g3, trivial⟩)
    dsimp only
    cases hz : orGo orP en fl deep (rest.length + 1) rest [n] with
    | bad a e => trivial
    | ok m rr =>
      rw [hz] at hr
      exact ⟨hr.1, by have := hr.2.1; omega, hr.2.2⟩
end
theorem orP_good (en fl : Int) : ∀ (k : Nat) (deep : Int) (ts : List S68), wfT 0 ts → Good ts (orP en fl k deep ts)
  | 0, _, _, _ => trivial
  | k + 1, deep, ts, h => orT_good (fun d t ht => orP_good en fl k d t ht) deep ts h
end Go.Proofs.YtglolcejfbhbdaaGreat.P
end
section
namespace Go.Proofs.YtglolcejfbhbdaaGreat.P
open Go.RowKit Go.Shelf Go.Proofs.YtglolcejfbhbdaaGreatW.PrintWords Go.Proofs.YtglolcejfbhbdaaGreatW.PrintLast Go.Proofs.YtglolcejfbhbdaaGreatW.PrintMore
set_option linter.unusedVariables false
set_option linter.unusedSimpArgs false
structure NodeOk (w0 : World) (g : Nat) (en fl : Int) (rest : List S68) (W : World) (n : S35) (e : Ending) (w : World) : Prop where
  ret : ∃ cs, e = .returned (.agg cs.toArray) ∧ Kd.FK k35 w (fun k => W.heap.size ≤ k) n cs
  st : Rdr w0 g en fl rest w
  keep : KeepBut W w g none
def wrongV (at_ e : Int) : List PanicEntry := [{ v := .iface 61 (.agg #[.int .i64 at_, .int .i64 e]), recovered := false }]
structure NodeBad (w0 : World) (at_ er : Int) (e : Ending) (w : World) : Prop where
  pan : e = .panicked (wrongV at_ er)
  st : Below w0.heap.size w0 w
def NodePost (w0 : World) (g : Nat) (en fl : Int) (W : World) : PR → Ending → World → Prop
  | .ok n rest => NodeOk w0 g en fl rest W n
  | .bad a e => NodeBad w0 a e
def nodeZ : Obj := .cells #[.int .i64 0, .slice none 0 0, .int .i64 0, .int .i64 0, .slice none 0 0] 35
theorem node_cells {w : World} {b : Nat} {v0 v1 v2 v3 v4 : Value} (h : w.heap[b]? = some (.cells #[v0, v1, v2, v3, v4] 35 (0, 0))) :
    w.cell? ⟨b, 0, none⟩ = some v0 ∧ w.cell? ⟨b, 1, none⟩ = some v1 ∧ w.cell? ⟨b, 2, none⟩ = some v2 ∧ w.cell? ⟨b, 3, none⟩ = some v3 ∧ w.cell? ⟨b, 4, none⟩ = some v4 :=
  ⟨by simpa using blk_cell h 0, by simpa using blk_cell h 1, by simpa using blk_cell h 2, by simpa using blk_cell h 3, by simpa using blk_cell h 4⟩
theorem heap_set5 (W : World) (b : Nat) (v0 v1 v2 v3 v4 : Value) (k : Nat) (hk : k ≠ b) : (((((W.setCell ⟨b, 0, none⟩ v0).setCell ⟨b, 1, none⟩ v1).setCell ⟨b, 2, none⟩ v2).setCell ⟨b, 3, none⟩ v3).setCell ⟨b, 4, none⟩ v4).heap[k]? = W.heap[k]? := by
  rw [Below.heap_setCell _ _ _ k hk, Below.heap_setCell _ _ _ k hk, Below.heap_setCell _ _ _ k hk, Below.heap_setCell _ _ _ k hk, Below.heap_setCell _ _ _ k hk]
theorem Rdr.set5 {w0 : World} {g : Nat} {en fl : Int} {ts : List S68} {w : World} (h : Rdr w0 g en fl ts w) (b : Nat) (hb : g ≠ b) (h0 : w0.heap.size ≤ b) (v0 v1 v2 v3 v4 : Value) :
    Rdr w0 g en fl ts (((((w.setCell ⟨b, 0, none⟩ v0).setCell ⟨b, 1, none⟩ v1).setCell ⟨b, 2, none⟩ v2).setCell ⟨b, 3, none⟩ v3).setCell ⟨b, 4, none⟩ v4) :=
  ((((h.far _ hb h0 v0).far ⟨b, 1, none⟩ hb h0 v1).far ⟨b, 2, none⟩ hb h0 v2).far ⟨b, 3, none⟩ hb h0 v3).far ⟨b, 4, none⟩ hb h0 v4
theorem keep_set5 {w W : World} {g b : Nat} (h : KeepBut w W g none) (hb : w.heap.size ≤ b) (v0 v1 v2 v3 v4 : Value) :
    KeepBut w (((((W.setCell ⟨b, 0, none⟩ v0).setCell ⟨b, 1, none⟩ v1).setCell ⟨b, 2, none⟩ v2).setCell ⟨b, 3, none⟩ v3).setCell ⟨b, 4, none⟩ v4) g none :=
  keepNew (keepNew (keepNew (keepNew (keepNew h ⟨b, 0, none⟩ hb v0) ⟨b, 1, none⟩ hb v1) ⟨b, 2, none⟩ hb v2) ⟨b, 3, none⟩ hb v3) ⟨b, 4, none⟩ hb v4
theorem FK_set5 {α : Type} {d : Kd α} {W : World} {ok : Nat → Prop} {x : α} {c : List Value} (h : Kd.FK d W ok x c) (b : Nat) (hb : ∀ k, ok k → k ≠ b) (v0 v1 v2 v3 v4 : Value) :
    Kd.FK d (((((W.setCell ⟨b, 0, none⟩ v0).setCell ⟨b, 1, none⟩ v1).setCell ⟨b, 2, none⟩ v2).setCell ⟨b, 3, none⟩ v3).setCell ⟨b, 4, none⟩ v4) ok x c :=
  Kd.FK_step h (fun k hk _ => heap_set5 W b v0 v1 v2 v3 v4 k (hb k hk))
theorem FK_leaf (W : World) (ok : Nat → Prop) (k : Int) : Kd.FK k35 W ok ⟨k, [], 0, 0, []⟩ [.int .i64 k, .slice none 0 0, .int .i64 0, .int .i64 0, .slice none 0 0] :=
  FK35_mkF W ok ⟨k, [], 0, 0, []⟩ (Nat.le_refl _) (Kd.F_nil _ _ _) (Nat.le_refl _) (Kd.F_nil _ _ _)
theorem Rdr.en_cell {w0 : World} {g : Nat} {en fl : Int} {ts : List S68} {w : World} (h : Rdr w0 g en fl ts w) : w.cell? ⟨g, 1, none⟩ = some (.int .i64 en) := by
  obtain ⟨A, c, _, _, _, h2, _⟩ := h.cells
  exact h2
section
variable {w0 : World} {g : Nat} {en fl deep : Int} {t : S68} {ts : List S68} {w : World}
set_option maxRecDepth 100000 in
set_option maxHeartbeats 1000000 in
theorem atom_10 (h : Rdr w0 g en fl (t :: ts) w) (hk : t.f0 = 10) :
    Calls Tryz.prog 105 #[.pointer (some ⟨g, 0, none⟩), .int .i64 deep] w (NodeOk w0 g en fl ts w ⟨6, [], 0, 0, []⟩) := by
  have hglt := h.lt
  have hge := h.ge
  have HT := Aside0.mk (h.grow (below_alloc (Below.refl _ _) nodeZ))
  have HZ := Aside0.mk (blk_new w nodeZ)
  have e0 : (w.alloc nodeZ).heap.size = w.heap.size + 1 := by simp
  clear h
  have q6 : (t.f0 == 6) = false := by rw [hk]; rfl
  have q3 : (t.f0 == 3) = false := by rw [hk]; rfl
  have q10 : (t.f0 == 10) = true := by rw [hk]; rfl
  have HKD := Aside0.mk hk
  clear hk
  go_enter Tryz.func105, Tryz.ntmps105
  go_wp2_with fail
  refine (rnext_ok HT.out).mono ?_
  rintro e w1 ⟨rfl, hT1, hk1⟩
  have hz1 : w1.heap[w.heap.size]? = some nodeZ := hk1.blk HZ.out (by omega) (by simp)
  have HT1 := Aside0.mk (hT1.grow (below_alloc (Below.refl _ _) (tokB t)))
  have HK1 := Aside0.mk (keepTr (KeepBut.of_below (below_alloc (Below.refl w.heap.size w) nodeZ) g none) (keepAlloc hk1 (tokB t)))
  have HZ1 := Aside0.mk (blk_alloc hz1 (tokB t))
  have hx1 := tok_cells (t := t) (Below.refl _ (w1.alloc (tokB t)))
  have hs1 := hk1.1
  have hr1 := blk_lt hz1
  have hrf := blk_frozen hz1
  obtain ⟨z0, z1, z2, z3, z4⟩ := node_cells hz1
  have HTw := Aside0.mk hT1
  have HKw := Aside0.mk (keepTr (KeepBut.of_below (below_alloc (Below.refl w.heap.size w) nodeZ) g none) hk1)
  unfold tokV
  clear hT1 hk1 hz1
  go_wp2_with fail
  refine bodyPost_ret (v := .agg #[.int .i64 6, .slice none 0 0, .int .i64 0, .int .i64 0, .slice none 0 0]) (by simp [results, Tryz.results105, go_sem, z0, z1, z2, z3, z4, hr1, Nat.ne_of_lt hr1]) rfl ?_
  exact ⟨⟨_, rfl, FK_leaf _ _ 6⟩, (HTw.out.set5 w.heap.size (by omega) (by omega) _ _ _ _ _).grow (below_alloc (Below.refl _ _) _), keepAlloc (keep_set5 HKw.out (Nat.le_refl _) _ _ _ _ _) _⟩
set_option maxRecDepth 100000 in
set_option maxHeartbeats 1000000 in
theorem atom_11 (h : Rdr w0 g en fl (t :: ts) w) (hk : t.f0 = 11) :
    Calls Tryz.prog 105 #[.pointer (some ⟨g, 0, none⟩), .int .i64 deep] w (NodeOk w0 g en fl ts w ⟨7, [], 0, 0, []⟩) := by
  have hglt := h.lt
  have hge := h.ge
  have HT := Aside0.mk (h.grow (below_alloc (Below.refl _ _) nodeZ))
  have HZ := Aside0.mk (blk_new w nodeZ)
  have e0 : (w.alloc nodeZ).heap.size = w.heap.size + 1 := by simp
  clear h
  have q6 : (t.f0 == 6) = false := by rw [hk]; rfl
  have q3 : (t.f0 == 3) = false := by rw [hk]; rfl
  have q10 : (t.f0 == 10) = false := by rw [hk]; rfl
  have q11 : (t.f0 == 11) = true := by rw [hk]; rfl
  have HKD := Aside0.mk hk
  clear hk
  go_enter Tryz.func105, Tryz.ntmps105
  go_wp2_with fail
  refine (rnext_ok HT.out).mono ?_
  rintro e w1 ⟨rfl, hT1, hk1⟩
  have hz1 : w1.heap[w.heap.size]? = some nodeZ := hk1.blk HZ.out (by omega) (by simp)
  have HT1 := Aside0.mk (hT1.grow (below_alloc (Below.refl _ _) (tokB t)))
  have HK1 := Aside0.mk (keepTr (KeepBut.of_below (below_alloc (Below.refl w.heap.size w) nodeZ) g none) (keepAlloc hk1 (tokB t)))
  have HZ1 := Aside0.mk (blk_alloc hz1 (tokB t))
  have hx1 := tok_cells (t := t) (Below.refl _ (w1.alloc (tokB t)))
  have hs1 := hk1.1
  have hr1 := blk_lt hz1
  have hrf := blk_frozen hz1
  obtain ⟨z0, z1, z2, z3, z4⟩ := node_cells hz1
  have HTw := Aside0.mk hT1
  have HKw := Aside0.mk (keepTr (KeepBut.of_below (below_alloc (Below.refl w.heap.size w) nodeZ) g none) hk1)
  unfold tokV
  clear hT1 hk1 hz1
  go_wp2_with fail
  refine bodyPost_ret (v := .agg #[.int .i64 7, .slice none 0 0, .int .i64 0, .int .i64 0, .slice none 0 0]) (by simp [results, Tryz.results105, go_sem, z0, z1, z2, z3, z4, hr1, Nat.ne_of_lt hr1]) rfl ?_
  exact ⟨⟨_, rfl, FK_leaf _ _ 7⟩, (HTw.out.set5 w.heap.size (by omega) (by omega) _ _ _ _ _).grow (below_alloc (Below.refl _ _) _), keepAlloc (keep_set5 HKw.out (Nat.le_refl _) _ _ _ _ _) _⟩
set_option maxRecDepth 100000 in
set_option maxHeartbeats 1000000 in
theorem atom_6 (h : Rdr w0 g en fl (t :: ts) w) (hk : t.f0 = 6) :
    Calls Tryz.prog 105 #[.pointer (some ⟨g, 0, none⟩), .int .i64 deep] w (NodeBad w0 t.f4 5) := by
  have hglt := h.lt
  have hge := h.ge
  have HT := Aside0.mk (h.grow (below_alloc (Below.refl _ _) nodeZ))
  have HZ := Aside0.mk (blk_new w nodeZ)
  have e0 : (w.alloc nodeZ).heap.size = w.heap.size + 1 := by simp
  clear h
  have q6 : (t.f0 == 6) = true := by rw [hk]; rfl
  have HKD := Aside0.mk hk
  clear hk
  go_enter Tryz.func105, Tryz.ntmps105
  go_wp2_with fail
  refine (rnext_ok HT.out).mono ?_
  rintro e w1 ⟨rfl, hT1, hk1⟩
  have hz1 : w1.heap[w.heap.size]? = some nodeZ := hk1.blk HZ.out (by omega) (by simp)
  have HT1 := Aside0.mk (hT1.grow (below_alloc (Below.refl _ _) (tokB t)))
  have HK1 := Aside0.mk (keepTr (KeepBut.of_below (below_alloc (Below.refl w.heap.size w) nodeZ) g none) (keepAlloc hk1 (tokB t)))
  have HZ1 := Aside0.mk (blk_alloc hz1 (tokB t))
  have hx1 := tok_cells (t := t) (Below.refl _ (w1.alloc (tokB t)))
  have hs1 := hk1.1
  have hr1 := blk_lt hz1
  have hrf := blk_frozen hz1
  obtain ⟨z0, z1, z2, z3, z4⟩ := node_cells hz1
  have HTw := Aside0.mk hT1
  have HKw := Aside0.mk (keepTr (KeepBut.of_below (below_alloc (Below.refl w.heap.size w) nodeZ) g none) hk1)
  unfold tokV
  clear hT1 hk1 hz1
  go_wp2_with fail
  exact ⟨rfl, rfl, HT1.out.below⟩
set_option maxRecDepth 100000 in
set_option maxHeartbeats 1000000 in
theorem atom_3deep (h : Rdr w0 g en fl (t :: ts) w) (hk : t.f0 = 3) (hd : deep = 20) :
    Calls Tryz.prog 105 #[.pointer (some ⟨g, 0, none⟩), .int .i64 deep] w (NodeBad w0 t.f4 9) := by
  have hglt := h.lt
  have hge := h.ge
  have HT := Aside0.mk (h.grow (below_alloc (Below.refl _ _) nodeZ))
  have HZ := Aside0.mk (blk_new w nodeZ)
  have e0 : (w.alloc nodeZ).heap.size = w.heap.size + 1 := by simp
  clear h
  have q6 : (t.f0 == 6) = false := by rw [hk]; rfl
  have q3 : (t.f0 == 3) = true := by rw [hk]; rfl
  have HKD := Aside0.mk hk
  clear hk
  have qd : (deep == 20) = true := by rw [hd]; rfl
  clear hd
  go_enter Tryz.func105, Tryz.ntmps105
  go_wp2_with fail
  refine (rnext_ok HT.out).mono ?_
  rintro e w1 ⟨rfl, hT1, hk1⟩
  have hz1 : w1.heap[w.heap.size]? = some nodeZ := hk1.blk HZ.out (by omega) (by simp)
  have HT1 := Aside0.mk (hT1.grow (below_alloc (Below.refl _ _) (tokB t)))
  have HK1 := Aside0.mk (keepTr (KeepBut.of_below (below_alloc (Below.refl w.heap.size w) nodeZ) g none) (keepAlloc hk1 (tokB t)))
  have HZ1 := Aside0.mk (blk_alloc hz1 (tokB t))
  have hx1 := tok_cells (t := t) (Below.refl _ (w1.alloc (tokB t)))
  have hs1 := hk1.1
  have hr1 := blk_lt hz1
  have hrf := blk_frozen hz1
  obtain ⟨z0, z1, z2, z3, z4⟩ := node_cells hz1
  have HTw := Aside0.mk hT1
  have HKw := Aside0.mk (keepTr (KeepBut.of_below (below_alloc (Below.refl w.heap.size w) nodeZ) g none) hk1)
  unfold tokV
  clear hT1 hk1 hz1
  go_wp2_with fail
  exact ⟨rfl, rfl, HT1.out.below⟩
set_option maxRecDepth 100000 in
set_option maxHeartbeats 1000000 in
theorem atom_2 (h : Rdr w0 g en fl (t :: ts) w) (hk : t.f0 = 2) :
    Calls Tryz.prog 105 #[.pointer (some ⟨g, 0, none⟩), .int .i64 deep] w (NodeOk w0 g en fl ts w ⟨2, anyP fl, 0, 0, []⟩) := by
  have hglt := h.lt
  have hge := h.ge
  have HT := Aside0.mk (h.grow (below_alloc (Below.refl _ _) nodeZ))
  have HZ := Aside0.mk (blk_new w nodeZ)
  have e0 : (w.alloc nodeZ).heap.size = w.heap.size + 1 := by simp
  clear h
  have q6 : (t.f0 == 6) = false := by rw [hk]; rfl
  have q3 : (t.f0 == 3) = false := by rw [hk]; rfl
  have q10 : (t.f0 == 10) = false := by rw [hk]; rfl
  have q11 : (t.f0 == 11) = false := by rw [hk]; rfl
  have q7 : (t.f0 == 7) = false := by rw [hk]; rfl
  have q2 : (t.f0 == 2) = true := by rw [hk]; rfl
  have HKD := Aside0.mk hk
  clear hk
  go_enter Tryz.func105, Tryz.ntmps105
  go_wp2_with fail
  refine (rnext_ok HT.out).mono ?_
  rintro e w1 ⟨rfl, hT1, hk1⟩
  have hz1 : w1.heap[w.heap.size]? = some nodeZ := hk1.blk HZ.out (by omega) (by simp)
  have HT1 := Aside0.mk (hT1.grow (below_alloc (Below.refl _ _) (tokB t)))
  have HK1 := Aside0.mk (keepTr (KeepBut.of_below (below_alloc (Below.refl w.heap.size w) nodeZ) g none) (keepAlloc hk1 (tokB t)))
  have HZ1 := Aside0.mk (blk_alloc hz1 (tokB t))
  have hx1 := tok_cells (t := t) (Below.refl _ (w1.alloc (tokB t)))
  have hs1 := hk1.1
  have hr1 := blk_lt hz1
  have hrf := blk_frozen hz1
  obtain ⟨z0, z1, z2, z3, z4⟩ := node_cells hz1
  have HTw := Aside0.mk hT1
  have HKw := Aside0.mk (keepTr (KeepBut.of_below (below_alloc (Below.refl w.heap.size w) nodeZ) g none) hk1)
  unfold tokV
  clear hT1 hk1 hz1
  have HZ1s := Aside0.mk HZ1.out
  have hcall := (any_ok HT1.out)
  go_wp2_with fail
  refine hcall.mono ?_
  rintro e w2 ⟨⟨v2, rfl, hR2⟩, hT2, hk2, _⟩
  have hz2 : w2.heap[w.heap.size]? = some nodeZ := hk2.blk HZ1.out (by omega) (by simp)
  obtain ⟨y0, y1, y2, y3, y4⟩ := node_cells hz2
  have hrf2 := blk_frozen hz2
  have hr2 := blk_lt hz2
  have HT2 := Aside0.mk hT2
  have HK2 := Aside0.mk (keepTr HK1.out hk2)
  obtain ⟨A2, c2, rfl⟩ := Kd.R_slice hR2
  have HL2 := Aside0.mk (Kd.R_reads' hR2).2.1
  have HR2 := Aside0.mk (Kd.R_F (Kd.R_mono (Kd.R_bound hR2) (ok' := fun k => w1.heap.size ≤ k) (fun k hk => by have h5 := hk.2.1; simp at h5; omega)))
  clear hR2 hT2 hk2 hz2 hcall z0 z1 z2 z3 z4 hx1
  generalize anyP fl = ll at *
  go_wp2_with fail
  refine bodyPost_ret (v := .agg #[.int .i64 2, .slice A2 ll.length c2, .int .i64 0, .int .i64 0, .slice none 0 0]) (by simp [results, Tryz.results105, go_sem, y0, y1, y2, y3, y4, hr2, Nat.ne_of_lt hr2]) rfl ?_
  exact ⟨⟨[.int .i64 2, .slice A2 ll.length c2, .int .i64 0, .int .i64 0, .slice none 0 0], rfl, Kd.FK_mono (FK_set5 (FK35_mkF w2 (fun k => w1.heap.size ≤ k) ⟨2, ll, 0, 0, []⟩ HL2.out HR2.out (Nat.le_refl _) (Kd.F_nil _ _ _)) w.heap.size (fun k hk => by omega) _ _ _ _ _) (fun k hk => by omega)⟩, HT2.out.set5 w.heap.size (by omega) (by omega) _ _ _ _ _, keep_set5 HK2.out (Nat.le_refl _) _ _ _ _ _⟩
set_option maxRecDepth 100000 in
set_option maxHeartbeats 1000000 in
theorem atom_7 (h : Rdr w0 g en fl (t :: ts) w) (hk : t.f0 = 7) (hc : clsT ts) :
    Calls Tryz.prog 105 #[.pointer (some ⟨g, 0, none⟩), .int .i64 deep] w (NodeOk w0 g en fl (classP fl ts []).2 w ⟨2, roundP fl (decide (t.f1 = 1)) ts, 0, 0, []⟩) := by
  have hglt := h.lt
  have hge := h.ge
  have HT := Aside0.mk (h.grow (below_alloc (Below.refl _ _) nodeZ))
  have HZ := Aside0.mk (blk_new w nodeZ)
  have e0 : (w.alloc nodeZ).heap.size = w.heap.size + 1 := by simp
  clear h
  have q6 : (t.f0 == 6) = false := by rw [hk]; rfl
  have q3 : (t.f0 == 3) = false := by rw [hk]; rfl
  have q10 : (t.f0 == 10) = false := by rw [hk]; rfl
  have q11 : (t.f0 == 11) = false := by rw [hk]; rfl
  have q7 : (t.f0 == 7) = true := by rw [hk]; rfl
  have HKD := Aside0.mk hk
  clear hk
  have HC := Aside0.mk hc
  have hbe : (t.f1 == 1) = decide (t.f1 = 1) := by rw [Bool.eq_iff_iff]; simp
  clear hc
  obtain ⟨rb, hrb⟩ : ∃ rb, decide (t.f1 = 1) = rb := ⟨_, rfl⟩
  rw [hrb] at hbe ⊢
  clear hrb
  go_enter Tryz.func105, Tryz.ntmps105
  go_wp2_with fail
  refine (rnext_ok HT.out).mono ?_
  rintro e w1 ⟨rfl, hT1, hk1⟩
  have hz1 : w1.heap[w.heap.size]? = some nodeZ := hk1.blk HZ.out (by omega) (by simp)
  have HT1 := Aside0.mk (hT1.grow (below_alloc (Below.refl _ _) (tokB t)))
  have HK1 := Aside0.mk (keepTr (KeepBut.of_below (below_alloc (Below.refl w.heap.size w) nodeZ) g none) (keepAlloc hk1 (tokB t)))
  have HZ1 := Aside0.mk (blk_alloc hz1 (tokB t))
  have hx1 := tok_cells (t := t) (Below.refl _ (w1.alloc (tokB t)))
  have hs1 := hk1.1
  have hr1 := blk_lt hz1
  have hrf := blk_frozen hz1
  obtain ⟨z0, z1, z2, z3, z4⟩ := node_cells hz1
  have HTw := Aside0.mk hT1
  have HKw := Aside0.mk (keepTr (KeepBut.of_below (below_alloc (Below.refl w.heap.size w) nodeZ) g none) hk1)
  unfold tokV
  clear hT1 hk1 hz1
  have HZ1s := Aside0.mk HZ1.out
  have hcall := (class_ok HT1.out rb HC.out)
  go_wp2_with fail
  refine hcall.mono ?_
  rintro e w2 ⟨⟨v2, rfl, hR2⟩, hT2, hk2⟩
  have hz2 : w2.heap[w.heap.size]? = some nodeZ := hk2.blk HZ1.out (by omega) (by simp)
  obtain ⟨y0, y1, y2, y3, y4⟩ := node_cells hz2
  have hrf2 := blk_frozen hz2
  have hr2 := blk_lt hz2
  have HT2 := Aside0.mk hT2
  have HK2 := Aside0.mk (keepTr HK1.out hk2)
  obtain ⟨A2, c2, rfl⟩ := Kd.R_slice hR2
  have HL2 := Aside0.mk (Kd.R_reads' hR2).2.1
  have HR2 := Aside0.mk (Kd.R_F (Kd.R_mono (Kd.R_bound hR2) (ok' := fun k => w1.heap.size ≤ k) (fun k hk => by have h5 := hk.2.1; simp at h5; omega)))
  clear hR2 hT2 hk2 hz2 hcall z0 z1 z2 z3 z4 hx1
  generalize roundP fl rb ts = ll at *
  go_wp2_with fail
  refine bodyPost_ret (v := .agg #[.int .i64 2, .slice A2 ll.length c2, .int .i64 0, .int .i64 0, .slice none 0 0]) (by simp [results, Tryz.results105, go_sem, y0, y1, y2, y3, y4, hr2, Nat.ne_of_lt hr2]) rfl ?_
  exact ⟨⟨[.int .i64 2, .slice A2 ll.length c2, .int .i64 0, .int .i64 0, .slice none 0 0], rfl, Kd.FK_mono (FK_set5 (FK35_mkF w2 (fun k => w1.heap.size ≤ k) ⟨2, ll, 0, 0, []⟩ HL2.out HR2.out (Nat.le_refl _) (Kd.F_nil _ _ _)) w.heap.size (fun k hk => by omega) _ _ _ _ _) (fun k hk => by omega)⟩, HT2.out.set5 w.heap.size (by omega) (by omega) _ _ _ _ _, keep_set5 HK2.out (Nat.le_refl _) _ _ _ _ _⟩
set_option maxRecDepth 100000 in
set_option maxHeartbeats 1000000 in
theorem atom_set (h : Rdr w0 g en fl (t :: ts) w) (n6 : ¬ t.f0 = 6) (n3 : ¬ t.f0 = 3) (n10 : ¬ t.f0 = 10) (n11 : ¬ t.f0 = 11) (n7 : ¬ t.f0 = 7) (n2 : ¬ t.f0 = 2) (hs : okSet t) :
    Calls Tryz.prog 105 #[.pointer (some ⟨g, 0, none⟩), .int .i64 deep] w (NodeOk w0 g en fl ts w ⟨2, setP fl t, 0, 0, []⟩) := by
  have hglt := h.lt
  have hge := h.ge
  have HT := Aside0.mk (h.grow (below_alloc (Below.refl _ _) nodeZ))
  have HZ := Aside0.mk (blk_new w nodeZ)
  have e0 : (w.alloc nodeZ).heap.size = w.heap.size + 1 := by simp
  clear h
  have q6 : (t.f0 == 6) = false := by simpa using n6
  have q3 : (t.f0 == 3) = false := by simpa using n3
  have q10 : (t.f0 == 10) = false := by simpa using n10
  have q11 : (t.f0 == 11) = false := by simpa using n11
  have q7 : (t.f0 == 7) = false := by simpa using n7
  have q2 : (t.f0 == 2) = false := by simpa using n2
  clear n6 n3 n10 n11 n7 n2
  have HS := Aside0.mk hs
  clear hs
  go_enter Tryz.func105, Tryz.ntmps105
  go_wp2_with fail
  refine (rnext_ok HT.out).mono ?_
  rintro e w1 ⟨rfl, hT1, hk1⟩
  have hz1 : w1.heap[w.heap.size]? = some nodeZ := hk1.blk HZ.out (by omega) (by simp)
  have HT1 := Aside0.mk (hT1.grow (below_alloc (Below.refl _ _) (tokB t)))
  have HK1 := Aside0.mk (keepTr (KeepBut.of_below (below_alloc (Below.refl w.heap.size w) nodeZ) g none) (keepAlloc hk1 (tokB t)))
  have HZ1 := Aside0.mk (blk_alloc hz1 (tokB t))
  have hx1 := tok_cells (t := t) (Below.refl _ (w1.alloc (tokB t)))
  have hs1 := hk1.1
  have hr1 := blk_lt hz1
  have hrf := blk_frozen hz1
  obtain ⟨z0, z1, z2, z3, z4⟩ := node_cells hz1
  have HTw := Aside0.mk hT1
  have HKw := Aside0.mk (keepTr (KeepBut.of_below (below_alloc (Below.refl w.heap.size w) nodeZ) g none) hk1)
  unfold tokV
  clear hT1 hk1 hz1
  have HZ1s := Aside0.mk HZ1.out
  have hcall := (set_ok HT1.out t HS.out)
  go_wp2_with fail
  refine hcall.mono ?_
  rintro e w2 ⟨⟨v2, rfl, hR2⟩, hT2, hk2, _⟩
  have hz2 : w2.heap[w.heap.size]? = some nodeZ := hk2.blk HZ1.out (by omega) (by simp)
  obtain ⟨y0, y1, y2, y3, y4⟩ := node_cells hz2
  have hrf2 := blk_frozen hz2
  have hr2 := blk_lt hz2
  have HT2 := Aside0.mk hT2
  have HK2 := Aside0.mk (keepTr HK1.out hk2)
  obtain ⟨A2, c2, rfl⟩ := Kd.R_slice hR2
  have HL2 := Aside0.mk (Kd.R_reads' hR2).2.1
  have HR2 := Aside0.mk (Kd.R_F (Kd.R_mono (Kd.R_bound hR2) (ok' := fun k => w1.heap.size ≤ k) (fun k hk => by have h5 := hk.2.1; simp at h5; omega)))
  clear hR2 hT2 hk2 hz2 hcall z0 z1 z2 z3 z4 hx1
  generalize setP fl t = ll at *
  go_wp2_with fail
  refine bodyPost_ret (v := .agg #[.int .i64 2, .slice A2 ll.length c2, .int .i64 0, .int .i64 0, .slice none 0 0]) (by simp [results, Tryz.results105, go_sem, y0, y1, y2, y3, y4, hr2, Nat.ne_of_lt hr2]) rfl ?_
  exact ⟨⟨[.int .i64 2, .slice A2 ll.length c2, .int .i64 0, .int .i64 0, .slice none 0 0], rfl, Kd.FK_mono (FK_set5 (FK35_mkF w2 (fun k => w1.heap.size ≤ k) ⟨2, ll, 0, 0, []⟩ HL2.out HR2.out (Nat.le_refl _) (Kd.F_nil _ _ _)) w.heap.size (fun k hk => by omega) _ _ _ _ _) (fun k hk => by omega)⟩, HT2.out.set5 w.heap.size (by omega) (by omega) _ _ _ _ _, keep_set5 HK2.out (Nat.le_refl _) _ _ _ _ _⟩
set_option maxRecDepth 100000 in
set_option maxHeartbeats 1000000 in
theorem atom_3bad (h : Rdr w0 g en fl (t :: ts) w) (hk : t.f0 = 3) (hd : ¬ deep = 20) (h0 : 0 ≤ deep) (h20 : deep ≤ 20) {a er : Int} (hor : ∀ W, Rdr w0 g en fl ts W → Calls Tryz.prog 44 #[.pointer (some ⟨g, 0, none⟩), .int .i64 (deep + 1)] W (NodeBad w0 a er)) :
    Calls Tryz.prog 105 #[.pointer (some ⟨g, 0, none⟩), .int .i64 deep] w (NodeBad w0 a er) := by
  have hglt := h.lt
  have hge := h.ge
  have HT := Aside0.mk (h.grow (below_alloc (Below.refl _ _) nodeZ))
  have HZ := Aside0.mk (blk_new w nodeZ)
  have e0 : (w.alloc nodeZ).heap.size = w.heap.size + 1 := by simp
  clear h
  have q6 : (t.f0 == 6) = false := by rw [hk]; rfl
  have q3 : (t.f0 == 3) = true := by rw [hk]; rfl
  have HKD := Aside0.mk hk
  clear hk
  have qd : (deep == 20) = false := by simpa using hd
  have HO := Aside0.mk hor
  clear hor hd
  go_enter Tryz.func105, Tryz.ntmps105
  go_wp2_with fail
  refine (rnext_ok HT.out).mono ?_
  rintro e w1 ⟨rfl, hT1, hk1⟩
  have hz1 : w1.heap[w.heap.size]? = some nodeZ := hk1.blk HZ.out (by omega) (by simp)
  have HT1 := Aside0.mk (hT1.grow (below_alloc (Below.refl _ _) (tokB t)))
  have HK1 := Aside0.mk (keepTr (KeepBut.of_below (below_alloc (Below.refl w.heap.size w) nodeZ) g none) (keepAlloc hk1 (tokB t)))
  have HZ1 := Aside0.mk (blk_alloc hz1 (tokB t))
  have hx1 := tok_cells (t := t) (Below.refl _ (w1.alloc (tokB t)))
  have hs1 := hk1.1
  have hr1 := blk_lt hz1
  have hrf := blk_frozen hz1
  obtain ⟨z0, z1, z2, z3, z4⟩ := node_cells hz1
  have HTw := Aside0.mk hT1
  have HKw := Aside0.mk (keepTr (KeepBut.of_below (below_alloc (Below.refl w.heap.size w) nodeZ) g none) hk1)
  unfold tokV
  clear hT1 hk1 hz1
  have hcall := HO.out _ HT1.out
  clear HO
  go_wp2_with fail
  refine hcall.mono ?_
  rintro e w2 ⟨rfl, hb2⟩
  exact ⟨rfl, rfl, hb2⟩
set_option maxRecDepth 100000 in
set_option maxHeartbeats 1000000 in
theorem atom_3end (h : Rdr w0 g en fl (t :: ts) w) (hk : t.f0 = 3) (hd : ¬ deep = 20) (h0 : 0 ≤ deep) (h20 : deep ≤ 20) {n : S35} {rest : List S68} (HI : Aside0 (isTok [4] rest = false)) (hor : ∀ W, Rdr w0 g en fl ts W → Calls Tryz.prog 44 #[.pointer (some ⟨g, 0, none⟩), .int .i64 (deep + 1)] W (NodeOk w0 g en fl rest W n)) :
    Calls Tryz.prog 105 #[.pointer (some ⟨g, 0, none⟩), .int .i64 deep] w (NodeBad w0 en 4) := by
  have hglt := h.lt
  have hge := h.ge
  have HT := Aside0.mk (h.grow (below_alloc (Below.refl _ _) nodeZ))
  have HZ := Aside0.mk (blk_new w nodeZ)
  have e0 : (w.alloc nodeZ).heap.size = w.heap.size + 1 := by simp
  clear h
  have q6 : (t.f0 == 6) = false := by rw [hk]; rfl
  have q3 : (t.f0 == 3) = true := by rw [hk]; rfl
  have HKD := Aside0.mk hk
  clear hk
  have qd : (deep == 20) = false := by simpa using hd
  have HO := Aside0.mk hor
  clear hor hd
  go_enter Tryz.func105, Tryz.ntmps105
  go_wp2_with fail
  refine (rnext_ok HT.out).mono ?_
  rintro e w1 ⟨rfl, hT1, hk1⟩
  have hz1 : w1.heap[w.heap.size]? = some nodeZ := hk1.blk HZ.out (by omega) (by simp)
  have HT1 := Aside0.mk (hT1.grow (below_alloc (Below.refl _ _) (tokB t)))
  have HK1 := Aside0.mk (keepTr (KeepBut.of_below (below_alloc (Below.refl w.heap.size w) nodeZ) g none) (keepAlloc hk1 (tokB t)))
  have HZ1 := Aside0.mk (blk_alloc hz1 (tokB t))
  have hx1 := tok_cells (t := t) (Below.refl _ (w1.alloc (tokB t)))
  have hs1 := hk1.1
  have hr1 := blk_lt hz1
  have hrf := blk_frozen hz1
  obtain ⟨z0, z1, z2, z3, z4⟩ := node_cells hz1
  have HTw := Aside0.mk hT1
  have HKw := Aside0.mk (keepTr (KeepBut.of_below (below_alloc (Below.refl w.heap.size w) nodeZ) g none) hk1)
  unfold tokV
  clear hT1 hk1 hz1
  have hcall := HO.out _ HT1.out
  clear HO
  go_wp2_with fail
  refine hcall.mono ?_
  rintro e w2 ⟨⟨cs, rfl, hF2⟩, hT2, hk2⟩
  obtain ⟨An, cn, Am, cm, rfl, ln, Fn, lm, Fm⟩ := FK35_openF hF2
  have hz2 : w2.heap[w.heap.size]? = some nodeZ := hk2.blk HZ1.out (by omega) (by simp)
  have HZ2 := Aside0.mk hz2
  have HT2 := Aside0.mk (hT2.grow (below_alloc (Below.refl _ _) (.cells #[.int .i64 n.f0, .slice An n.f1.length cn, .int .i64 n.f2, .int .i64 n.f3, .slice Am n.f4.length cm] 35)))
  have HK2 := Aside0.mk (keepTr HK1.out hk2)
  have HF2 := Aside0.mk hF2
  have hs2 := hk2.1
  have hr2 := blk_lt hz2
  clear hT2 hk2 hz2 hF2 ln Fn lm Fm hcall hx1 z0 z1 z2 z3 z4
  have hi := is1_ok HT2.out 4
  rw [show (w2.alloc (.cells #[.int .i64 n.f0, .slice An n.f1.length cn, .int .i64 n.f2, .int .i64 n.f3, .slice Am n.f4.length cm] 35)).heap.size = w2.heap.size + 1 by simp] at hi
  go_wp2_with fail
  (with_reducible refine hi.mono ?_)
  rintro e w3 ⟨rfl, hT3, hk3⟩
  rw [HI.out]
  have hn3 := hk3.blk (blk_alloc (blk_new w2 (.cells #[.int .i64 n.f0, .slice An n.f1.length cn, .int .i64 n.f2, .int .i64 n.f3, .slice Am n.f4.length cm] 35)) (.cells #[.int .i64 4] 3)) (by have := HT2.out.lt; simp at this; omega) (by simp)
  have hz3 : w3.heap[w.heap.size]? = some nodeZ := hk3.blk (blk_alloc (blk_alloc HZ2.out _) _) (by omega) (by simp)
  have HT3 := Aside0.mk hT3
  have HK3 := Aside0.mk (keepTr (keepAlloc (keepAlloc HK2.out _) _) hk3)
  have HN3 := Aside0.mk hn3
  have HZ3 := Aside0.mk hz3
  have HF3 := Aside0.mk (Kd.FK_step (W1 := w3) (Kd.FK_below (Kd.FK_below HF2.out (below_alloc (Below.refl _ _) (.cells #[.int .i64 n.f0, .slice An n.f1.length cn, .int .i64 n.f2, .int .i64 n.f3, .slice Am n.f4.length cm] 35))) (below_alloc (Below.refl _ _) (.cells #[.int .i64 4] 3))) (fun k hk hlt => hk3.2 k hlt (by have h5 := HT1.out.lt; omega) (by simp)))
  have he3 := HT3.out.en_cell
  clear hT3 hk3 hn3 hz3
  go_wp2_with fail
  exact ⟨rfl, rfl, HT3.out.below⟩
set_option maxRecDepth 100000 in
set_option maxHeartbeats 1000000 in
theorem atom_3ok (h : Rdr w0 g en fl (t :: ts) w) (hk : t.f0 = 3) (hd : ¬ deep = 20) (h0 : 0 ≤ deep) (h20 : deep ≤ 20) {n : S35} {u : S68} {rest : List S68} (HI : Aside0 (isTok [4] (u :: rest) = true)) (hor : ∀ W, Rdr w0 g en fl ts W → Calls Tryz.prog 44 #[.pointer (some ⟨g, 0, none⟩), .int .i64 (deep + 1)] W (NodeOk w0 g en fl (u :: rest) W n)) :
    Calls Tryz.prog 105 #[.pointer (some ⟨g, 0, none⟩), .int .i64 deep] w (NodeOk w0 g en fl rest w n) := by
  have hglt := h.lt
  have hge := h.ge
  have HT := Aside0.mk (h.grow (below_alloc (Below.refl _ _) nodeZ))
  have HZ := Aside0.mk (blk_new w nodeZ)
  have e0 : (w.alloc nodeZ).heap.size = w.heap.size + 1 := by simp
  clear h
  have q6 : (t.f0 == 6) = false := by rw [hk]; rfl
  have q3 : (t.f0 == 3) = true := by rw [hk]; rfl
  have HKD := Aside0.mk hk
  clear hk
  have qd : (deep == 20) = false := by simpa using hd
  have HO := Aside0.mk hor
  clear hor hd
  go_enter Tryz.func105, Tryz.ntmps105
  go_wp2_with fail
  refine (rnext_ok HT.out).mono ?_
  rintro e w1 ⟨rfl, hT1, hk1⟩
  have hz1 : w1.heap[w.heap.size]? = some nodeZ := hk1.blk HZ.out (by omega) (by simp)
  have HT1 := Aside0.mk (hT1.grow (below_alloc (Below.refl _ _) (tokB t)))
  have HK1 := Aside0.mk (keepTr (KeepBut.of_below (below_alloc (Below.refl w.heap.size w) nodeZ) g none) (keepAlloc hk1 (tokB t)))
  have HZ1 := Aside0.mk (blk_alloc hz1 (tokB t))
  have hx1 := tok_cells (t := t) (Below.refl _ (w1.alloc (tokB t)))
  have hs1 := hk1.1
  have hr1 := blk_lt hz1
  have hrf := blk_frozen hz1
  obtain ⟨z0, z1, z2, z3, z4⟩ := node_cells hz1
  have HTw := Aside0.mk hT1
  have HKw := Aside0.mk (keepTr (KeepBut.of_below (below_alloc (Below.refl w.heap.size w) nodeZ) g none) hk1)
  unfold tokV
  clear hT1 hk1 hz1
  have hcall := HO.out _ HT1.out
  clear HO
  go_wp2_with fail
  refine hcall.mono ?_
  rintro e w2 ⟨⟨cs, rfl, hF2⟩, hT2, hk2⟩
  obtain ⟨An, cn, Am, cm, rfl, ln, Fn, lm, Fm⟩ := FK35_openF hF2
  have hz2 : w2.heap[w.heap.size]? = some nodeZ := hk2.blk HZ1.out (by omega) (by simp)
  have HZ2 := Aside0.mk hz2
  have HT2 := Aside0.mk (hT2.grow (below_alloc (Below.refl _ _) (.cells #[.int .i64 n.f0, .slice An n.f1.length cn, .int .i64 n.f2, .int .i64 n.f3, .slice Am n.f4.length cm] 35)))
  have HK2 := Aside0.mk (keepTr HK1.out hk2)
  have HF2 := Aside0.mk hF2
  have hs2 := hk2.1
  have hr2 := blk_lt hz2
  clear hT2 hk2 hz2 hF2 ln Fn lm Fm hcall hx1 z0 z1 z2 z3 z4
  have hi := is1_ok HT2.out 4
  rw [show (w2.alloc (.cells #[.int .i64 n.f0, .slice An n.f1.length cn, .int .i64 n.f2, .int .i64 n.f3, .slice Am n.f4.length cm] 35)).heap.size = w2.heap.size + 1 by simp] at hi
  go_wp2_with fail
  (with_reducible refine hi.mono ?_)
  rintro e w3 ⟨rfl, hT3, hk3⟩
  rw [HI.out]
  have hn3 := hk3.blk (blk_alloc (blk_new w2 (.cells #[.int .i64 n.f0, .slice An n.f1.length cn, .int .i64 n.f2, .int .i64 n.f3, .slice Am n.f4.length cm] 35)) (.cells #[.int .i64 4] 3)) (by have := HT2.out.lt; simp at this; omega) (by simp)
  have hz3 : w3.heap[w.heap.size]? = some nodeZ := hk3.blk (blk_alloc (blk_alloc HZ2.out _) _) (by omega) (by simp)
  have HT3 := Aside0.mk hT3
  have HK3 := Aside0.mk (keepTr (keepAlloc (keepAlloc HK2.out _) _) hk3)
  have HN3 := Aside0.mk hn3
  have HZ3 := Aside0.mk hz3
  have HF3 := Aside0.mk (Kd.FK_step (W1 := w3) (Kd.FK_below (Kd.FK_below HF2.out (below_alloc (Below.refl _ _) (.cells #[.int .i64 n.f0, .slice An n.f1.length cn, .int .i64 n.f2, .int .i64 n.f3, .slice Am n.f4.length cm] 35))) (below_alloc (Below.refl _ _) (.cells #[.int .i64 4] 3))) (fun k hk hlt => hk3.2 k hlt (by have h5 := HT1.out.lt; omega) (by simp)))
  have he3 := HT3.out.en_cell
  clear he3 hT3 hk3 hn3 hz3
  go_wp2_with fail
  refine (rnext_ok HT3.out).mono ?_
  rintro e w4 ⟨rfl, hT4, hk4⟩
  have hn4 := hk4.blk HN3.out (by have := HT2.out.lt; simp at this; omega) (by simp)
  have hz4 : w4.heap[w.heap.size]? = some nodeZ := hk4.blk HZ3.out (by omega) (by simp)
  obtain ⟨n0, n1, n2, n3, n4⟩ := node_cells hn4
  obtain ⟨y0, y1, y2, y3, y4⟩ := node_cells hz4
  have hrf4 := blk_frozen hz4
  have hr4 := blk_lt hz4
  have hr5 := blk_lt hn4
  have HT4 := Aside0.mk hT4
  have HK4 := Aside0.mk (keepTr HK3.out hk4)
  have HF4 := Aside0.mk (Kd.FK_step (W1 := w4) HF3.out (fun k hk hlt => hk4.2 k hlt (by have := HT1.out.lt; omega) (by simp)))
  clear hT4 hk4 hn4 hz4
  go_wp2_with fail
  refine bodyPost_ret (v := .agg #[.int .i64 n.f0, .slice An n.f1.length cn, .int .i64 n.f2, .int .i64 n.f3, .slice Am n.f4.length cm]) (by simp [results, Tryz.results105, go_sem, y0, y1, y2, y3, y4, hr4, Nat.ne_of_lt hr4]) rfl ?_
  exact ⟨⟨_, rfl, Kd.FK_mono (FK_set5 HF4.out w.heap.size (fun k hk => by simp at hk; omega) _ _ _ _ _) (fun k hk => by simp at hk; omega)⟩, HT4.out.set5 w.heap.size (by omega) (by omega) _ _ _ _ _, keep_set5 HK4.out (Nat.le_refl _) _ _ _ _ _⟩
end
end Go.Proofs.YtglolcejfbhbdaaGreat.P
end
section
namespace Go.Proofs.YtglolcejfbhbdaaGreat.P
open Go.RowKit Go.Shelf Go.Proofs.YtglolcejfbhbdaaGreatW.PrintWords Go.Proofs.YtglolcejfbhbdaaGreatW.PrintLast Go.Proofs.YtglolcejfbhbdaaGreatW.PrintMore
set_option linter.unusedVariables false
set_option linter.unusedSimpArgs false
theorem N_one (W : World) (base : Nat) (x : S35) (cs : List Value) (okp : Nat → Prop) (hF : Kd.FK k35 W okp x cs) (hb : base ≤ W.heap.size) (hokp : ∀ k, okp k → base ≤ k) :
    Kd.N k35 35 (W.alloc (.cells cs.toArray 35)) base (fun k => base ≤ k) (.slice (some ⟨W.heap.size, 0, none⟩) 1 1) [x] := by
  have hraw := Kd.FK_raw hF
  have hR := R_litG (Kd.raw k35.sz) W base 35 [cs] cs ((Reps.none _ _).snoc hraw hraw.2.1) hb (by simp)
  refine ⟨fun k hk => by have h1 : W.heap.size = k := by simpa [Value.ownBlock] using hk
                         omega, [cs], rfl, Kd.raw_tight hR, fun j y c hy hc => ?_⟩
  have hj : j = 0 := by
    have := (List.getElem?_eq_some_iff.1 hy).1
    simp at this
    exact this
  subst hj
  simp at hy hc
  subst hy; subst hc
  refine Kd.FK_mono (Kd.FK_below (Kd.FK_bound hF) (below_alloc (Below.refl _ _) _)) (fun k hk => ⟨hokp k hk.1, fun he => ?_⟩)
  have h1 : k = W.heap.size := by simpa [Value.ownBlock] using he
  have h2 := hk.2
  omega
theorem Rdr.head {w0 : World} {g : Nat} {en fl : Int} {u : S68} {v : List S68} {w : World} (h : Rdr w0 g en fl (u :: v) w) :
    ∃ ad c, w.cell? ⟨g, 0, none⟩ = some (.slice (some ad) (v.length + 1) c) ∧ w.cell? ⟨ad.block, ad.off + 4, none⟩ = some (.int .i64 u.f4) := by
  obtain ⟨A, c, _, hC, h0, _, _⟩ := h.cells
  obtain ⟨ad, e1, _, _, _, _, hx4⟩ := at_T68 hC 0 (by omega) (by simp)
  subst e1
  exact ⟨ad, c, h0, hx4⟩
section
variable {w0 : World} {g : Nat} {en fl deep : Int} {ts : List S68} {w : World}
set_option maxRecDepth 100000 in
set_option maxHeartbeats 1000000 in
theorem piece_bad (h : Rdr w0 g en fl ts w) {a er : Int} (hat : ∀ W, Rdr w0 g en fl ts W → Calls Tryz.prog 105 #[.pointer (some ⟨g, 0, none⟩), .int .i64 deep] W (NodeBad w0 a er)) :
    Calls Tryz.prog 86 #[.pointer (some ⟨g, 0, none⟩), .int .i64 deep] w (NodeBad w0 a er) := by
  have hglt := h.lt
  have hge := h.ge
  have HT := Aside0.mk (h.grow (below_alloc (Below.refl _ _) nodeZ))
  have HZ := Aside0.mk (blk_new w nodeZ)
  have HA := Aside0.mk hat
  clear h hat
  have hcall := HA.out _ HT.out
  clear HA
  go_enter Tryz.func86, Tryz.ntmps86
  go_wp2_with fail
  refine hcall.mono ?_
  rintro e w1 ⟨rfl, hb1⟩
  exact ⟨rfl, rfl, hb1⟩
set_option maxRecDepth 100000 in
set_option maxHeartbeats 1000000 in
theorem piece_one (h : Rdr w0 g en fl ts w) {n : S35} {rest : List S68} (HI : Aside0 (isTok [6] rest = false)) (hat : ∀ W, Rdr w0 g en fl ts W → Calls Tryz.prog 105 #[.pointer (some ⟨g, 0, none⟩), .int .i64 deep] W (NodeOk w0 g en fl (rest) W n)) :
    Calls Tryz.prog 86 #[.pointer (some ⟨g, 0, none⟩), .int .i64 deep] w (NodeOk w0 g en fl rest w n) := by
  have hglt := h.lt
  have hge := h.ge
  have HT := Aside0.mk (h.grow (below_alloc (Below.refl _ _) nodeZ))
  have HZ := Aside0.mk (blk_new w nodeZ)
  have HA := Aside0.mk hat
  clear h hat
  have hcall := HA.out _ HT.out
  clear HA
  go_enter Tryz.func86, Tryz.ntmps86
  go_wp2_with fail
  refine hcall.mono ?_
  rintro e w1 ⟨⟨cs, rfl, hF1⟩, hT1, hk1⟩
  obtain ⟨An, cn, Am, cm, rfl, ln, Fn, lm, Fm⟩ := FK35_openF hF1
  have hz1 : w1.heap[w.heap.size]? = some nodeZ := hk1.blk HZ.out (by omega) (by simp)
  have hs1 := hk1.1
  have hr1 := blk_lt hz1
  have e1 : (w1.alloc (.cells #[.int .i64 n.f0, .slice An n.f1.length cn, .int .i64 n.f2, .int .i64 n.f3, .slice Am n.f4.length cm] 35)).heap.size = w1.heap.size + 1 := by simp
  have HT1 := Aside0.mk (hT1.grow (below_alloc (Below.refl _ _) (.cells #[.int .i64 n.f0, .slice An n.f1.length cn, .int .i64 n.f2, .int .i64 n.f3, .slice Am n.f4.length cm] 35)))
  have HK1 := Aside0.mk (keepAlloc (keepTr (KeepBut.of_below (below_alloc (Below.refl w.heap.size w) nodeZ) g none) hk1) (.cells #[.int .i64 n.f0, .slice An n.f1.length cn, .int .i64 n.f2, .int .i64 n.f3, .slice Am n.f4.length cm] 35))
  have HZ1 := Aside0.mk (blk_alloc hz1 (.cells #[.int .i64 n.f0, .slice An n.f1.length cn, .int .i64 n.f2, .int .i64 n.f3, .slice Am n.f4.length cm] 35))
  have HN1 := Aside0.mk (blk_new w1 (.cells #[.int .i64 n.f0, .slice An n.f1.length cn, .int .i64 n.f2, .int .i64 n.f3, .slice Am n.f4.length cm] 35))
  have HF1 := Aside0.mk (Kd.FK_mono (Kd.FK_below (Kd.FK_bound hF1) (below_alloc (Below.refl _ _) (.cells #[.int .i64 n.f0, .slice An n.f1.length cn, .int .i64 n.f2, .int .i64 n.f3, .slice Am n.f4.length cm] 35))) (ok' := fun k => w.heap.size < k ∧ k < w1.heap.size) (fun k hk => by have h5 := hk.1; have h6 := hk.2; simp at h5; omega))
  have hi := is1_ok HT1.out 6
  rw [e1] at hi
  clear hT1 hk1 hz1 hF1 ln Fn lm Fm hcall
  go_wp2_with fail
  (with_reducible refine hi.mono ?_)
  rintro e w2 ⟨rfl, hT2, hk2⟩
  rw [HI.out]
  have hn2 := hk2.blk (blk_alloc HN1.out (.cells #[.int .i64 6] 3)) (by have h5 := HT1.out.lt; have h6 := HK1.out.1; omega) (by simp)
  have hz2 : w2.heap[w.heap.size]? = some nodeZ := hk2.blk (blk_alloc HZ1.out _) (by omega) (by simp)
  have hs2 : w1.heap.size + 2 ≤ w2.heap.size := by have h5 := hk2.1; simp at h5; omega
  have HT2 := Aside0.mk hT2
  have HK2 := Aside0.mk (keepTr (keepAlloc HK1.out _) hk2)
  have HF2 := Aside0.mk (Kd.FK_step (W1 := w2) (Kd.FK_below HF1.out (below_alloc (Below.refl _ _) (.cells #[.int .i64 6] 3))) (fun k hk hlt => hk2.2 k hlt (by omega) (by simp)))
  obtain ⟨n0, n1, n2, n3, n4⟩ := node_cells hn2
  obtain ⟨y0, y1, y2, y3, y4⟩ := node_cells hz2
  have hrf := blk_frozen hz2
  have hr2 := blk_lt hz2
  have hr3 := blk_lt hn2
  clear hT2 hk2 hn2 hz2 hi
  go_wp2_with fail
  refine bodyPost_ret (v := .agg #[.int .i64 n.f0, .slice An n.f1.length cn, .int .i64 n.f2, .int .i64 n.f3, .slice Am n.f4.length cm]) (by simp [results, Tryz.results86, go_sem, y0, y1, y2, y3, y4, hr2, Nat.ne_of_lt hr2]) rfl ?_
  exact ⟨⟨_, rfl, Kd.FK_mono (FK_set5 HF2.out w.heap.size (fun k hk => by omega) _ _ _ _ _) (fun k hk => by omega)⟩, HT2.out.set5 w.heap.size (by omega) (by omega) _ _ _ _ _, keep_set5 HK2.out (Nat.le_refl _) _ _ _ _ _⟩
set_option maxRecDepth 100000 in
set_option maxHeartbeats 1000000 in
theorem piece_rep (h : Rdr w0 g en fl ts w) {n : S35} {t : S68} {r : List S68} (HI : Aside0 (isTok [6] (t :: r) = true)) (HL : Aside0 (isTok [13] r = false)) (HE : Aside0 (isTok [6] r = false)) (hat : ∀ W, Rdr w0 g en fl ts W → Calls Tryz.prog 105 #[.pointer (some ⟨g, 0, none⟩), .int .i64 deep] W (NodeOk w0 g en fl (t :: r) W n)) :
    Calls Tryz.prog 86 #[.pointer (some ⟨g, 0, none⟩), .int .i64 deep] w (NodeOk w0 g en fl r w ⟨5, [], t.f2, t.f3, [n]⟩) := by
  have hglt := h.lt
  have hge := h.ge
  have HT := Aside0.mk (h.grow (below_alloc (Below.refl _ _) nodeZ))
  have HZ := Aside0.mk (blk_new w nodeZ)
  have HA := Aside0.mk hat
  clear h hat
  have hcall := HA.out _ HT.out
  clear HA
  go_enter Tryz.func86, Tryz.ntmps86
  go_wp2_with fail
  refine hcall.mono ?_
  rintro e w1 ⟨⟨cs, rfl, hF1⟩, hT1, hk1⟩
  obtain ⟨An, cn, Am, cm, rfl, ln, Fn, lm, Fm⟩ := FK35_openF hF1
  have hz1 : w1.heap[w.heap.size]? = some nodeZ := hk1.blk HZ.out (by omega) (by simp)
  have hs1 := hk1.1
  have hr1 := blk_lt hz1
  have e1 : (w1.alloc (.cells #[.int .i64 n.f0, .slice An n.f1.length cn, .int .i64 n.f2, .int .i64 n.f3, .slice Am n.f4.length cm] 35)).heap.size = w1.heap.size + 1 := by simp
  have HT1 := Aside0.mk (hT1.grow (below_alloc (Below.refl _ _) (.cells #[.int .i64 n.f0, .slice An n.f1.length cn, .int .i64 n.f2, .int .i64 n.f3, .slice Am n.f4.length cm] 35)))
  have HK1 := Aside0.mk (keepAlloc (keepTr (KeepBut.of_below (below_alloc (Below.refl w.heap.size w) nodeZ) g none) hk1) (.cells #[.int .i64 n.f0, .slice An n.f1.length cn, .int .i64 n.f2, .int .i64 n.f3, .slice Am n.f4.length cm] 35))
  have HZ1 := Aside0.mk (blk_alloc hz1 (.cells #[.int .i64 n.f0, .slice An n.f1.length cn, .int .i64 n.f2, .int .i64 n.f3, .slice Am n.f4.length cm] 35))
  have HN1 := Aside0.mk (blk_new w1 (.cells #[.int .i64 n.f0, .slice An n.f1.length cn, .int .i64 n.f2, .int .i64 n.f3, .slice Am n.f4.length cm] 35))
  have HF1 := Aside0.mk (Kd.FK_mono (Kd.FK_below (Kd.FK_bound hF1) (below_alloc (Below.refl _ _) (.cells #[.int .i64 n.f0, .slice An n.f1.length cn, .int .i64 n.f2, .int .i64 n.f3, .slice Am n.f4.length cm] 35))) (ok' := fun k => w.heap.size < k ∧ k < w1.heap.size) (fun k hk => by have h5 := hk.1; have h6 := hk.2; simp at h5; omega))
  have hi := is1_ok HT1.out 6
  rw [e1] at hi
  clear hT1 hk1 hz1 hF1 ln Fn lm Fm hcall
  go_wp2_with fail
  (with_reducible refine hi.mono ?_)
  rintro e w2 ⟨rfl, hT2, hk2⟩
  rw [HI.out]
  have hn2 := hk2.blk (blk_alloc HN1.out (.cells #[.int .i64 6] 3)) (by have h5 := HT1.out.lt; have h6 := HK1.out.1; omega) (by simp)
  have hz2 : w2.heap[w.heap.size]? = some nodeZ := hk2.blk (blk_alloc HZ1.out _) (by omega) (by simp)
  have hs2 : w1.heap.size + 2 ≤ w2.heap.size := by have h5 := hk2.1; simp at h5; omega
  have HT2 := Aside0.mk hT2
  have HK2 := Aside0.mk (keepTr (keepAlloc HK1.out _) hk2)
  have HF2 := Aside0.mk (Kd.FK_step (W1 := w2) (Kd.FK_below HF1.out (below_alloc (Below.refl _ _) (.cells #[.int .i64 6] 3))) (fun k hk hlt => hk2.2 k hlt (by omega) (by simp)))
  have HZ2 := Aside0.mk hz2
  have HN2 := Aside0.mk hn2
  clear hT2 hk2 hn2 hz2 hi
  go_wp2_with fail
  refine (rnext_ok HT2.out).mono ?_
  rintro e w3 ⟨rfl, hT3, hk3⟩
  have HT3 := Aside0.mk (hT3.grow (below_alloc (Below.refl _ _) (tokB t)))
  have HK3 := Aside0.mk (keepAlloc (keepTr HK2.out hk3) (tokB t))
  have HZ3 := Aside0.mk (blk_alloc (hk3.blk HZ2.out (by omega) (by simp)) (tokB t))
  have HN3 := Aside0.mk (blk_alloc (hk3.blk HN2.out (by omega) (by simp)) (tokB t))
  have HB3 := Aside0.mk (blk_new w3 (tokB t))
  have HF3 := Aside0.mk (Kd.FK_below (Kd.FK_step (W1 := w3) HF2.out (fun k hk hlt => hk3.2 k hlt (by omega) (by simp))) (below_alloc (Below.refl _ _) (tokB t)))
  have e3 : (w3.alloc (tokB t)).heap.size = w3.heap.size + 1 := by simp
  have hs3 : w2.heap.size ≤ w3.heap.size := hk3.1
  have hi := is1_ok HT3.out 13
  rw [e3] at hi
  unfold tokV
  clear hT3 hk3
  go_wp2_with fail
  unfold tokB at hi
  (with_reducible refine hi.mono ?_)
  rintro e w4 ⟨rfl, hT4, hk4⟩
  rw [HL.out]
  have HT4 := Aside0.mk hT4
  have HK4 := Aside0.mk (keepTr (keepAlloc HK3.out _) hk4)
  have HZ4 := Aside0.mk (hk4.blk (blk_alloc HZ3.out (.cells #[.int .i64 13] 3)) (by omega) (by simp))
  have HN4 := Aside0.mk (hk4.blk (blk_alloc HN3.out (.cells #[.int .i64 13] 3)) (by omega) (by simp))
  have HB4 := Aside0.mk (hk4.blk (blk_alloc HB3.out (.cells #[.int .i64 13] 3)) (by omega) (by simp))
  have HF4 := Aside0.mk (Kd.FK_step (W1 := w4) (Kd.FK_below HF3.out (below_alloc (Below.refl _ _) (.cells #[.int .i64 13] 3))) (fun k hk hlt => hk4.2 k hlt (by omega) (by simp)))
  have hs4 : w3.heap.size + 2 ≤ w4.heap.size := by have h5 := hk4.1; simp [tokB] at h5; omega
  clear hT4 hk4 hi
  go_wp2_with fail
  refine (is1_ok HT4.out 6).mono ?_
  rintro e w6 ⟨rfl, hT6, hk6⟩
  rw [HE.out]
  have HT6 := Aside0.mk hT6
  have HK6 := Aside0.mk (keepTr (keepAlloc HK4.out _) hk6)
  have hz6 := hk6.blk (blk_alloc HZ4.out (.cells #[.int .i64 6] 3)) (by omega) (by simp)
  have hn6 := hk6.blk (blk_alloc HN4.out (.cells #[.int .i64 6] 3)) (by omega) (by simp)
  have hb6 := hk6.blk (blk_alloc HB4.out (.cells #[.int .i64 6] 3)) (by omega) (by simp)
  have HF6 := Aside0.mk (Kd.FK_step (W1 := w6) (Kd.FK_below HF4.out (below_alloc (Below.refl _ _) (.cells #[.int .i64 6] 3))) (fun k hk hlt => hk6.2 k hlt (by omega) (by simp)))
  have hs6 : w4.heap.size ≤ w6.heap.size := by have h5 := hk6.1; simp at h5; omega
  obtain ⟨n0, n1, n2, n3, n4⟩ := node_cells hn6
  obtain ⟨y0, y1, y2, y3, y4⟩ := node_cells hz6
  have t2 : w6.cell? ⟨w3.heap.size, 2, none⟩ = some (.int .i64 t.f2) := by simpa using blk_cell hb6 2
  have t3 : w6.cell? ⟨w3.heap.size, 3, none⟩ = some (.int .i64 t.f3) := by simpa using blk_cell hb6 3
  have hrf := blk_frozen hz6
  have hr6 := blk_lt hz6
  have hr7 := blk_lt hn6
  have hr8 := blk_lt hb6
  have hN := N_one (((((w6.setCell ⟨w.heap.size, 0, none⟩ (.int .i64 5)).setCell ⟨w.heap.size, 1, none⟩ (.slice none 0 0)).setCell ⟨w.heap.size, 2, none⟩ (.int .i64 t.f2)).setCell ⟨w.heap.size, 3, none⟩ (.int .i64 t.f3)).setCell ⟨w.heap.size, 4, none⟩ (.slice (some ⟨w6.heap.size, 0, none⟩) 1 1)) w.heap.size n [.int .i64 n.f0, .slice An n.f1.length cn, .int .i64 n.f2, .int .i64 n.f3, .slice Am n.f4.length cm] _ (FK_set5 HF6.out w.heap.size (fun k hk => by omega) _ _ _ _ _) (by simp; omega) (fun k hk => by omega)
  have e6 : (((((w6.setCell ⟨w.heap.size, 0, none⟩ (.int .i64 5)).setCell ⟨w.heap.size, 1, none⟩ (.slice none 0 0)).setCell ⟨w.heap.size, 2, none⟩ (.int .i64 t.f2)).setCell ⟨w.heap.size, 3, none⟩ (.int .i64 t.f3)).setCell ⟨w.heap.size, 4, none⟩ (.slice (some ⟨w6.heap.size, 0, none⟩) 1 1)).heap.size = w6.heap.size := by simp
  rw [e6] at hN
  have HN := Aside0.mk hN
  clear hT6 hk6 hn6 hz6 hb6 hN e6
  go_wp2_with fail
  refine bodyPost_ret (v := .agg #[.int .i64 5, .slice none 0 0, .int .i64 t.f2, .int .i64 t.f3, .slice (some ⟨w6.heap.size, 0, none⟩) 1 1]) (by simp [results, Tryz.results86, go_sem, y0, y1, y2, y3, y4, hr6, Nat.ne_of_lt hr6]) rfl ?_
  exact ⟨⟨_, rfl, FK35_mkF _ _ ⟨5, [], t.f2, t.f3, [n]⟩ (Nat.le_refl _) (Kd.F_nil _ _ _) (Nat.le_refl _) (Kd.N_F HN.out)⟩, (HT6.out.set5 w.heap.size (by omega) (by omega) _ _ _ _ _).grow (below_alloc (Below.refl _ _) _), keepAlloc (keep_set5 HK6.out (Nat.le_refl _) _ _ _ _ _) _⟩
set_option maxRecDepth 100000 in
set_option maxHeartbeats 1000000 in
theorem piece_repbad (h : Rdr w0 g en fl ts w) {n : S35} {t : S68} {u : S68} {v : List S68} (HI : Aside0 (isTok [6] (t :: u :: v) = true)) (HL : Aside0 (isTok [13] (u :: v) = false)) (HE : Aside0 (isTok [6] (u :: v) = true)) (hat : ∀ W, Rdr w0 g en fl ts W → Calls Tryz.prog 105 #[.pointer (some ⟨g, 0, none⟩), .int .i64 deep] W (NodeOk w0 g en fl (t :: u :: v) W n)) :
    Calls Tryz.prog 86 #[.pointer (some ⟨g, 0, none⟩), .int .i64 deep] w (NodeBad w0 u.f4 5) := by
  have hglt := h.lt
  have hge := h.ge
  have HT := Aside0.mk (h.grow (below_alloc (Below.refl _ _) nodeZ))
  have HZ := Aside0.mk (blk_new w nodeZ)
  have HA := Aside0.mk hat
  clear h hat
  have hcall := HA.out _ HT.out
  clear HA
  go_enter Tryz.func86, Tryz.ntmps86
  go_wp2_with fail
  refine hcall.mono ?_
  rintro e w1 ⟨⟨cs, rfl, hF1⟩, hT1, hk1⟩
  obtain ⟨An, cn, Am, cm, rfl, ln, Fn, lm, Fm⟩ := FK35_openF hF1
  have hz1 : w1.heap[w.heap.size]? = some nodeZ := hk1.blk HZ.out (by omega) (by simp)
  have hs1 := hk1.1
  have hr1 := blk_lt hz1
  have e1 : (w1.alloc (.cells #[.int .i64 n.f0, .slice An n.f1.length cn, .int .i64 n.f2, .int .i64 n.f3, .slice Am n.f4.length cm] 35)).heap.size = w1.heap.size + 1 := by simp
  have HT1 := Aside0.mk (hT1.grow (below_alloc (Below.refl _ _) (.cells #[.int .i64 n.f0, .slice An n.f1.length cn, .int .i64 n.f2, .int .i64 n.f3, .slice Am n.f4.length cm] 35)))
  have HK1 := Aside0.mk (keepAlloc (keepTr (KeepBut.of_below (below_alloc (Below.refl w.heap.size w) nodeZ) g none) hk1) (.cells #[.int .i64 n.f0, .slice An n.f1.length cn, .int .i64 n.f2, .int .i64 n.f3, .slice Am n.f4.length cm] 35))
  have HZ1 := Aside0.mk (blk_alloc hz1 (.cells #[.int .i64 n.f0, .slice An n.f1.length cn, .int .i64 n.f2, .int .i64 n.f3, .slice Am n.f4.length cm] 35))
  have HN1 := Aside0.mk (blk_new w1 (.cells #[.int .i64 n.f0, .slice An n.f1.length cn, .int .i64 n.f2, .int .i64 n.f3, .slice Am n.f4.length cm] 35))
  have HF1 := Aside0.mk (Kd.FK_mono (Kd.FK_below (Kd.FK_bound hF1) (below_alloc (Below.refl _ _) (.cells #[.int .i64 n.f0, .slice An n.f1.length cn, .int .i64 n.f2, .int .i64 n.f3, .slice Am n.f4.length cm] 35))) (ok' := fun k => w.heap.size < k ∧ k < w1.heap.size) (fun k hk => by have h5 := hk.1; have h6 := hk.2; simp at h5; omega))
  have hi := is1_ok HT1.out 6
  rw [e1] at hi
  clear hT1 hk1 hz1 hF1 ln Fn lm Fm hcall
  go_wp2_with fail
  (with_reducible refine hi.mono ?_)
  rintro e w2 ⟨rfl, hT2, hk2⟩
  rw [HI.out]
  have hn2 := hk2.blk (blk_alloc HN1.out (.cells #[.int .i64 6] 3)) (by have h5 := HT1.out.lt; have h6 := HK1.out.1; omega) (by simp)
  have hz2 : w2.heap[w.heap.size]? = some nodeZ := hk2.blk (blk_alloc HZ1.out _) (by omega) (by simp)
  have hs2 : w1.heap.size + 2 ≤ w2.heap.size := by have h5 := hk2.1; simp at h5; omega
  have HT2 := Aside0.mk hT2
  have HK2 := Aside0.mk (keepTr (keepAlloc HK1.out _) hk2)
  have HF2 := Aside0.mk (Kd.FK_step (W1 := w2) (Kd.FK_below HF1.out (below_alloc (Below.refl _ _) (.cells #[.int .i64 6] 3))) (fun k hk hlt => hk2.2 k hlt (by omega) (by simp)))
  have HZ2 := Aside0.mk hz2
  have HN2 := Aside0.mk hn2
  clear hT2 hk2 hn2 hz2 hi
  go_wp2_with fail
  refine (rnext_ok HT2.out).mono ?_
  rintro e w3 ⟨rfl, hT3, hk3⟩
  have HT3 := Aside0.mk (hT3.grow (below_alloc (Below.refl _ _) (tokB t)))
  have HK3 := Aside0.mk (keepAlloc (keepTr HK2.out hk3) (tokB t))
  have HZ3 := Aside0.mk (blk_alloc (hk3.blk HZ2.out (by omega) (by simp)) (tokB t))
  have HN3 := Aside0.mk (blk_alloc (hk3.blk HN2.out (by omega) (by simp)) (tokB t))
  have HB3 := Aside0.mk (blk_new w3 (tokB t))
  have HF3 := Aside0.mk (Kd.FK_below (Kd.FK_step (W1 := w3) HF2.out (fun k hk hlt => hk3.2 k hlt (by omega) (by simp))) (below_alloc (Below.refl _ _) (tokB t)))
  have e3 : (w3.alloc (tokB t)).heap.size = w3.heap.size + 1 := by simp
  have hs3 : w2.heap.size ≤ w3.heap.size := hk3.1
  have hi := is1_ok HT3.out 13
  rw [e3] at hi
  unfold tokV
  clear hT3 hk3
  go_wp2_with fail
  unfold tokB at hi
  (with_reducible refine hi.mono ?_)
  rintro e w4 ⟨rfl, hT4, hk4⟩
  rw [HL.out]
  have HT4 := Aside0.mk hT4
  have HK4 := Aside0.mk (keepTr (keepAlloc HK3.out _) hk4)
  have HZ4 := Aside0.mk (hk4.blk (blk_alloc HZ3.out (.cells #[.int .i64 13] 3)) (by omega) (by simp))
  have HN4 := Aside0.mk (hk4.blk (blk_alloc HN3.out (.cells #[.int .i64 13] 3)) (by omega) (by simp))
  have HB4 := Aside0.mk (hk4.blk (blk_alloc HB3.out (.cells #[.int .i64 13] 3)) (by omega) (by simp))
  have HF4 := Aside0.mk (Kd.FK_step (W1 := w4) (Kd.FK_below HF3.out (below_alloc (Below.refl _ _) (.cells #[.int .i64 13] 3))) (fun k hk hlt => hk4.2 k hlt (by omega) (by simp)))
  have hs4 : w3.heap.size + 2 ≤ w4.heap.size := by have h5 := hk4.1; simp [tokB] at h5; omega
  clear hT4 hk4 hi
  go_wp2_with fail
  refine (is1_ok HT4.out 6).mono ?_
  rintro e w6 ⟨rfl, hT6, hk6⟩
  rw [HE.out]
  have HT6 := Aside0.mk hT6
  have HK6 := Aside0.mk (keepTr (keepAlloc HK4.out _) hk6)
  have hz6 := hk6.blk (blk_alloc HZ4.out (.cells #[.int .i64 6] 3)) (by omega) (by simp)
  have hn6 := hk6.blk (blk_alloc HN4.out (.cells #[.int .i64 6] 3)) (by omega) (by simp)
  have hb6 := hk6.blk (blk_alloc HB4.out (.cells #[.int .i64 6] 3)) (by omega) (by simp)
  have HF6 := Aside0.mk (Kd.FK_step (W1 := w6) (Kd.FK_below HF4.out (below_alloc (Below.refl _ _) (.cells #[.int .i64 6] 3))) (fun k hk hlt => hk6.2 k hlt (by omega) (by simp)))
  have hs6 : w4.heap.size ≤ w6.heap.size := by have h5 := hk6.1; simp at h5; omega
  obtain ⟨ad, c, d0, d4⟩ := HT6.out.head
  have d1 : (0 : Int) < (v.length : Int) + 1 := by omega
  have hadd : ad.add 0 = ad := rfl
  clear hT6 hk6 hz6 hn6 hb6
  go_wp2_with fail
  exact ⟨rfl, rfl, HT6.out.below⟩
set_option maxRecDepth 100000 in
set_option maxHeartbeats 1000000 in
theorem piece_lazy (h : Rdr w0 g en fl ts w) {n : S35} {t : S68} {l : S68} {r : List S68} (HI : Aside0 (isTok [6] (t :: l :: r) = true)) (HL : Aside0 (isTok [13] (l :: r) = true)) (HE : Aside0 (isTok [6] r = false)) (hat : ∀ W, Rdr w0 g en fl ts W → Calls Tryz.prog 105 #[.pointer (some ⟨g, 0, none⟩), .int .i64 deep] W (NodeOk w0 g en fl (t :: l :: r) W n)) :
    Calls Tryz.prog 86 #[.pointer (some ⟨g, 0, none⟩), .int .i64 deep] w (NodeOk w0 g en fl r w ⟨5, [], t.f2, t.f3, [n]⟩) := by
  have hglt := h.lt
  have hge := h.ge
  have HT := Aside0.mk (h.grow (below_alloc (Below.refl _ _) nodeZ))
  have HZ := Aside0.mk (blk_new w nodeZ)
  have HA := Aside0.mk hat
  clear h hat
  have hcall := HA.out _ HT.out
  clear HA
  go_enter Tryz.func86, Tryz.ntmps86
  go_wp2_with fail
  refine hcall.mono ?_
  rintro e w1 ⟨⟨cs, rfl, hF1⟩, hT1, hk1⟩
  obtain ⟨An, cn, Am, cm, rfl, ln, Fn, lm, Fm⟩ := FK35_openF hF1
  have hz1 : w1.heap[w.heap.size]? = some nodeZ := hk1.blk HZ.out (by omega) (by simp)
  have hs1 := hk1.1
  have hr1 := blk_lt hz1
  have e1 : (w1.alloc (.cells #[.int .i64 n.f0, .slice An n.f1.length cn, .int .i64 n.f2, .int .i64 n.f3, .slice Am n.f4.length cm] 35)).heap.size = w1.heap.size + 1 := by simp
  have HT1 := Aside0.mk (hT1.grow (below_alloc (Below.refl _ _) (.cells #[.int .i64 n.f0, .slice An n.f1.length cn, .int .i64 n.f2, .int .i64 n.f3, .slice Am n.f4.length cm] 35)))
  have HK1 := Aside0.mk (keepAlloc (keepTr (KeepBut.of_below (below_alloc (Below.refl w.heap.size w) nodeZ) g none) hk1) (.cells #[.int .i64 n.f0, .slice An n.f1.length cn, .int .i64 n.f2, .int .i64 n.f3, .slice Am n.f4.length cm] 35))
  have HZ1 := Aside0.mk (blk_alloc hz1 (.cells #[.int .i64 n.f0, .slice An n.f1.length cn, .int .i64 n.f2, .int .i64 n.f3, .slice Am n.f4.length cm] 35))
  have HN1 := Aside0.mk (blk_new w1 (.cells #[.int .i64 n.f0, .slice An n.f1.length cn, .int .i64 n.f2, .int .i64 n.f3, .slice Am n.f4.length cm] 35))
  have HF1 := Aside0.mk (Kd.FK_mono (Kd.FK_below (Kd.FK_bound hF1) (below_alloc (Below.refl _ _) (.cells #[.int .i64 n.f0, .slice An n.f1.length cn, .int .i64 n.f2, .int .i64 n.f3, .slice Am n.f4.length cm] 35))) (ok' := fun k => w.heap.size < k ∧ k < w1.heap.size) (fun k hk => by have h5 := hk.1; have h6 := hk.2; simp at h5; omega))
  have hi := is1_ok HT1.out 6
  rw [e1] at hi
  clear hT1 hk1 hz1 hF1 ln Fn lm Fm hcall
  go_wp2_with fail
  (with_reducible refine hi.mono ?_)
  rintro e w2 ⟨rfl, hT2, hk2⟩
  rw [HI.out]
  have hn2 := hk2.blk (blk_alloc HN1.out (.cells #[.int .i64 6] 3)) (by have h5 := HT1.out.lt; have h6 := HK1.out.1; omega) (by simp)
  have hz2 : w2.heap[w.heap.size]? = some nodeZ := hk2.blk (blk_alloc HZ1.out _) (by omega) (by simp)
  have hs2 : w1.heap.size + 2 ≤ w2.heap.size := by have h5 := hk2.1; simp at h5; omega
  have HT2 := Aside0.mk hT2
  have HK2 := Aside0.mk (keepTr (keepAlloc HK1.out _) hk2)
  have HF2 := Aside0.mk (Kd.FK_step (W1 := w2) (Kd.FK_below HF1.out (below_alloc (Below.refl _ _) (.cells #[.int .i64 6] 3))) (fun k hk hlt => hk2.2 k hlt (by omega) (by simp)))
  have HZ2 := Aside0.mk hz2
  have HN2 := Aside0.mk hn2
  clear hT2 hk2 hn2 hz2 hi
  go_wp2_with fail
  refine (rnext_ok HT2.out).mono ?_
  rintro e w3 ⟨rfl, hT3, hk3⟩
  have HT3 := Aside0.mk (hT3.grow (below_alloc (Below.refl _ _) (tokB t)))
  have HK3 := Aside0.mk (keepAlloc (keepTr HK2.out hk3) (tokB t))
  have HZ3 := Aside0.mk (blk_alloc (hk3.blk HZ2.out (by omega) (by simp)) (tokB t))
  have HN3 := Aside0.mk (blk_alloc (hk3.blk HN2.out (by omega) (by simp)) (tokB t))
  have HB3 := Aside0.mk (blk_new w3 (tokB t))
  have HF3 := Aside0.mk (Kd.FK_below (Kd.FK_step (W1 := w3) HF2.out (fun k hk hlt => hk3.2 k hlt (by omega) (by simp))) (below_alloc (Below.refl _ _) (tokB t)))
  have e3 : (w3.alloc (tokB t)).heap.size = w3.heap.size + 1 := by simp
  have hs3 : w2.heap.size ≤ w3.heap.size := hk3.1
  have hi := is1_ok HT3.out 13
  rw [e3] at hi
  unfold tokV
  clear hT3 hk3
  go_wp2_with fail
  unfold tokB at hi
  (with_reducible refine hi.mono ?_)
  rintro e w4 ⟨rfl, hT4, hk4⟩
  rw [HL.out]
  have HT4 := Aside0.mk hT4
  have HK4 := Aside0.mk (keepTr (keepAlloc HK3.out _) hk4)
  have HZ4 := Aside0.mk (hk4.blk (blk_alloc HZ3.out (.cells #[.int .i64 13] 3)) (by omega) (by simp))
  have HN4 := Aside0.mk (hk4.blk (blk_alloc HN3.out (.cells #[.int .i64 13] 3)) (by omega) (by simp))
  have HB4 := Aside0.mk (hk4.blk (blk_alloc HB3.out (.cells #[.int .i64 13] 3)) (by omega) (by simp))
  have HF4 := Aside0.mk (Kd.FK_step (W1 := w4) (Kd.FK_below HF3.out (below_alloc (Below.refl _ _) (.cells #[.int .i64 13] 3))) (fun k hk hlt => hk4.2 k hlt (by omega) (by simp)))
  have hs4 : w3.heap.size + 2 ≤ w4.heap.size := by have h5 := hk4.1; simp [tokB] at h5; omega
  clear hT4 hk4 hi
  go_wp2_with fail
  refine (rnext_ok HT4.out).mono ?_
  rintro e w5 ⟨rfl, hT5, hk5⟩
  have HT5 := Aside0.mk hT5
  have HK5 := Aside0.mk (keepTr HK4.out hk5)
  have HZ5 := Aside0.mk (hk5.blk HZ4.out (by omega) (by simp))
  have HN5 := Aside0.mk (hk5.blk HN4.out (by omega) (by simp))
  have HB5 := Aside0.mk (hk5.blk HB4.out (by omega) (by simp))
  have HF5 := Aside0.mk (Kd.FK_step (W1 := w5) HF4.out (fun k hk hlt => hk5.2 k hlt (by omega) (by simp)))
  have hs5 := hk5.1
  clear hT5 hk5
  go_wp2_with fail
  refine (is1_ok HT5.out 6).mono ?_
  rintro e w6 ⟨rfl, hT6, hk6⟩
  rw [HE.out]
  have HT6 := Aside0.mk hT6
  have HK6 := Aside0.mk (keepTr (keepAlloc HK5.out _) hk6)
  have hz6 := hk6.blk (blk_alloc HZ5.out (.cells #[.int .i64 6] 3)) (by omega) (by simp)
  have hn6 := hk6.blk (blk_alloc HN5.out (.cells #[.int .i64 6] 3)) (by omega) (by simp)
  have hb6 := hk6.blk (blk_alloc HB5.out (.cells #[.int .i64 6] 3)) (by omega) (by simp)
  have HF6 := Aside0.mk (Kd.FK_step (W1 := w6) (Kd.FK_below HF5.out (below_alloc (Below.refl _ _) (.cells #[.int .i64 6] 3))) (fun k hk hlt => hk6.2 k hlt (by omega) (by simp)))
  have hs6 : w5.heap.size ≤ w6.heap.size := by have h5 := hk6.1; simp at h5; omega
  obtain ⟨n0, n1, n2, n3, n4⟩ := node_cells hn6
  obtain ⟨y0, y1, y2, y3, y4⟩ := node_cells hz6
  have t2 : w6.cell? ⟨w3.heap.size, 2, none⟩ = some (.int .i64 t.f2) := by simpa using blk_cell hb6 2
  have t3 : w6.cell? ⟨w3.heap.size, 3, none⟩ = some (.int .i64 t.f3) := by simpa using blk_cell hb6 3
  have hrf := blk_frozen hz6
  have hr6 := blk_lt hz6
  have hr7 := blk_lt hn6
  have hr8 := blk_lt hb6
  have hN := N_one (((((w6.setCell ⟨w.heap.size, 0, none⟩ (.int .i64 5)).setCell ⟨w.heap.size, 1, none⟩ (.slice none 0 0)).setCell ⟨w.heap.size, 2, none⟩ (.int .i64 t.f2)).setCell ⟨w.heap.size, 3, none⟩ (.int .i64 t.f3)).setCell ⟨w.heap.size, 4, none⟩ (.slice (some ⟨w6.heap.size, 0, none⟩) 1 1)) w.heap.size n [.int .i64 n.f0, .slice An n.f1.length cn, .int .i64 n.f2, .int .i64 n.f3, .slice Am n.f4.length cm] _ (FK_set5 HF6.out w.heap.size (fun k hk => by omega) _ _ _ _ _) (by simp; omega) (fun k hk => by omega)
  have e6 : (((((w6.setCell ⟨w.heap.size, 0, none⟩ (.int .i64 5)).setCell ⟨w.heap.size, 1, none⟩ (.slice none 0 0)).setCell ⟨w.heap.size, 2, none⟩ (.int .i64 t.f2)).setCell ⟨w.heap.size, 3, none⟩ (.int .i64 t.f3)).setCell ⟨w.heap.size, 4, none⟩ (.slice (some ⟨w6.heap.size, 0, none⟩) 1 1)).heap.size = w6.heap.size := by simp
  rw [e6] at hN
  have HN := Aside0.mk hN
  clear hT6 hk6 hn6 hz6 hb6 hN e6
  go_wp2_with fail
  refine bodyPost_ret (v := .agg #[.int .i64 5, .slice none 0 0, .int .i64 t.f2, .int .i64 t.f3, .slice (some ⟨w6.heap.size, 0, none⟩) 1 1]) (by simp [results, Tryz.results86, go_sem, y0, y1, y2, y3, y4, hr6, Nat.ne_of_lt hr6]) rfl ?_
  exact ⟨⟨_, rfl, FK35_mkF _ _ ⟨5, [], t.f2, t.f3, [n]⟩ (Nat.le_refl _) (Kd.F_nil _ _ _) (Nat.le_refl _) (Kd.N_F HN.out)⟩, (HT6.out.set5 w.heap.size (by omega) (by omega) _ _ _ _ _).grow (below_alloc (Below.refl _ _) _), keepAlloc (keep_set5 HK6.out (Nat.le_refl _) _ _ _ _ _) _⟩
set_option maxRecDepth 100000 in
set_option maxHeartbeats 1000000 in
theorem piece_lazybad (h : Rdr w0 g en fl ts w) {n : S35} {t : S68} {l : S68} {u : S68} {v : List S68} (HI : Aside0 (isTok [6] (t :: l :: u :: v) = true)) (HL : Aside0 (isTok [13] (l :: u :: v) = true)) (HE : Aside0 (isTok [6] (u :: v) = true)) (hat : ∀ W, Rdr w0 g en fl ts W → Calls Tryz.prog 105 #[.pointer (some ⟨g, 0, none⟩), .int .i64 deep] W (NodeOk w0 g en fl (t :: l :: u :: v) W n)) :
    Calls Tryz.prog 86 #[.pointer (some ⟨g, 0, none⟩), .int .i64 deep] w (NodeBad w0 u.f4 5) := by
  have hglt := h.lt
  have hge := h.ge
  have HT := Aside0.mk (h.grow (below_alloc (Below.refl _ _) nodeZ))
  have HZ := Aside0.mk (blk_new w nodeZ)
  have HA := Aside0.mk hat
  clear h hat
  have hcall := HA.out _ HT.out
  clear HA
  go_enter Tryz.func86, Tryz.ntmps86
  go_wp2_with fail
  refine hcall.mono ?_
  rintro e w1 ⟨⟨cs, rfl, hF1⟩, hT1, hk1⟩
  obtain ⟨An, cn, Am, cm, rfl, ln, Fn, lm, Fm⟩ := FK35_openF hF1
  have hz1 : w1.heap[w.heap.size]? = some nodeZ := hk1.blk HZ.out (by omega) (by simp)
  have hs1 := hk1.1
  have hr1 := blk_lt hz1
  have e1 : (w1.alloc (.cells #[.int .i64 n.f0, .slice An n.f1.length cn, .int .i64 n.f2, .int .i64 n.f3, .slice Am n.f4.length cm] 35)).heap.size = w1.heap.size + 1 := by simp
  have HT1 := Aside0.mk (hT1.grow (below_alloc (Below.refl _ _) (.cells #[.int .i64 n.f0, .slice An n.f1.length cn, .int .i64 n.f2, .int .i64 n.f3, .slice Am n.f4.length cm] 35)))
  have HK1 := Aside0.mk (keepAlloc (keepTr (KeepBut.of_below (below_alloc (Below.refl w.heap.size w) nodeZ) g none) hk1) (.cells #[.int .i64 n.f0, .slice An n.f1.length cn, .int .i64 n.f2, .int .i64 n.f3, .slice Am n.f4.length cm] 35))
  have HZ1 := Aside0.mk (blk_alloc hz1 (.cells #[.int .i64 n.f0, .slice An n.f1.length cn, .int .i64 n.f2, .int .i64 n.f3, .slice Am n.f4.length cm] 35))
  have HN1 := Aside0.mk (blk_new w1 (.cells #[.int .i64 n.f0, .slice An n.f1.length cn, .int .i64 n.f2, .int .i64 n.f3, .slice Am n.f4.length cm] 35))
  have HF1 := Aside0.mk (Kd.FK_mono (Kd.FK_below (Kd.FK_bound hF1) (below_alloc (Below.refl _ _) (.cells #[.int .i64 n.f0, .slice An n.f1.length cn, .int .i64 n.f2, .int .i64 n.f3, .slice Am n.f4.length cm] 35))) (ok' := fun k => w.heap.size < k ∧ k < w1.heap.size) (fun k hk => by have h5 := hk.1; have h6 := hk.2; simp at h5; omega))
  have hi := is1_ok HT1.out 6
  rw [e1] at hi
  clear hT1 hk1 hz1 hF1 ln Fn lm Fm hcall
  go_wp2_with fail
  (with_reducible refine hi.mono ?_)
  rintro e w2 ⟨rfl, hT2, hk2⟩
  rw [HI.out]
  have hn2 := hk2.blk (blk_alloc HN1.out (.cells #[.int .i64 6] 3)) (by have h5 := HT1.out.lt; have h6 := HK1.out.1; omega) (by simp)
  have hz2 : w2.heap[w.heap.size]? = some nodeZ := hk2.blk (blk_alloc HZ1.out _) (by omega) (by simp)
  have hs2 : w1.heap.size + 2 ≤ w2.heap.size := by have h5 := hk2.1; simp at h5; omega
  have HT2 := Aside0.mk hT2
  have HK2 := Aside0.mk (keepTr (keepAlloc HK1.out _) hk2)
  have HF2 := Aside0.mk (Kd.FK_step (W1 := w2) (Kd.FK_below HF1.out (below_alloc (Below.refl _ _) (.cells #[.int .i64 6] 3))) (fun k hk hlt => hk2.2 k hlt (by omega) (by simp)))
  have HZ2 := Aside0.mk hz2
  have HN2 := Aside0.mk hn2
  clear hT2 hk2 hn2 hz2 hi
  go_wp2_with fail
  refine (rnext_ok HT2.out).mono ?_
  rintro e w3 ⟨rfl, hT3, hk3⟩
  have HT3 := Aside0.mk (hT3.grow (below_alloc (Below.refl _ _) (tokB t)))
  have HK3 := Aside0.mk (keepAlloc (keepTr HK2.out hk3) (tokB t))
  have HZ3 := Aside0.mk (blk_alloc (hk3.blk HZ2.out (by omega) (by simp)) (tokB t))
  have HN3 := Aside0.mk (blk_alloc (hk3.blk HN2.out (by omega) (by simp)) (tokB t))
  have HB3 := Aside0.mk (blk_new w3 (tokB t))
  have HF3 := Aside0.mk (Kd.FK_below (Kd.FK_step (W1 := w3) HF2.out (fun k hk hlt => hk3.2 k hlt (by omega) (by simp))) (below_alloc (Below.refl _ _) (tokB t)))
  have e3 : (w3.alloc (tokB t)).heap.size = w3.heap.size + 1 := by simp
  have hs3 : w2.heap.size ≤ w3.heap.size := hk3.1
  have hi := is1_ok HT3.out 13
  rw [e3] at hi
  unfold tokV
  clear hT3 hk3
  go_wp2_with fail
  unfold tokB at hi
  (with_reducible refine hi.mono ?_)
  rintro e w4 ⟨rfl, hT4, hk4⟩
  rw [HL.out]
  have HT4 := Aside0.mk hT4
  have HK4 := Aside0.mk (keepTr (keepAlloc HK3.out _) hk4)
  have HZ4 := Aside0.mk (hk4.blk (blk_alloc HZ3.out (.cells #[.int .i64 13] 3)) (by omega) (by simp))
  have HN4 := Aside0.mk (hk4.blk (blk_alloc HN3.out (.cells #[.int .i64 13] 3)) (by omega) (by simp))
  have HB4 := Aside0.mk (hk4.blk (blk_alloc HB3.out (.cells #[.int .i64 13] 3)) (by omega) (by simp))
  have HF4 := Aside0.mk (Kd.FK_step (W1 := w4) (Kd.FK_below HF3.out (below_alloc (Below.refl _ _) (.cells #[.int .i64 13] 3))) (fun k hk hlt => hk4.2 k hlt (by omega) (by simp)))
  have hs4 : w3.heap.size + 2 ≤ w4.heap.size := by have h5 := hk4.1; simp [tokB] at h5; omega
  clear hT4 hk4 hi
  go_wp2_with fail
  refine (rnext_ok HT4.out).mono ?_
  rintro e w5 ⟨rfl, hT5, hk5⟩
  have HT5 := Aside0.mk hT5
  have HK5 := Aside0.mk (keepTr HK4.out hk5)
  have HZ5 := Aside0.mk (hk5.blk HZ4.out (by omega) (by simp))
  have HN5 := Aside0.mk (hk5.blk HN4.out (by omega) (by simp))
  have HB5 := Aside0.mk (hk5.blk HB4.out (by omega) (by simp))
  have HF5 := Aside0.mk (Kd.FK_step (W1 := w5) HF4.out (fun k hk hlt => hk5.2 k hlt (by omega) (by simp)))
  have hs5 := hk5.1
  clear hT5 hk5
  go_wp2_with fail
  refine (is1_ok HT5.out 6).mono ?_
  rintro e w6 ⟨rfl, hT6, hk6⟩
  rw [HE.out]
  have HT6 := Aside0.mk hT6
  have HK6 := Aside0.mk (keepTr (keepAlloc HK5.out _) hk6)
  have hz6 := hk6.blk (blk_alloc HZ5.out (.cells #[.int .i64 6] 3)) (by omega) (by simp)
  have hn6 := hk6.blk (blk_alloc HN5.out (.cells #[.int .i64 6] 3)) (by omega) (by simp)
  have hb6 := hk6.blk (blk_alloc HB5.out (.cells #[.int .i64 6] 3)) (by omega) (by simp)
  have HF6 := Aside0.mk (Kd.FK_step (W1 := w6) (Kd.FK_below HF5.out (below_alloc (Below.refl _ _) (.cells #[.int .i64 6] 3))) (fun k hk hlt => hk6.2 k hlt (by omega) (by simp)))
  have hs6 : w5.heap.size ≤ w6.heap.size := by have h5 := hk6.1; simp at h5; omega
  obtain ⟨ad, c, d0, d4⟩ := HT6.out.head
  have d1 : (0 : Int) < (v.length : Int) + 1 := by omega
  have hadd : ad.add 0 = ad := rfl
  clear hT6 hk6 hz6 hn6 hb6
  go_wp2_with fail
  exact ⟨rfl, rfl, HT6.out.below⟩
end
end Go.Proofs.YtglolcejfbhbdaaGreat.P
end
section
namespace Go.Proofs.YtglolcejfbhbdaaGreat.P
open Go.RowKit Go.Shelf Go.Proofs.YtglolcejfbhbdaaGreatW.PrintWords Go.Proofs.YtglolcejfbhbdaaGreatW.PrintLast Go.Proofs.YtglolcejfbhbdaaGreatW.PrintMore
set_option linter.unusedVariables false
set_option linter.unusedSimpArgs false
theorem info35 : (Tryz.prog.info? 35).map (fun i => (i.zero, i.size, i.bytes)) = some (some (.agg #[(.int .i64 0), (.slice none 0 0), (.int .i64 0), (.int .i64 0), (.slice none 0 0)]), 5, 72) := by kernel_rfl
def PieceC (w0 : World) (g : Nat) (en fl : Int) (orF : Int → List S68 → PR) (deep : Int) : Prop :=
  ∀ (t : S68) (us : List S68) (W : World), wfT 0 (t :: us) → isTok [5, 4] (t :: us) = false → us.length ≤ 100000 → Rdr w0 g en fl (t :: us) W → Calls Tryz.prog 86 #[.pointer (some ⟨g, 0, none⟩), .int .i64 deep] W (NodePost w0 g en fl W (pieceP orF en fl deep (t :: us)))
theorem lay_node {w0 w W : World} {g : Nat} {en fl : Int} {ts : List S68} {n : S35} {v0 v1 v2 v3 v4 : Value} (hF : Kd.FK k35 W (fun k => w.heap.size < k) n [v0, v1, v2, v3, v4]) (hT : Rdr w0 g en fl ts W) (hK : KeepBut w W g none) (hg : g < w.heap.size) (h0 : w0.heap.size ≤ g) :
    NodeOk w0 g en fl ts w n (.returned (.agg #[v0, v1, v2, v3, v4])) (((((W.setCell ⟨w.heap.size, 0, none⟩ v0).setCell ⟨w.heap.size, 1, none⟩ v1).setCell ⟨w.heap.size, 2, none⟩ v2).setCell ⟨w.heap.size, 3, none⟩ v3).setCell ⟨w.heap.size, 4, none⟩ v4) :=
  ⟨⟨_, rfl, Kd.FK_mono (FK_set5 hF w.heap.size (fun k hk => by omega) _ _ _ _ _) (fun k hk => by omega)⟩, hT.set5 w.heap.size (by omega) (by omega) _ _ _ _ _, keep_set5 hK (Nat.le_refl _) _ _ _ _ _⟩
section
variable {w0 : World} {g : Nat} {en fl deep : Int} {ts : List S68} {w : World} {orF : Int → List S68 → PR}
set_option maxRecDepth 100000 in
set_option maxHeartbeats 2000000 in
theorem join_ok (h : Rdr w0 g en fl ts w) (hw : wfT 0 ts) (hl : ts.length ≤ 100000) (hor : ∀ deep ts, wfT 0 ts → Good ts (orF deep ts)) (hp : PieceC w0 g en fl orF deep) :
    Calls Tryz.prog 61 #[.pointer (some ⟨g, 0, none⟩), .int .i64 deep] w (NodePost w0 g en fl w (joinP orF en fl deep ts)) := by
  have hglt := h.lt
  have hge := h.ge
  have HT := Aside0.mk (h.grow (below_alloc (Below.refl _ _) nodeZ))
  have HZ := Aside0.mk (blk_new w nodeZ)
  have HK := Aside0.mk (KeepBut.of_below (below_alloc (Below.refl w.heap.size w) nodeZ) g none)
  have HW := Aside0.mk hw
  have HP := Aside0.mk hp
  have HG := Aside0.mk hor
  obtain ⟨R, hR⟩ : ∃ R, joinP orF en fl deep ts = R := ⟨_, rfl⟩
  rw [hR]
  have HR := Aside0.mk (show joinGo orF en fl deep (ts.length + 1) ts [] = R from hR)
  clear h hw hp hor hR
  go_enter Tryz.func61, Tryz.ntmps61
  go_wp2_with fail
  go_loopg [5] (ts.length + 1) (fun kq v5 w' => ∃ (us : List S68) (kids : List S35), us.length < kq ∧ Aside0 (joinGo orF en fl deep kq us kids = R) ∧ Aside0 (wfT 0 us) ∧ Aside0 (kids.length + us.length ≤ 100000) ∧ Aside0 (Rdr w0 g en fl us w') ∧ Aside0 (KeepBut w w' g none) ∧ Aside0 (w'.heap[w.heap.size]? = some nodeZ) ∧ Aside0 (Kd.N k35 35 w' (w.heap.size + 1) (fun k => w.heap.size < k) v5 kids))
  case atStart => exact ⟨ts, [], by omega, HR, HW, ⟨by simpa using hl⟩, HT, HK, HZ, ⟨Kd.N_nil _ _ _ _ _⟩⟩
  case round =>
    clear HR HW HT HK HZ
    obtain ⟨us, kids, hkq, HRE, HW, HM, HT1, HK1, HZ1, HN1⟩ := hrel
    obtain ⟨A5, c5, rfl⟩ := Kd.N_slice HN1.out
    cases gk with
    | zero => exact absurd hkq (Nat.not_lt_zero _)
    | succ k1 =>
      have HRE := Aside0.mk (show (if us = [] ∨ isTok [5, 4] us = true then .ok (severalP 3 kids) us
        else match pieceP orF en fl deep us with
          | .bad a e => .bad a e
          | .ok n rest => joinGo orF en fl deep k1 rest (kids ++ [n])) = R from HRE.out)
      cases us with
      | nil =>
        obtain ⟨A0, c0, _, _, hc0, _, _, _⟩ := HT1.out.cells
        have HRE := Aside0.mk (show PR.ok (severalP 3 kids) [] = R by rw [← HRE.out, if_pos (.inl rfl)])
        have hc0 : wr.cell? ⟨g, 0, none⟩ = some (.slice A0 0 c0) := hc0
        have HSV := Aside0.mk (several_ok 3 A5 c5 kids wr (fun k => w.heap.size < k) (Kd.N_F HN1.out) (Kd.N_reads' HN1.out).2.1)
        go_wp2_with fail
        refine HSV.out.mono ?_
        rintro e w9 ⟨⟨cs, rfl, hF9⟩, hb9⟩
        obtain ⟨An, cn, Am, cm, rfl, ln, Fn, lm, Fm⟩ := FK35_openF hF9
        have hz9 := blk_below HZ1.out hb9
        obtain ⟨y0, y1, y2, y3, y4⟩ := node_cells hz9
        have hrf := blk_frozen hz9
        have hr9 := blk_lt hz9
        have HT9 := Aside0.mk (HT1.out.grow hb9)
        have HK9 := Aside0.mk (keepTr HK1.out (KeepBut.of_below hb9 g none))
        have HF9 := Aside0.mk hF9
        clear hF9 hb9 hz9 ln Fn lm Fm
        obtain rfl := HRE.out
        generalize severalP 3 kids = sv at *
        go_wp2_with fail
        refine bodyPost_ret (v := .agg #[.int .i64 sv.f0, .slice An sv.f1.length cn, .int .i64 sv.f2, .int .i64 sv.f3, .slice Am sv.f4.length cm]) (by simp [results, Tryz.results61, go_sem, y0, y1, y2, y3, y4, hr9, Nat.ne_of_lt hr9]) rfl ?_
        exact lay_node HF9.out HT9.out HK9.out hglt hge
      | cons t r =>
        obtain ⟨ad0, c0, hc0, _⟩ := HT1.out.head
        have d1 : (0 : Int) < (r.length : Int) + 1 := by omega
        have b1 : decide ((0 : Int) < (r.length : Int) + 1) = true := decide_eq_true d1
        cases hq : isTok [5, 4] (t :: r) with
        | true =>
          have HRE := Aside0.mk (show PR.ok (severalP 3 kids) (t :: r) = R by rw [← HRE.out, if_pos (.inr hq)])
          have hi := is2_ok HT1.out 5 4
          rw [hq] at hi
          clear hq
          go_wp2_with fail
          (with_reducible refine hi.mono ?_)
          rintro e w2 ⟨rfl, hT2, hk2⟩
          have HT2 := Aside0.mk hT2
          have HK2 := Aside0.mk (keepTr (keepAlloc HK1.out _) hk2)
          have HZ2 := Aside0.mk (hk2.blk (blk_alloc HZ1.out (.cells #[.int .i64 5, .int .i64 4] 3)) (by omega) (by simp))
          have HN2 := Aside0.mk (Kd.N_keep (Kd.N_alloc HN1.out _) hk2 (fun k hk => by omega))
          clear hT2 hk2 hi
          have HSV := Aside0.mk (several_ok 3 A5 c5 kids w2 (fun k => w.heap.size < k) (Kd.N_F HN2.out) (Kd.N_reads' HN2.out).2.1)
          go_wp2_with fail
          refine HSV.out.mono ?_
          rintro e w9 ⟨⟨cs, rfl, hF9⟩, hb9⟩
          obtain ⟨An, cn, Am, cm, rfl, ln, Fn, lm, Fm⟩ := FK35_openF hF9
          have hz9 := blk_below HZ2.out hb9
          obtain ⟨y0, y1, y2, y3, y4⟩ := node_cells hz9
          have hrf := blk_frozen hz9
          have hr9 := blk_lt hz9
          have HT9 := Aside0.mk (HT2.out.grow hb9)
          have HK9 := Aside0.mk (keepTr HK2.out (KeepBut.of_below hb9 g none))
          have HF9 := Aside0.mk hF9
          clear hF9 hb9 hz9 ln Fn lm Fm
          obtain rfl := HRE.out
          generalize severalP 3 kids = sv at *
          go_wp2_with fail
          refine bodyPost_ret (v := .agg #[.int .i64 sv.f0, .slice An sv.f1.length cn, .int .i64 sv.f2, .int .i64 sv.f3, .slice Am sv.f4.length cm]) (by simp [results, Tryz.results61, go_sem, y0, y1, y2, y3, y4, hr9, Nat.ne_of_lt hr9]) rfl ?_
          exact lay_node HF9.out HT9.out HK9.out hglt hge
        | false =>
          have HRE := Aside0.mk (show (match pieceP orF en fl deep (t :: r) with
            | .bad a e => .bad a e
            | .ok n rest => joinGo orF en fl deep k1 rest (kids ++ [n])) = R by rw [← HRE.out, if_neg (by rintro (h | h); cases h; rw [hq] at h; cases h)])
          have hi := is2_ok HT1.out 5 4
          rw [hq] at hi
          have HQ := Aside0.mk hq
          clear hq
          go_wp2_with fail
          (with_reducible refine hi.mono ?_)
          rintro e w2 ⟨rfl, hT2, hk2⟩
          have HT2 := Aside0.mk hT2
          have HK2 := Aside0.mk (keepTr (keepAlloc HK1.out _) hk2)
          have HZ2 := Aside0.mk (hk2.blk (blk_alloc HZ1.out (.cells #[.int .i64 5, .int .i64 4] 3)) (by omega) (by simp))
          have HN2 := Aside0.mk (Kd.N_keep (Kd.N_alloc HN1.out _) hk2 (fun k hk => by omega))
          have hpc := HP.out t r w2 HW.out HQ.out (by have h5 := HM.out; simp at h5; omega) HT2.out
          have hgd := pieceP_good (en := en) (fl := fl) HG.out deep t r HW.out
          clear hT2 hk2 hi
          cases hpp : pieceP orF en fl deep (t :: r) with
          | bad a er =>
            rw [hpp] at hpc
            have HRE := Aside0.mk (show PR.bad a er = R by rw [← HRE.out, hpp])
            clear hpp hgd
            go_wp2_with fail
            refine hpc.mono ?_
            rintro e w3 ⟨rfl, hb3⟩
            obtain rfl := HRE.out
            exact ⟨rfl, rfl, hb3⟩
          | ok n rest =>
            rw [hpp] at hpc hgd
            have HRE := Aside0.mk (show joinGo orF en fl deep k1 rest (kids ++ [n]) = R by rw [← HRE.out, hpp])
            have HGD := Aside0.mk hgd
            clear hpp hgd
            have HLT := Aside0.mk (Kd.N_lt HN2.out)
            have hKC : w.heap.size < w2.heap.size := by have h5 := blk_lt HZ2.out; exact h5
            go_wp2_with fail
            refine hpc.mono ?_
            rintro e w3 ⟨⟨cs, rfl, hF3⟩, hT3, hk3⟩
            obtain ⟨An, cn, Am, cm, rfl, ln, Fn, lm, Fm⟩ := FK35_openF hF3
            have HFn := Aside0.mk hF3
            have HTn := Aside0.mk hT3
            have HKn := Aside0.mk (keepTr HK2.out hk3)
            have HZn := Aside0.mk (hk3.blk HZ2.out (by omega) (by simp))
            have HNn := Aside0.mk (Kd.N_keep HN2.out hk3 (fun k hk => by omega))
            clear hF3 hT3 hk3 ln Fn lm Fm hpc
            go_wp2_with (first
            | (at_builtin; go_loud (refine Kd.N_append k35 (w0 := w3) (w.heap.size + 1) rfl (.tmp 18) (.tmp 22) 33 35 (.agg #[(.int .i64 0), (.slice none 0 0), (.int .i64 0), (.int .i64 0), (.slice none 0 0)]) 72 rfl Tryz.underlying33 info35 rfl (by decide) (by decide) (.slice A5 kids.length c5) kids n [.int .i64 n.f0, .slice An n.f1.length cn, .int .i64 n.f2, .int .i64 n.f3, .slice Am n.f4.length cm] (fun k => w.heap.size < k) (fun k => w2.heap.size ≤ k) (by rfl) (by rfl) HFn.out (fun k hk => ⟨by have h5 := hKC; omega, fun he => by have h5 := HLT.out k he.symm; omega⟩) (fun k hk => by have h5 := blk_lt HZn.out; omega) HNn.out (Below.refl _ _) (by have h5 := HKn.out.1; have h6 := blk_lt HZn.out; omega) (by have h5 := HM.out; omega) ?_); intro v7 w7 ho7 hb7 hg7 hat7
               have HT7 := Aside0.mk (HTn.out.growB hb7 (by omega) (by omega))
               have HK7 := Aside0.mk (keepB HKn.out (hb7.mono (Nat.le_succ _)) hb7.size)
               have HZ7 := Aside0.mk ((hb7.block w.heap.size (Nat.lt_succ_self _)).trans HZn.out)
               have HN7 := Aside0.mk ho7
               clear ho7 hb7 hg7 hat7)
            | fail)
            go_roundg k1
            case measure => omega
            case rel => exact ⟨rest, kids ++ [n], by have h5 := HGD.out.2.1; simp at h5 hkq; omega, HRE, ⟨HGD.out.1⟩, ⟨by have h5 := HGD.out.2.1; have h6 := HM.out; simp at h5 h6 ⊢; omega⟩, HT7, HK7, HZ7, HN7⟩
end
end Go.Proofs.YtglolcejfbhbdaaGreat.P
end
section
namespace Go.Proofs.YtglolcejfbhbdaaGreat.P
open Go.RowKit Go.Shelf Go.Proofs.YtglolcejfbhbdaaGreatW.PrintWords Go.Proofs.YtglolcejfbhbdaaGreatW.PrintLast Go.Proofs.YtglolcejfbhbdaaGreatW.PrintMore
set_option linter.unusedVariables false
set_option linter.unusedSimpArgs false
def JoinC (w0 : World) (g : Nat) (en fl : Int) (orF : Int → List S68 → PR) (deep : Int) : Prop :=
  ∀ (us : List S68) (W : World), wfT 0 us → us.length ≤ 100000 → Rdr w0 g en fl us W → Calls Tryz.prog 61 #[.pointer (some ⟨g, 0, none⟩), .int .i64 deep] W (NodePost w0 g en fl W (joinP orF en fl deep us))
section
variable {w0 : World} {g : Nat} {en fl deep : Int} {ts : List S68} {w : World} {orF : Int → List S68 → PR}
set_option maxRecDepth 100000 in
set_option maxHeartbeats 2000000 in
theorem or_ok (h : Rdr w0 g en fl ts w) (hw : wfT 0 ts) (hl : ts.length ≤ 100000) (hor : ∀ deep ts, wfT 0 ts → Good ts (orF deep ts)) (hp : JoinC w0 g en fl orF deep) :
    Calls Tryz.prog 44 #[.pointer (some ⟨g, 0, none⟩), .int .i64 deep] w (NodePost w0 g en fl w (orT orF en fl deep ts)) := by
  have hglt := h.lt
  have hge := h.ge
  have HT := Aside0.mk (h.grow (below_alloc (Below.refl _ _) nodeZ))
  have HZ := Aside0.mk (blk_new w nodeZ)
  have HK := Aside0.mk (KeepBut.of_below (below_alloc (Below.refl w.heap.size w) nodeZ) g none)
  have HP := Aside0.mk hp
  have HG := Aside0.mk hor
  obtain ⟨R, hR⟩ : ∃ R, orT orF en fl deep ts = R := ⟨_, rfl⟩
  rw [hR]
  have HR := Aside0.mk (show (match joinP orF en fl deep ts with
    | .bad a e => .bad a e
    | .ok n rest => orGo orF en fl deep (rest.length + 1) rest [n]) = R from hR)
  have hj0 := hp ts _ hw hl HT.out
  have hg0 := joinP_good (en := en) (fl := fl) hor deep ts hw
  clear h hw hp hor hR
  cases hpp : joinP orF en fl deep ts with
  | bad a er =>
    rw [hpp] at hj0
    have HRE := Aside0.mk (show PR.bad a er = R by rw [← HR.out, hpp])
    clear hpp hg0
    go_enter Tryz.func44, Tryz.ntmps44
    go_wp2_with fail
    refine hj0.mono ?_
    rintro e w3 ⟨rfl, hb3⟩
    obtain rfl := HRE.out
    exact ⟨rfl, rfl, hb3⟩
  | ok n rest =>
    rw [hpp] at hj0 hg0
    have HR := Aside0.mk (show orGo orF en fl deep (rest.length + 1) rest [n] = R by rw [← HR.out, hpp])
    have HGD := Aside0.mk hg0
    clear hpp hg0
    go_enter Tryz.func44, Tryz.ntmps44
    go_wp2_with fail
    refine hj0.mono ?_
    rintro e w1 ⟨⟨cs, rfl, hF1⟩, hT1, hk1⟩
    obtain ⟨An, cn, Am, cm, rfl, ln, Fn, lm, Fm⟩ := FK35_openF hF1
    have hz1 : w1.heap[w.heap.size]? = some nodeZ := hk1.blk HZ.out (by omega) (by simp)
    have hr1 := blk_lt hz1
    have HT1 := Aside0.mk (hT1.grow (below_alloc (Below.refl _ _) (.cells #[.int .i64 n.f0, .slice An n.f1.length cn, .int .i64 n.f2, .int .i64 n.f3, .slice Am n.f4.length cm] 35)))
    have HK1 := Aside0.mk (keepAlloc (keepTr HK.out hk1) (.cells #[.int .i64 n.f0, .slice An n.f1.length cn, .int .i64 n.f2, .int .i64 n.f3, .slice Am n.f4.length cm] 35))
    have HZ1 := Aside0.mk (blk_alloc hz1 (.cells #[.int .i64 n.f0, .slice An n.f1.length cn, .int .i64 n.f2, .int .i64 n.f3, .slice Am n.f4.length cm] 35))
    have HN1 := Aside0.mk (show Kd.N k35 35 (w1.alloc (.cells #[.int .i64 n.f0, .slice An n.f1.length cn, .int .i64 n.f2, .int .i64 n.f3, .slice Am n.f4.length cm] 35)) (w.heap.size + 1) (fun k => w.heap.size < k) (.slice (some ⟨w1.heap.size, 0, none⟩) 1 1) [n] from Kd.N_mono (N_one w1 (w.heap.size + 1) n _ _ hF1 (by omega) (fun k hk => by simp at hk; omega)) (fun k hk => by omega))
    clear hT1 hk1 hz1 hF1 ln Fn lm Fm hj0
    go_wp2_with fail
    go_loopg [5] (rest.length + 1) (fun kq v5 w' => ∃ (us : List S68) (kids : List S35), us.length < kq ∧ Aside0 (orGo orF en fl deep kq us kids = R) ∧ Aside0 (wfT 0 us) ∧ Aside0 (kids.length + us.length ≤ 100001) ∧ Aside0 (Rdr w0 g en fl us w') ∧ Aside0 (KeepBut w w' g none) ∧ Aside0 (w'.heap[w.heap.size]? = some nodeZ) ∧ Aside0 (Kd.N k35 35 w' (w.heap.size + 1) (fun k => w.heap.size < k) v5 kids))
    case atStart => exact ⟨rest, [n], by omega, HR, ⟨HGD.out.1⟩, ⟨by have h5 := HGD.out.2.1; simp; omega⟩, HT1, HK1, HZ1, HN1⟩
    case round =>
      clear HR HT HK HZ HT1 HK1 HZ1 HN1
      obtain ⟨us, kids, hkq, HRE, HW, HM, HT1, HK1, HZ1, HN1⟩ := hrel
      obtain ⟨A5, c5, rfl⟩ := Kd.N_slice HN1.out
      cases gk with
      | zero => exact absurd hkq (Nat.not_lt_zero _)
      | succ k1 =>
        have HRE := Aside0.mk (show (if isTok [5] us = true then
          match joinP orF en fl deep us.tail with
          | .bad a e => .bad a e
          | .ok n rest => orGo orF en fl deep k1 rest (kids ++ [n])
          else .ok (severalP 4 kids) us) = R from HRE.out)
        have hi := is1_ok HT1.out 5
        cases hq : isTok [5] us with
        | false =>
          rw [hq] at hi
          have HRE := Aside0.mk (show PR.ok (severalP 4 kids) us = R by rw [← HRE.out, if_neg (by rw [hq]; decide)])
          clear hq
          go_wp2_with fail
          (with_reducible refine hi.mono ?_)
          rintro e w2 ⟨rfl, hT2, hk2⟩
          have HT2 := Aside0.mk hT2
          have HK2 := Aside0.mk (keepTr (keepAlloc HK1.out _) hk2)
          have HZ2 := Aside0.mk (hk2.blk (blk_alloc HZ1.out (.cells #[.int .i64 5] 3)) (by omega) (by simp))
          have HN2 := Aside0.mk (Kd.N_keep (Kd.N_alloc HN1.out _) hk2 (fun k hk => by omega))
          clear hT2 hk2 hi
          have HSV := Aside0.mk (several_ok 4 A5 c5 kids w2 (fun k => w.heap.size < k) (Kd.N_F HN2.out) (Kd.N_reads' HN2.out).2.1)
          go_wp2_with fail
          refine HSV.out.mono ?_
          rintro e w9 ⟨⟨cs, rfl, hF9⟩, hb9⟩
          obtain ⟨An, cn, Am, cm, rfl, ln, Fn, lm, Fm⟩ := FK35_openF hF9
          have hz9 := blk_below HZ2.out hb9
          obtain ⟨y0, y1, y2, y3, y4⟩ := node_cells hz9
          have hrf := blk_frozen hz9
          have hr9 := blk_lt hz9
          have HT9 := Aside0.mk (HT2.out.grow hb9)
          have HK9 := Aside0.mk (keepTr HK2.out (KeepBut.of_below hb9 g none))
          have HF9 := Aside0.mk hF9
          clear hF9 hb9 hz9 ln Fn lm Fm
          obtain rfl := HRE.out
          generalize severalP 4 kids = sv at *
          go_wp2_with fail
          refine bodyPost_ret (v := .agg #[.int .i64 sv.f0, .slice An sv.f1.length cn, .int .i64 sv.f2, .int .i64 sv.f3, .slice Am sv.f4.length cm]) (by simp [results, Tryz.results44, go_sem, y0, y1, y2, y3, y4, hr9, Nat.ne_of_lt hr9]) rfl ?_
          exact lay_node HF9.out HT9.out HK9.out hglt hge
        | true =>
          cases us with
          | nil => simp [isTok] at hq
          | cons t r =>
            rw [hq] at hi
            have HW5 := Aside0.mk (show t.f0 = 5 by rw [isTok1] at hq; simpa using hq)
            have HRE := Aside0.mk (show (match joinP orF en fl deep r with
              | .bad a e => .bad a e
              | .ok n rest => orGo orF en fl deep k1 rest (kids ++ [n])) = R by rw [← HRE.out, if_pos hq]; rfl)
            have HWR := Aside0.mk ((wf_tail HW.out (by have h5 := HW5.out; omega) (by have h5 := HW5.out; omega)).1)
            clear hq
            go_wp2_with fail
            (with_reducible refine hi.mono ?_)
            rintro e w2 ⟨rfl, hT2, hk2⟩
            have HT2 := Aside0.mk hT2
            have HK2 := Aside0.mk (keepTr (keepAlloc HK1.out _) hk2)
            have HZ2 := Aside0.mk (hk2.blk (blk_alloc HZ1.out (.cells #[.int .i64 5] 3)) (by omega) (by simp))
            have HN2 := Aside0.mk (Kd.N_keep (Kd.N_alloc HN1.out _) hk2 (fun k hk => by omega))
            clear hT2 hk2 hi
            go_wp2_with fail
            refine (rnext_ok HT2.out).mono ?_
            rintro e w3 ⟨rfl, hT3, hk3⟩
            have HT3 := Aside0.mk hT3
            have HK3 := Aside0.mk (keepTr HK2.out hk3)
            have HZ3 := Aside0.mk (hk3.blk HZ2.out (by omega) (by simp))
            have HN3 := Aside0.mk (Kd.N_keep HN2.out hk3 (fun k hk => by omega))
            clear hT3 hk3
            have hpc := HP.out r w3 HWR.out (by have h5 := HM.out; simp at h5; omega) HT3.out
            have hgd := joinP_good (en := en) (fl := fl) HG.out deep r HWR.out
            cases hpp : joinP orF en fl deep r with
            | bad a er =>
              rw [hpp] at hpc
              have HRE := Aside0.mk (show PR.bad a er = R by rw [← HRE.out, hpp])
              clear hpp hgd
              go_wp2_with fail
              refine hpc.mono ?_
              rintro e w4 ⟨rfl, hb4⟩
              obtain rfl := HRE.out
              exact ⟨rfl, rfl, hb4⟩
            | ok n rest =>
              rw [hpp] at hpc hgd
              have HRE := Aside0.mk (show orGo orF en fl deep k1 rest (kids ++ [n]) = R by rw [← HRE.out, hpp])
              have HGD := Aside0.mk hgd
              clear hpp hgd
              have HLT := Aside0.mk (Kd.N_lt HN3.out)
              have hKC : w.heap.size < w3.heap.size := by have h5 := blk_lt HZ3.out; exact h5
              go_wp2_with fail
              refine hpc.mono ?_
              rintro e w4 ⟨⟨cs, rfl, hF3⟩, hT3, hk3⟩
              obtain ⟨An, cn, Am, cm, rfl, ln, Fn, lm, Fm⟩ := FK35_openF hF3
              have HFn := Aside0.mk hF3
              have HTn := Aside0.mk hT3
              have HKn := Aside0.mk (keepTr HK3.out hk3)
              have HZn := Aside0.mk (hk3.blk HZ3.out (by omega) (by simp))
              have HNn := Aside0.mk (Kd.N_keep HN3.out hk3 (fun k hk => by omega))
              clear hF3 hT3 hk3 ln Fn lm Fm hpc
              go_wp2_with (first
              | (at_builtin; go_loud (refine Kd.N_append k35 (w0 := w4) (w.heap.size + 1) rfl (.tmp 15) (.tmp 19) 33 35 (.agg #[(.int .i64 0), (.slice none 0 0), (.int .i64 0), (.int .i64 0), (.slice none 0 0)]) 72 rfl Tryz.underlying33 info35 rfl (by decide) (by decide) (.slice A5 kids.length c5) kids n [.int .i64 n.f0, .slice An n.f1.length cn, .int .i64 n.f2, .int .i64 n.f3, .slice Am n.f4.length cm] (fun k => w.heap.size < k) (fun k => w3.heap.size ≤ k) (by rfl) (by rfl) HFn.out (fun k hk => ⟨by have h5 := hKC; omega, fun he => by have h5 := HLT.out k he.symm; omega⟩) (fun k hk => by have h5 := blk_lt HZn.out; omega) HNn.out (Below.refl _ _) (by have h5 := HKn.out.1; have h6 := blk_lt HZn.out; omega) (by have h5 := HM.out; omega) ?_); intro v7 w7 ho7 hb7 hg7 hat7
                 have HT7 := Aside0.mk (HTn.out.growB hb7 (by omega) (by omega))
                 have HK7 := Aside0.mk (keepB HKn.out (hb7.mono (Nat.le_succ _)) hb7.size)
                 have HZ7 := Aside0.mk ((hb7.block w.heap.size (Nat.lt_succ_self _)).trans HZn.out)
                 have HN7 := Aside0.mk ho7
                 clear ho7 hb7 hg7 hat7)
              | fail)
              go_roundg k1
              case measure => omega
              case rel => exact ⟨rest, kids ++ [n], by have h5 := HGD.out.2.1; simp at h5 hkq; omega, HRE, ⟨HGD.out.1⟩, ⟨by have h5 := HGD.out.2.1; have h6 := HM.out; simp at h5 h6 ⊢; omega⟩, HT7, HK7, HZ7, HN7⟩
end
end Go.Proofs.YtglolcejfbhbdaaGreat.P
end
section
namespace Go.Proofs.YtglolcejfbhbdaaGreat.P
open Go.RowKit Go.Shelf Go.Proofs.YtglolcejfbhbdaaGreatW.PrintWords Go.Proofs.YtglolcejfbhbdaaGreatW.PrintLast Go.Proofs.YtglolcejfbhbdaaGreatW.PrintMore
set_option linter.unusedVariables false
set_option linter.unusedSimpArgs false
section
variable {w0 : World} {g : Nat} {en fl : Int} {orF : Int → List S68 → PR}
def InC (w0 : World) (g : Nat) (en fl : Int) (orF : Int → List S68 → PR) (deep : Int) : Prop :=
  ∀ (us : List S68) (W : World), ¬ deep = 20 → wfT 0 us → us.length ≤ 100000 → Rdr w0 g en fl us W → Calls Tryz.prog 44 #[.pointer (some ⟨g, 0, none⟩), .int .i64 (deep + 1)] W (NodePost w0 g en fl W (orF (deep + 1) us))
theorem atom_all {deep : Int} {t : S68} {ts : List S68} {w : World} (h : Rdr w0 g en fl (t :: ts) w) (hw : wfT 0 (t :: ts)) (hne : isTok [5, 4] (t :: ts) = false) (hl : ts.length ≤ 100000) (h0 : 0 ≤ deep) (h20 : deep ≤ 20) (hor : InC w0 g en fl orF deep) :
    Calls Tryz.prog 105 #[.pointer (some ⟨g, 0, none⟩), .int .i64 deep] w (NodePost w0 g en fl w (atomP orF en fl deep (t :: ts))) := by
  unfold atomP
  dsimp only
  by_cases h6 : t.f0 = 6
  · rw [if_pos h6]; exact atom_6 h h6
  rw [if_neg h6]
  by_cases h7 : t.f0 = 7
  · rw [if_neg (by omega), if_neg (by omega), if_neg (by omega), if_pos h7]
    exact atom_7 h h7 (clsT_of _ (wf_tail7 hw h7))
  obtain ⟨hwt, h13, hk⟩ := wf_tail hw h7 h6
  by_cases h3 : t.f0 = 3
  · rw [if_pos h3]
    by_cases hd : deep = 20
    · rw [if_pos hd]; exact atom_3deep h h3 hd
    rw [if_neg hd]
    have ho := fun (W : World) (hW : Rdr w0 g en fl ts W) => hor ts W hd hwt hl hW
    cases hq : orF (deep + 1) ts with
    | bad a e =>
      rw [hq] at ho
      exact atom_3bad h h3 hd h0 h20 ho
    | ok n rest =>
      rw [hq] at ho
      dsimp only
      cases hi : isTok [4] rest with
      | false =>
        rw [if_neg (by decide)]
        exact atom_3end h h3 hd h0 h20 ⟨hi⟩ ho
      | true =>
        rw [if_pos rfl]
        cases rest with
        | nil => simp [isTok] at hi
        | cons u v => exact atom_3ok h h3 hd h0 h20 ⟨hi⟩ ho
  rw [if_neg h3, if_neg h7]
  by_cases h10 : t.f0 = 10
  · rw [if_pos h10]; exact atom_10 h h10
  rw [if_neg h10]
  by_cases h11 : t.f0 = 11
  · rw [if_pos h11]; exact atom_11 h h11
  rw [if_neg h11]
  by_cases h2 : t.f0 = 2
  · rw [if_pos h2]; exact atom_2 h h2
  rw [if_neg h2]
  by_cases hs : okSet t
  · exact atom_set h h6 h3 h10 h11 h7 h2 hs
  · exfalso
    have h45 : ¬ t.f0 = 5 ∧ ¬ t.f0 = 4 := by
      have h9 : hasI [5, 4] t.f0 = false := hne
      unfold hasI at h9
      simp at h9
      exact h9
    rcases hk with hk | hk | hk | hk | hk | hk | hk
    · exact h2 hk
    · exact h3 hk
    · exact h45.2 hk
    · exact h45.1 hk
    · exact h10 hk
    · exact h11 hk
    · exact hs hk
theorem piece_all {deep : Int} {t : S68} {ts : List S68} {w : World} (h : Rdr w0 g en fl (t :: ts) w) (hw : wfT 0 (t :: ts)) (hne : isTok [5, 4] (t :: ts) = false) (hl : ts.length ≤ 100000) (h0 : 0 ≤ deep) (h20 : deep ≤ 20) (hor : InC w0 g en fl orF deep) (hg : ∀ deep ts, wfT 0 ts → Good ts (orF deep ts)) :
    Calls Tryz.prog 86 #[.pointer (some ⟨g, 0, none⟩), .int .i64 deep] w (NodePost w0 g en fl w (pieceP orF en fl deep (t :: ts))) := by
  have ha := fun (W : World) (hW : Rdr w0 g en fl (t :: ts) W) => atom_all hW hw hne hl h0 h20 hor
  have hgd := atomP_good (en := en) (fl := fl) hg deep t ts hw
  unfold pieceP
  cases hq : atomP orF en fl deep (t :: ts) with
  | bad a e =>
    rw [hq] at ha
    exact piece_bad h ha
  | ok n rest =>
    rw [hq] at ha hgd
    cases rest with
    | nil => exact piece_one h ⟨rfl⟩ ha
    | cons u r =>
      dsimp only
      by_cases h6 : u.f0 = 6
      · rw [if_pos h6]
        have HI := Aside0.mk (show isTok [6] (u :: r) = true by rw [isTok1]; simpa using h6)
        cases r with
        | nil => exact piece_rep h HI ⟨rfl⟩ ⟨rfl⟩ ha
        | cons x y =>
          by_cases h13 : x.f0 = 13
          · have HL := Aside0.mk (show isTok [13] (x :: y) = true by rw [isTok1]; simpa using h13)
            have hlz : lazyOff (x :: y) = y := by unfold lazyOff; rw [HL.out]; rfl
            rw [hlz]
            cases y with
            | nil => exact piece_lazy h HI HL ⟨rfl⟩ ha
            | cons p q =>
              dsimp only
              by_cases hp6 : p.f0 = 6
              · rw [if_pos hp6]
                exact piece_lazybad h HI HL ⟨by rw [isTok1]; simpa using hp6⟩ ha
              · rw [if_neg hp6]
                exact piece_lazy h HI HL ⟨by rw [isTok1]; simpa using hp6⟩ ha
          · have HL := Aside0.mk (show isTok [13] (x :: y) = false by rw [isTok1]; simpa using h13)
            have hlz : lazyOff (x :: y) = x :: y := by unfold lazyOff; rw [HL.out]; rfl
            rw [hlz]
            dsimp only
            by_cases hp6 : x.f0 = 6
            · rw [if_pos hp6]
              exact piece_repbad h HI HL ⟨by rw [isTok1]; simpa using hp6⟩ ha
            · rw [if_neg hp6]
              exact piece_rep h HI HL ⟨by rw [isTok1]; simpa using hp6⟩ ha
      · rw [if_neg h6]
        exact piece_one h ⟨by rw [isTok1]; simpa using h6⟩ ha
end
theorem or_all (w0 : World) (g : Nat) (en fl : Int) (k : Nat) : ∀ (deep : Int) (ts : List S68) (W : World), 21 ≤ deep + k → 0 ≤ deep → deep ≤ 20 → wfT 0 ts → ts.length ≤ 100000 → Rdr w0 g en fl ts W →
    Calls Tryz.prog 44 #[.pointer (some ⟨g, 0, none⟩), .int .i64 deep] W (NodePost w0 g en fl W (orP en fl k deep ts)) := by
  induction k with
  | zero => intro deep ts W h1 h2 h3; omega
  | succ k ih =>
    intro deep ts W h1 h2 h3 hw hl hT
    have hin : InC w0 g en fl (orP en fl k) deep := fun us W2 hd hwu hlu hTu => ih (deep + 1) us W2 (by omega) (by omega) (by omega) hwu hlu hTu
    have hgood := orP_good en fl k
    have hpc : PieceC w0 g en fl (orP en fl k) deep := fun t us W2 hwu hne hlu hTu => piece_all hTu hwu hne hlu h2 h3 hin hgood
    have hjc : JoinC w0 g en fl (orP en fl k) deep := fun us W2 hwu hlu hTu => join_ok hTu hwu hlu hgood hpc
    exact or_ok hT hw hl hgood hjc
end Go.Proofs.YtglolcejfbhbdaaGreat.P
end
