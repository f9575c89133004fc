/- Lists of spans, plainly: validity, union, difference, gaps, inclusion, count. No program in sight. -/
import Derived.Test.YthkkhgfdppbphaaBase
namespace Go.Proofs.Ythkkhgfdppbphaa

structure Sp where
  fr : Int
  to : Int
deriving DecidableEq

def spM : Int := 1099511627776
def okS (e : Int) (x : Sp) : Bool := decide (0 ≤ x.fr) && (decide (e < x.fr) && (decide (x.fr < x.to) && decide (x.to ≤ 1099511627776)))
/-- Valid, each starting after e and after the end of the one before. -/
def canF (e : Int) : List Sp → Bool
  | [] => true
  | x :: l => okS e x && canF x.to l
def isIn (x : Sp) (n : Int) : Prop := x.fr ≤ n ∧ n < x.to
def mem (l : List Sp) (n : Int) : Prop := ∃ x ∈ l, isIn x n

theorem okS_iff {e : Int} {x : Sp} : okS e x = true ↔ 0 ≤ x.fr ∧ e < x.fr ∧ x.fr < x.to ∧ x.to ≤ 1099511627776 := by
  simp [okS]
theorem canF_cons {e : Int} {x : Sp} {l : List Sp} : canF e (x :: l) = true ↔ okS e x = true ∧ canF x.to l = true := by simp [canF]
theorem mem_nil (n : Int) : ¬ mem [] n := fun ⟨_, h, _⟩ => by cases h
theorem mem_cons {x : Sp} {l : List Sp} {n : Int} : mem (x :: l) n ↔ isIn x n ∨ mem l n := by
  constructor
  · rintro ⟨y, hy, h⟩
    rcases List.mem_cons.1 hy with rfl | hy
    · exact .inl h
    · exact .inr ⟨y, hy, h⟩
  · rintro (h | ⟨y, hy, h⟩)
    · exact ⟨x, List.mem_cons_self .., h⟩
    · exact ⟨y, List.mem_cons_of_mem _ hy, h⟩
theorem mem_app {l r : List Sp} {n : Int} : mem (l ++ r) n ↔ mem l n ∨ mem r n := by
  constructor
  · rintro ⟨y, hy, h⟩
    rcases List.mem_append.1 hy with hy | hy
    · exact .inl ⟨y, hy, h⟩
    · exact .inr ⟨y, hy, h⟩
  · rintro (⟨y, hy, h⟩ | ⟨y, hy, h⟩)
    · exact ⟨y, List.mem_append_left _ hy, h⟩
    · exact ⟨y, List.mem_append_right _ hy, h⟩

theorem can_low {e e' : Int} (h : e' ≤ e) : ∀ {l : List Sp}, canF e l = true → canF e' l = true
  | [], _ => rfl
  | x :: l, hc => by
    rw [canF_cons, okS_iff] at hc ⊢
    exact ⟨⟨hc.1.1, by omega, hc.1.2.2.1, hc.1.2.2.2⟩, hc.2⟩
theorem can_all {e : Int} : ∀ {l : List Sp}, canF e l = true → ∀ x ∈ l, 0 ≤ x.fr ∧ e < x.fr ∧ x.fr < x.to ∧ x.to ≤ 1099511627776
  | y :: l, hc, x, hx => by
    rw [canF_cons, okS_iff] at hc
    rcases List.mem_cons.1 hx with rfl | hx
    · exact hc.1
    · have := can_all hc.2 x hx; omega
theorem can_mem {e : Int} {l : List Sp} (hc : canF e l = true) {n : Int} (h : mem l n) : e < n ∧ 0 ≤ n ∧ n < 1099511627776 := by
  obtain ⟨x, hx, h1, h2⟩ := h
  have := can_all hc x hx
  omega

/-- A valid list is told by its integers. -/
theorem can_ext : ∀ {e : Int} {l r : List Sp}, canF e l = true → canF e r = true → (∀ n, mem l n ↔ mem r n) → l = r
  | _, [], [], _, _, _ => rfl
  | e, [], y :: r, _, hr, h => by
    rw [canF_cons, okS_iff] at hr
    exact absurd ((h y.fr).2 (mem_cons.2 (.inl ⟨by omega, by omega⟩))) (mem_nil _)
  | e, x :: l, [], hl, _, h => by
    rw [canF_cons, okS_iff] at hl
    exact absurd ((h x.fr).1 (mem_cons.2 (.inl ⟨by omega, by omega⟩))) (mem_nil _)
  | e, x :: l, y :: r, hl, hr, h => by
    rw [canF_cons, okS_iff] at hl hr
    have low : ∀ {a b : Sp} {s t : List Sp}, a.fr < a.to → b.fr < b.to → canF b.to t = true → (∀ n, mem (a :: s) n → mem (b :: t) n) → b.fr ≤ a.fr := by
      intro a b s t h1 h2 h3 h4
      rcases mem_cons.1 (h4 a.fr (mem_cons.2 (.inl ⟨by omega, by omega⟩))) with ⟨h, _⟩ | h
      · exact h
      · have := can_mem h3 h; omega
    have e1 : x.fr = y.fr := by
      have := low hl.1.2.2.1 hr.1.2.2.1 hr.2 (fun n => (h n).1)
      have := low hr.1.2.2.1 hl.1.2.2.1 hl.2 (fun n => (h n).2)
      omega
    have top : ∀ {a b : Sp} {s t : List Sp}, a.fr = b.fr → a.fr < a.to → canF a.to s = true → (∀ n, mem (b :: t) n → mem (a :: s) n) → b.to ≤ a.to := by
      intro a b s t h1 h2 h3 h4
      rcases Int.lt_or_le a.to b.to with hlt | hge
      · rcases mem_cons.1 (h4 a.to (mem_cons.2 (.inl ⟨by omega, by omega⟩))) with ⟨_, h⟩ | h
        · omega
        · have := can_mem h3 h; omega
      · exact hge
    have e2 : x.to = y.to := by
      have := top e1 hl.1.2.2.1 hl.2 (fun n => (h n).2)
      have := top e1.symm hr.1.2.2.1 hr.2 (fun n => (h n).1)
      omega
    have exy : x = y := by cases x; cases y; simp_all
    subst exy
    rw [can_ext hl.2 hr.2 fun n => ?_]
    constructor
    · intro hm
      have := can_mem hl.2 hm
      rcases mem_cons.1 ((h n).1 (mem_cons.2 (.inr hm))) with ⟨_, h'⟩ | h'
      · omega
      · exact h'
    · intro hm
      have := can_mem hr.2 hm
      rcases mem_cons.1 ((h n).2 (mem_cons.2 (.inr hm))) with ⟨_, h'⟩ | h'
      · omega
      · exact h'

def mrg (s x : Sp) : Sp := ⟨min s.fr x.fr, max s.to x.to⟩
def addL : List Sp → Sp → List Sp
  | [], s => [s]
  | x :: l, s => if x.to < s.fr then x :: addL l s else if s.to < x.fr then s :: x :: l else addL l (mrg s x)

theorem addL_can : ∀ {l : List Sp} {e : Int} {s : Sp}, canF e l = true → okS e s = true → canF e (addL l s) = true
  | [], e, s, _, hs => by simp [addL, canF, hs]
  | x :: l, e, s, hc, hs => by
    rw [canF_cons] at hc
    have hx := okS_iff.1 hc.1
    have hs' := okS_iff.1 hs
    unfold addL
    split
    · rw [canF_cons]
      exact ⟨hc.1, addL_can hc.2 (okS_iff.2 ⟨by omega, by omega, by omega, by omega⟩)⟩
    · split
      · rw [canF_cons, canF_cons]
        exact ⟨hs, okS_iff.2 ⟨by omega, by omega, by omega, by omega⟩, hc.2⟩
      · exact addL_can (can_low (by omega) hc.2) (okS_iff.2 (by simp only [mrg]; omega))
theorem addL_mem : ∀ {l : List Sp} {e : Int} {s : Sp}, canF e l = true → s.fr < s.to → ∀ n, mem (addL l s) n ↔ mem l n ∨ isIn s n
  | [], e, s, _, _, n => by
    simp only [addL, mem_cons]
    constructor
    · rintro (h | h)
      · exact .inr h
      · exact .inl h
    · rintro (h | h)
      · exact .inr h
      · exact .inl h
  | x :: l, e, s, hc, hs, n => by
    rw [canF_cons, okS_iff] at hc
    unfold addL
    split
    · rw [mem_cons, mem_cons, addL_mem hc.2 hs n]
      constructor
      · rintro (h | h | h)
        · exact .inl (.inl h)
        · exact .inl (.inr h)
        · exact .inr h
      · rintro ((h | h) | h)
        · exact .inl h
        · exact .inr (.inl h)
        · exact .inr (.inr h)
    · split
      · rw [mem_cons]
        constructor
        · rintro (h | h)
          · exact .inr h
          · exact .inl h
        · rintro (h | h)
          · exact .inr h
          · exact .inl h
      · rw [addL_mem hc.2 (by simp only [mrg]; omega) n, mem_cons]
        have : isIn (mrg s x) n ↔ isIn x n ∨ isIn s n := by simp only [isIn, mrg]; omega
        rw [this]
        constructor
        · rintro (h | h | h)
          · exact .inl (.inr h)
          · exact .inl (.inl h)
          · exact .inr h
        · rintro ((h | h) | h)
          · exact .inr (.inl h)
          · exact .inl h
          · exact .inr (.inr h)

def neB (x : Sp) : Bool := decide (x.fr < x.to)
def pcs (x s : Sp) : List Sp := [⟨x.fr, min x.to s.fr⟩, ⟨max x.fr s.to, x.to⟩]
def remL (l : List Sp) (s : Sp) : List Sp := l.flatMap fun x => (pcs x s).filter neB
theorem remL_cons (x : Sp) (l : List Sp) (s : Sp) : remL (x :: l) s = (pcs x s).filter neB ++ remL l s := by simp [remL]

theorem can_app2 {e m : Int} {r : List Sp} (p : List Sp) (hp : canF e p = true) (hr : canF m r = true) (h : ∀ x ∈ p, x.to ≤ m) (hm : e ≤ m) : canF e (p ++ r) = true := by
  induction p generalizing e with
  | nil => exact can_low hm hr
  | cons x p ih =>
    rw [canF_cons] at hp
    rw [List.cons_append, canF_cons]
    exact ⟨hp.1, ih hp.2 (fun y hy => h y (List.mem_cons_of_mem _ hy)) (h x (List.mem_cons_self ..))⟩

theorem pcs_can {e : Int} {x s : Sp} (hx : okS e x = true) (hs : s.fr < s.to) : canF e ((pcs x s).filter neB) = true ∧ (∀ y ∈ (pcs x s).filter neB, y.to ≤ x.to) ∧ ∀ n, mem ((pcs x s).filter neB) n ↔ isIn x n ∧ ¬ isIn s n := by
  have hx' := okS_iff.1 hx
  simp only [pcs, List.filter_cons, neB, List.filter_nil]
  by_cases h1 : x.fr < min x.to s.fr <;> by_cases h2 : max x.fr s.to < x.to <;> simp only [h1, h2, decide_true, decide_false, if_true, Bool.false_eq_true, if_false]
  · refine ⟨by simp only [canF, Bool.and_true, Bool.and_eq_true, okS_iff]; omega, fun y hy => ?_, fun n => ?_⟩
    · simp at hy; rcases hy with rfl | rfl <;> simp only <;> omega
    · simp only [mem_cons, isIn]
      constructor
      · rintro (h | h | h)
        · omega
        · omega
        · exact absurd h (mem_nil _)
      · intro h; omega
  · refine ⟨by simp only [canF, Bool.and_true, okS_iff]; omega, fun y hy => ?_, fun n => ?_⟩
    · simp at hy; rcases hy with rfl; simp only; omega
    · simp only [mem_cons, isIn]
      constructor
      · rintro (h | h)
        · omega
        · exact absurd h (mem_nil _)
      · intro h; omega
  · refine ⟨by simp only [canF, Bool.and_true, okS_iff]; omega, fun y hy => ?_, fun n => ?_⟩
    · simp at hy; rcases hy with rfl; simp only; omega
    · simp only [mem_cons, isIn]
      constructor
      · rintro (h | h)
        · omega
        · exact absurd h (mem_nil _)
      · intro h; omega
  · refine ⟨rfl, (fun y hy => by cases hy), fun n => ?_⟩
    simp only [isIn]
    constructor
    · intro h; exact absurd h (mem_nil _)
    · intro h; omega

theorem remL_can : ∀ {l : List Sp} {e : Int} {s : Sp}, canF e l = true → s.fr < s.to → canF e (remL l s) = true
  | [], _, _, _, _ => rfl
  | x :: l, e, s, hc, hs => by
    rw [canF_cons] at hc
    rw [remL_cons]
    have h := pcs_can hc.1 hs
    exact can_app2 _ h.1 (remL_can hc.2 hs) h.2.1 (by have := okS_iff.1 hc.1; omega)
theorem remL_mem : ∀ {l : List Sp} {e : Int} {s : Sp}, canF e l = true → s.fr < s.to → ∀ n, mem (remL l s) n ↔ mem l n ∧ ¬ isIn s n
  | [], _, _, _, _, n => by
    constructor
    · intro h; exact absurd h (mem_nil _)
    · intro h; exact absurd h.1 (mem_nil _)
  | x :: l, e, s, hc, hs, n => by
    rw [canF_cons] at hc
    rw [remL_cons, mem_app, remL_mem hc.2 hs n, (pcs_can hc.1 hs).2.2 n, mem_cons]
    constructor
    · rintro (⟨h1, h2⟩ | ⟨h1, h2⟩)
      · exact ⟨.inl h1, h2⟩
      · exact ⟨.inr h1, h2⟩
    · rintro ⟨h1 | h1, h2⟩
      · exact .inl ⟨h1, h2⟩
      · exact .inr ⟨h1, h2⟩

def oneF (x : Sp) : List Sp := [x].filter neB
def gapL (s : Sp) : Int → List Sp → List Sp
  | at_, [] => oneF ⟨at_, s.to⟩
  | at_, x :: l => if x.to ≤ at_ then gapL s at_ l else if s.to ≤ x.fr then oneF ⟨at_, s.to⟩ else oneF ⟨at_, x.fr⟩ ++ gapL s x.to l

theorem oneF_can {e : Int} {x : Sp} (h0 : 0 ≤ x.fr) (h1 : e < x.fr) (h2 : x.to ≤ 1099511627776) : canF e (oneF x) = true := by
  unfold oneF
  by_cases h : x.fr < x.to
  · simp [neB, h, canF, okS, h0, h1, h2]
  · simp [neB, h, canF]
theorem oneF_mem {x : Sp} {n : Int} : mem (oneF x) n ↔ isIn x n := by
  unfold oneF
  by_cases h : x.fr < x.to
  · simp only [List.filter_cons, neB, h, decide_true, if_true, List.filter_nil, mem_cons]
    constructor
    · rintro (h | h)
      · exact h
      · exact absurd h (mem_nil _)
    · exact .inl
  · simp only [List.filter_cons, neB, h, decide_false, Bool.false_eq_true, if_false, List.filter_nil]
    constructor
    · intro h; exact absurd h (mem_nil _)
    · intro h'; simp only [isIn] at h'; omega
theorem gapL_can : ∀ {l : List Sp} {c e at_ : Int} {s : Sp}, canF c l = true → e < at_ → 0 ≤ at_ → s.to ≤ 1099511627776 → canF e (gapL s at_ l) = true
  | [], _, e, at_, s, _, h1, h2, h3 => oneF_can h2 h1 h3
  | x :: l, c, e, at_, s, hc, h1, h2, h3 => by
    rw [canF_cons, okS_iff] at hc
    unfold gapL
    split
    · exact gapL_can hc.2 h1 h2 h3
    · split
      · exact oneF_can h2 h1 h3
      · by_cases hne : at_ < x.fr
        · refine can_app2 (m := x.fr) _ (oneF_can h2 h1 (by simp only; omega)) (gapL_can hc.2 (by omega) (by omega) h3) (fun y hy => ?_) (by omega)
          simp [oneF] at hy
          rcases hy with ⟨rfl, _⟩
          simp
        · have : oneF ⟨at_, x.fr⟩ = [] := by simp [oneF, neB]; omega
          rw [this]
          exact gapL_can hc.2 (by omega) (by omega) h3
theorem gapL_mem : ∀ {l : List Sp} {c at_ : Int} {s : Sp}, canF c l = true → ∀ n, mem (gapL s at_ l) n ↔ (at_ ≤ n ∧ n < s.to) ∧ ¬ mem l n
  | [], _, at_, s, _, n => by
    simp only [gapL, oneF_mem, isIn]
    exact ⟨fun h => ⟨h, mem_nil _⟩, fun h => h.1⟩
  | x :: l, c, at_, s, hc, n => by
    rw [canF_cons, okS_iff] at hc
    have hl := fun h => can_mem (n := n) hc.2 h
    unfold gapL
    rw [mem_cons]
    split
    · rw [gapL_mem hc.2 n]
      simp only [isIn]
      constructor
      · rintro ⟨h1, h2⟩
        exact ⟨h1, fun h => by rcases h with h | h; · omega
                               · exact h2 h⟩
      · rintro ⟨h1, h2⟩
        exact ⟨h1, fun h => h2 (.inr h)⟩
    · split
      · simp only [oneF_mem, isIn]
        constructor
        · intro h
          exact ⟨h, fun h' => by
            rcases h' with h' | h'
            · omega
            · have := hl h'; omega⟩
        · exact fun h => h.1
      · rw [mem_app, oneF_mem, gapL_mem hc.2 n]
        simp only [isIn]
        constructor
        · rintro (h | ⟨h1, h2⟩)
          · exact ⟨by omega, fun h' => by
              rcases h' with h' | h'
              · omega
              · have := hl h'; omega⟩
          · exact ⟨by omega, fun h' => by
              rcases h' with h' | h'
              · omega
              · exact h2 h'⟩
        · rintro ⟨h1, h2⟩
          by_cases h : n < x.fr
          · exact .inl ⟨h1.1, h⟩
          · refine .inr ⟨⟨?_, h1.2⟩, fun h' => h2 (.inr h')⟩
            have : ¬ (x.fr ≤ n ∧ n < x.to) := fun h' => h2 (.inl h')
            omega

def holdB (s x : Sp) : Bool := decide (x.fr ≤ s.fr) && decide (s.to ≤ x.to)
def conL (l : List Sp) (s : Sp) : Bool := l.any (holdB s)
theorem conL_iff : ∀ {l : List Sp} {e : Int} {s : Sp}, canF e l = true → s.fr < s.to → (conL l s = true ↔ ∀ n, isIn s n → mem l n) := by
  intro l e s hc hs
  constructor
  · intro h n hn
    obtain ⟨x, hx, hh⟩ := List.any_eq_true.1 h
    simp [holdB] at hh
    exact ⟨x, hx, by simp only [isIn] at hn ⊢; omega⟩
  · intro h
    -- the element that holds the first integer holds them all
    have key : ∀ {l : List Sp} {e : Int}, canF e l = true → ∀ x ∈ l, ¬ mem l x.to := by
      intro l
      induction l with
      | nil => intro _ _ x hx; cases hx
      | cons y l ih =>
        intro e hc x hx hm
        rw [canF_cons, okS_iff] at hc
        rcases List.mem_cons.1 hx with rfl | hx
        · rcases mem_cons.1 hm with h | h
          · simp only [isIn] at h; omega
          · have := can_mem hc.2 h; omega
        · have hxx := can_all hc.2 x hx
          rcases mem_cons.1 hm with h | h
          · simp only [isIn] at h; omega
          · exact ih hc.2 x hx h
    obtain ⟨x, hx, h1, h2⟩ := h s.fr ⟨by omega, hs⟩
    refine List.any_eq_true.2 ⟨x, hx, ?_⟩
    rcases Int.lt_or_le x.to s.to with hlt | hge
    · exact absurd (h x.to ⟨by omega, hlt⟩) (key hc x hx)
    · simp [holdB]; omega

def cntL : List Sp → Int
  | [] => 0
  | x :: l => (x.to - x.fr) + cntL l
def ov (x s : Sp) : Int := max 0 (min x.to s.to - max x.fr s.fr)
def ovL : List Sp → Sp → Int
  | [], _ => 0
  | x :: l, s => ov x s + ovL l s
theorem cntL_app (l r : List Sp) : cntL (l ++ r) = cntL l + cntL r := by
  induction l with
  | nil => simp [cntL]
  | cons x l ih => simp only [List.cons_append, cntL, ih]; omega
theorem cnt_oneF (x : Sp) : cntL (oneF x) = max 0 (x.to - x.fr) := by
  unfold oneF
  by_cases h : x.fr < x.to
  · simp [neB, h, cntL]; omega
  · simp [neB, h, cntL]; omega
theorem cnt_rem : ∀ {l : List Sp} {e : Int} {s : Sp}, canF e l = true → s.fr < s.to → cntL (remL l s) = cntL l - ovL l s
  | [], _, _, _, _ => rfl
  | x :: l, e, s, hc, hs => by
    rw [canF_cons, okS_iff] at hc
    rw [remL_cons, cntL_app, cnt_rem hc.2 hs]
    have : cntL ((pcs x s).filter neB) = (x.to - x.fr) - ov x s := by
      simp only [pcs, List.filter_cons, neB, List.filter_nil, ov]
      by_cases h1 : x.fr < min x.to s.fr <;> by_cases h2 : max x.fr s.to < x.to <;> simp only [h1, h2, decide_true, decide_false, if_true, Bool.false_eq_true, if_false, cntL] <;> omega
    rw [this]
    simp only [cntL, ovL]
    omega
theorem ov_far : ∀ {l : List Sp} {c : Int} {s t : Sp}, canF c l = true → (∀ y : Sp, c < y.fr → y.fr < y.to → ov y s = ov y t) → ovL l s = ovL l t
  | [], _, _, _, _, _ => rfl
  | x :: l, c, s, t, hc, h => by
    rw [canF_cons, okS_iff] at hc
    simp only [ovL]
    rw [h x (by omega) (by omega), ov_far hc.2 (fun y hy hy' => h y (by omega) hy')]
theorem cnt_add : ∀ {l : List Sp} {e : Int} {s : Sp}, canF e l = true → s.fr < s.to → cntL (addL l s) = cntL l + (s.to - s.fr) - ovL l s
  | [], _, s, _, _ => by simp [addL, cntL, ovL]
  | x :: l, e, s, hc, hs => by
    rw [canF_cons, okS_iff] at hc
    unfold addL
    split
    · simp only [cntL, ovL]
      rw [cnt_add hc.2 hs]
      have : ov x s = 0 := by simp only [ov]; omega
      omega
    · split
      · have h0 : ov x s = 0 := by simp only [ov]; omega
        have hz : ovL l s = 0 := by
          have : ovL l s = ovL l ⟨0, 0⟩ := ov_far hc.2 (fun y hy hy' => by simp only [ov]; omega)
          rw [this]
          have hz' : ∀ l : List Sp, canF x.to l = true → ovL l ⟨0, 0⟩ = 0 := by
            intro l hl
            clear this
            induction l with
            | nil => rfl
            | cons y l ih =>
              rw [canF_cons, okS_iff] at hl
              simp only [ovL, ov]
              rw [ih (can_low (by omega) hl.2)]
              omega
          exact hz' l hc.2
        simp only [cntL, ovL]
        omega
      · rw [cnt_add hc.2 (by simp only [mrg]; omega)]
        have h1 : ovL l (mrg s x) = ovL l s := ov_far hc.2 (fun y hy hy' => by simp only [ov, mrg]; omega)
        rw [h1]
        simp only [cntL, ovL, ov, mrg]
        omega
theorem cnt_gap : ∀ {l : List Sp} {c at_ : Int} {s : Sp}, canF c l = true → cntL (gapL s at_ l) = max 0 (s.to - at_) - ovL l ⟨at_, s.to⟩
  | [], _, at_, s, _ => by simp [gapL, cnt_oneF, ovL]
  | x :: l, c, at_, s, hc => by
    rw [canF_cons, okS_iff] at hc
    unfold gapL
    split
    · rw [cnt_gap hc.2]
      simp only [ovL]
      have : ov x ⟨at_, s.to⟩ = 0 := by simp only [ov]; omega
      omega
    · split
      · rw [cnt_oneF]
        have hz : ovL l ⟨at_, s.to⟩ = ovL l ⟨x.to, x.to⟩ := ov_far hc.2 (fun y hy hy' => by simp only [ov]; omega)
        have hz' : ∀ {l : List Sp} {c t : Int}, canF c l = true → t ≤ c → ovL l ⟨t, t⟩ = 0 := by
          intro l
          induction l with
          | nil => intros; rfl
          | cons y l ih =>
            intro c t hl ht
            rw [canF_cons, okS_iff] at hl
            simp only [ovL, ov]
            rw [ih hl.2 (by omega)]
            omega
        simp only [ovL]
        rw [hz, hz' hc.2 (Int.le_refl _)]
        simp only [ov]
        omega
      · rw [cntL_app, cnt_oneF, cnt_gap hc.2]
        have h1 : ovL l ⟨x.to, s.to⟩ = ovL l ⟨at_, s.to⟩ := ov_far hc.2 (fun y hy hy' => by simp only [ov]; omega)
        rw [h1]
        simp only [ovL, ov]
        omega

/-- Translation. -/
def sh (d : Int) (x : Sp) : Sp := ⟨x.fr + d, x.to + d⟩
theorem add_sh (d : Int) : ∀ (l : List Sp) (s : Sp), addL (l.map (sh d)) (sh d s) = (addL l s).map (sh d)
  | [], s => rfl
  | x :: l, s => by
    simp only [List.map_cons, addL]
    by_cases h1 : x.to < s.fr
    · rw [if_pos (by simp only [sh]; omega), if_pos h1, add_sh d l s]; rfl
    · rw [if_neg (by simp only [sh]; omega), if_neg h1]
      by_cases h2 : s.to < x.fr
      · rw [if_pos (by simp only [sh]; omega), if_pos h2]; rfl
      · rw [if_neg (by simp only [sh]; omega), if_neg h2, ← add_sh d l (mrg s x)]
        congr 1
        simp only [sh, mrg, Sp.mk.injEq]
        omega
theorem one_sh (d : Int) (x : Sp) : oneF (sh d x) = (oneF x).map (sh d) := by
  unfold oneF
  by_cases h : x.fr < x.to
  · have h' : (sh d x).fr < (sh d x).to := by simp only [sh]; omega
    simp [neB, h, h']
  · have h' : ¬ (sh d x).fr < (sh d x).to := by simp only [sh]; omega
    simp [neB, h, h']
theorem gap_sh (d : Int) (s : Sp) : ∀ (l : List Sp) (at_ : Int), gapL (sh d s) (at_ + d) (l.map (sh d)) = (gapL s at_ l).map (sh d)
  | [], at_ => one_sh d ⟨at_, s.to⟩
  | x :: l, at_ => by
    simp only [List.map_cons, gapL]
    by_cases h1 : x.to ≤ at_
    · rw [if_pos (by simp only [sh]; omega), if_pos h1, gap_sh d s l at_]
    · rw [if_neg (by simp only [sh]; omega), if_neg h1]
      by_cases h2 : s.to ≤ x.fr
      · rw [if_pos (by simp only [sh]; omega), if_pos h2]; exact one_sh d ⟨at_, s.to⟩
      · rw [if_neg (by simp only [sh]; omega), if_neg h2, List.map_append, ← one_sh d ⟨at_, x.fr⟩, ← gap_sh d s l x.to]; rfl
theorem con_sh (d : Int) (l : List Sp) (s : Sp) : conL (l.map (sh d)) (sh d s) = conL l s := by
  unfold conL
  rw [List.any_map]
  congr 1
  funext x
  rw [Bool.eq_iff_iff]
  simp [holdB, sh]
theorem cnt_sh (d : Int) : ∀ l : List Sp, cntL (l.map (sh d)) = cntL l
  | [] => rfl
  | x :: l => by simp only [List.map_cons, cntL, cnt_sh d l, sh]; omega
theorem can_sh {d : Int} (hd : 0 ≤ d) : ∀ {l : List Sp} {e : Int}, canF e l = true → (∀ x ∈ l, x.to + d ≤ 1099511627776) → canF (e + d) (l.map (sh d)) = true
  | [], _, _, _ => rfl
  | x :: l, e, hc, h => by
    rw [canF_cons, okS_iff] at hc
    rw [List.map_cons, canF_cons, okS_iff]
    have hx := h x (List.mem_cons_self ..)
    refine ⟨by simp only [sh]; omega, ?_⟩
    exact can_sh hd hc.2 (fun y hy => h y (List.mem_cons_of_mem _ hy))

end Go.Proofs.Ythkkhgfdppbphaa
