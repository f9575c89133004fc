/- ResolverFollowsZone without the program: a resolver whose cache says what one zone says. The records of the laws of chapter 21. Printed by wip/tools/gen21w.py. What the laws of chapter 21 read off a zone. Printed by wip/tools/gen21x.py. The answer of a zone's server. Printed by wip/tools/gen21y.py. -/
import Derived.Test.YtbolfkojebbejaaGreatDoorLr3
import Derived.Test.YtbolfkojebbejaaGreatDoorRcv
import Derived.Test.YtbolfkojebbejaaGreatDoorLr1
import Derived.Test.YtbolfkojebbejaaGreatDoorRrl
import Derived.Test.YtbolfkojebbejaaGreatDoorBb
namespace Go.Proofs.YtbolfkojebbejaaGreatDoor
open Go.RowKit Go.Sort
set_option linter.unusedVariables false
set_option maxRecDepth 100000

/-! Lists of numbers that rise. -/
theorem ss_ext : ∀ {a b : List Int}, a.Pairwise (· < ·) → b.Pairwise (· < ·) → (∀ x, x ∈ a ↔ x ∈ b) → a = b
 | [], [], _, _, _ => rfl
 | [], y :: b, _, _, h => by have := (h y).2 List.mem_cons_self; cases this
 | x :: a, [], _, _, h => by have := (h x).1 List.mem_cons_self; cases this
 | x :: a, y :: b, h1, h2, h => by
  obtain ⟨p1, q1⟩ := List.pairwise_cons.1 h1
  obtain ⟨p2, q2⟩ := List.pairwise_cons.1 h2
  have hx : x = y := by
   rcases List.mem_cons.1 ((h x).1 List.mem_cons_self) with e | e
   ·
    exact e
   ·
    rcases List.mem_cons.1 ((h y).2 List.mem_cons_self) with e2 | e2
    ·
     exact e2.symm
    ·
     have := p1 y e2; have := p2 x e; omega
  subst hx
  refine congrArg (x :: ·) (ss_ext q1 q2 fun z => ⟨fun hz => ?_, fun hz => ?_⟩)
  ·
   rcases List.mem_cons.1 ((h z).1 (List.mem_cons_of_mem _ hz)) with e | e
   ·
    subst e; exact absurd (p1 z hz) (by omega)
   ·
    exact e
  ·
   rcases List.mem_cons.1 ((h z).2 (List.mem_cons_of_mem _ hz)) with e | e
   ·
    subst e; exact absurd (p2 z hz) (by omega)
   ·
    exact e
theorem sortZ_perm (l : List Int) : (sortZ l).Perm l := List.mergeSort_perm l _
theorem sortZ_le (l : List Int) : (sortZ l).Pairwise (· ≤ ·) := by
 have h := List.pairwise_mergeSort (le := fun x y : Int => decide (x ≤ y)) (fun a b c h1 h2 => by simp at *; omega) (fun a b => by simp; omega) l
 exact h.imp fun h => by simpa using h
theorem comp_list (l : List Int) : compZ l = ((List.range l.length).filter (Lib.keeps l.toArray)).map (l.toArray[·]!) := rfl
theorem keeps_iff {d : Array Int} {j : Nat} : Lib.keeps d j = true ↔ j = 0 ∨ d[j]! ≠ d[j - 1]! := by unfold Lib.keeps; exact decide_eq_true_iff
theorem le_at {l : List Int} (h : l.Pairwise (· ≤ ·)) {i j : Nat} (hij : i ≤ j) (hj : j < l.length) : l.toArray[i]! ≤ l.toArray[j]! := by
 rw [getElem!_pos l.toArray i (by simp; omega), getElem!_pos l.toArray j (by simpa using hj)]
 rcases Nat.lt_or_ge i j with h1 | h1
 ·
  exact List.pairwise_iff_getElem.1 h i j (by omega) hj h1
 ·
  obtain rfl : i = j := by omega
  exact Int.le_refl _
theorem comp_ss {l : List Int} (h : l.Pairwise (· ≤ ·)) : (compZ l).Pairwise (· < ·) := by
 rw [comp_list, List.pairwise_map]
 refine List.Pairwise.imp_of_mem ?_ (List.Pairwise.filter _ List.pairwise_lt_range)
 intro i j hi hj hij
 have hj1 := List.mem_filter.1 hj
 have hjl := List.mem_range.1 hj1.1
 rcases keeps_iff.1 hj1.2 with h0 | h0
 ·
  omega
 ·
  have h1 := le_at h (i := i) (j := j - 1) (by omega) (by omega)
  have h2 := le_at h (i := j - 1) (j := j) (by omega) hjl
  omega
theorem comp_mem {l : List Int} (x : Int) : x ∈ compZ l ↔ x ∈ l := by
 rw [comp_list, List.mem_map]
 constructor
 ·
  rintro ⟨j, hj, rfl⟩
  have hjl := List.mem_range.1 (List.mem_filter.1 hj).1
  rw [getElem!_pos l.toArray j (by simpa using hjl)]
  simp
 ·
  intro hx
  obtain ⟨j, hj, hjx⟩ := List.getElem_of_mem hx
  have key : ∀ j, (hj : j < l.length) → l[j] = x → ∃ i, i ∈ (List.range l.length).filter (Lib.keeps l.toArray) ∧ l.toArray[i]! = x := by
   intro j
   induction j with
   | zero => exact fun hj e => ⟨0, List.mem_filter.2 ⟨List.mem_range.2 hj, keeps_iff.2 (.inl rfl)⟩, by rw [getElem!_pos l.toArray 0 (by simpa using hj)]; simpa using e⟩
   | succ j ih =>
    intro hj e
    by_cases h : l[j]'(by omega) = x
    ·
     exact ih (by omega) h
    ·
     refine ⟨j + 1, List.mem_filter.2 ⟨List.mem_range.2 hj, keeps_iff.2 (.inr ?_)⟩, by rw [getElem!_pos l.toArray (j + 1) (by simpa using hj)]; simpa using e⟩
     rw [getElem!_pos l.toArray (j + 1) (by simpa using hj), Nat.add_sub_cancel, getElem!_pos l.toArray j (by simp; omega)]
     simp only [List.getElem_toArray]
     rw [e]; exact fun h' => h h'.symm
  exact key j hj hjx
/-- What the resolver makes of addresses. -/
def ssZ (l : List Int) : List Int := compZ (sortZ l)
theorem ssZ_ss (l : List Int) : (ssZ l).Pairwise (· < ·) := comp_ss (sortZ_le l)
theorem ssZ_mem (l : List Int) (x : Int) : x ∈ ssZ l ↔ x ∈ l := (comp_mem x).trans (sortZ_perm l).mem_iff
theorem ssZ_same {a b : List Int} (h : ∀ x, x ∈ a ↔ x ∈ b) : ssZ a = ssZ b := ss_ext (ssZ_ss a) (ssZ_ss b) fun x => by rw [ssZ_mem, ssZ_mem]; exact h x

/-! What records say without their time. -/
def k3 (r : Rc) : Int × Int × ByteArray := (r.kd, r.ad, r.to)
def sameK (A B : List Rc) : Prop := ∀ k, k ∈ A.map k3 ↔ k ∈ B.map k3
theorem adF_mem {A : List Rc} {x : Int} : x ∈ adF A ↔ ∃ to, (1, x, to) ∈ A.map k3 := by
 unfold adF
 simp only [List.mem_map, List.mem_filter, beq_iff_eq, k3, Prod.mk.injEq]
 constructor
 ·
  rintro ⟨r, ⟨h1, h2⟩, h3⟩; exact ⟨r.to, r, h1, h2, h3, rfl⟩
 ·
  rintro ⟨to, r, h1, h2, h3, h4⟩; exact ⟨r, ⟨h1, h2⟩, h3⟩
theorem adF_same {A B : List Rc} (h : sameK A B) (x : Int) : x ∈ adF A ↔ x ∈ adF B := by
 rw [adF_mem, adF_mem]; exact ⟨fun ⟨t, ht⟩ => ⟨t, (h _).1 ht⟩, fun ⟨t, ht⟩ => ⟨t, (h _).2 ht⟩⟩
theorem nil_same {α : Type} {a b : List α} (h : ∀ x, x ∈ a ↔ x ∈ b) : a = [] ↔ b = [] := by
 simp only [List.eq_nil_iff_forall_not_mem]
 exact ⟨fun h1 x hx => h1 x ((h x).2 hx), fun h1 x hx => h1 x ((h x).1 hx)⟩
def toF (rs : List Rc) : List ByteArray := (rs.filter fun r => decide (r.kd ≠ 1)).map fun r => r.to
theorem toF_mem {A : List Rc} {t : ByteArray} : t ∈ toF A ↔ ∃ kd ad, kd ≠ 1 ∧ (kd, ad, t) ∈ A.map k3 := by
 unfold toF
 simp only [List.mem_map, List.mem_filter, decide_eq_true_eq, k3, Prod.mk.injEq]
 constructor
 ·
  rintro ⟨r, ⟨h1, h2⟩, h3⟩; exact ⟨r.kd, r.ad, h2, r, h1, rfl, rfl, h3⟩
 ·
  rintro ⟨kd, ad, h0, r, h1, h2, h3, h4⟩; exact ⟨r, ⟨h1, h2 ▸ h0⟩, h4⟩
theorem nx_from {nx : ByteArray} (hnx : nx.toList ≠ []) : ∀ (rs : List Rc), (∀ r ∈ rs, r.kd ≠ 1 → r.to.toList ≠ []) → (rs.foldl nxS nx ∈ nx :: toF rs) ∧ (∀ t : ByteArray, t ∈ nx :: toF rs → Op.bytesLess t.toList (rs.foldl nxS nx).toList = false) := by
 intro rs
 induction rs generalizing nx with
 | nil => exact fun _ => ⟨List.mem_cons_self, fun t ht => by
   rcases List.mem_cons.1 ht with rfl | ht
   ·
    exact bl_irrefl _
   ·
    cases ht⟩
 | cons r rs ih =>
  intro h
  have hr := h r List.mem_cons_self
  have hrs := fun x hx => h x (List.mem_cons_of_mem _ hx)
  show rs.foldl nxS (nxS nx r) ∈ _ ∧ ∀ t : ByteArray, t ∈ _ → Op.bytesLess t.toList (rs.foldl nxS (nxS nx r)).toList = false
  by_cases h1 : r.kd = 1
  ·
   have e1 : nxS nx r = nx := by unfold nxS; rw [if_pos (by simpa using h1)]
   have e2 : toF (r :: rs) = toF rs := by unfold toF; rw [List.filter_cons, if_neg (by simpa using h1)]
   rw [e1, e2]; exact ih hnx hrs
  ·
   have e2 : toF (r :: rs) = r.to :: toF rs := by unfold toF; rw [List.filter_cons, if_pos (by simpa using h1)]; rfl
   have hne : nx.toList.isEmpty = false := by
    cases e : nx.toList with
    | nil => exact absurd e hnx
    | cons a l => rfl
   rw [e2]
   by_cases h3 : Op.bytesLess r.to.toList nx.toList = true
   ·
    have e1 : nxS nx r = r.to := by unfold nxS; rw [if_neg (by simpa using h1), if_neg (by rw [hne]; decide), if_pos h3]
    rw [e1]
    obtain ⟨p, q⟩ := ih (hr h1) hrs
    refine ⟨List.mem_cons_of_mem _ p, fun t ht => ?_⟩
    rcases List.mem_cons.1 ht with rfl | ht
    ·
     cases e : Op.bytesLess t.toList (rs.foldl nxS r.to).toList with
     | false => rfl
     | true =>
      have h9 := q r.to List.mem_cons_self
      rw [bl_trans _ _ _ h3 e] at h9; cases h9
    ·
     exact q t ht
   ·
    have e1 : nxS nx r = nx := by unfold nxS; rw [if_neg (by simpa using h1), if_neg (by rw [hne]; decide), if_neg h3]
    rw [e1]
    obtain ⟨p, q⟩ := ih hnx hrs
    refine ⟨?_, fun t ht => ?_⟩
    ·
     rcases List.mem_cons.1 p with e | p
     ·
      rw [e]; exact List.mem_cons_self
     ·
      exact List.mem_cons_of_mem _ (List.mem_cons_of_mem _ p)
    ·
     rcases List.mem_cons.1 ht with rfl | ht
     ·
      exact q _ List.mem_cons_self
     ·
      rcases List.mem_cons.1 ht with rfl | ht
      ·
       have h3' : Op.bytesLess r.to.toList nx.toList = false := by simpa using h3
       cases e : Op.bytesLess r.to.toList (rs.foldl nxS nx).toList with
       | false => rfl
       | true =>
        have q0 := q nx List.mem_cons_self
        rcases bl_tri nx.toList r.to.toList with t1 | t1 | t1
        ·
         rw [bl_trans _ _ _ t1 e] at q0; cases q0
        ·
         rw [t1, e] at q0; cases q0
        ·
         rw [h3'] at t1; cases t1
      ·
       exact q _ (List.mem_cons_of_mem _ ht)
theorem nxF_spec {rs : List Rc} (h : ∀ r ∈ rs, r.kd ≠ 1 → r.to.toList ≠ []) : (toF rs = [] ∧ nxF rs = ⟨#[]⟩) ∨ (nxF rs ∈ toF rs ∧ ∀ t ∈ toF rs, Op.bytesLess t.toList (nxF rs).toList = false) := by
 induction rs with
 | nil => exact .inl ⟨rfl, rfl⟩
 | cons r rs ih =>
  have hr := h r List.mem_cons_self
  have hrs := fun x hx => h x (List.mem_cons_of_mem _ hx)
  by_cases h1 : r.kd = 1
  ·
   have e1 : nxF (r :: rs) = nxF rs := by show rs.foldl nxS (nxS ⟨#[]⟩ r) = _; unfold nxS; rw [if_pos (by simpa using h1)]; rfl
   have e2 : toF (r :: rs) = toF rs := by unfold toF; rw [List.filter_cons, if_neg (by simpa using h1)]
   rw [e1, e2]; exact ih hrs
  ·
   have e1 : nxF (r :: rs) = rs.foldl nxS r.to := by show rs.foldl nxS (nxS ⟨#[]⟩ r) = _; unfold nxS; rw [if_neg (by simpa using h1), if_pos (by rw [emp_list]; rfl)]
   have e2 : toF (r :: rs) = r.to :: toF rs := by unfold toF; rw [List.filter_cons, if_pos (by simpa using h1)]; rfl
   rw [e1, e2]; exact .inr (nx_from (hr h1) rs hrs)
def toOk (rs : List Rc) : Prop := ∀ r ∈ rs, r.kd ≠ 1 → r.to.toList ≠ []
theorem toOk_same {A B : List Rc} (h : sameK A B) (hB : toOk B) : toOk A := fun r hr h1 => by
 obtain ⟨x, hx, he⟩ := List.mem_map.1 ((h (k3 r)).1 (List.mem_map.2 ⟨r, hr, rfl⟩))
 have e1 : x.kd = r.kd := congrArg (·.1) he
 have e2 : x.to = r.to := congrArg (·.2.2) he
 rw [← e2]; exact hB x hx (e1 ▸ h1)
theorem toF_same {A B : List Rc} (h : sameK A B) (t : ByteArray) : t ∈ toF A ↔ t ∈ toF B := by
 rw [toF_mem, toF_mem]; exact ⟨fun ⟨a, b, c, d⟩ => ⟨a, b, c, (h _).1 d⟩, fun ⟨a, b, c, d⟩ => ⟨a, b, c, (h _).2 d⟩⟩
theorem nxF_same {A B : List Rc} (h : sameK A B) (hB : toOk B) : nxF A = nxF B := by
 rcases nxF_spec (toOk_same h hB) with ⟨a1, a2⟩ | ⟨a1, a2⟩
 ·
  rcases nxF_spec hB with ⟨b1, b2⟩ | ⟨b1, b2⟩
  ·
   rw [a2, b2]
  ·
   rw [(nil_same (toF_same h)).1 a1] at b1; cases b1
 ·
  rcases nxF_spec hB with ⟨b1, b2⟩ | ⟨b1, b2⟩
  ·
   rw [(nil_same (toF_same h)).2 b1] at a1; cases a1
  ·
   have h1 := a2 _ ((toF_same h _).2 b1)
   have h2 := b2 _ ((toF_same h _).1 a1)
   rcases bl_tri (nxF A).toList (nxF B).toList with t | t | t
   ·
    rw [t] at h2; cases h2
   ·
    exact bytes_ext t
   ·
    rw [t] at h1; cases h1
theorem nxF_nil {A : List Rc} (hA : toOk A) (h : (nxF A).toList.isEmpty = true) : toF A = [] := by
 rcases nxF_spec hA with ⟨a1, _⟩ | ⟨a1, _⟩
 ·
  exact a1
 ·
  obtain ⟨r, hr, he⟩ := List.mem_map.1 a1
  obtain ⟨h1, h2⟩ := List.mem_filter.1 hr
  have := hA r h1 (by simpa using h2)
  rw [he] at this
  exact absurd (List.isEmpty_iff.1 h) this
theorem both_nil {A : List Rc} (h1 : adF A = []) (h2 : toF A = []) : A = [] := by
 cases A with
 | nil => rfl
 | cons r l =>
  by_cases h : r.kd = 1
  ·
   have : r.ad ∈ adF (r :: l) := List.mem_map.2 ⟨r, List.mem_filter.2 ⟨List.mem_cons_self, by simpa using h⟩, rfl⟩
   rw [h1] at this; cases this
  ·
   have : r.to ∈ toF (r :: l) := List.mem_map.2 ⟨r, List.mem_filter.2 ⟨List.mem_cons_self, by simpa using h⟩, rfl⟩
   rw [h2] at this; cases this

/-! Following a chain. -/
def rslG (fo : ByteArray → List Rc) (kn : ByteArray → Bool) : Nat → List ByteArray → List ByteArray × RO
 | 0, ch => (ch, .fail 212)
 | f + 1, ch =>
  if adF (fo (lastN ch)) ≠ [] then (ch, .addrs (ssZ (adF (fo (lastN ch)))))
  else if (nxF (fo (lastN ch))).toList.isEmpty = true then (if kn (lastN ch) = true then (ch, .fail 211) else (ch, .ask))
  else if hasS (nxF (fo (lastN ch))) ch = true ∨ 4 < ch.length then (ch, .fail 212)
  else rslG fo kn f (ch ++ [nxF (fo (lastN ch))])
theorem rslF_G (now : Int) (es : List En) (rs : List Rc) : ∀ (f : Nat) (ch : List ByteArray), rslF now es rs f ch = rslG (foundF now es rs) (knownF now es rs) f ch
 | 0, ch => rfl
 | f + 1, ch => by
  unfold rslF rslG
  rw [rslF_G now es rs f]
  rfl
/-- What the zone says of a chain. -/
def zoneG (l : List Rc) : Nat → List ByteArray → List ByteArray × RO := rslG (fun nm => ofN nm l) (fun _ => true)
def unkn (fo : ByteArray → List Rc) (kn : ByteArray → Bool) (nm : ByteArray) : Prop := fo nm = [] ∧ kn nm = false
def saysZ (l : List Rc) (fo : ByteArray → List Rc) (kn : ByteArray → Bool) : Prop := ∀ nm, unkn fo kn nm ∨ (sameK (fo nm) (ofN nm l) ∧ (ofN nm l = [] → kn nm = true))
theorem rsl_zone {l : List Rc} {fo : ByteArray → List Rc} {kn : ByteArray → Bool} {P : ByteArray → Prop} (hl : toOk l) (hP : ∀ t ∈ toF l, P t) (h : saysZ l fo kn) : ∀ (f : Nat) (ch : List ByteArray), 0 < ch.length → ch.length + f = 6 → (∀ s ∈ ch, P s) →
  (∃ ch' f', rslG fo kn f ch = (ch', .ask) ∧ unkn fo kn (lastN ch') ∧ (zoneG l f' ch').2 = (zoneG l f ch).2 ∧ ch'.length + f' = 6 ∧ (ch' = ch ∨ ch.length < ch'.length) ∧ 0 < f' ∧ ∀ s ∈ ch', P s) ∨ (rslG fo kn f ch).2 = (zoneG l f ch).2 ∧ (rslG fo kn f ch).2 ≠ .ask
 | 0, ch, _, _, _ => .inr ⟨rfl, fun h => by cases h⟩
 | f + 1, ch, h0, h6, hp => by
  rcases h (lastN ch) with hu | ⟨hs, hk⟩
  ·
   refine .inl ⟨ch, f + 1, ?_, hu, rfl, h6, .inl rfl, Nat.succ_pos _, hp⟩
   unfold rslG
   rw [hu.1, if_neg (by simp [adF]), if_pos (by show (⟨#[]⟩ : ByteArray).toList.isEmpty = true; rw [emp_list]; rfl), hu.2, if_neg (by decide)]
  ·
   have hto : toOk (ofN (lastN ch) l) := fun r hr => hl r (List.mem_filter.1 hr).1
   have hto2 := toOk_same hs hto
   have e1 : ssZ (adF (fo (lastN ch))) = ssZ (adF (ofN (lastN ch) l)) := ssZ_same (adF_same hs)
   have e2 := nil_same (adF_same hs)
   have e3 := nxF_same hs hto
   have ez : zoneG l (f + 1) ch = (if adF (ofN (lastN ch) l) ≠ [] then (ch, .addrs (ssZ (adF (ofN (lastN ch) l))))
  else if (nxF (ofN (lastN ch) l)).toList.isEmpty = true then (if (true : Bool) = true then (ch, .fail 211) else (ch, .ask))
  else if hasS (nxF (ofN (lastN ch) l)) ch = true ∨ 4 < ch.length then (ch, .fail 212)
  else zoneG l f (ch ++ [nxF (ofN (lastN ch) l)])) := rfl
   rw [ez]
   unfold rslG
   by_cases a1 : adF (fo (lastN ch)) = []
   ·
    have a2 := e2.1 a1
    rw [if_neg (show ¬ (adF (fo (lastN ch)) ≠ []) by simp [a1]), if_neg (show ¬ (adF (ofN (lastN ch) l) ≠ []) by simp [a2]), e3]
    by_cases n1 : (nxF (ofN (lastN ch) l)).toList.isEmpty = true
    ·
     have hz : ofN (lastN ch) l = [] := both_nil a2 (nxF_nil hto n1)
     rw [if_pos n1, if_pos n1, if_pos (hk hz), if_pos rfl]
     exact .inr ⟨rfl, fun h => by cases h⟩
    ·
     rw [if_neg n1, if_neg n1]
     by_cases c1 : hasS (nxF (ofN (lastN ch) l)) ch = true ∨ 4 < ch.length
     ·
      rw [if_pos c1, if_pos c1]
      exact .inr ⟨rfl, fun h => by cases h⟩
     ·
      rw [if_neg c1, if_neg c1]
      have hpn : P (nxF (ofN (lastN ch) l)) := by
       rcases nxF_spec hto with ⟨_, q⟩ | ⟨q, _⟩
       ·
        rw [q, emp_list] at n1; exact absurd rfl n1
       ·
        obtain ⟨r, hr, he⟩ := List.mem_map.1 q
        obtain ⟨hr1, hr2⟩ := List.mem_filter.1 hr
        exact hP _ (List.mem_map.2 ⟨r, List.mem_filter.2 ⟨(List.mem_filter.1 hr1).1, hr2⟩, he⟩)
      rcases rsl_zone hl hP h f (ch ++ [nxF (ofN (lastN ch) l)]) (by simp) (by simp; omega) (fun s hs => by
       rcases List.mem_append.1 hs with hs | hs
       ·
        exact hp s hs
       ·
        rw [List.mem_singleton.1 hs]; exact hpn) with ⟨ch', f', r1, r2, r3, r4, r5, r6, r7⟩ | r
      ·
       refine .inl ⟨ch', f', r1, r2, r3, r4, .inr ?_, r6, r7⟩
       rcases r5 with r5 | r5
       ·
        rw [r5]; simp
       ·
        simp at r5; omega
      ·
       exact .inr r
   ·
    have a2 := fun h => a1 (e2.2 h)
    rw [if_pos a1, if_pos a2, e1]
    exact .inr ⟨rfl, fun h => by cases h⟩

/-! The cache. -/
def P8 (s : ByteArray) : Prop := ∃ k, k < 8 ∧ s = nm8 k
theorem P8_nmL (n : Int) : P8 (nmL n) := ⟨_, by have := pk_bd n 8 (by decide); omega, rfl⟩
theorem P8_v {s : ByteArray} (h : P8 s) : vname s = true := by obtain ⟨k, _, rfl⟩ := h; exact nm8_v k
/-- A zone: at most eight valid records over the eight names, all with the time tt. -/
structure Zone (tt : Int) (l : List Rc) : Prop where
 len : l.length ≤ 8
 ok : ∀ r ∈ l, RcV r ∧ r.tt = tt ∧ P8 r.nm ∧ (r.kd ≠ 1 → P8 r.to)
theorem ofN_mem {s : ByteArray} {rs : List Rc} {r : Rc} : r ∈ ofN s rs ↔ r ∈ rs ∧ r.nm = s := by
 unfold ofN
 rw [List.mem_filter, beq_iff_eq]
 exact ⟨fun h => ⟨h.1, bytes_ext h.2⟩, fun h => ⟨h.1, by rw [h.2]⟩⟩
theorem v_ne {s : ByteArray} (h : P8 s) : s.toList ≠ [] := by
 obtain ⟨k, hk, rfl⟩ := h
 intro h
 have e := eq_nil_bytes h
 have h8 : k = 0 ∨ k = 1 ∨ k = 2 ∨ k = 3 ∨ k = 4 ∨ k = 5 ∨ k = 6 ∨ k = 7 := by omega
 rcases h8 with rfl | rfl | rfl | rfl | rfl | rfl | rfl | rfl <;> exact absurd (congrArg ByteArray.size e) (by decide)
section
variable {tt : Int} {l : List Rc} {es : List En} {now : Int}
theorem Zone.to (h : Zone tt l) : toOk l := fun r hr h1 => v_ne ((h.ok r hr).2.2.2 h1)
theorem Zone.toP (h : Zone tt l) : ∀ t ∈ toF l, P8 t := fun t ht => by
 obtain ⟨r, hr, rfl⟩ := List.mem_map.1 ht
 obtain ⟨h1, h2⟩ := List.mem_filter.1 hr
 exact (h.ok r h1).2.2.2 (by simpa using h2)
theorem Zone.kd (h : Zone tt l) {r : Rc} (hr : r ∈ l) : r.kd ≠ 0 := by
 rcases (h.ok r hr).1.al with ⟨h1, _⟩ | ⟨h1, _⟩ <;> omega
structure ZC (l : List Rc) (es : List En) : Prop where
 live : ∀ e ∈ es, 5 < e.ex
 key : ∀ e ∈ es, e.kd ≠ 0 → ∃ r ∈ l, ownK r = keyE e
 neg : ∀ e ∈ es, e.kd = 0 → ofN e.nm l = []
 all : ∀ e ∈ es, ∀ r ∈ l, r.nm = e.nm → ∃ x ∈ es, keyE x = ownK r
 nm : ∀ e ∈ es, P8 e.nm
theorem ZC.nil : ZC l [] := ⟨fun e h => (by cases h), fun e h => (by cases h), fun e h => (by cases h), fun e h => (by cases h), fun e h => (by cases h)⟩
theorem look_zone (hz : Zone tt l) (hc : ZC l es) (hn : now ≤ 5) (nm : ByteArray) : (lookD now nm es = [] ∧ knwD now nm es = false) ∨ (sameK (lookD now nm es) (ofN nm l) ∧ knwD now nm es = true) := by
 have hit : ∀ e ∈ es, e.nm = nm → hitB now nm e = true := fun e he h => by
  unfold hitB liveB
  have := hc.live e he
  simp [h]; omega
 by_cases hx : ∃ e ∈ es, e.nm = nm
 ·
  obtain ⟨e0, he0, hn0⟩ := hx
  refine .inr ⟨fun k => ⟨fun hk => ?_, fun hk => ?_⟩, List.any_eq_true.2 ⟨e0, he0, hit e0 he0 hn0⟩⟩
  ·
   obtain ⟨y, hy, rfl⟩ := List.mem_map.1 hk
   obtain ⟨e, he, h1, h2, rfl⟩ := lookD_mem.1 hy
   obtain ⟨r, hr, hk⟩ := hc.key e he h2
   have hnm : e.nm = nm := bytes_ext (hit_nm h1).1
   have e1 : r.nm = e.nm := congrArg Ky.nm hk
   have e2 : r.kd = e.kd := congrArg Ky.kd hk
   have e3 : r.ad = e.ad := congrArg Ky.ad hk
   have e4 : r.to = e.to := congrArg Ky.to hk
   exact List.mem_map.2 ⟨r, ofN_mem.2 ⟨hr, e1.trans hnm⟩, by unfold k3; rw [e2, e3, e4]; rfl⟩
  ·
   obtain ⟨r, hr, rfl⟩ := List.mem_map.1 hk
   obtain ⟨hr1, hr2⟩ := ofN_mem.1 hr
   obtain ⟨x, hx, hxk⟩ := hc.all e0 he0 r hr1 (hr2.trans hn0.symm)
   have e1 : x.nm = r.nm := congrArg Ky.nm hxk
   have e2 : x.kd = r.kd := congrArg Ky.kd hxk
   have e3 : x.ad = r.ad := congrArg Ky.ad hxk
   have e4 : x.to = r.to := congrArg Ky.to hxk
   exact List.mem_map.2 ⟨rcOf now x, lookD_mem.2 ⟨x, hx, hit x hx (e1.trans hr2), by rw [e2]; exact hz.kd hr1, rfl⟩, by show (x.kd, x.ad, x.to) = _; rw [e2, e3, e4]; rfl⟩
 ·
  refine .inl ⟨List.eq_nil_iff_forall_not_mem.2 fun y hy => ?_, ?_⟩
  ·
   obtain ⟨e, he, h1, h2, rfl⟩ := lookD_mem.1 hy
   exact hx ⟨e, he, bytes_ext (hit_nm h1).1⟩
  ·
   unfold knwD
   rw [List.any_eq_false]
   exact fun e he h1 => hx ⟨e, he, bytes_ext (hit_nm h1).1⟩
theorem sub_len {α : Type} : ∀ {a b : List α}, a.Nodup → (∀ x ∈ a, x ∈ b) → a.length ≤ b.length
 | [], b, _, _ => Nat.zero_le _
 | x :: a, b, hn, h => by
  obtain ⟨s, t, rfl⟩ := List.append_of_mem (h x List.mem_cons_self)
  obtain ⟨h1, h2⟩ := List.nodup_cons.1 hn
  have := sub_len h2 (b := s ++ t) fun y hy => by
   rcases List.mem_append.1 (h y (List.mem_cons_of_mem _ hy)) with e | e
   ·
    exact List.mem_append.2 (.inl e)
   ·
    rcases List.mem_cons.1 e with e | e
    ·
     subst e; exact absurd hy h1
    ·
     exact List.mem_append.2 (.inr e)
  simp at this ⊢; omega
def kAll (l : List Rc) : List Ky := l.map ownK ++ (List.range 8).map fun k => noneK (nm8 k)
theorem es_len (hz : Zone tt l) (hi : CInv now es) (hk : ∀ e ∈ es, keyE e ∈ kAll l) : es.length ≤ 16 := by
 have h1 : (es.map keyE).Nodup := by
  rw [List.Nodup, List.pairwise_map]
  exact hi.ap.imp fun h => h.1
 have h2 := sub_len h1 (b := kAll l) fun x hx => by
  obtain ⟨e, he, rfl⟩ := List.mem_map.1 hx
  exact hk e he
 have := hz.len
 simp [kAll] at h2; omega
theorem ZC.keys (hc : ZC l es) (hi : CInv now es) : ∀ e ∈ es, keyE e ∈ kAll l := fun e he => by
 by_cases h0 : e.kd = 0
 ·
  obtain ⟨k, hk, h⟩ := hc.nm e he
  rw [(hi.ok e he).key0 h0, h]
  exact List.mem_append.2 (.inr (List.mem_map.2 ⟨k, List.mem_range.2 hk, rfl⟩))
 ·
  obtain ⟨r, hr, h⟩ := hc.key e he h0
  exact List.mem_append.2 (.inl (List.mem_map.2 ⟨r, hr, h⟩))
theorem rc_rec {r : Rc} (h : RcV r) (h0 : 0 ≤ now) (h5 : now ≤ 5) : recB now r = true := by
 rw [recB_eq, Bool.and_eq_true]
 refine ⟨?_, chkF_ok h0 (by omega) h.nm h.t0 h.t9⟩
 unfold recA
 rcases h.al with ⟨a, b, c⟩ | ⟨a, b, c⟩
 ·
  simp [a, b, c]
 ·
  simp [a, b, c]
theorem put_keys {r : Rc} (hz : Zone 500 l) (hi : CInv now es) (hk : ∀ e ∈ es, keyE e ∈ kAll l) (h0 : 0 ≤ now) (h5 : now ≤ 5) (hr : r ∈ l) : ∀ e, e ∈ putF now r es ↔ e = ⟨r.nm, r.kd, r.ad, r.to, now + 500⟩ ∨ (e ∈ es ∧ keyE e ≠ ownK r ∧ keyE e ≠ noneK r.nm) := by
 intro e
 have hv := hz.ok r hr
 rw [putF_eq es (rc_rec hv.1 h0 h5) (by rw [hv.2.1]; decide), room_small (by have := es_len hz hi hk; have h2 := List.length_filter_le (fun x => !putP r x) es; omega), List.mem_append, List.mem_singleton, List.mem_filter, hv.2.1]
 have hp : (!putP r e) = true ↔ keyE e ≠ ownK r ∧ keyE e ≠ noneK r.nm := by
  unfold putP
  rw [Bool.not_eq_true', Bool.or_eq_false_iff]
  constructor
  ·
   rintro ⟨a, b⟩
   exact ⟨fun h => (by rw [(kyEq_iff _ _).2 h] at a; cases a), fun h => (by rw [(kyEq_iff _ _).2 h] at b; cases b)⟩
  ·
   rintro ⟨a, b⟩
   constructor
   ·
    cases h : kyEq (keyE e) (ownK r) with
    | false => rfl
    | true => exact absurd ((kyEq_iff _ _).1 h) a
   ·
    cases h : kyEq (keyE e) (noneK r.nm) with
    | false => rfl
    | true => exact absurd ((kyEq_iff _ _).1 h) b
 rw [hp]
 exact or_comm
theorem puts_keys (hz : Zone 500 l) (h0 : 0 ≤ now) (h5 : now ≤ 5) : ∀ (rs : List Rc) {es : List En}, (∀ r ∈ rs, r ∈ l) → CInv now es → (∀ e ∈ es, keyE e ∈ kAll l) → (∀ e ∈ es, 5 < e.ex) →
  (∀ e ∈ putsF now rs es, keyE e ∈ kAll l) ∧ (∀ e ∈ putsF now rs es, 5 < e.ex) ∧ (∀ κ, κ ∈ (putsF now rs es).map keyE ↔ (∃ r ∈ rs, ownK r = κ) ∨ (κ ∈ es.map keyE ∧ ∀ r ∈ rs, κ ≠ noneK r.nm))
 | [], es, _, hi, hk, hlv => ⟨hk, hlv, fun κ => ⟨fun h => .inr ⟨h, fun r hr => (by cases hr)⟩, fun h => by
   rcases h with ⟨r, hr, _⟩ | h
   ·
    cases hr
   ·
    exact h.1⟩⟩
 | r :: rs, es, hs, hi, hk, hlv => by
  have hr := hs r List.mem_cons_self
  have hp := put_keys hz hi hk h0 h5 hr
  have hne : ∀ nm, ownK r ≠ noneK nm := fun nm h => hz.kd hr (congrArg Ky.kd h)
  obtain ⟨a1, a2, a3⟩ := puts_keys hz h0 h5 rs (es := putF now r es) (fun x hx => hs x (List.mem_cons_of_mem _ hx)) (hi.put r) (fun e he => by
   rcases (hp e).1 he with rfl | ⟨he, _⟩
   ·
    exact List.mem_append.2 (.inl (List.mem_map.2 ⟨r, hr, rfl⟩))
   ·
    exact hk e he) (fun e he => by
   rcases (hp e).1 he with rfl | ⟨he, _⟩
   ·
    show 5 < now + 500; omega
   ·
    exact hlv e he)
  refine ⟨a1, a2, fun κ => (a3 κ).trans ?_⟩
  have hm : κ ∈ (putF now r es).map keyE ↔ κ = ownK r ∨ (κ ∈ es.map keyE ∧ κ ≠ ownK r ∧ κ ≠ noneK r.nm) := by
   rw [List.mem_map]
   constructor
   ·
    rintro ⟨e, he, rfl⟩
    rcases (hp e).1 he with rfl | ⟨he, h⟩
    ·
     exact .inl rfl
    ·
     exact .inr ⟨List.mem_map.2 ⟨e, he, rfl⟩, h⟩
   ·
    rintro (rfl | ⟨hk, h1, h2⟩)
    ·
     exact ⟨_, (hp _).2 (.inl rfl), rfl⟩
    ·
     obtain ⟨e, he, rfl⟩ := List.mem_map.1 hk
     exact ⟨e, (hp e).2 (.inr ⟨he, h1, h2⟩), rfl⟩
  rw [hm]
  constructor
  ·
   rintro (⟨x, hx, e⟩ | ⟨rfl | ⟨h1, h2, h3⟩, h4⟩)
   ·
    exact .inl ⟨x, List.mem_cons_of_mem _ hx, e⟩
   ·
    exact .inl ⟨r, List.mem_cons_self, rfl⟩
   ·
    exact .inr ⟨h1, fun x hx => by
     rcases List.mem_cons.1 hx with rfl | hx
     ·
      exact h3
     ·
      exact h4 x hx⟩
  ·
   rintro (⟨x, hx, e⟩ | ⟨h1, h2⟩)
   ·
    rcases List.mem_cons.1 hx with rfl | hx
    ·
     exact .inr ⟨.inl e.symm, fun y hy => e ▸ hne _⟩
    ·
     exact .inl ⟨x, hx, e⟩
   ·
    by_cases e : κ = ownK r
    ·
     exact .inr ⟨.inl e, fun y hy => e ▸ hne _⟩
    ·
     exact .inr ⟨.inr ⟨h1, e, h2 r List.mem_cons_self⟩, fun y hy => h2 y (List.mem_cons_of_mem _ hy)⟩
theorem puts_zero (hz : Zone 0 l) : ∀ (rs : List Rc) (es : List En), (∀ r ∈ rs, r ∈ l) → putsF now rs es = es
 | [], es, _ => rfl
 | r :: rs, es, h => by
  have h1 : putF now r es = es := by
   unfold putF
   rw [(hz.ok r (h r List.mem_cons_self)).2.1]
   simp
  show putsF now rs (putF now r es) = es
  rw [h1]
  exact puts_zero hz rs es fun x hx => h x (List.mem_cons_of_mem _ hx)
theorem ZC.puts (hz : Zone tt l) (ht : tt = 0 ∨ tt = 500) (hc : ZC l es) (hi : CInv now es) (h0 : 0 ≤ now) (h5 : now ≤ 5) {rs : List Rc} (hs : ∀ r ∈ rs, r ∈ l) (hf : ∀ r ∈ rs, ∀ x ∈ l, x.nm = r.nm → x ∈ rs) : ZC l (putsF now rs es) := by
 rcases ht with rfl | rfl
 ·
  rw [puts_zero hz rs es hs]; exact hc
 ·
  obtain ⟨a1, a2, a3⟩ := puts_keys hz h0 h5 rs hs hi (hc.keys hi) hc.live
  have hci : CInv now (putsF now rs es) := puts_ok rs hi
  refine ⟨a2, fun e he hk => ?_, fun e he hk => ?_, fun e he r hr hn => ?_, fun e he => ?_⟩
  ·
   rcases (a3 _).1 (List.mem_map.2 ⟨e, he, rfl⟩) with ⟨r, hr, h⟩ | ⟨h, _⟩
   ·
    exact ⟨r, hs r hr, h⟩
   ·
    obtain ⟨x, hx, hxe⟩ := List.mem_map.1 h
    have hxk : x.kd = e.kd := congrArg Ky.kd hxe
    obtain ⟨r, hr, h1⟩ := hc.key x hx (by rw [hxk]; exact hk)
    exact ⟨r, hr, h1.trans hxe⟩
  ·
   rcases (a3 _).1 (List.mem_map.2 ⟨e, he, rfl⟩) with ⟨r, hr, h⟩ | ⟨h, _⟩
   ·
    exact absurd ((congrArg Ky.kd h).trans hk) (hz.kd (hs r hr))
   ·
    obtain ⟨x, hx, hxe⟩ := List.mem_map.1 h
    have h1 : x.kd = e.kd := congrArg Ky.kd hxe
    have h2 : x.nm = e.nm := congrArg Ky.nm hxe
    rw [← h2]; exact hc.neg x hx (h1.trans hk)
  ·
   have hput : ownK r ∈ (putsF now rs es).map keyE := by
    rcases (a3 _).1 (List.mem_map.2 ⟨e, he, rfl⟩) with ⟨x, hx, h⟩ | ⟨h, h2⟩
    ·
     exact (a3 _).2 (.inl ⟨r, hf x hx r hr (hn.trans (congrArg Ky.nm h).symm), rfl⟩)
    ·
     obtain ⟨x, hx, hxe⟩ := List.mem_map.1 h
     obtain ⟨y, hy, hyr⟩ := hc.all x hx r hr (hn.trans (congrArg Ky.nm hxe).symm)
     exact (a3 _).2 (.inr ⟨List.mem_map.2 ⟨y, hy, hyr⟩, fun z hz' h => hz.kd hr (congrArg Ky.kd h)⟩)
   obtain ⟨x, hx, h⟩ := List.mem_map.1 hput
   exact ⟨x, hx, h⟩
  ·
   rcases (a3 _).1 (List.mem_map.2 ⟨e, he, rfl⟩) with ⟨r, hr, h⟩ | ⟨h, _⟩
   ·
    have h2 : r.nm = e.nm := congrArg Ky.nm h
    rw [← h2]; exact (hz.ok r (hs r hr)).2.2.1
   ·
    obtain ⟨x, hx, hxe⟩ := List.mem_map.1 h
    have h2 : x.nm = e.nm := congrArg Ky.nm hxe
    rw [← h2]; exact hc.nm x hx
theorem ZC.negs (hz : Zone tt l) (hc : ZC l es) (hi : CInv now es) (h0 : 0 ≤ now) (h5 : now ≤ 5) {nm : ByteArray} (hp : P8 nm) (hn : ofN nm l = []) : ZC l (negF now nm 30 es) := by
 have hm : ∀ e, e ∈ negF now nm 30 es ↔ (e ∈ es ∧ e.nm ≠ nm) ∨ e = ⟨nm, 0, 0, ⟨#[]⟩, now + 30⟩ := by
  intro e
  rw [negF_eq es (chkF_ok h0 (by omega) (P8_v hp) (by decide) (by decide)) (by decide), room_small (by have := es_len hz hi (hc.keys hi); have h2 := List.length_filter_le (fun x => !negP nm x) es; omega), List.mem_append, List.mem_singleton, List.mem_filter]
  have h1 : (!negP nm e) = true ↔ e.nm ≠ nm := by
   unfold negP
   rw [Bool.not_eq_true', beq_eq_false_iff_ne]
   exact ⟨fun h e => h (by rw [e]), fun h e => h (bytes_ext e)⟩
  rw [h1]
 refine ⟨fun e he => ?_, fun e he hk => ?_, fun e he hk => ?_, fun e he r hr hrn => ?_, fun e he => ?_⟩
 ·
  rcases (hm e).1 he with ⟨he, _⟩ | rfl
  ·
   exact hc.live e he
  ·
   show 5 < now + 30; omega
 ·
  rcases (hm e).1 he with ⟨he, _⟩ | rfl
  ·
   exact hc.key e he hk
  ·
   exact absurd rfl hk
 ·
  rcases (hm e).1 he with ⟨he, _⟩ | rfl
  ·
   exact hc.neg e he hk
  ·
   exact hn
 ·
  rcases (hm e).1 he with ⟨he, hne⟩ | rfl
  ·
   obtain ⟨x, hx, h⟩ := hc.all e he r hr hrn
   have h2 : x.nm = r.nm := congrArg Ky.nm h
   exact ⟨x, (hm x).2 (.inl ⟨hx, by rw [h2, hrn]; exact hne⟩), h⟩
  ·
   have : r ∈ ofN nm l := ofN_mem.2 ⟨hr, hrn⟩
   rw [hn] at this; cases this
 ·
  rcases (hm e).1 he with ⟨he, _⟩ | rfl
  ·
   exact hc.nm e he
  ·
   exact hp
end

/-! One lookup. -/
def roE : RO → Int
 | .addrs _ => 0
 | .fail n => n
 | .ask => 0
def roA : RO → List Int
 | .addrs l => l
 | _ => []
/-- One lookup waits: its last query is number qn. -/
def pendZ (sd : Int) (es : List En) (tk qn : Int) (b : Nat) (now : Int) (ch : List ByteArray) : Rz := ⟨[3, 5], sd, es, tk, qn, [(b, ⟨tk, ch, 1, qn, now, 3⟩)], []⟩
def doneZ (sd : Int) (es : List En) (tk qn : Int) (ro : RO) : Rz := ⟨[3, 5], sd, es, tk, qn, [], [⟨tk, roE ro, roA ro⟩]⟩
def restZ (sd : Int) (es : List En) (tk qn : Int) : Rz := ⟨[3, 5], sd, es, tk, qn, [], []⟩
/-- The waiting lookup's chain leads where the zone says. -/
structure Pend (l : List Rc) (want : RO) (ch : List ByteArray) : Prop where
 z : (zoneG l (6 - ch.length) ch).2 = want
 c0 : 0 < ch.length
 c5 : ch.length ≤ 5
 nm : ∀ s ∈ ch, P8 s
section
variable {tt : Int} {l : List Rc} {es : List En} {now sd tk qn nu se s0 : Int} {b : Nat} {want : RO} {ch : List ByteArray} {rs : List Rc}
theorem ask_two {z : Rz} {k0 : Lk} (hsv : z.sv = [3, 5]) (hw : z.wl = [(b, k0)]) {k : Lk} (hk : k.tr = 0) : askZ now z 0 b k = (⟨[3, 5], z.sd, z.es, z.tk, z.qn + 1, [(b, ⟨k.tk, k.ch, 1, z.qn + 1, now, 3⟩)], z.dn⟩, [qyZ z.sd z.qn 3 (lastN k.ch)]) := by
 obtain ⟨sv, sd, es, tk, qn, wl, dn⟩ := z
 obtain ⟨kt, kc, kr, ku, ks, kv⟩ := k
 cases hsv; cases hw; cases hk
 rfl
/-- advance, where what is found says what the zone says. -/
theorem adv_zone (hz : Zone tt l) (hs : saysZ l (foundF now es rs) (knownF now es rs)) (hp : Pend l want ch) (kr : Int) :
  (∃ ch', advZ now ⟨[3, 5], sd, es, tk, qn, [(b, ⟨tk, ch, kr, nu, se, s0⟩)], []⟩ 0 b ⟨tk, ch, kr, nu, se, s0⟩ rs = (pendZ sd es tk (qn + 1) b now ch', [qyZ sd qn 3 (lastN ch')]) ∧ Pend l want ch' ∧ (ch' = ch ∨ ch.length < ch'.length) ∧ unkn (foundF now es rs) (knownF now es rs) (lastN ch')) ∨
  advZ now ⟨[3, 5], sd, es, tk, qn, [(b, ⟨tk, ch, kr, nu, se, s0⟩)], []⟩ 0 b ⟨tk, ch, kr, nu, se, s0⟩ rs = (doneZ sd es tk qn want, []) := by
 have hr := rsl_zone hz.to hz.toP hs (6 - ch.length) ch hp.c0 (by have := hp.c5; omega) hp.nm
 rw [← rslF_G] at hr
 rcases hr with ⟨ch', f', r1, r2, r3, r4, r5, r6, r7⟩ | ⟨r1, r2⟩
 ·
  refine .inl ⟨ch', ?_, ⟨by rw [show 6 - ch'.length = f' by omega, r3]; exact hp.z, by have := hp.c0; rcases r5 with r5 | r5; (· rw [r5]; exact hp.c0); omega, by omega, r7⟩, r5, r2⟩
  unfold advZ
  rw [r1]
  show askZ now _ 0 b ⟨tk, ch', 0, nu, se, s0⟩ = _
  rw [ask_two rfl rfl rfl]
  rfl
 ·
  refine .inr ?_
  rw [hp.z] at r1
  unfold advZ
  obtain ⟨⟨c, ro⟩, hro⟩ : ∃ p, rslF now es rs (6 - ch.length) ch = p := ⟨_, rfl⟩
  rw [hro] at r1 r2 ⊢
  obtain rfl : ro = want := r1
  cases ro with
  | ask => exact absurd rfl r2
  | addrs a => rfl
  | fail n => rfl
theorem fz_start (hz : Zone tt l) (hc : ZC l es) (h5 : now ≤ 5) {nm : ByteArray} (hp : P8 nm) (hw : (zoneG l 5 [nm]).2 = want) :
  (∃ ch, startZ now (restZ sd es tk qn) b nm = (pendZ sd es (tk + 1) (qn + 1) b now ch, [qyZ sd qn 3 (lastN ch)]) ∧ Pend l want ch) ∨ startZ now (restZ sd es tk qn) b nm = (doneZ sd es (tk + 1) qn want, []) := by
 have hs : saysZ l (foundF now es []) (knownF now es []) := fun x => by
  have e1 : foundF now es [] x = lookD now x es := rfl
  have e2 : knownF now es [] x = knwD now x es := rfl
  unfold unkn
  rw [e1, e2]
  rcases look_zone hz hc h5 x with h | ⟨h1, h2⟩
  ·
   exact .inl h
  ·
   exact .inr ⟨h1, fun _ => h2⟩
 have hP : Pend l want [nm] := ⟨hw, Nat.one_pos, by show 1 ≤ 5; decide, fun s hs => by rw [List.mem_singleton.1 hs]; exact hp⟩
 rcases adv_zone (sd := sd) (tk := tk + 1) (qn := qn) (b := b) (nu := 0) (se := 0) (s0 := 0) hz hs hP 0 with ⟨ch', a1, a2, _, _⟩ | a1
 ·
  exact .inl ⟨ch', a1, a2⟩
 ·
  exact .inr a1
/-- The answer of the zone's server. -/
def ansM (l : List Rc) (all : Bool) (id : Int) (nm : ByteArray) : Dm := if ofN nm l = [] then ⟨id, true, 1, nm, 1, []⟩ else ⟨id, true, 0, nm, 1, l.filter fun r => (r.nm.toList == nm.toList) || all⟩
theorem relN_has {rs : List Rc} {x : ByteArray} : ∀ (n : Nat) (ns : List ByteArray), hasS x ns = true → hasS x (relN rs n ns) = true
 | 0, ns, h => h
 | n + 1, ns, h => by
  unfold relN
  split
  ·
   exact h
  ·
   exact relN_has n _ (by rw [hasS_snoc, h]; rfl)
theorem fz_ans (hz : Zone tt l) (ht : tt = 0 ∨ tt = 500) (hc : ZC l es) (hi : CInv now es) (h0 : 0 ≤ now) (h5 : now ≤ 5) (hp : Pend l want ch) (all : Bool) :
  (∃ es' ch', rcvZ now (pendZ sd es tk qn b now ch) 3 53 (20000 + (sd + 101 * qn) % 10000) (ansM l all ((sd + 7919 * qn) % 65536) (lastN ch)) = (true, pendZ sd es' tk (qn + 1) b now ch', [qyZ sd qn 3 (lastN ch')]) ∧ Pend l want ch' ∧ ch.length < ch'.length ∧ ZC l es' ∧ CInv now es') ∨
  ∃ es', rcvZ now (pendZ sd es tk qn b now ch) 3 53 (20000 + (sd + 101 * qn) % 10000) (ansM l all ((sd + 7919 * qn) % 65536) (lastN ch)) = (true, doneZ sd es' tk qn want, []) ∧ ZC l es' ∧ CInv now es' := by
 obtain ⟨nm, hnm⟩ : ∃ x, lastN ch = x := ⟨_, rfl⟩
 have hpn : P8 nm := hnm ▸ hp.nm _ (lastN_mem hp.c0)
 have hhit : ∀ d : Dm, d.an = true → d.kd = 1 → d.id = (sd + 7919 * qn) % 65536 → d.nm = nm → rcvZ now (pendZ sd es tk qn b now ch) 3 53 (20000 + (sd + 101 * qn) % 10000) d = (true, ansZ now (pendZ sd es tk qn b now ch) 0 b ⟨tk, ch, 1, qn, now, 3⟩ d.cd d.rs) := by
  intro d a1 a2 a3 a4
  unfold rcvZ
  rw [if_pos ⟨rfl, a1, a2⟩]
  have hf : (pendZ sd es tk qn b now ch).wl.findIdx? (hitK (pendZ sd es tk qn b now ch).sd 3 (20000 + (sd + 101 * qn) % 10000) d.id d.nm) = some 0 := by
   show List.findIdx? _ [(b, (⟨tk, ch, 1, qn, now, 3⟩ : Lk))] = some 0
   rw [List.findIdx?_cons, if_pos]
   show ((20000 + (sd + 101 * qn) % 10000 == 20000 + (sd + 101 * qn) % 10000) && ((3 : Int) == 3) && (d.id == (sd + 7919 * qn) % 65536) && (d.nm.toList == (lastN ch).toList)) = true
   rw [a3, a4, hnm]; simp
  rw [hf]
  rfl
 rw [hnm]
 unfold ansM
 by_cases hn : ofN nm l = []
 ·
  refine .inr ⟨negF now nm 30 es, ?_, hc.negs hz hi h0 h5 hpn hn, hi.neg nm 30⟩
  rw [if_pos hn, hhit _ rfl rfl rfl rfl]
  have hw : want = .fail 211 := by
   rw [← hp.z]
   obtain ⟨f, hf⟩ : ∃ f, 6 - ch.length = f + 1 := ⟨5 - ch.length, by have := hp.c5; omega⟩
   rw [hf]
   unfold zoneG rslG
   rw [hnm, hn, if_neg (by simp [adF]), if_pos (by show (⟨#[]⟩ : ByteArray).toList.isEmpty = true; rw [emp_list]; rfl), if_pos rfl]
  unfold ansZ
  rw [if_pos rfl, hw]
  show (true, finZ (esZ _ (negF now (lastN ch) 30 es)) 0 tk 211 [], []) = _
  rw [hnm]; rfl
 ·
  rw [if_neg hn, hhit _ rfl rfl rfl rfl]
  show (∃ es' ch', (true, ansZ now _ 0 b _ 0 (l.filter fun r => (r.nm.toList == nm.toList) || all)) = _ ∧ _) ∨ _
  obtain ⟨rs, hrs⟩ : ∃ x, (l.filter fun r => (r.nm.toList == nm.toList) || all) = x := ⟨_, rfl⟩
  rw [hrs]
  have hof : ∀ x, ofN x rs = if (x = nm ∨ all = true) then ofN x l else [] := fun x => by
   rw [← hrs]
   unfold ofN
   rw [List.filter_filter]
   split
   ·
    rename_i hx
    refine List.filter_congr fun r hr => ?_
    cases e : (r.nm.toList == x.toList) with
    | false => rfl
    | true =>
     rcases hx with rfl | hx
     ·
      rw [e]; rfl
     ·
      rw [hx]; simp
   ·
    rename_i hx
    rw [List.filter_eq_nil_iff]
    intro r hr h
    simp only [Bool.and_eq_true, Bool.or_eq_true, beq_iff_eq] at h
    rcases h with ⟨h1, h2 | h2⟩
    ·
     exact hx (.inl (bytes_ext (h1.symm.trans h2)))
    ·
     exact hx (.inr h2)
  obtain ⟨ns, hns⟩ : ∃ x, relN rs rs.length [nm] = x := ⟨_, rfl⟩
  have hnn : hasS nm ns = true := by rw [← hns]; exact relN_has _ _ (by simp [hasS])
  have hrel : ∀ x, ofN x (relF rs nm) = if hasS x ns = true then ofN x rs else [] := fun x => by
   unfold relF ofN
   rw [hns, List.filter_filter]
   split
   ·
    rename_i hx
    refine List.filter_congr fun r hr => ?_
    cases e : (r.nm.toList == x.toList) with
    | false => rfl
    | true => rw [bytes_ext (beq_iff_eq.1 e), hx]; rfl
   ·
    rename_i hx
    rw [List.filter_eq_nil_iff]
    intro r hr h
    simp only [Bool.and_eq_true, beq_iff_eq] at h
    exact hx (bytes_ext h.1 ▸ h.2)
  obtain ⟨rr, hrr⟩ : ∃ x, relF rs nm = x := ⟨_, rfl⟩
  rw [hrr] at hrel
  have hdic : ∀ x, ofN x rr = [] ∨ ofN x rr = ofN x l := fun x => by
   rw [hrel, hof]
   split
   ·
    split
    ·
     exact .inr rfl
    ·
     exact .inl rfl
   ·
    exact .inl rfl
  have hsub : ∀ r ∈ rr, r ∈ l := fun r hr => by
   rw [← hrr] at hr
   have := (List.mem_filter.1 hr).1
   rw [← hrs] at this
   exact (List.mem_filter.1 this).1
  have hfull : ∀ r ∈ rr, ∀ x ∈ l, x.nm = r.nm → x ∈ rr := fun r hr x hx he => by
   have h1 : r ∈ ofN r.nm rr := ofN_mem.2 ⟨hr, rfl⟩
   rcases hdic r.nm with h | h
   ·
    rw [h] at h1; cases h1
   ·
    have h2 : x ∈ ofN r.nm rr := by rw [h]; exact ofN_mem.2 ⟨hx, he⟩
    exact (ofN_mem.1 h2).1
  have hc' := hc.puts hz ht hi h0 h5 hsub hfull
  have hi' : CInv now (putsF now rr es) := puts_ok rr hi
  have hnm' : ofN nm rs = ofN nm l := by rw [hof, if_pos (.inl rfl)]
  have hrm : ofN nm rr = ofN nm l := by rw [hrel, if_pos hnn, hnm']
  obtain ⟨es', hes⟩ : ∃ x, putsF now rr es = x := ⟨_, rfl⟩
  rw [hes] at hc' hi'
  have ha : ansZ now (pendZ sd es tk qn b now ch) 0 b ⟨tk, ch, 1, qn, now, 3⟩ 0 rs = advZ now ⟨[3, 5], sd, es', tk, qn, [(b, ⟨tk, ch, 1, qn, now, 3⟩)], []⟩ 0 b ⟨tk, ch, 1, qn, now, 3⟩ rr := by
   unfold ansZ
   rw [if_neg (by decide), if_neg (by
    rintro (h | h)
    ·
     exact absurd h (by decide)
    ·
     exact hn (by rw [← hnm']; exact hnm ▸ h))]
   show advZ now (esZ _ (putsF now (relF rs (lastN ch)) es)) 0 b _ (relF rs (lastN ch)) = _
   rw [hnm, hrr, hes]; rfl
  rw [ha]
  have hsz : saysZ l (foundF now es' rr) (knownF now es' rr) := fun x => by
   cases hx : (ofN x rr).isEmpty with
   | true =>
    have e1 : foundF now es' rr x = lookD now x es' := by unfold foundF; rw [if_pos hx]
    have e2 : knownF now es' rr x = knwD now x es' := by unfold knownF; rw [if_pos hx]
    unfold unkn
    rw [e1, e2]
    rcases look_zone hz hc' h5 x with h | ⟨h1, h2⟩
    ·
     exact .inl h
    ·
     exact .inr ⟨h1, fun _ => h2⟩
   | false =>
    have e1 : foundF now es' rr x = ofN x rr := by unfold foundF; rw [if_neg (by rw [hx]; decide)]
    rcases hdic x with h | h
    ·
     rw [h] at hx; cases hx
    ·
     refine .inr ⟨by rw [e1, h]; exact fun k => Iff.rfl, fun h2 => ?_⟩
     rw [h, h2] at hx; cases hx
  rcases adv_zone (sd := sd) (tk := tk) (qn := qn) (b := b) (nu := qn) (se := now) (s0 := 3) hz hsz hp 1 with ⟨ch', a1, a2, a3, a4⟩ | a1
  ·
   refine .inl ⟨es', ch', by rw [a1], a2, ?_, hc', hi'⟩
   rcases a3 with a3 | a3
   ·
    exfalso
    have h1 := a4.1
    rw [a3, hnm] at h1
    have e1 : foundF now es' rr nm = ofN nm rr := by
     unfold foundF
     rw [if_neg]
     rw [hrm]
     intro h
     exact hn (List.isEmpty_iff.1 h)
    rw [e1, hrm] at h1
    exact hn h1
   ·
    exact a3
  ·
   exact .inr ⟨es', by rw [a1], hc', hi'⟩
end

end Go.Proofs.YtbolfkojebbejaaGreatDoor

namespace Go.Proofs.YtbolfkojebbejaaGreatDoor
open Go.RowKit Go.Sort
set_option linter.unusedVariables false
set_option maxRecDepth 100000
attribute [local go_sem] Oper.semAt_some

structure Rq where
 nm : Int
 al : Bool
 to : Int
 tt : Int
abbrev rqA (x : Rq) : Array Value := #[.int .i64 x.nm, .bool x.al, .int .i64 x.to, .int .i64 x.tt]
structure RqOk (x : Rq) : Prop where
 nm : i64B x.nm
 to : i64B x.to
 tt : i64B x.tt
def rrF (x : Rq) : Rc := if x.al = true then ⟨nmL x.nm, 2, pk x.tt 60, 0, nmL x.to⟩ else ⟨nmL x.nm, 1, pk x.tt 60, 1 + pk x.to 9, ⟨#[]⟩⟩
theorem rrF_v (x : Rq) : RcV (rrF x) := by
 have h1 := pk_bd x.tt 60 (by decide)
 have h2 := pk_bd x.to 9 (by decide)
 unfold rrF
 split
 ·
  exact ⟨nmL_v _, h1.1, by show pk x.tt 60 ≤ 1000; omega, .inr ⟨rfl, nmL_v _, rfl⟩⟩
 ·
  exact ⟨nmL_v _, h1.1, by show pk x.tt 60 ≤ 1000; omega, .inl ⟨rfl, by simp [adrOk]; omega, emp_list⟩⟩
set_option maxHeartbeats 4000000 in
theorem rr_any (x : Rq) (hx : RqOk x) (w : World) : Calls Tryz.prog 87 #[.agg (rqA x)] w fun e w' => e = .returned (rcV (rrF x)) ∧ Below w.heap.size w w' := by
 have P1 := Lib.hid (fun w => name21_any x.nm w hx.nm)
 have P2 := Lib.hid (fun w => pick21_b x.tt 60 w hx.tt (by decide))
 have P3 := Lib.hid (fun w => pick21_b x.to 9 w hx.to (by decide))
 have P5 := Lib.hid (fun w => name21_any x.to w hx.to)
 have HF := Lib.hid (show rrF x = if x.al = true then ⟨nmL x.nm, 2, pk x.tt 60, 0, nmL x.to⟩ else ⟨nmL x.nm, 1, pk x.tt 60, 1 + pk x.to 9, ⟨#[]⟩⟩ from rfl)
 have q3 := pk_bd x.to 9 (by decide)
 obtain ⟨nm, al, to, tt⟩ := x
 simp only at P1 P2 P3 P5 HF q3
 clear hx
 generalize nmL nm = n1 at *
 generalize nmL to = n5 at *
 generalize pk tt 60 = n2 at *
 generalize pk to 9 = n3 at *
 obtain ⟨q31, q32⟩ := q3
 have HO := Lib.hid (show Own w none0 w [] from Own.nil w none0)
 obtain ⟨x1, hx1, bx, hbx, hO⟩ := HO.out.allocE (.cells #[.int .i64 nm, .bool al, .int .i64 to, .int .i64 tt] 173)
 replace HO := Lib.hid (show Own _ _ _ [blkR bx (.cells #[.int .i64 nm, .bool al, .int .i64 to, .int .i64 tt] 173)] from hO)
 clear hO
 obtain ⟨x2, hx2, br, hbr, hO⟩ := HO.out.allocE (.cells #[.string ⟨#[]⟩, .int .i64 0, .int .i64 0, .int .i64 0, .string ⟨#[]⟩] 49)
 replace HO := Lib.hid (show Own _ _ _ [_, blkR br (.cells #[.string ⟨#[]⟩, .int .i64 0, .int .i64 0, .int .i64 0, .string ⟨#[]⟩] 49)] from hO)
 clear hO
 have z0_1 : x2.cell? _ = some (.bool al) := HO.out.cell 0 rfl 1 rfl
 go_enter Tryz.func87, Tryz.ntmps87
 cases al with
 | true =>
  have HV := Lib.hid (show rrF ⟨nm, true, to, tt⟩ = ⟨n1, 2, n2, 0, n5⟩ from HF.out)
  clear HF
  go_wp2
  clear hx1 hbx hx2 hbr z0_1
  have g0_0 := cell_regrown (show x2.cell? ⟨bx, 0, none⟩ = some (.int .i64 nm) from HO.out.cell 0 rfl 0 rfl)
  have g0_2 := cell_regrown (show x2.cell? ⟨bx, 2, none⟩ = some (.int .i64 to) from HO.out.cell 0 rfl 2 rfl)
  have g0_3 := cell_regrown (show x2.cell? ⟨bx, 3, none⟩ = some (.int .i64 tt) from HO.out.cell 0 rfl 3 rfl)
  refine wp_region_R 10 (by kernel_rfl) (by kernel_rfl) ?_
  simp only [List.take, List.drop]
  iterate 2 (first | (refine wpR_want (by kernel_rfl) rfl rfl ?_; intro K hK; go_big_quiet_op; go_big_quiet_on) | (refine wpR_is (by kernel_rfl) rfl _ (fun w _ => rfl) ?_; simp only [Act.put, List.setIfInBounds_toArray, List.set_cons_succ, List.set_cons_zero]))
  refine wpR_call (by kernel_rfl) rfl 20 #[.int .i64 nm] (.string n1) (fun w => by simp [go_sem]) (fun w _ => P1.out w) ?_
  simp only [Act.put, List.setIfInBounds_toArray, List.set_cons_succ, List.set_cons_zero]
  iterate 2 (first | (refine wpR_want (by kernel_rfl) rfl rfl ?_; intro K hK; go_big_quiet_op; go_big_quiet_on) | (refine wpR_is (by kernel_rfl) rfl _ (fun w _ => rfl) ?_; simp only [Act.put, List.setIfInBounds_toArray, List.set_cons_succ, List.set_cons_zero]))
  refine wpR_call (by kernel_rfl) rfl 21 #[.int .i64 tt, .int .i64 60] (.int .i64 n2) (fun w => by simp [go_sem]) (fun w _ => P2.out w) ?_
  simp only [Act.put, List.setIfInBounds_toArray, List.set_cons_succ, List.set_cons_zero]
  iterate 2 (first | (refine wpR_want (by kernel_rfl) rfl rfl ?_; intro K hK; go_big_quiet_op; go_big_quiet_on) | (refine wpR_is (by kernel_rfl) rfl _ (fun w _ => rfl) ?_; simp only [Act.put, List.setIfInBounds_toArray, List.set_cons_succ, List.set_cons_zero]))
  refine wpR_call (by kernel_rfl) rfl 20 #[.int .i64 to] (.string n5) (fun w => by simp [go_sem]) (fun w _ => P5.out w) ?_
  simp only [Act.put, List.setIfInBounds_toArray, List.set_cons_succ, List.set_cons_zero]
  iterate 1 (first | (refine wpR_want (by kernel_rfl) rfl rfl ?_; intro K hK; go_big_quiet_op; go_big_quiet_on) | (refine wpR_is (by kernel_rfl) rfl _ (fun w _ => rfl) ?_; simp only [Act.put, List.setIfInBounds_toArray, List.set_cons_succ, List.set_cons_zero]))
  refine wpR_nil (by kernel_rfl) (by simp) ?_
  rintro w5 hbw
  simp only [exAll]
  simp only [List.drop]
  have hO := HO.out.stay hbw
  replace HO := Lib.hid (show Own _ _ _ [blkR bx (.cells #[.int .i64 nm, .bool true, .int .i64 to, .int .i64 tt] 173), _] from hO)
  clear hO hbw g0_0 g0_2 g0_3 
  obtain ⟨x8, x13, x17, x20, x22, hx8, hx13, hx17, hx20, hx22, k1_0_3, lk1_0_3, k1_1_9, lk1_1_9, k1_2_14, lk1_2_14, k1_3_18, lk1_3_18, k1_4_21, lk1_4_21, hO⟩ := HO.out.steps5 1 rfl (.string n1) (.int .i64 2) (.int .i64 n2) (.int .i64 0) (.string n5)
  replace HO := Lib.hid (show Own _ _ _ [_, blkR br (.cells #[.string n1, .int .i64 2, .int .i64 n2, .int .i64 0, .string n5] 49)] from hO)
  clear hO
  obtain ⟨r0, r1, r2, r3, r4⟩ := HO.out.c5 1 rfl
  go_wp2
  exact bodyPost_ret (v := .agg #[.string n1, .int .i64 2, .int .i64 n2, .int .i64 0, .string n5]) (by simp [results, Tryz.results87, go_sem, r0, r1, r2, r3, r4]) rfl ⟨by rw [HV.out], HO.out.below⟩
 | false =>
  have HV := Lib.hid (show rrF ⟨nm, false, to, tt⟩ = ⟨n1, 1, n2, 1 + n3, ⟨#[]⟩⟩ from HF.out)
  have hs : IntKind.i64.wrap (1 + n3) = 1 + n3 := IntWalk.i64_in _ (by omega)
  clear HF
  go_wp2
  clear hx1 hbx hx2 hbr z0_1
  have g0_0 := cell_regrown (show x2.cell? ⟨bx, 0, none⟩ = some (.int .i64 nm) from HO.out.cell 0 rfl 0 rfl)
  have g0_2 := cell_regrown (show x2.cell? ⟨bx, 2, none⟩ = some (.int .i64 to) from HO.out.cell 0 rfl 2 rfl)
  have g0_3 := cell_regrown (show x2.cell? ⟨bx, 3, none⟩ = some (.int .i64 tt) from HO.out.cell 0 rfl 3 rfl)
  refine wp_region_R 11 (by kernel_rfl) (by kernel_rfl) ?_
  simp only [List.take, List.drop]
  iterate 2 (first | (refine wpR_want (by kernel_rfl) rfl rfl ?_; intro K hK; go_big_quiet_op; go_big_quiet_on) | (refine wpR_is (by kernel_rfl) rfl _ (fun w _ => rfl) ?_; simp only [Act.put, List.setIfInBounds_toArray, List.set_cons_succ, List.set_cons_zero]))
  refine wpR_call (by kernel_rfl) rfl 20 #[.int .i64 nm] (.string n1) (fun w => by simp [go_sem]) (fun w _ => P1.out w) ?_
  simp only [Act.put, List.setIfInBounds_toArray, List.set_cons_succ, List.set_cons_zero]
  iterate 2 (first | (refine wpR_want (by kernel_rfl) rfl rfl ?_; intro K hK; go_big_quiet_op; go_big_quiet_on) | (refine wpR_is (by kernel_rfl) rfl _ (fun w _ => rfl) ?_; simp only [Act.put, List.setIfInBounds_toArray, List.set_cons_succ, List.set_cons_zero]))
  refine wpR_call (by kernel_rfl) rfl 21 #[.int .i64 tt, .int .i64 60] (.int .i64 n2) (fun w => by simp [go_sem]) (fun w _ => P2.out w) ?_
  simp only [Act.put, List.setIfInBounds_toArray, List.set_cons_succ, List.set_cons_zero]
  iterate 2 (first | (refine wpR_want (by kernel_rfl) rfl rfl ?_; intro K hK; go_big_quiet_op; go_big_quiet_on) | (refine wpR_is (by kernel_rfl) rfl _ (fun w _ => rfl) ?_; simp only [Act.put, List.setIfInBounds_toArray, List.set_cons_succ, List.set_cons_zero]))
  refine wpR_call (by kernel_rfl) rfl 21 #[.int .i64 to, .int .i64 9] (.int .i64 n3) (fun w => by simp [go_sem]) (fun w _ => P3.out w) ?_
  simp only [Act.put, List.setIfInBounds_toArray, List.set_cons_succ, List.set_cons_zero]
  iterate 2 (first | (refine wpR_want (by kernel_rfl) rfl rfl ?_; intro K hK; go_big_quiet_op; go_big_quiet_on) | (refine wpR_is (by kernel_rfl) rfl _ (fun w _ => rfl) ?_; simp only [Act.put, List.setIfInBounds_toArray, List.set_cons_succ, List.set_cons_zero]))
  refine wpR_nil (by kernel_rfl) (by simp) ?_
  rintro w5 hbw
  simp only [exAll]
  simp only [List.drop]
  have hO := HO.out.stay hbw
  replace HO := Lib.hid (show Own _ _ _ [blkR bx (.cells #[.int .i64 nm, .bool false, .int .i64 to, .int .i64 tt] 173), blkR br (.cells #[.string ⟨#[]⟩, .int .i64 0, .int .i64 0, .int .i64 0, .string ⟨#[]⟩] 49)] from hO)
  clear hO hbw g0_0 g0_2 g0_3 hs 
  obtain ⟨x8, x13, x17, x20, x22, hx8, hx13, hx17, hx20, hx22, k1_0_3, lk1_0_3, k1_1_9, lk1_1_9, k1_2_14, lk1_2_14, k1_3_18, lk1_3_18, k1_4_21, lk1_4_21, hO⟩ := HO.out.steps5 1 rfl (.string n1) (.int .i64 1) (.int .i64 n2) (.int .i64 (1 + n3)) (.string ⟨#[]⟩)
  replace HO := Lib.hid (show Own _ _ _ [_, blkR br (.cells #[.string n1, .int .i64 1, .int .i64 n2, .int .i64 (1 + n3), .string ⟨#[]⟩] 49)] from hO)
  clear hO
  obtain ⟨r0, r1, r2, r3, r4⟩ := HO.out.c5 1 rfl
  go_wp2
  exact bodyPost_ret (v := .agg #[.string n1, .int .i64 1, .int .i64 n2, .int .i64 (1 + n3), .string ⟨#[]⟩]) (by simp [results, Tryz.results87, go_sem, r0, r1, r2, r3, r4]) rfl ⟨by rw [HV.out], HO.out.below⟩
/-- A slice of raw records. -/
def RdRq (w : World) (v : Value) (len : Nat) (g : Nat → Rq) : Prop :=
 ∃ a cap, v = .slice a len cap ∧ len ≤ cap ∧ len ≤ 9223372036854775807 ∧ (∀ i, i < len → RqOk (g i)) ∧ (len ≠ 0 → ∃ b o, a = some ⟨b, o, none⟩ ∧ ∀ i, i < len → ∀ j, j < 4 → w.cell? ⟨b, o + i * 4 + j, none⟩ = (rqA (g i))[j]?)
theorem RdRq.stay {w w' : World} {v : Value} {len : Nat} {g : Nat → Rq} (h : RdRq w v len g) (hb : Below w.heap.size w w') : RdRq w' v len g := by
 obtain ⟨a, cap, h1, h2, h3, h4, h5⟩ := h
 refine ⟨a, cap, h1, h2, h3, h4, fun hn => ?_⟩
 obtain ⟨b, o, ha, hc⟩ := h5 hn
 refine ⟨b, o, ha, fun i hi j hj => ?_⟩
 have h6 := hc i hi j hj
 have h7 : ∃ u, (rqA (g i))[j]? = some u := ⟨_, Array.getElem?_eq_getElem (show j < 4 from hj)⟩
 obtain ⟨u, hu⟩ := h7
 rw [hu] at h6 ⊢
 exact keep hb h6
def rrsF (g : Nat → Rq) (k : Nat) : List Rc := (List.range k).map fun i => rrF (g i)
theorem rrsF_succ (g : Nat → Rq) (k : Nat) : rrsF g (k + 1) = rrsF g k ++ [rrF (g k)] := by unfold rrsF; rw [List.range_succ, List.map_append]; rfl
theorem rrsF_len (g : Nat → Rq) (k : Nat) : (rrsF g k).length = k := by simp [rrsF]
theorem rrs_row (g : Nat → Rq) (k : Nat) : (rrsF g (k + 1)).flatMap cRc = (rrsF g k).flatMap cRc ++ cRc (rrF (g k)) := by rw [rrsF_succ, List.flatMap_append]; simp
theorem infoRc21 : (Tryz.prog.info? 49).map (fun i => (i.zero, i.size, i.bytes)) = some (some (.agg #[.string ⟨#[]⟩, .int .i64 0, .int .i64 0, .int .i64 0, .string ⟨#[]⟩]), 5, 56) := by kernel_rfl
theorem run_bsR21 (a : ByteArray) (b c d : Int) (s : ByteArray) (w : World) : (Instr.buildSlice 50 1 #[(0, .agg #[.string a, .int .i64 b, .int .i64 c, .int .i64 d, .string s])]).run Tryz.prog w = .ok (.slice (some ⟨w.heap.size, 0, none⟩) 1 1) (w.alloc (.cells #[.string a, .int .i64 b, .int .i64 c, .int .i64 d, .string s] 49)) := by kernel_rfl
section
attribute [local go_sem ↓] run_bsR21
set_option maxRecDepth 100000 in
set_option maxHeartbeats 8000000 in
theorem rrs_o {len k0 : Nat} {g : Nat → Rq} {v : Value} (w : World) (hr : RdRq w v len g) (hk : min len 8 = k0) :
  Calls Tryz.prog 37 #[v] w fun e w' => ∃ a cap, e = .returned (.slice a k0 cap) ∧ Own w none0 w' [rowR (.slice a k0 cap) 49 5 k0 ((rrsF g k0).flatMap cRc)] := by
 obtain ⟨p, cap, rfl, hcap, hlen, hok, hcell⟩ := hr
 have HOK := Lib.hid hok
 have HC := Lib.hid hcell
 clear hok hcell
 have HO := Lib.hid (Own.nil w none0)
 go_enter Tryz.func37, Tryz.ntmps37
 go_wp2
 have HO := Lib.hid (show Own w none0 w ([] ++ [rowR (.slice none 0 0) 49 5 0 ((rrsF g 0).flatMap cRc)]) from HO.out.rowNew 49 5)
 go_loopw [3, 4] (fun lv iv wr => ∃ (k : Nat) (a : Option Addr) (cap : Nat), k ≤ k0 ∧ iv = .int .i64 k ∧ lv = .slice a k cap ∧ Own w none0 wr [rowR (.slice a k cap) 49 5 k ((rrsF g k).flatMap cRc)]) (fun _ iv _ => k0 - (intOf iv).toNat)
 case atStart => exact ⟨0, none, 0, Nat.zero_le _, rfl, rfl, HO.out⟩
 case round =>
  obtain ⟨k, a1, cap1, hkk, rfl, rfl, hO⟩ := hrel
  replace HO := Lib.hid hO
  clear hO
  by_cases hlt : k < k0
  ·
   have hd1 : decide ((k : Int) < (len : Int)) = true := decide_eq_true (by omega)
   have hd2 : decide ((k : Int) < 8) = true := decide_eq_true (by omega)
   obtain ⟨b, o, rfl, hcc⟩ := HC.out (by omega)
   have hok := HOK.out k (by omega)
   have hcc := hcc k (by omega)
   have HD := Lib.hid (show ∀ (W : World), Below w.heap.size w W → ∀ j u, j < 4 → (rqA (g k))[j]? = some u → W.cell? ⟨b, o + k * 4 + j, none⟩ = some u from fun W hb j u hj hu => keep hb ((hcc j hj).trans hu))
   have HRX := Lib.hid (fun w => rr_any (g k) hok w)
   have HRW := Lib.hid (rrs_row g k)
   clear hcc hok
   generalize rrF (g k) = r at *
   generalize g k = x at *
   obtain ⟨xn, xk, xt, xa⟩ := x
   obtain ⟨c0, c1, c2, c3, c4⟩ := r
   have y0 : wr.cell? ⟨b, o + k * 4, none⟩ = some (.int .i64 xn) := HD.out wr HO.out.below 0 _ (by decide) rfl
   have y1 : wr.cell? ⟨b, o + k * 4 + 1, none⟩ = some (.bool xk) := HD.out wr HO.out.below 1 _ (by decide) rfl
   have y2 : wr.cell? ⟨b, o + k * 4 + 2, none⟩ = some (.int .i64 xt) := HD.out wr HO.out.below 2 _ (by decide) rfl
   have y3 : wr.cell? ⟨b, o + k * 4 + 3, none⟩ = some (.int .i64 xa) := HD.out wr HO.out.below 3 _ (by decide) rfl
   clear HD
   go_wp2_with fail
   refine (o_still HO.out (HRX.out _)).mono ?_
   rintro e x41 ⟨rfl, hO, -⟩
   replace HO := Lib.hid (show Own w none0 x41 [rowR (.slice a1 k cap1) 49 5 k ((rrsF g k).flatMap cRc)] from hO)
   clear hO
   clear y0 y1 y2 y3
   obtain ⟨x42, hx42, bl, hbl, hO⟩ := HO.out.allocE (.cells #[.string c0, .int .i64 c1, .int .i64 c2, .int .i64 c3, .string c4] 49)
   replace HO := Lib.hid (show Own _ _ _ [_, blkR bl (.cells #[.string c0, .int .i64 c1, .int .i64 c2, .int .i64 c3, .string c4] 49)] from hO)
   clear hO
   go_wp2_with ((at_builtin; refine (show _ = True → _ from fun h => of_eq_true h) ?_))
   refine eq_true ?_
   refine wpList_appO rfl (.tmp 15) (.tmp 21) 50 rfl Tryz.underlying50 infoRc21 rfl (by decide) HO.out 0 rfl rfl 1 1 1 (cRc ⟨c0, c1, c2, c3, c4⟩) rfl rfl rfl (oneRc _ _ _ _ _) (by unfold maxLen; omega) (by omega) ?_
   intro v' x43 hO
   clear hx42 hbl
   simp only [List.set_cons_succ, List.set_cons_zero] at hO
   rw [← HRW.out] at hO
   obtain ⟨m, hm⟩ : ∃ y, k + 1 = y := ⟨_, rfl⟩
   have HM := Lib.hid hm
   rw [hm] at hO
   clear hm
   obtain ⟨a2, cap2, rfl⟩ := row_shape (Own.row hO 0 rfl)
   replace HO := Lib.hid (Own.take hO 1)
   clear hO
   replace HO := Lib.hid (show Own w none0 x43 [rowR (.slice a2 m cap2) 49 5 m ((rrsF g m).flatMap cRc)] from HO.out)
   go_wp2
   go_roundw
   case rel => exact ⟨m, a2, cap2, by have := HM.out; omega, by have := HM.out; subst this; go_num, rfl, HO.out⟩
   case measure => simp [intOf]; omega
  ·
   obtain rfl : k = k0 := by omega
   by_cases hkl : k < len
   ·
    have hd2 : decide ((k : Int) < (len : Int)) = true := decide_eq_true (by omega)
    have hd3 : decide ((k : Int) < 8) = false := decide_eq_false (by omega)
    go_wp2
    go_ret
    exact ⟨a1, cap1, rfl, HO.out⟩
   ·
    have hd2 : decide ((k : Int) < (len : Int)) = false := decide_eq_false (by omega)
    go_wp2
    go_ret
    exact ⟨a1, cap1, rfl, HO.out⟩
end

end Go.Proofs.YtbolfkojebbejaaGreatDoor

namespace Go.Proofs.YtbolfkojebbejaaGreatDoor
open Go.RowKit Go.Sort
set_option linter.unusedVariables false
set_option maxRecDepth 100000
attribute [local go_sem] Oper.semAt_some

def srF (xs : List Int) (k : Nat) : List Int := ((List.range k).map fun i : Nat => (i : Int) + 1).filter fun n => xs.any (· == n)
theorem srF_succ (xs : List Int) (k : Nat) : srF xs (k + 1) = srF xs k ++ if xs.any (· == (k : Int) + 1) = true then [(k : Int) + 1] else [] := by
 unfold srF
 rw [List.range_succ, List.map_append, List.filter_append]
 congr 1
 simp only [List.map_cons, List.map_nil, List.filter_cons, List.filter_nil]
theorem srF_len (xs : List Int) (k : Nat) : (srF xs k).length ≤ k := by
 unfold srF
 refine Nat.le_trans (List.length_filter_le _ _) ?_
 simp
theorem srF_ss {xs : List Int} (h : ∀ x ∈ xs, 1 ≤ x ∧ x < 20) : srF xs 19 = ssZ xs := by
 refine ss_ext ?_ (ssZ_ss xs) fun x => ?_
 ·
  unfold srF
  refine List.Pairwise.filter _ ?_
  rw [List.pairwise_map]
  exact List.pairwise_lt_range.imp fun h => by omega
 ·
  rw [ssZ_mem]
  unfold srF
  rw [List.mem_filter, List.mem_map]
  constructor
  ·
   rintro ⟨_, h2⟩
   obtain ⟨y, hy, he⟩ := List.any_eq_true.1 h2
   rw [← beq_iff_eq.1 he]; exact hy
  ·
   intro hx
   have hb := h x hx
   exact ⟨⟨(x - 1).toNat, List.mem_range.2 (by omega), by omega⟩, List.any_eq_true.2 ⟨x, hx, by simp⟩⟩
set_option maxRecDepth 100000 in
set_option maxHeartbeats 4000000 in
theorem sorted_r {v : Value} {n : Nat} {xs : List Int} (w : World) (hr : w.ownsRow 0 3 1 v n (xs.map cIn)) (hn : xs.length = n) (hl : n ≤ 1000) :
  Calls Tryz.prog 88 #[v] w fun e w' => ∃ u, e = .returned u ∧ Own w none0 w' [rowA u (srF xs 19)] := by
 obtain ⟨p, cap, rfl⟩ := row_shape hr
 have HR := Lib.hid hr
 have HN := Lib.hid hn
 clear hr hn
 have HO := Lib.hid (Own.nil w none0)
 go_enter Tryz.func88, Tryz.ntmps88
 go_wp2
 have HO := Lib.hid (show Own w none0 w ([] ++ [rowR (.slice none 0 0) 3 1 0 ((srF xs 0).map cIn)]) from HO.out.rowNew 3 1)
 go_loopw [3, 4] (fun lv iv wr => ∃ (k m : Nat) (a : Option Addr) (c : Nat), k ≤ 19 ∧ iv = .int .i64 ((k : Int) + 1) ∧ lv = .slice a m c ∧ (srF xs k).length = m ∧ Own w none0 wr [rowR (.slice a m c) 3 1 m ((srF xs k).map cIn)]) (fun _ iv _ => 20 - (intOf iv).toNat)
 case atStart => exact ⟨0, 0, none, 0, Nat.zero_le _, rfl, rfl, rfl, HO.out⟩
 case round =>
  obtain ⟨k, m, a1, c1, hk, rfl, rfl, hm, hO⟩ := hrel
  replace HO := Lib.hid hO
  have HM := Lib.hid hm
  have hm19 : m ≤ 19 := by have := srF_len xs k; omega
  clear hO hm
  by_cases hlt : k < 19
  ·
   have hd : decide ((k : Int) + 1 < 20) = true := decide_eq_true (by omega)
   go_wp2
   go_loopw [3, 5] (fun lv jv wq => ∃ j : Nat, j ≤ n ∧ jv = .int .i64 j ∧ lv = .slice a1 m c1 ∧ (xs.take j).any (· == (k : Int) + 1) = false ∧ Own w none0 wq [rowR (.slice a1 m c1) 3 1 m ((srF xs k).map cIn)]) (fun _ jv _ => n - (intOf jv).toNat)
   case atStart => exact ⟨0, Nat.zero_le _, rfl, rfl, rfl, HO.out⟩
   case round =>
    obtain ⟨j, hj, rfl, rfl, hna, hO⟩ := hrel
    clear HO
    have HO := Lib.hid hO
    have HNA := Lib.hid hna
    clear hO hna
    have hb1 : (n : Int) ≤ 1000 := by omega
    by_cases hjn : j < n
    ·
     have hd2 : decide ((j : Int) < (n : Int)) = true := decide_eq_true (by omega)
     obtain ⟨g, rfl⟩ := row_some HR.out (by omega)
     have hjl : j < xs.length := by rw [HN.out]; exact hjn
     obtain ⟨x, hx⟩ : ∃ x, xs[j] = x := ⟨_, rfl⟩
     have y0 : wr.cell? ⟨g, j, none⟩ = some (.int .i64 x) := keep HO.out.below ((row_cells HR.out).1 j _ (by rw [List.getElem?_map, List.getElem?_eq_getElem hjl, hx]; rfl))
     have HTK := Lib.hid (show xs.take (j + 1) = xs.take j ++ [x] by rw [List.take_succ_eq_append_getElem hjl, hx])
     have HXM := Lib.hid (show x ∈ xs by rw [← hx]; exact List.getElem_mem hjl)
     clear hx hjl
     cases hxe : (x == (k : Int) + 1) with
     | true =>
      have HSF := Lib.hid (show srF xs (k + 1) = srF xs k ++ [(k : Int) + 1] by rw [srF_succ, if_pos (List.any_eq_true.2 ⟨x, HXM.out, hxe⟩)])
      have rb := run_bs1I ((k : Int) + 1)
      obtain ⟨x41, hx41, bn, hbn, hO⟩ := HO.out.allocE (.cells #[.int .i64 ((k : Int) + 1)] 3)
      replace HO := Lib.hid (show Own w none0 x41 [rowR (.slice a1 m c1) 3 1 m ((srF xs k).map cIn), blkR bn (.cells #[.int .i64 ((k : Int) + 1)] 3)] from hO)
      clear hO
      go_wp2_with ((at_builtin; refine (show _ = True → _ from fun h => of_eq_true h) ?_))
      refine eq_true ?_
      refine wpList_appO rfl (.tmp 22) (.tmp 24) 30 rfl Tryz.underlying30 info_I rfl (by decide) HO.out 0 rfl rfl 1 1 1 [.int .i64 ((k : Int) + 1)] rfl rfl rfl (fun u hu => by simp at hu; subst hu; rfl) (by unfold maxLen; omega) (by omega) ?_
      intro v9 x9 hO
      clear hx41 hbn y0
      clear rb hxe
      simp only [List.set_cons_succ, List.set_cons_zero] at hO
      have HO9 := Lib.hid (show Own w none0 x9 [rowR v9 3 1 (m + 1) ((srF xs (k + 1)).map cIn)] by
       rw [HSF.out, List.map_append]
       exact hO.take 1)
      clear hO
      have HM9 := Lib.hid (show (srF xs (k + 1)).length = m + 1 by rw [HSF.out, List.length_append, HM.out]; rfl)
      obtain ⟨a9, c9, rfl⟩ := row_shape (HO9.out.row 0 rfl)
      go_wp2
      go_roundw
      case rel => exact ⟨k + 1, m + 1, a9, c9, by omega, by go_num, rfl, HM9.out, HO9.out⟩
      case measure => simp [intOf]; omega
     | false =>
      have HNA2 := Lib.hid (show (xs.take (j + 1)).any (· == (k : Int) + 1) = false by rw [HTK.out, List.any_append, HNA.out]; simpa using hxe)
      go_wp2
      go_roundw
      case rel => exact ⟨j + 1, by omega, by go_num, rfl, HNA2.out, HO.out⟩
      case measure => simp [intOf]; omega
    ·
     obtain rfl : j = n := by omega
     have hd2 : decide ((j : Int) < (j : Int)) = false := decide_eq_false (by omega)
     have HSF := Lib.hid (show srF xs (k + 1) = srF xs k by
      have h1 := HNA.out
      rw [← HN.out, List.take_length] at h1
      rw [srF_succ, h1]; simp)
     go_wp2
     go_roundw
     case rel => exact ⟨k + 1, m, a1, c1, by omega, by go_num, rfl, by rw [HSF.out, HM.out], by rw [HSF.out]; exact HO.out⟩
     case measure => simp [intOf]; omega
  ·
   obtain rfl : k = 19 := by omega
   have hd : decide (((19 : Nat) : Int) + 1 < 20) = false := decide_eq_false (by omega)
   have HO9 := Lib.hid (show Own w none0 wr [rowA (.slice a1 m c1) (srF xs 19)] by
    show Own w none0 wr [rowR _ _ _ _ _]
    rw [HM.out]; exact HO.out)
   go_wp2
   go_ret
   exact ⟨_, rfl, HO9.out⟩
/-- What the zone says when the names met have been followed to nm. -/
def zoneT (l : List Rc) (met : List ByteArray) (nm : ByteArray) : RO := if hasS nm met = true ∨ 4 < met.length then .fail 212 else (zoneG l (5 - met.length) (met ++ [nm])).2
theorem zoneT_start (l : List Rc) (nm : ByteArray) : zoneT l [] nm = (zoneG l 5 [nm]).2 := by
 unfold zoneT
 rw [if_neg (by rintro (h | h); (· cases h); · exact absurd h (by decide))]
 rfl
theorem zoneT_stop {l : List Rc} {met : List ByteArray} {nm : ByteArray} (h : hasS nm met = true ∨ 4 < met.length) : zoneT l met nm = .fail 212 := by unfold zoneT; rw [if_pos h]
theorem lastN_snoc (met : List ByteArray) (nm : ByteArray) : lastN (met ++ [nm]) = nm := by unfold lastN; simp [List.getLastD_eq_getLast?]
theorem zoneT_step {l : List Rc} {met : List ByteArray} {nm : ByteArray} (h : ¬ (hasS nm met = true ∨ 4 < met.length)) :
  zoneT l met nm = if adF (ofN nm l) ≠ [] then .addrs (ssZ (adF (ofN nm l))) else if (nxF (ofN nm l)).toList.isEmpty = true then .fail 211 else zoneT l (met ++ [nm]) (nxF (ofN nm l)) := by
 have hl : met.length ≤ 4 := by omega
 obtain ⟨f, hf⟩ : ∃ f, 5 - met.length = f + 1 := ⟨4 - met.length, by omega⟩
 have e1 : zoneT l met nm = (zoneG l (f + 1) (met ++ [nm])).2 := by unfold zoneT; rw [if_neg h, hf]
 rw [e1]
 unfold zoneG rslG
 rw [lastN_snoc]
 split
 ·
  rfl
 ·
  split
  ·
   rw [if_pos rfl]
  ·
   unfold zoneT
   split
   ·
    rfl
   ·
    rename_i hc
    show (zoneG l f _).2 = (zoneG l _ _).2
    have : 5 - (met ++ [nm]).length = f := by rw [List.length_append]; show 5 - (met.length + 1) = f; omega
    rw [this]
def slLenV : Value → Nat
 | .slice _ n _ => n
 | _ => 0
theorem ofN_snoc {nm : ByteArray} {l : List Rc} {k : Nat} (hk : k < l.length) : ofN nm (l.take (k + 1)) = ofN nm (l.take k) ++ if (l[k].nm.toList == nm.toList) = true then [l[k]] else [] := by
 unfold ofN
 rw [List.take_succ_eq_append_getElem hk, List.filter_append]
 congr 1
 simp only [List.filter_cons, List.filter_nil]
theorem any_take_hasS {nm : ByteArray} {met : List ByteArray} {j : Nat} (hj : j < met.length) : hasS nm (met.take (j + 1)) = (hasS nm (met.take j) || (met[j].toList == nm.toList)) := by
 unfold hasS
 rw [List.take_succ_eq_append_getElem hj, List.any_append]
 simp
theorem run_bsS0 (w : World) : (Instr.buildSlice 99 0 #[]).run Tryz.prog w = .ok (.slice (some ⟨w.heap.size, 0, none⟩) 0 0) (w.alloc (.cells #[] 9)) := by kernel_rfl
theorem Own.rowZero {w0 w : World} {D : Nat → Prop} {L : List Res} (h : Own w0 D w L) (i b : Nat) (E : TypeId) (sz : Nat) (hi : L[i]? = some (blkR b (.cells #[] E))) : Own w0 D w (L.set i (rowR (.slice (some ⟨b, 0, none⟩) 0 0) E sz 0 [])) := by
 have := h.toRowQ i 0 sz (b := b) (cs := []) (E := E) hi (by simp) (by decide)
 exact this
set_option maxRecDepth 100000 in
set_option maxHeartbeats 8000000 in
theorem inZone_r {v : Value} {n : Nat} {l : List Rc} {nm0 : ByteArray} {want : RO} (w : World) (hr : w.ownsRow 0 49 5 v n (l.flatMap cRc)) (hn : l.length = n) (hl : n ≤ 1000) (ha : ∀ r ∈ l, r.kd = 1 → 1 ≤ r.ad ∧ r.ad < 20) (hto : toOk l) (hw : (zoneG l 5 [nm0]).2 = want) :
  Calls Tryz.prog 38 #[v, .string nm0] w fun e w' => ∃ u, e = .returned (.tuple #[u, .int .i64 (roE want)]) ∧ Own w none0 w' [rowA u (roA want)] := by
 obtain ⟨p, cap, rfl⟩ := row_shape hr
 have HR := Lib.hid hr
 have HN := Lib.hid hn
 have HA := Lib.hid ha
 have HW := Lib.hid ((zoneT_start l nm0).trans hw)
 clear hr hn ha hw hto
 have HO := Lib.hid (Own.nil w none0)
 obtain ⟨x1, hx1, bm, hbm, hO⟩ := HO.out.allocE (.cells #[] 9)
 replace HO := Lib.hid (show Own w none0 x1 [blkR bm (.cells #[] 9)] from hO)
 clear hO
 have r1 := run_bsS0
 go_enter Tryz.func38, Tryz.ntmps38
 go_wp2
 clear hx1 hbm
 clear r1
 have hQ := HO.out.rowZero 0 bm 9 1 rfl
 replace HO := Lib.hid (show Own w none0 x1 [rowR (.slice (some ⟨bm, 0, none⟩) 0 0) 9 1 0 (([] : List ByteArray).map cSt)] from hQ)
 clear hQ
 go_loopw [1, 6] (fun nv mv wr => ∃ (nm : ByteArray) (met : List ByteArray) (m : Nat) (a : Option Addr) (c : Nat), nv = .string nm ∧ mv = .slice a m c ∧ met.length = m ∧ m ≤ 5 ∧ zoneT l met nm = want ∧ Own w none0 wr [rowR (.slice a m c) 9 1 m (met.map cSt)]) (fun _ mv _ => 6 - slLenV mv)
 case atStart => exact ⟨nm0, [], 0, _, 0, rfl, rfl, rfl, by decide, HW.out, HO.out⟩
 case round =>
  obtain ⟨nm, met, m, a1, c1, rfl, rfl, hm, hm5, hz, hO⟩ := hrel
  clear HO HW
  have HO := Lib.hid hO
  have HM := Lib.hid hm
  have HZ := Lib.hid hz
  clear hO hm hz
  go_wp2
  go_loopw [7] (fun jv wq => ∃ j : Nat, j ≤ m ∧ jv = .int .i64 j ∧ hasS nm (met.take j) = false ∧ Own w none0 wq [rowR (.slice a1 m c1) 9 1 m (met.map cSt)]) (fun jv _ => m - (intOf jv).toNat)
  case atStart => exact ⟨0, Nat.zero_le _, rfl, rfl, HO.out⟩
  case round =>
   obtain ⟨j, hj, rfl, hna, hO⟩ := hrel
   clear HO
   have HO := Lib.hid hO
   have HNA := Lib.hid hna
   clear hO hna
   by_cases hjm : j < m
   ·
    have hd2 : decide ((j : Int) < (m : Int)) = true := decide_eq_true (by omega)
    obtain ⟨g, rfl⟩ := row_some (HO.out.row 0 rfl) (by omega)
    have hjl : j < met.length := by rw [HM.out]; exact hjm
    have HS := Lib.hid (any_take_hasS (nm := nm) hjl)
    have HHM := Lib.hid (show ∀ x, x = met[j] → (x.toList == nm.toList) = true → hasS nm met = true from fun x hx h => List.any_eq_true.2 ⟨x, hx ▸ List.getElem_mem hjl, h⟩)
    obtain ⟨x, hx⟩ : ∃ x, met[j] = x := ⟨_, rfl⟩
    have y0 : wr.cell? ⟨g, j, none⟩ = some (.string x) := (row_cells (HO.out.row 0 rfl)).1 j _ (by rw [List.getElem?_map, List.getElem?_eq_getElem hjl, hx]; rfl)
    replace HHM := Lib.hid (HHM.out x hx.symm)
    rw [hx, HNA.out] at HS
    clear hx hjl
    cases hxe : (x.toList == nm.toList) with
    | true =>
     have HWN := Lib.hid (show want = .fail 212 by rw [← HZ.out]; exact zoneT_stop (.inl (HHM.out hxe)))
     go_wp2
     go_ret2
     rw [HWN.out]
     exact ⟨_, rfl, (HO.out.rowNew 3 1).toEnd 2 [1] rfl rfl⟩
    | false =>
     have HNA2 := Lib.hid (show hasS nm (met.take (j + 1)) = false by rw [HS.out, hxe]; rfl)
     go_wp2
     go_roundw
     case rel => exact ⟨j + 1, by omega, by go_num, HNA2.out, HO.out⟩
     case measure => simp [intOf]; omega
   ·
    obtain rfl : j = m := by omega
    have hd2 : decide ((j : Int) < (j : Int)) = false := decide_eq_false (by omega)
    have HNO := Lib.hid (show hasS nm met = false by have := HNA.out; rwa [← HM.out, List.take_length] at this)
    clear HNA
    by_cases h5 : j = 5
    ·
     have HWN := Lib.hid (show want = .fail 212 by rw [← HZ.out]; exact zoneT_stop (.inr (by rw [HM.out]; omega)))
     have hd3 : ((j : Int) == 5) = true := by simp; omega
     go_wp2
     go_ret2
     rw [HWN.out]
     exact ⟨_, rfl, (HO.out.rowNew 3 1).toEnd 2 [1] rfl rfl⟩
    ·
     have hd3 : ((j : Int) == 5) = false := by simp; omega
     have HST := Lib.hid (show want = if adF (ofN nm l) ≠ [] then .addrs (ssZ (adF (ofN nm l))) else if (nxF (ofN nm l)).toList.isEmpty = true then .fail 211 else zoneT l (met ++ [nm]) (nxF (ofN nm l)) by
      rw [← HZ.out]
      exact zoneT_step (by rw [HNO.out, HM.out]; rintro (h | h); (· cases h); · omega))
     have rb := run_bsS1 nm
     obtain ⟨x61, hx61, bz, hbz, hO⟩ := HO.out.allocE (.cells #[.string nm] 9)
     replace HO := Lib.hid (show Own w none0 x61 [rowR (.slice a1 j c1) 9 1 j (met.map cSt), blkR bz (.cells #[.string nm] 9)] from hO)
     clear hO
     go_wp2_with ((at_builtin; refine (show _ = True → _ from fun h => of_eq_true h) ?_))
     refine eq_true ?_
     refine wpList_appO rfl (.tmp 27) (.tmp 29) 99 rfl Tryz.underlying99 infoSt rfl (by decide) HO.out 0 rfl rfl 1 1 1 [.string nm] rfl rfl rfl (fun u hu => by simp at hu; subst hu; rfl) (by unfold maxLen; omega) (by omega) ?_
     intro v9 x9 hO
     clear hx61 hbz
     simp only [List.set_cons_succ, List.set_cons_zero] at hO
     clear rb
     replace HO := Lib.hid (show Own w none0 x9 [rowR v9 9 1 (j + 1) ((met ++ [nm]).map cSt)] by rw [List.map_append]; exact hO.take 1)
     clear hO
     obtain ⟨a9, c9, rfl⟩ := row_shape (HO.out.row 0 rfl)
     go_wp2
     go_loopw [8, 9, 10] (fun av nv iv wr => ∃ k : Nat, k ≤ n ∧ iv = .int .i64 k ∧ nv = .string (nxF (ofN nm (l.take k))) ∧ Own w none0 wr [rowR (.slice a9 (j + 1) c9) 9 1 (j + 1) ((met ++ [nm]).map cSt), rowR av 3 1 (adF (ofN nm (l.take k))).length ((adF (ofN nm (l.take k))).map cIn)]) (fun _ _ iv _ => n - (intOf iv).toNat)
     case atStart => exact ⟨0, Nat.zero_le _, rfl, rfl, HO.out.rowNew _ _⟩
     case round =>
      obtain ⟨k, hk, rfl, rfl, hO⟩ := hrel
      clear HO
      have HO := Lib.hid hO
      obtain ⟨aa, ac, rfl⟩ := row_shape (hO.row 1 rfl)
      clear hO
      have hb1 : (n : Int) ≤ 1000 := by omega
      have HKL := Lib.hid (show (adF (ofN nm (l.take k))).length ≤ k from Nat.le_trans (ad_len _) (Nat.le_trans (List.length_filter_le _ _) (List.length_take_le _ _)))
      by_cases hlt : k < n
      ·
       have hkl : k < l.length := by rw [HN.out]; exact hlt
       have hd4 : decide ((k : Int) < (n : Int)) = true := decide_eq_true (by omega)
       have hrw := HR.out
       obtain ⟨g, rfl⟩ := row_some hrw (by omega)
       have yc : ∀ q u, q < 5 → (cRc l[k])[q]? = some u → wr.cell? ⟨g, k * 5 + q, none⟩ = some u := fun q u hq hu => keep HO.out.below ((row_cells hrw).1 _ _ (by rw [flat_getR cRc 5 (fun _ => rfl) l k hkl q hq]; exact hu))
       have HTK := Lib.hid (ofN_snoc (nm := nm) hkl)
       generalize l[k] = r at *
       obtain ⟨nm2, kd, tt, ad, to⟩ := r
       have HAS := Lib.hid (ad_snoc (ofN nm (l.take k)) ⟨nm2, kd, tt, ad, to⟩)
       have HNS := Lib.hid (nx_snoc (ofN nm (l.take k)) ⟨nm2, kd, tt, ad, to⟩)
       obtain ⟨q, hq⟩ : ∃ q, (adF (ofN nm (l.take k))).length = q := ⟨_, rfl⟩
       have HQ := Lib.hid hq
       rw [hq] at HO HKL ⊢
       obtain ⟨nx, hnx⟩ : ∃ y, nxF (ofN nm (l.take k)) = y := ⟨_, rfl⟩
       have HNX := Lib.hid hnx
       rw [hnx]
       clear hq hnx
       have y0 : wr.cell? ⟨g, k * 5, none⟩ = some (.string nm2) := yc 0 _ (by decide) rfl
       have y1 : wr.cell? ⟨g, k * 5 + 1, none⟩ = some (.int .i64 kd) := yc 1 _ (by decide) rfl
       have y3 : wr.cell? ⟨g, k * 5 + 3, none⟩ = some (.int .i64 ad) := yc 3 _ (by decide) rfl
       have y4 : wr.cell? ⟨g, k * 5 + 4, none⟩ = some (.string to) := yc 4 _ (by decide) rfl
       clear yc hrw hkl
       cases hnn : (nm2.toList == nm.toList) with
       | false =>
        have HT2 := Lib.hid (show ofN nm (l.take (k + 1)) = ofN nm (l.take k) by rw [HTK.out, if_neg (by rw [hnn]; decide), List.append_nil])
        clear HAS HNS HTK
        go_wp2
        go_roundw
        case rel => exact ⟨k + 1, by omega, by go_num, by rw [HT2.out, HNX.out], by rw [HT2.out, HQ.out]; exact HO.out⟩
        case measure => simp [intOf]; omega
       | true =>
        rw [hnn, if_pos rfl] at HTK
        rw [← HTK.out] at HAS HNS
        clear HTK
        cases he : (kd == 1) with
        | true =>
         have rb := run_bs1I ad
         have HA2 := Lib.hid (show adF (ofN nm (l.take (k + 1))) = adF (ofN nm (l.take k)) ++ [ad] by rw [HAS.out, if_pos he])
         have HX2 := Lib.hid (show nxF (ofN nm (l.take (k + 1))) = nx by rw [HNS.out, HNX.out]; unfold nxS; rw [if_pos he])
         clear HAS HNS
         obtain ⟨x101, hx101, bn, hbn, hO⟩ := HO.out.allocE (.cells #[.int .i64 ad] 3)
         replace HO := Lib.hid (show Own w none0 x101 [rowR (.slice a9 (j + 1) c9) 9 1 (j + 1) ((met ++ [nm]).map cSt), rowR (.slice aa q ac) 3 1 q ((adF (ofN nm (l.take k))).map cIn), blkR bn (.cells #[.int .i64 ad] 3)] from hO)
         clear hO
         go_wp2_with ((at_builtin; refine (show _ = True → _ from fun h => of_eq_true h) ?_))
         refine eq_true ?_
         refine wpList_appO rfl (.tmp 50) (.tmp 56) 30 rfl Tryz.underlying30 info_I rfl (by decide) HO.out 1 rfl rfl 2 1 1 [.int .i64 ad] rfl rfl rfl (fun u hu => by simp at hu; subst hu; rfl) (by have := HKL.out; unfold maxLen; omega) (by have := HKL.out; omega) ?_
         intro v8 x8 hO
         clear hx101 hbn
         clear rb y0 y1 y3 y4 he
         simp only [List.set_cons_succ, List.set_cons_zero] at hO
         have HO9 := Lib.hid (show Own w none0 x8 [rowR (.slice a9 (j + 1) c9) 9 1 (j + 1) ((met ++ [nm]).map cSt), rowR v8 3 1 (adF (ofN nm (l.take (k + 1)))).length ((adF (ofN nm (l.take (k + 1)))).map cIn)] by
          rw [HA2.out, List.length_append, HQ.out, show (adF (ofN nm (l.take k)) ++ [ad]).map cIn = (adF (ofN nm (l.take k))).map cIn ++ [.int .i64 ad] from List.map_append]
          exact hO.take 2)
         clear hO
         go_wp2
         go_roundw
         case rel => exact ⟨k + 1, by omega, by go_num, by rw [HX2.out], HO9.out⟩
         case measure => simp [intOf]; omega
        | false =>
         have HA2 := Lib.hid (show adF (ofN nm (l.take (k + 1))) = adF (ofN nm (l.take k)) by rw [HAS.out, if_neg (by simp [he])])
         have HO9 := Lib.hid (show Own w none0 wr [rowR (.slice a9 (j + 1) c9) 9 1 (j + 1) ((met ++ [nm]).map cSt), rowR (.slice aa q ac) 3 1 (adF (ofN nm (l.take (k + 1)))).length ((adF (ofN nm (l.take (k + 1)))).map cIn)] by
          rw [HA2.out, HQ.out]
          exact HO.out)
         cases hz : nx.toList.isEmpty with
         | true =>
          have hz1 : nx.toList = [] := by simpa using hz
          have hz2 : (nx.toList == []) = true := by rw [hz1]; rfl
          have HX2 := Lib.hid (show nxF (ofN nm (l.take (k + 1))) = to by rw [HNS.out, HNX.out]; unfold nxS; rw [if_neg (by rw [he]; decide), if_pos hz])
          clear HAS HNS
          go_wp2
          go_roundw
          case rel => exact ⟨k + 1, by omega, by go_num, by rw [HX2.out], HO9.out⟩
          case measure => simp [intOf]; omega
         | false =>
          have hz1 : ¬ nx.toList = [] := by simpa using hz
          have hz2 : (nx.toList == []) = false := by simpa using hz1
          cases hq : Op.bytesLess to.toList nx.toList with
          | true =>
           have HX2 := Lib.hid (show nxF (ofN nm (l.take (k + 1))) = to by rw [HNS.out, HNX.out]; unfold nxS; rw [if_neg (by rw [he]; decide), if_neg (by rw [hz]; decide), if_pos hq])
           clear HAS HNS
           go_wp2
           go_roundw
           case rel => exact ⟨k + 1, by omega, by go_num, by rw [HX2.out], HO9.out⟩
           case measure => simp [intOf]; omega
          | false =>
           have HX2 := Lib.hid (show nxF (ofN nm (l.take (k + 1))) = nx by rw [HNS.out, HNX.out]; unfold nxS; rw [if_neg (by rw [he]; decide), if_neg (by rw [hz]; decide), if_neg (by rw [hq]; decide)])
           clear HAS HNS
           go_wp2
           go_roundw
           case rel => exact ⟨k + 1, by omega, by go_num, by rw [HX2.out], HO9.out⟩
           case measure => simp [intOf]; omega
      ·
       obtain rfl : k = n := by omega
       have hd4 : decide ((k : Int) < (k : Int)) = false := decide_eq_false (by omega)
       have HT := Lib.hid (show l.take k = l by rw [← HN.out]; exact List.take_length)
       rw [HT.out] at HO HKL ⊢
       clear HT
       obtain ⟨q, hq⟩ : ∃ q, (adF (ofN nm l)).length = q := ⟨_, rfl⟩
       have HQ := Lib.hid hq
       have HAX := Lib.hid (show ∀ x ∈ adF (ofN nm l), 1 ≤ x ∧ x < 20 from fun x hx => by
        obtain ⟨r, hr, rfl⟩ := List.mem_map.1 hx
        obtain ⟨h1, h2⟩ := List.mem_filter.1 hr
        exact HA.out r (List.mem_filter.1 h1).1 (by simpa using h2))
       rw [hq] at HO HKL ⊢
       obtain ⟨nx, hnx⟩ : ∃ nx, nxF (ofN nm l) = nx := ⟨_, rfl⟩
       have HNX := Lib.hid hnx
       rw [hnx]
       have hbq : (q : Int) ≤ 1000 := by have := HKL.out; omega
       clear hq hnx
       by_cases hq0 : q = 0
       ·
        have HA0 := Lib.hid (show adF (ofN nm l) = [] from List.eq_nil_of_length_eq_zero (by rw [HQ.out]; exact hq0))
        have hdq : decide ((q : Int) > 0) = false := decide_eq_false (by omega)
        have hdq2 : decide ((0 : Int) < (q : Int)) = false := decide_eq_false (by omega)
        cases hz : nx.toList.isEmpty with
        | true =>
         have hz1 : nx.toList = [] := by simpa using hz
         have hz2 : (nx.toList == []) = true := by rw [hz1]; rfl
         have HWN := Lib.hid (show want = .fail 211 by rw [HST.out, if_neg (by rw [HA0.out]; simp), if_pos (by rw [HNX.out]; exact hz)])
         go_wp2
         go_ret2
         rw [HWN.out]
         exact ⟨_, rfl, (HO.out.rowNew 3 1).toEnd 3 [2] rfl rfl⟩
        | false =>
         have hz1 : ¬ nx.toList = [] := by simpa using hz
         have hz2 : (nx.toList == []) = false := by simpa using hz1
         have HWN := Lib.hid (show zoneT l (met ++ [nm]) nx = want by rw [HST.out, if_neg (by rw [HA0.out]; simp), if_neg (by rw [HNX.out, hz]; decide), HNX.out])
         have HML := Lib.hid (show (met ++ [nm]).length = j + 1 by rw [List.length_append, HM.out]; rfl)
         go_wp2
         go_roundw
         case rel => exact ⟨nx, met ++ [nm], j + 1, a9, c9, rfl, rfl, HML.out, by omega, HWN.out, HO.out.take 1⟩
         case measure => simp [slLenV]; omega
       ·
        have hdq : decide ((q : Int) > 0) = true := decide_eq_true (by omega)
        have hdq2 : decide ((0 : Int) < (q : Int)) = true := decide_eq_true (by omega)
        have HWN := Lib.hid (show want = .addrs (ssZ (adF (ofN nm l))) by rw [HST.out, if_pos (fun e => hq0 (by rw [← HQ.out, e]; rfl))])
        go_wp2_with fail
        refine (sorted_r _ (HO.out.row 1 rfl) HQ.out (by omega)).mono ?_
        rintro e x300 ⟨u, rfl, hO⟩
        replace HO := Lib.hid (HO.out.joinC hO)
        clear hO
        go_wp2
        go_ret2
        rw [HWN.out]
        exact ⟨_, rfl, by rw [srF_ss HAX.out] at HO; exact HO.out.toEnd 3 [2] rfl rfl⟩
end Go.Proofs.YtbolfkojebbejaaGreatDoor

namespace Go.Proofs.YtbolfkojebbejaaGreatDoor
open Go.RowKit Go.Sort
set_option linter.unusedVariables false
set_option maxRecDepth 100000
attribute [local go_sem] Oper.semAt_some

def zaF (nm : ByteArray) (all : Bool) (l : List Rc) : List Rc := l.filter fun r => (r.nm.toList == nm.toList) || all
def zaB (nm : ByteArray) (l : List Rc) : Bool := l.any fun r => r.nm.toList == nm.toList
theorem zaB_of (nm : ByteArray) (l : List Rc) : zaB nm l = !(ofN nm l).isEmpty := by
 unfold zaB ofN
 induction l with
 | nil => rfl
 | cons r l ih =>
  rw [List.any_cons, List.filter_cons, ih]
  cases h : (r.nm.toList == nm.toList) <;> simp
theorem ansM_no {l : List Rc} {all : Bool} {id : Int} {nm : ByteArray} (h : zaB nm l = false) : ansM l all id nm = ⟨id, true, 1, nm, 1, []⟩ := by
 unfold ansM
 rw [if_pos]
 rw [zaB_of] at h
 simpa using h
theorem ansM_yes {l : List Rc} {all : Bool} {id : Int} {nm : ByteArray} (h : zaB nm l = true) : ansM l all id nm = ⟨id, true, 0, nm, 1, zaF nm all l⟩ := by
 unfold ansM
 rw [if_neg]
 ·
  rfl
 ·
  rw [zaB_of] at h
  simpa using h
theorem ansM_ok {l : List Rc} {all : Bool} {id : Int} {nm : ByteArray} (h8 : l.length ≤ 8) (hv : ∀ r ∈ l, RcV r) (hn : vname nm = true) (h0 : 0 ≤ id) (h1 : id ≤ 65535) : DmV (ansM l all id nm) := by
 cases h : zaB nm l with
 | false =>
  rw [ansM_no h]
  exact ⟨⟨h0, h1⟩, ⟨by show (0 : Int) ≤ 1; decide, by show (1 : Int) ≤ 2; decide⟩, hn, .inl rfl, by show 0 ≤ 8; decide, fun r hr => (by cases hr), fun e => by cases e⟩
 | true =>
  rw [ansM_yes h]
  exact ⟨⟨h0, h1⟩, ⟨by show (0 : Int) ≤ 0; decide, by show (0 : Int) ≤ 2; decide⟩, hn, .inl rfl, Nat.le_trans (List.length_filter_le _ _) h8, fun r hr => hv r (List.mem_filter.1 hr).1, fun e => by cases e⟩
theorem zaF_snoc {nm : ByteArray} {all : Bool} {l : List Rc} {k : Nat} (hk : k < l.length) : zaF nm all (l.take (k + 1)) = zaF nm all (l.take k) ++ if ((l[k].nm.toList == nm.toList) || all) = true then [l[k]] else [] := by
 unfold zaF
 rw [List.take_succ_eq_append_getElem hk, List.filter_append]
 congr 1
 simp only [List.filter_cons, List.filter_nil]
theorem zaB_snoc {nm : ByteArray} {l : List Rc} {k : Nat} (hk : k < l.length) : zaB nm (l.take (k + 1)) = (zaB nm (l.take k) || (l[k].nm.toList == nm.toList)) := by
 unfold zaB
 rw [List.take_succ_eq_append_getElem hk, List.any_append]
 simp
theorem run_bsRc9 (a : ByteArray) (b c d : Int) (s : ByteArray) (w : World) : (Instr.buildSlice 50 1 #[(0, .agg #[.string a, .int .i64 b, .int .i64 c, .int .i64 d, .string s])]).run Tryz.prog w = .ok (.slice (some ⟨w.heap.size, 0, none⟩) 1 1) (w.alloc (.cells #[.string a, .int .i64 b, .int .i64 c, .int .i64 d, .string s] 49)) := by kernel_rfl
set_option maxRecDepth 100000 in
set_option maxHeartbeats 8000000 in
theorem zoneAns_r {v : Value} {n : Nat} {l : List Rc} {sv pt id : Int} {nm qs out : ByteArray} {all : Bool} (w : World) (hr : w.ownsRow 0 49 5 v n (l.flatMap cRc)) (hn : l.length = n) (h8 : n ≤ 8) (hv : ∀ r ∈ l, RcV r) (hnm : vname nm = true) (h0 : 0 ≤ id) (h1 : id ≤ 65535)
  (hq : qs = ⟨(encM (qryD id nm)).toArray⟩) (ho : ⟨(encM (ansM l all id nm)).toArray⟩ = out) :
  Calls Tryz.prog 25 #[v, .agg #[.int .i64 sv, .int .i64 pt, .string qs], .bool all] w fun e w' => e = .returned (.agg #[.int .i64 53, .int .i64 pt, .string out]) ∧ Below w.heap.size w w' := by
 obtain ⟨p, cap, rfl⟩ := row_shape hr
 have HR := Lib.hid hr
 have HN := Lib.hid hn
 have HQ := Lib.hid (fun w => decode19_q w h0 h1 hnm hq)
 have HD := Lib.hid (ansM_ok (all := all) (by rw [hn]; exact h8) hv hnm h0 h1)
 have HOUT := Lib.hid ho
 clear hr hn hv hnm h0 h1 hq ho
 have HO := Lib.hid (Own.nil w none0)
 obtain ⟨x1, hx1, bq, hbq, hO⟩ := HO.out.allocE (.cells #[.int .i64 sv, .int .i64 pt, .string qs] 37)
 replace HO := Lib.hid (show Own w none0 x1 [blkR bq (.cells #[.int .i64 sv, .int .i64 pt, .string qs] 37)] from hO)
 clear hO
 obtain ⟨x2, hx2, br, hbr, hO⟩ := HO.out.allocE (.cells #[.int .i64 0, .int .i64 0, .string ⟨#[]⟩] 56)
 replace HO := Lib.hid (show Own _ _ _ [_, blkR br (.cells #[.int .i64 0, .int .i64 0, .string ⟨#[]⟩] 56)] from hO)
 clear hO
 obtain ⟨z0_0, z0_1, z0_2⟩ := HO.out.c3 0 rfl
 go_enter Tryz.func25, Tryz.ntmps25
 go_wp2_with fail
 refine (o_still HO.out (HQ.out _)).mono ?_
 rintro e x3 ⟨rfl, hO, -⟩
 replace HO := Lib.hid hO
 clear hO
 clear hx1 hbq hx2 hbr z0_0 z0_1 z0_2
 obtain ⟨x4, hx4, bd, hbd, hO⟩ := HO.out.allocE (.cells #[.int .i64 0, .bool false, .int .i64 0, .string ⟨#[]⟩, .int .i64 0, .slice none 0 0] 86)
 replace HO := Lib.hid (show Own _ _ _ [_, _, blkR bd (.cells #[.int .i64 0, .bool false, .int .i64 0, .string ⟨#[]⟩, .int .i64 0, .slice none 0 0] 86)] from hO)
 clear hO
 obtain ⟨x11, x17, x22, x26, x29, x31, hx11, hx17, hx22, hx26, hx29, hx31, k2_0_5, lk2_0_5, k2_1_12, lk2_1_12, k2_2_18, lk2_2_18, k2_3_23, lk2_3_23, k2_4_27, lk2_4_27, k2_5_30, lk2_5_30, hO⟩ := HO.out.steps6 2 rfl (.int .i64 id) (.bool false) (.int .i64 0) (.string nm) (.int .i64 1) (.slice none 0 0)
 replace HO := Lib.hid (show Own _ _ _ [_, _, blkR bd (.cells #[.int .i64 id, .bool false, .int .i64 0, .string nm, .int .i64 1, .slice none 0 0] 86)] from hO)
 clear hO
 have y2_1 := HO.out.frz 2 rfl 1
 have z2_1 : x31.cell? _ = some (.bool false) := HO.out.cell 2 rfl 1 rfl
 obtain ⟨x32, hx32, hO⟩ := HO.out.setE 2 rfl 1 (.bool true)
 replace HO := Lib.hid (show Own _ _ _ [_, _, blkR bd (.cells #[.int .i64 id, .bool true, .int .i64 0, .string nm, .int .i64 1, .slice none 0 0] 86)] from hO)
 clear hO
 go_wp2
 clear hx4 hbd k2_0_5 lk2_0_5 hx11 k2_1_12 lk2_1_12 hx17 k2_2_18 lk2_2_18 hx22 k2_3_23 lk2_3_23 hx26 k2_4_27 lk2_4_27 hx29 k2_5_30 lk2_5_30 hx31 y2_1 z2_1 hx32
 have HO := Lib.hid (show Own w none0 x32 ([blkR bq (.cells #[.int .i64 sv, .int .i64 pt, .string qs] 37), blkR br (.cells #[.int .i64 0, .int .i64 0, .string ⟨#[]⟩] 56), blkR bd (.cells #[.int .i64 id, .bool true, .int .i64 0, .string nm, .int .i64 1, .slice none 0 0] 86)] ++ [rowR (.slice none 0 0) 49 5 0 ((zaF nm all (l.take 0)).flatMap cRc)]) from HO.out.rowNew 49 5)
 go_loopw [9, 10] (fun bv iv wr => ∃ (k m : Nat) (a : Option Addr) (c : Nat), k ≤ n ∧ iv = .int .i64 k ∧ bv = .bool (zaB nm (l.take k)) ∧ (zaF nm all (l.take k)).length = m ∧ Own w none0 wr [blkR bq (.cells #[.int .i64 sv, .int .i64 pt, .string qs] 37), blkR br (.cells #[.int .i64 0, .int .i64 0, .string ⟨#[]⟩] 56), blkR bd (.cells #[.int .i64 id, .bool true, .int .i64 0, .string nm, .int .i64 1, .slice a m c] 86), rowR (.slice a m c) 49 5 m ((zaF nm all (l.take k)).flatMap cRc)]) (fun _ iv _ => n - (intOf iv).toNat)
 case atStart => exact ⟨0, 0, none, 0, Nat.zero_le _, rfl, rfl, rfl, HO.out⟩
 case round =>
  obtain ⟨k, m, a1, c1, hk, rfl, rfl, hm, hO⟩ := hrel
  clear HO
  have HO := Lib.hid hO
  have HM := Lib.hid hm
  clear hO hm
  have hm8 : m ≤ k := by rw [← HM.out]; exact Nat.le_trans (List.length_filter_le _ _) (List.length_take_le _ _)
  by_cases hlt : k < n
  ·
   have hkl : k < l.length := by rw [HN.out]; exact hlt
   have hd4 : decide ((k : Int) < (n : Int)) = true := decide_eq_true (by omega)
   have hrw := HR.out
   obtain ⟨g, rfl⟩ := row_some hrw (by omega)
   have yc : ∀ q u, q < 5 → (cRc l[k])[q]? = some u → w.cell? ⟨g, k * 5 + q, none⟩ = some u := fun q u hq hu => (row_cells hrw).1 _ _ (by rw [flat_getR cRc 5 (fun _ => rfl) l k hkl q hq]; exact hu)
   have HZF := Lib.hid (zaF_snoc (nm := nm) (all := all) hkl)
   have HZB := Lib.hid (zaB_snoc (nm := nm) hkl)
   generalize l[k] = r at *
   obtain ⟨nm2, kd, tt, ad, to⟩ := r
   have Y0 := Lib.hid (show w.cell? ⟨g, k * 5, none⟩ = some (.string nm2) from yc 0 _ (by decide) rfl)
   have Y1 := Lib.hid (show w.cell? ⟨g, k * 5 + 1, none⟩ = some (.int .i64 kd) from yc 1 _ (by decide) rfl)
   have Y2 := Lib.hid (show w.cell? ⟨g, k * 5 + 2, none⟩ = some (.int .i64 tt) from yc 2 _ (by decide) rfl)
   have Y3 := Lib.hid (show w.cell? ⟨g, k * 5 + 3, none⟩ = some (.int .i64 ad) from yc 3 _ (by decide) rfl)
   have Y4 := Lib.hid (show w.cell? ⟨g, k * 5 + 4, none⟩ = some (.string to) from yc 4 _ (by decide) rfl)
   clear yc hrw hkl
   have g0 := cell_regrown (keep HO.out.below Y0.out)
   have hb1 : (n : Int) ≤ 8 := by omega
   obtain ⟨isb, his⟩ : ∃ b, zaB nm (l.take k) = b := ⟨_, rfl⟩
   rw [his] at HZB ⊢
   clear his
   obtain ⟨eqb, heq⟩ : ∃ b, (nm2.toList == nm.toList) = b := ⟨_, rfl⟩
   rw [heq] at HZB HZF
   have g2_3 := cell_regrown (show wr.cell? ⟨bd, 3, none⟩ = some (.string nm) from HO.out.cell 2 rfl 3 rfl)
   cases isb <;> cases eqb <;> cases all
   ·
    go_wp2
    refine wp_region_B (by kernel_rfl) (by kernel_rfl) ?_
    repeat (go_big_quiet_step (fail))
    refine wpQuiet_nil ?_
    intro x61 hbw
    have hO := HO.out.stay hbw
    replace HO := Lib.hid (show Own w none0 x61 [blkR bq (.cells #[.int .i64 sv, .int .i64 pt, .string qs] 37), blkR br (.cells #[.int .i64 0, .int .i64 0, .string ⟨#[]⟩] 56), blkR bd (.cells #[.int .i64 id, .bool true, .int .i64 0, .string nm, .int .i64 1, .slice a1 m c1] 86), rowR (.slice a1 m c1) 49 5 m ((zaF nm false (l.take k)).flatMap cRc)] from hO)
    clear hO hbw g0 g2_3
    have g0 := cell_regrown (keep HO.out.below Y0.out)
    have h2_3 := cell_regrown (show x61.cell? ⟨bd, 3, none⟩ = some (.string nm) from HO.out.cell 2 rfl 3 rfl)
    go_wp2
    refine wp_region_B (by kernel_rfl) (by kernel_rfl) ?_
    repeat (go_big_quiet_step (fail))
    refine wpQuiet_nil ?_
    intro x62 hbw
    have hO := HO.out.stay hbw
    replace HO := Lib.hid hO
    clear hO hbw g0 h2_3
    have HB2 := Lib.hid (show zaB nm (l.take (k + 1)) = false by rw [HZB.out]; rfl)
    have HF2 := Lib.hid (show zaF nm false (l.take (k + 1)) = zaF nm false (l.take k) by rw [HZF.out]; simp)
    go_wp2
    go_roundw
    case rel => exact ⟨k + 1, m, a1, c1, by omega, by go_num, by rw [HB2.out], by rw [HF2.out, HM.out], by rw [HF2.out]; exact HO.out⟩
    case measure => simp [intOf]; omega
   ·
    go_wp2
    refine wp_region_B (by kernel_rfl) (by kernel_rfl) ?_
    repeat (go_big_quiet_step (fail))
    refine wpQuiet_nil ?_
    intro x61 hbw
    have hO := HO.out.stay hbw
    replace HO := Lib.hid (show Own _ _ _ [_, _, _, rowR (.slice a1 m c1) 49 5 m ((zaF nm true (l.take k)).flatMap cRc)] from hO)
    clear hO hbw g0 g2_3
    have g0 := cell_regrown (keep HO.out.below Y0.out)
    have h2_3 := cell_regrown (show x61.cell? ⟨bd, 3, none⟩ = some (.string nm) from HO.out.cell 2 rfl 3 rfl)
    go_wp2
    refine wp_region_B (by kernel_rfl) (by kernel_rfl) ?_
    repeat (go_big_quiet_step (fail))
    refine wpQuiet_nil ?_
    intro x62 hbw
    have hO := HO.out.stay hbw
    replace HO := Lib.hid hO
    clear hO hbw g0 h2_3
    have HB2 := Lib.hid (show zaB nm (l.take (k + 1)) = false by rw [HZB.out]; rfl)
    have HF2 := Lib.hid (show zaF nm true (l.take (k + 1)) = zaF nm true (l.take k) ++ [⟨nm2, kd, tt, ad, to⟩] by rw [HZF.out]; rfl)
    go_wp2
    generalize hΓ : ghS w none0 (apS [blkR bq (.cells #[.int .i64 sv, .int .i64 pt, .string qs] 37), blkR br (.cells #[.int .i64 0, .int .i64 0, .string ⟨#[]⟩] 56), blkR bd (.cells #[.int .i64 id, .bool true, .int .i64 0, .string nm, .int .i64 1, .slice a1 m c1] 86), rowR (.slice a1 m c1) 49 5 m ((zaF nm true (l.take k)).flatMap cRc)] 3 (cRc ⟨nm2, kd, tt, ad, to⟩) 49 (fun v' => rowR v' 49 5 (m + 1) ((zaF nm true (l.take k)).flatMap cRc ++ cRc ⟨nm2, kd, tt, ad, to⟩))) = Γ
    have HST := Lib.hid (show Γ.inv [] x62 by rw [← hΓ]; exact apS_start HO.out)
    have q2_5 : ∀ q : Γ.Wd, q.w.cell? ⟨bd, 5, none⟩ = some (.slice a1 m c1) := by rw [← hΓ]; exact apS_cell (c := #[.int .i64 id, .bool true, .int .i64 0, .string nm, .int .i64 1, .slice a1 m c1]) (t := 86) 2 rfl (by decide) 5 rfl
    have HBL := Lib.hid (show ∀ q : Γ.Wd, Below w.heap.size w q.w by rw [← hΓ]; rintro ⟨vs, w9, L9, -, h9⟩; exact h9.below)
    have q9_0 : ∀ q : Γ.Wd, q.w.cell? ⟨g, k * 5, none⟩ = some (.string nm2) := fun q => keep (HBL.out q) Y0.out
    have q9_1 : ∀ q : Γ.Wd, q.w.cell? ⟨g, k * 5 + 1, none⟩ = some (.int .i64 kd) := fun q => keep (HBL.out q) Y1.out
    have q9_2 : ∀ q : Γ.Wd, q.w.cell? ⟨g, k * 5 + 2, none⟩ = some (.int .i64 tt) := fun q => keep (HBL.out q) Y2.out
    have q9_3 : ∀ q : Γ.Wd, q.w.cell? ⟨g, k * 5 + 3, none⟩ = some (.int .i64 ad) := fun q => keep (HBL.out q) Y3.out
    have q9_4 : ∀ q : Γ.Wd, q.w.cell? ⟨g, k * 5 + 4, none⟩ = some (.string to) := fun q => keep (HBL.out q) Y4.out
    have HΓ := Lib.hid hΓ
    clear hΓ
    have ne : Nonempty Γ.Wd := ⟨⟨[], x62, HST.out⟩⟩
    refine wp_region_H Γ 9 [6, 7] (by kernel_rfl) (by kernel_rfl) (by kernel_rfl) (by kernel_rfl) HST.out ?_
    simp only [List.take, List.drop]
    iterate 6 (first | (refine wpH_want (by kernel_rfl) (by kernel_rfl) rfl rfl ?_; intro K hK; go_big_quiet_op; go_big_quiet_on) | (refine wpH_is (by kernel_rfl) (by kernel_rfl) rfl _ (fun _ w _ => rfl) ?_; simp only [Act.put, List.setIfInBounds_toArray, List.set_cons_succ, List.set_cons_zero]))
    refine wpH_chainX 0 (gnth 0) (gnth_lasts _ _) (by kernel_rfl) (by kernel_rfl) (fun a' g hg hgl he => ?_) (fun d hd => ?_)
    ·
     obtain ⟨h25, _⟩ := he
     have h25' : a'.eval (.tmp 51) = .agg #[.string nm2, .int .i64 kd, .int .i64 tt, .int .i64 ad, .string to] := h25
     refine wp_of_value (v := .slice (some ⟨g.w.heap.size, 0, none⟩) 1 1) (w' := g.w.alloc (.cells #[.string nm2, .int .i64 kd, .int .i64 tt, .int .i64 ad, .string to] 49)) (run_v_ok ?_) ⟨_, rfl, ?_, ?_⟩
     ·
      simp only [List.map_toArray, List.map_cons, List.map_nil, h25']
      exact run_bsRc9 _ _ _ _ _ _
     ·
      rw [← HΓ.out] at hg ⊢
      exact apS_build hg hgl
     ·
      have : g.vs = [] := List.eq_nil_of_length_eq_zero hgl
      rw [this]; rfl
    cases hd
    simp only [List.nil_append]
    refine wpH_chainX 1 (gnth 1) (gnth_lasts _ _) (by kernel_rfl) (by kernel_rfl) (fun a' g hg hgl he => ?_) (fun d hd => ?_)
    ·
     obtain ⟨h24, h26, _⟩ := he
     have h24' : a'.eval (.tmp 47) = .slice a1 m c1 := h24
     rw [← HΓ.out] at hg ⊢
     exact apS_app (.tmp 47) (.tmp 52) 50 rfl Tryz.underlying50 infoRc21 rfl (by decide) rfl rfl (oneRc _ _ _ _ _) (by unfold maxLen; omega) (by omega) hg hgl h24' h26
    cases hd
    simp only [List.cons_append, List.nil_append]
    iterate 1 (first | (refine wpH_want (by kernel_rfl) (by kernel_rfl) rfl rfl ?_; intro K hK; go_big_quiet_op; go_big_quiet_on) | (refine wpH_is (by kernel_rfl) (by kernel_rfl) rfl _ (fun _ w _ => rfl) ?_; simp only [Act.put, List.setIfInBounds_toArray, List.set_cons_succ, List.set_cons_zero]))
    refine wpH_nil (by kernel_rfl) (by simp) ?_
    rintro ⟨vs5, x5⟩ hg hgl
    rw [← HΓ.out] at hg
    obtain ⟨s, v, hvs, hO⟩ := apS_end hg hgl
    obtain rfl : vs5 = [s, v] := hvs
    simp only [gexAll]
    rintro u52 - u53 hu53
    obtain rfl : v = u53 := by simpa [gnth] using hu53
    simp only [List.drop]
    clear ne HST hg hgl HΓ q2_5 q9_0 q9_1 q9_2 q9_3 q9_4 HBL hu53
    have HM9 := Lib.hid (show (zaF nm true (l.take (k + 1))).length = m + 1 by rw [HF2.out, List.length_append, HM.out]; rfl)
    have e5 : (zaF nm true (l.take k)).flatMap cRc ++ cRc ⟨nm2, kd, tt, ad, to⟩ = (zaF nm true (l.take (k + 1))).flatMap cRc := by rw [HF2.out, List.flatMap_append]; simp
    simp only [List.set_cons_succ, List.set_cons_zero, e5] at hO
    clear e5
    obtain ⟨va, vc, rfl⟩ := row_shape (hO.row 3 rfl)
    replace HO := Lib.hid (show Own w none0 x5 [blkR bq (.cells #[.int .i64 sv, .int .i64 pt, .string qs] 37), blkR br (.cells #[.int .i64 0, .int .i64 0, .string ⟨#[]⟩] 56), blkR bd (.cells #[.int .i64 id, .bool true, .int .i64 0, .string nm, .int .i64 1, .slice a1 m c1] 86), rowR (.slice va (m + 1) vc) 49 5 (m + 1) ((zaF nm true (l.take (k + 1))).flatMap cRc)] from hO)
    clear hO
    have y2_5 := HO.out.frz 2 rfl 5
    have z2_5 : x5.cell? _ = some (.slice a1 m c1) := HO.out.cell 2 rfl 5 rfl
    obtain ⟨x61, hx61, hO⟩ := HO.out.setE 2 rfl 5 (.slice va (m + 1) vc)
    replace HO := Lib.hid (show Own _ _ _ [_, _, blkR bd (.cells #[.int .i64 id, .bool true, .int .i64 0, .string nm, .int .i64 1, .slice va (m + 1) vc] 86), _] from hO)
    clear hO
    go_wp2
    go_roundw
    case rel => exact ⟨k + 1, m + 1, va, vc, by omega, by go_num, by rw [HB2.out], HM9.out, HO.out⟩
    case measure => simp [intOf]; omega
   ·
    go_wp2
    refine wp_region_B (by kernel_rfl) (by kernel_rfl) ?_
    repeat (go_big_quiet_step (fail))
    refine wpQuiet_nil ?_
    intro x61 hbw
    have hO := HO.out.stay hbw
    replace HO := Lib.hid (show Own _ _ _ [_, _, blkR bd (.cells #[.int .i64 id, .bool true, .int .i64 0, .string nm, .int .i64 1, .slice a1 m c1] 86), rowR (.slice a1 m c1) 49 5 m ((zaF nm false (l.take k)).flatMap cRc)] from hO)
    clear hO hbw g0 g2_3
    have g0 := cell_regrown (keep HO.out.below Y0.out)
    have h2_3 := cell_regrown (show x61.cell? ⟨bd, 3, none⟩ = some (.string nm) from HO.out.cell 2 rfl 3 rfl)
    go_wp2
    refine wp_region_B (by kernel_rfl) (by kernel_rfl) ?_
    repeat (go_big_quiet_step (fail))
    refine wpQuiet_nil ?_
    intro x62 hbw
    have hO := HO.out.stay hbw
    replace HO := Lib.hid hO
    clear hO hbw g0 h2_3
    have HB2 := Lib.hid (show zaB nm (l.take (k + 1)) = true by rw [HZB.out]; rfl)
    have HF2 := Lib.hid (show zaF nm false (l.take (k + 1)) = zaF nm false (l.take k) ++ [⟨nm2, kd, tt, ad, to⟩] by rw [HZF.out]; rfl)
    go_wp2
    generalize hΓ : ghS w none0 (apS [blkR bq (.cells #[.int .i64 sv, .int .i64 pt, .string qs] 37), blkR br (.cells #[.int .i64 0, .int .i64 0, .string ⟨#[]⟩] 56), blkR bd (.cells #[.int .i64 id, .bool true, .int .i64 0, .string nm, .int .i64 1, .slice a1 m c1] 86), rowR (.slice a1 m c1) 49 5 m ((zaF nm false (l.take k)).flatMap cRc)] 3 (cRc ⟨nm2, kd, tt, ad, to⟩) 49 (fun v' => rowR v' 49 5 (m + 1) ((zaF nm false (l.take k)).flatMap cRc ++ cRc ⟨nm2, kd, tt, ad, to⟩))) = Γ
    have HST := Lib.hid (show Γ.inv [] x62 by rw [← hΓ]; exact apS_start HO.out)
    have q2_5 : ∀ q : Γ.Wd, q.w.cell? ⟨bd, 5, none⟩ = some (.slice a1 m c1) := by rw [← hΓ]; exact apS_cell (c := #[.int .i64 id, .bool true, .int .i64 0, .string nm, .int .i64 1, .slice a1 m c1]) (t := 86) 2 rfl (by decide) 5 rfl
    have HBL := Lib.hid (show ∀ q : Γ.Wd, Below w.heap.size w q.w by rw [← hΓ]; rintro ⟨vs, w9, L9, -, h9⟩; exact h9.below)
    have q9_0 : ∀ q : Γ.Wd, q.w.cell? ⟨g, k * 5, none⟩ = some (.string nm2) := fun q => keep (HBL.out q) Y0.out
    have q9_1 : ∀ q : Γ.Wd, q.w.cell? ⟨g, k * 5 + 1, none⟩ = some (.int .i64 kd) := fun q => keep (HBL.out q) Y1.out
    have q9_2 : ∀ q : Γ.Wd, q.w.cell? ⟨g, k * 5 + 2, none⟩ = some (.int .i64 tt) := fun q => keep (HBL.out q) Y2.out
    have q9_3 : ∀ q : Γ.Wd, q.w.cell? ⟨g, k * 5 + 3, none⟩ = some (.int .i64 ad) := fun q => keep (HBL.out q) Y3.out
    have q9_4 : ∀ q : Γ.Wd, q.w.cell? ⟨g, k * 5 + 4, none⟩ = some (.string to) := fun q => keep (HBL.out q) Y4.out
    have HΓ := Lib.hid hΓ
    clear hΓ
    have ne : Nonempty Γ.Wd := ⟨⟨[], x62, HST.out⟩⟩
    refine wp_region_H Γ 9 [6, 7] (by kernel_rfl) (by kernel_rfl) (by kernel_rfl) (by kernel_rfl) HST.out ?_
    simp only [List.take, List.drop]
    iterate 6 (first | (refine wpH_want (by kernel_rfl) (by kernel_rfl) rfl rfl ?_; intro K hK; go_big_quiet_op; go_big_quiet_on) | (refine wpH_is (by kernel_rfl) (by kernel_rfl) rfl _ (fun _ w _ => rfl) ?_; simp only [Act.put, List.setIfInBounds_toArray, List.set_cons_succ, List.set_cons_zero]))
    refine wpH_chainX 0 (gnth 0) (gnth_lasts _ _) (by kernel_rfl) (by kernel_rfl) (fun a' g hg hgl he => ?_) (fun d hd => ?_)
    ·
     obtain ⟨h25, _⟩ := he
     have h25' : a'.eval (.tmp 51) = .agg #[.string nm2, .int .i64 kd, .int .i64 tt, .int .i64 ad, .string to] := h25
     refine wp_of_value (v := .slice (some ⟨g.w.heap.size, 0, none⟩) 1 1) (w' := g.w.alloc (.cells #[.string nm2, .int .i64 kd, .int .i64 tt, .int .i64 ad, .string to] 49)) (run_v_ok ?_) ⟨_, rfl, ?_, ?_⟩
     ·
      simp only [List.map_toArray, List.map_cons, List.map_nil, h25']
      exact run_bsRc9 _ _ _ _ _ _
     ·
      rw [← HΓ.out] at hg ⊢
      exact apS_build hg hgl
     ·
      have : g.vs = [] := List.eq_nil_of_length_eq_zero hgl
      rw [this]; rfl
    cases hd
    simp only [List.nil_append]
    refine wpH_chainX 1 (gnth 1) (gnth_lasts _ _) (by kernel_rfl) (by kernel_rfl) (fun a' g hg hgl he => ?_) (fun d hd => ?_)
    ·
     obtain ⟨h24, h26, _⟩ := he
     have h24' : a'.eval (.tmp 47) = .slice a1 m c1 := h24
     rw [← HΓ.out] at hg ⊢
     exact apS_app (.tmp 47) (.tmp 52) 50 rfl Tryz.underlying50 infoRc21 rfl (by decide) rfl rfl (oneRc _ _ _ _ _) (by unfold maxLen; omega) (by omega) hg hgl h24' h26
    cases hd
    simp only [List.cons_append, List.nil_append]
    iterate 1 (first | (refine wpH_want (by kernel_rfl) (by kernel_rfl) rfl rfl ?_; intro K hK; go_big_quiet_op; go_big_quiet_on) | (refine wpH_is (by kernel_rfl) (by kernel_rfl) rfl _ (fun _ w _ => rfl) ?_; simp only [Act.put, List.setIfInBounds_toArray, List.set_cons_succ, List.set_cons_zero]))
    refine wpH_nil (by kernel_rfl) (by simp) ?_
    rintro ⟨vs5, x5⟩ hg hgl
    rw [← HΓ.out] at hg
    obtain ⟨s, v, hvs, hO⟩ := apS_end hg hgl
    obtain rfl : vs5 = [s, v] := hvs
    simp only [gexAll]
    rintro u52 - u53 hu53
    obtain rfl : v = u53 := by simpa [gnth] using hu53
    simp only [List.drop]
    clear ne HST hg hgl HΓ q2_5 q9_0 q9_1 q9_2 q9_3 q9_4 HBL hu53
    have HM9 := Lib.hid (show (zaF nm false (l.take (k + 1))).length = m + 1 by rw [HF2.out, List.length_append, HM.out]; rfl)
    have e5 : (zaF nm false (l.take k)).flatMap cRc ++ cRc ⟨nm2, kd, tt, ad, to⟩ = (zaF nm false (l.take (k + 1))).flatMap cRc := by rw [HF2.out, List.flatMap_append]; simp
    simp only [List.set_cons_succ, List.set_cons_zero, e5] at hO
    clear e5
    obtain ⟨va, vc, rfl⟩ := row_shape (hO.row 3 rfl)
    replace HO := Lib.hid (show Own w none0 x5 [blkR bq (.cells #[.int .i64 sv, .int .i64 pt, .string qs] 37), blkR br (.cells #[.int .i64 0, .int .i64 0, .string ⟨#[]⟩] 56), blkR bd (.cells #[.int .i64 id, .bool true, .int .i64 0, .string nm, .int .i64 1, .slice a1 m c1] 86), rowR (.slice va (m + 1) vc) 49 5 (m + 1) ((zaF nm false (l.take (k + 1))).flatMap cRc)] from hO)
    clear hO
    have y2_5 := HO.out.frz 2 rfl 5
    have z2_5 : x5.cell? _ = some (.slice a1 m c1) := HO.out.cell 2 rfl 5 rfl
    obtain ⟨x61, hx61, hO⟩ := HO.out.setE 2 rfl 5 (.slice va (m + 1) vc)
    replace HO := Lib.hid (show Own _ _ _ [_, _, blkR bd (.cells #[.int .i64 id, .bool true, .int .i64 0, .string nm, .int .i64 1, .slice va (m + 1) vc] 86), _] from hO)
    clear hO
    go_wp2
    go_roundw
    case rel => exact ⟨k + 1, m + 1, va, vc, by omega, by go_num, by rw [HB2.out], HM9.out, HO.out⟩
    case measure => simp [intOf]; omega
   ·
    go_wp2
    refine wp_region_B (by kernel_rfl) (by kernel_rfl) ?_
    repeat (go_big_quiet_step (fail))
    refine wpQuiet_nil ?_
    intro x61 hbw
    have hO := HO.out.stay hbw
    replace HO := Lib.hid (show Own _ _ _ [_, _, blkR bd (.cells #[.int .i64 id, .bool true, .int .i64 0, .string nm, .int .i64 1, .slice a1 m c1] 86), rowR (.slice a1 m c1) 49 5 m ((zaF nm true (l.take k)).flatMap cRc)] from hO)
    clear hO hbw g0 g2_3
    have g0 := cell_regrown (keep HO.out.below Y0.out)
    have h2_3 := cell_regrown (show x61.cell? ⟨bd, 3, none⟩ = some (.string nm) from HO.out.cell 2 rfl 3 rfl)
    go_wp2
    refine wp_region_B (by kernel_rfl) (by kernel_rfl) ?_
    repeat (go_big_quiet_step (fail))
    refine wpQuiet_nil ?_
    intro x62 hbw
    have hO := HO.out.stay hbw
    replace HO := Lib.hid hO
    clear hO hbw g0 h2_3
    have HB2 := Lib.hid (show zaB nm (l.take (k + 1)) = true by rw [HZB.out]; rfl)
    have HF2 := Lib.hid (show zaF nm true (l.take (k + 1)) = zaF nm true (l.take k) ++ [⟨nm2, kd, tt, ad, to⟩] by rw [HZF.out]; rfl)
    go_wp2
    generalize hΓ : ghS w none0 (apS [blkR bq (.cells #[.int .i64 sv, .int .i64 pt, .string qs] 37), blkR br (.cells #[.int .i64 0, .int .i64 0, .string ⟨#[]⟩] 56), blkR bd (.cells #[.int .i64 id, .bool true, .int .i64 0, .string nm, .int .i64 1, .slice a1 m c1] 86), rowR (.slice a1 m c1) 49 5 m ((zaF nm true (l.take k)).flatMap cRc)] 3 (cRc ⟨nm2, kd, tt, ad, to⟩) 49 (fun v' => rowR v' 49 5 (m + 1) ((zaF nm true (l.take k)).flatMap cRc ++ cRc ⟨nm2, kd, tt, ad, to⟩))) = Γ
    have HST := Lib.hid (show Γ.inv [] x62 by rw [← hΓ]; exact apS_start HO.out)
    have q2_5 : ∀ q : Γ.Wd, q.w.cell? ⟨bd, 5, none⟩ = some (.slice a1 m c1) := by rw [← hΓ]; exact apS_cell (c := #[.int .i64 id, .bool true, .int .i64 0, .string nm, .int .i64 1, .slice a1 m c1]) (t := 86) 2 rfl (by decide) 5 rfl
    have HBL := Lib.hid (show ∀ q : Γ.Wd, Below w.heap.size w q.w by rw [← hΓ]; rintro ⟨vs, w9, L9, -, h9⟩; exact h9.below)
    have q9_0 : ∀ q : Γ.Wd, q.w.cell? ⟨g, k * 5, none⟩ = some (.string nm2) := fun q => keep (HBL.out q) Y0.out
    have q9_1 : ∀ q : Γ.Wd, q.w.cell? ⟨g, k * 5 + 1, none⟩ = some (.int .i64 kd) := fun q => keep (HBL.out q) Y1.out
    have q9_2 : ∀ q : Γ.Wd, q.w.cell? ⟨g, k * 5 + 2, none⟩ = some (.int .i64 tt) := fun q => keep (HBL.out q) Y2.out
    have q9_3 : ∀ q : Γ.Wd, q.w.cell? ⟨g, k * 5 + 3, none⟩ = some (.int .i64 ad) := fun q => keep (HBL.out q) Y3.out
    have q9_4 : ∀ q : Γ.Wd, q.w.cell? ⟨g, k * 5 + 4, none⟩ = some (.string to) := fun q => keep (HBL.out q) Y4.out
    have HΓ := Lib.hid hΓ
    clear hΓ
    have ne : Nonempty Γ.Wd := ⟨⟨[], x62, HST.out⟩⟩
    refine wp_region_H Γ 9 [6, 7] (by kernel_rfl) (by kernel_rfl) (by kernel_rfl) (by kernel_rfl) HST.out ?_
    simp only [List.take, List.drop]
    iterate 6 (first | (refine wpH_want (by kernel_rfl) (by kernel_rfl) rfl rfl ?_; intro K hK; go_big_quiet_op; go_big_quiet_on) | (refine wpH_is (by kernel_rfl) (by kernel_rfl) rfl _ (fun _ w _ => rfl) ?_; simp only [Act.put, List.setIfInBounds_toArray, List.set_cons_succ, List.set_cons_zero]))
    refine wpH_chainX 0 (gnth 0) (gnth_lasts _ _) (by kernel_rfl) (by kernel_rfl) (fun a' g hg hgl he => ?_) (fun d hd => ?_)
    ·
     obtain ⟨h25, _⟩ := he
     have h25' : a'.eval (.tmp 51) = .agg #[.string nm2, .int .i64 kd, .int .i64 tt, .int .i64 ad, .string to] := h25
     refine wp_of_value (v := .slice (some ⟨g.w.heap.size, 0, none⟩) 1 1) (w' := g.w.alloc (.cells #[.string nm2, .int .i64 kd, .int .i64 tt, .int .i64 ad, .string to] 49)) (run_v_ok ?_) ⟨_, rfl, ?_, ?_⟩
     ·
      simp only [List.map_toArray, List.map_cons, List.map_nil, h25']
      exact run_bsRc9 _ _ _ _ _ _
     ·
      rw [← HΓ.out] at hg ⊢
      exact apS_build hg hgl
     ·
      have : g.vs = [] := List.eq_nil_of_length_eq_zero hgl
      rw [this]; rfl
    cases hd
    simp only [List.nil_append]
    refine wpH_chainX 1 (gnth 1) (gnth_lasts _ _) (by kernel_rfl) (by kernel_rfl) (fun a' g hg hgl he => ?_) (fun d hd => ?_)
    ·
     obtain ⟨h24, h26, _⟩ := he
     have h24' : a'.eval (.tmp 47) = .slice a1 m c1 := h24
     rw [← HΓ.out] at hg ⊢
     exact apS_app (.tmp 47) (.tmp 52) 50 rfl Tryz.underlying50 infoRc21 rfl (by decide) rfl rfl (oneRc _ _ _ _ _) (by unfold maxLen; omega) (by omega) hg hgl h24' h26
    cases hd
    simp only [List.cons_append, List.nil_append]
    iterate 1 (first | (refine wpH_want (by kernel_rfl) (by kernel_rfl) rfl rfl ?_; intro K hK; go_big_quiet_op; go_big_quiet_on) | (refine wpH_is (by kernel_rfl) (by kernel_rfl) rfl _ (fun _ w _ => rfl) ?_; simp only [Act.put, List.setIfInBounds_toArray, List.set_cons_succ, List.set_cons_zero]))
    refine wpH_nil (by kernel_rfl) (by simp) ?_
    rintro ⟨vs5, x5⟩ hg hgl
    rw [← HΓ.out] at hg
    obtain ⟨s, v, hvs, hO⟩ := apS_end hg hgl
    obtain rfl : vs5 = [s, v] := hvs
    simp only [gexAll]
    rintro u52 - u53 hu53
    obtain rfl : v = u53 := by simpa [gnth] using hu53
    simp only [List.drop]
    clear ne HST hg hgl HΓ q2_5 q9_0 q9_1 q9_2 q9_3 q9_4 HBL hu53
    have HM9 := Lib.hid (show (zaF nm true (l.take (k + 1))).length = m + 1 by rw [HF2.out, List.length_append, HM.out]; rfl)
    have e5 : (zaF nm true (l.take k)).flatMap cRc ++ cRc ⟨nm2, kd, tt, ad, to⟩ = (zaF nm true (l.take (k + 1))).flatMap cRc := by rw [HF2.out, List.flatMap_append]; simp
    simp only [List.set_cons_succ, List.set_cons_zero, e5] at hO
    clear e5
    obtain ⟨va, vc, rfl⟩ := row_shape (hO.row 3 rfl)
    replace HO := Lib.hid (show Own w none0 x5 [blkR bq (.cells #[.int .i64 sv, .int .i64 pt, .string qs] 37), blkR br (.cells #[.int .i64 0, .int .i64 0, .string ⟨#[]⟩] 56), blkR bd (.cells #[.int .i64 id, .bool true, .int .i64 0, .string nm, .int .i64 1, .slice a1 m c1] 86), rowR (.slice va (m + 1) vc) 49 5 (m + 1) ((zaF nm true (l.take (k + 1))).flatMap cRc)] from hO)
    clear hO
    have y2_5 := HO.out.frz 2 rfl 5
    have z2_5 : x5.cell? _ = some (.slice a1 m c1) := HO.out.cell 2 rfl 5 rfl
    obtain ⟨x61, hx61, hO⟩ := HO.out.setE 2 rfl 5 (.slice va (m + 1) vc)
    replace HO := Lib.hid (show Own _ _ _ [_, _, blkR bd (.cells #[.int .i64 id, .bool true, .int .i64 0, .string nm, .int .i64 1, .slice va (m + 1) vc] 86), _] from hO)
    clear hO
    go_wp2
    go_roundw
    case rel => exact ⟨k + 1, m + 1, va, vc, by omega, by go_num, by rw [HB2.out], HM9.out, HO.out⟩
    case measure => simp [intOf]; omega
   ·
    go_wp2
    refine wp_region_B (by kernel_rfl) (by kernel_rfl) ?_
    repeat (go_big_quiet_step (fail))
    refine wpQuiet_nil ?_
    intro x61 hbw
    have hO := HO.out.stay hbw
    replace HO := Lib.hid (show Own _ _ _ [_, _, blkR bd (.cells #[.int .i64 id, .bool true, .int .i64 0, .string nm, .int .i64 1, .slice a1 m c1] 86), rowR (.slice a1 m c1) 49 5 m ((zaF nm false (l.take k)).flatMap cRc)] from hO)
    clear hO hbw g0 g2_3
    have g0 := cell_regrown (keep HO.out.below Y0.out)
    have h2_3 := cell_regrown (show x61.cell? ⟨bd, 3, none⟩ = some (.string nm) from HO.out.cell 2 rfl 3 rfl)
    go_wp2
    refine wp_region_B (by kernel_rfl) (by kernel_rfl) ?_
    repeat (go_big_quiet_step (fail))
    refine wpQuiet_nil ?_
    intro x62 hbw
    have hO := HO.out.stay hbw
    replace HO := Lib.hid hO
    clear hO hbw g0 h2_3
    have HB2 := Lib.hid (show zaB nm (l.take (k + 1)) = true by rw [HZB.out]; rfl)
    have HF2 := Lib.hid (show zaF nm false (l.take (k + 1)) = zaF nm false (l.take k) by rw [HZF.out]; simp)
    go_wp2
    go_roundw
    case rel => exact ⟨k + 1, m, a1, c1, by omega, by go_num, by rw [HB2.out], by rw [HF2.out, HM.out], by rw [HF2.out]; exact HO.out⟩
    case measure => simp [intOf]; omega
   ·
    go_wp2
    refine wp_region_B (by kernel_rfl) (by kernel_rfl) ?_
    repeat (go_big_quiet_step (fail))
    refine wpQuiet_nil ?_
    intro x61 hbw
    have hO := HO.out.stay hbw
    replace HO := Lib.hid (show Own _ _ _ [_, _, _, rowR (.slice a1 m c1) 49 5 m ((zaF nm true (l.take k)).flatMap cRc)] from hO)
    clear hO hbw g0 g2_3
    have g0 := cell_regrown (keep HO.out.below Y0.out)
    have h2_3 := cell_regrown (show x61.cell? ⟨bd, 3, none⟩ = some (.string nm) from HO.out.cell 2 rfl 3 rfl)
    go_wp2
    refine wp_region_B (by kernel_rfl) (by kernel_rfl) ?_
    repeat (go_big_quiet_step (fail))
    refine wpQuiet_nil ?_
    intro x62 hbw
    have hO := HO.out.stay hbw
    replace HO := Lib.hid hO
    clear hO hbw g0 h2_3
    have HB2 := Lib.hid (show zaB nm (l.take (k + 1)) = true by rw [HZB.out]; rfl)
    have HF2 := Lib.hid (show zaF nm true (l.take (k + 1)) = zaF nm true (l.take k) ++ [⟨nm2, kd, tt, ad, to⟩] by rw [HZF.out]; rfl)
    go_wp2
    generalize hΓ : ghS w none0 (apS [blkR bq (.cells #[.int .i64 sv, .int .i64 pt, .string qs] 37), blkR br (.cells #[.int .i64 0, .int .i64 0, .string ⟨#[]⟩] 56), blkR bd (.cells #[.int .i64 id, .bool true, .int .i64 0, .string nm, .int .i64 1, .slice a1 m c1] 86), rowR (.slice a1 m c1) 49 5 m ((zaF nm true (l.take k)).flatMap cRc)] 3 (cRc ⟨nm2, kd, tt, ad, to⟩) 49 (fun v' => rowR v' 49 5 (m + 1) ((zaF nm true (l.take k)).flatMap cRc ++ cRc ⟨nm2, kd, tt, ad, to⟩))) = Γ
    have HST := Lib.hid (show Γ.inv [] x62 by rw [← hΓ]; exact apS_start HO.out)
    have q2_5 : ∀ q : Γ.Wd, q.w.cell? ⟨bd, 5, none⟩ = some (.slice a1 m c1) := by rw [← hΓ]; exact apS_cell (c := #[.int .i64 id, .bool true, .int .i64 0, .string nm, .int .i64 1, .slice a1 m c1]) (t := 86) 2 rfl (by decide) 5 rfl
    have HBL := Lib.hid (show ∀ q : Γ.Wd, Below w.heap.size w q.w by rw [← hΓ]; rintro ⟨vs, w9, L9, -, h9⟩; exact h9.below)
    have q9_0 : ∀ q : Γ.Wd, q.w.cell? ⟨g, k * 5, none⟩ = some (.string nm2) := fun q => keep (HBL.out q) Y0.out
    have q9_1 : ∀ q : Γ.Wd, q.w.cell? ⟨g, k * 5 + 1, none⟩ = some (.int .i64 kd) := fun q => keep (HBL.out q) Y1.out
    have q9_2 : ∀ q : Γ.Wd, q.w.cell? ⟨g, k * 5 + 2, none⟩ = some (.int .i64 tt) := fun q => keep (HBL.out q) Y2.out
    have q9_3 : ∀ q : Γ.Wd, q.w.cell? ⟨g, k * 5 + 3, none⟩ = some (.int .i64 ad) := fun q => keep (HBL.out q) Y3.out
    have q9_4 : ∀ q : Γ.Wd, q.w.cell? ⟨g, k * 5 + 4, none⟩ = some (.string to) := fun q => keep (HBL.out q) Y4.out
    have HΓ := Lib.hid hΓ
    clear hΓ
    have ne : Nonempty Γ.Wd := ⟨⟨[], x62, HST.out⟩⟩
    refine wp_region_H Γ 9 [6, 7] (by kernel_rfl) (by kernel_rfl) (by kernel_rfl) (by kernel_rfl) HST.out ?_
    simp only [List.take, List.drop]
    iterate 6 (first | (refine wpH_want (by kernel_rfl) (by kernel_rfl) rfl rfl ?_; intro K hK; go_big_quiet_op; go_big_quiet_on) | (refine wpH_is (by kernel_rfl) (by kernel_rfl) rfl _ (fun _ w _ => rfl) ?_; simp only [Act.put, List.setIfInBounds_toArray, List.set_cons_succ, List.set_cons_zero]))
    refine wpH_chainX 0 (gnth 0) (gnth_lasts _ _) (by kernel_rfl) (by kernel_rfl) (fun a' g hg hgl he => ?_) (fun d hd => ?_)
    ·
     obtain ⟨h25, _⟩ := he
     have h25' : a'.eval (.tmp 51) = .agg #[.string nm2, .int .i64 kd, .int .i64 tt, .int .i64 ad, .string to] := h25
     refine wp_of_value (v := .slice (some ⟨g.w.heap.size, 0, none⟩) 1 1) (w' := g.w.alloc (.cells #[.string nm2, .int .i64 kd, .int .i64 tt, .int .i64 ad, .string to] 49)) (run_v_ok ?_) ⟨_, rfl, ?_, ?_⟩
     ·
      simp only [List.map_toArray, List.map_cons, List.map_nil, h25']
      exact run_bsRc9 _ _ _ _ _ _
     ·
      rw [← HΓ.out] at hg ⊢
      exact apS_build hg hgl
     ·
      have : g.vs = [] := List.eq_nil_of_length_eq_zero hgl
      rw [this]; rfl
    cases hd
    simp only [List.nil_append]
    refine wpH_chainX 1 (gnth 1) (gnth_lasts _ _) (by kernel_rfl) (by kernel_rfl) (fun a' g hg hgl he => ?_) (fun d hd => ?_)
    ·
     obtain ⟨h24, h26, _⟩ := he
     have h24' : a'.eval (.tmp 47) = .slice a1 m c1 := h24
     rw [← HΓ.out] at hg ⊢
     exact apS_app (.tmp 47) (.tmp 52) 50 rfl Tryz.underlying50 infoRc21 rfl (by decide) rfl rfl (oneRc _ _ _ _ _) (by unfold maxLen; omega) (by omega) hg hgl h24' h26
    cases hd
    simp only [List.cons_append, List.nil_append]
    iterate 1 (first | (refine wpH_want (by kernel_rfl) (by kernel_rfl) rfl rfl ?_; intro K hK; go_big_quiet_op; go_big_quiet_on) | (refine wpH_is (by kernel_rfl) (by kernel_rfl) rfl _ (fun _ w _ => rfl) ?_; simp only [Act.put, List.setIfInBounds_toArray, List.set_cons_succ, List.set_cons_zero]))
    refine wpH_nil (by kernel_rfl) (by simp) ?_
    rintro ⟨vs5, x5⟩ hg hgl
    rw [← HΓ.out] at hg
    obtain ⟨s, v, hvs, hO⟩ := apS_end hg hgl
    obtain rfl : vs5 = [s, v] := hvs
    simp only [gexAll]
    rintro u52 - u53 hu53
    obtain rfl : v = u53 := by simpa [gnth] using hu53
    simp only [List.drop]
    clear ne HST hg hgl HΓ q2_5 q9_0 q9_1 q9_2 q9_3 q9_4 HBL hu53
    have HM9 := Lib.hid (show (zaF nm true (l.take (k + 1))).length = m + 1 by rw [HF2.out, List.length_append, HM.out]; rfl)
    have e5 : (zaF nm true (l.take k)).flatMap cRc ++ cRc ⟨nm2, kd, tt, ad, to⟩ = (zaF nm true (l.take (k + 1))).flatMap cRc := by rw [HF2.out, List.flatMap_append]; simp
    simp only [List.set_cons_succ, List.set_cons_zero, e5] at hO
    clear e5
    obtain ⟨va, vc, rfl⟩ := row_shape (hO.row 3 rfl)
    replace HO := Lib.hid (show Own w none0 x5 [blkR bq (.cells #[.int .i64 sv, .int .i64 pt, .string qs] 37), blkR br (.cells #[.int .i64 0, .int .i64 0, .string ⟨#[]⟩] 56), blkR bd (.cells #[.int .i64 id, .bool true, .int .i64 0, .string nm, .int .i64 1, .slice a1 m c1] 86), rowR (.slice va (m + 1) vc) 49 5 (m + 1) ((zaF nm true (l.take (k + 1))).flatMap cRc)] from hO)
    clear hO
    have y2_5 := HO.out.frz 2 rfl 5
    have z2_5 : x5.cell? _ = some (.slice a1 m c1) := HO.out.cell 2 rfl 5 rfl
    obtain ⟨x61, hx61, hO⟩ := HO.out.setE 2 rfl 5 (.slice va (m + 1) vc)
    replace HO := Lib.hid (show Own _ _ _ [_, _, blkR bd (.cells #[.int .i64 id, .bool true, .int .i64 0, .string nm, .int .i64 1, .slice va (m + 1) vc] 86), _] from hO)
    clear hO
    go_wp2
    go_roundw
    case rel => exact ⟨k + 1, m + 1, va, vc, by omega, by go_num, by rw [HB2.out], HM9.out, HO.out⟩
    case measure => simp [intOf]; omega
   ·
    go_wp2
    refine wp_region_B (by kernel_rfl) (by kernel_rfl) ?_
    repeat (go_big_quiet_step (fail))
    refine wpQuiet_nil ?_
    intro x61 hbw
    have hO := HO.out.stay hbw
    replace HO := Lib.hid (show Own _ _ _ [_, _, blkR bd (.cells #[.int .i64 id, .bool true, .int .i64 0, .string nm, .int .i64 1, .slice a1 m c1] 86), rowR (.slice a1 m c1) 49 5 m ((zaF nm false (l.take k)).flatMap cRc)] from hO)
    clear hO hbw g0 g2_3
    have g0 := cell_regrown (keep HO.out.below Y0.out)
    have h2_3 := cell_regrown (show x61.cell? ⟨bd, 3, none⟩ = some (.string nm) from HO.out.cell 2 rfl 3 rfl)
    go_wp2
    refine wp_region_B (by kernel_rfl) (by kernel_rfl) ?_
    repeat (go_big_quiet_step (fail))
    refine wpQuiet_nil ?_
    intro x62 hbw
    have hO := HO.out.stay hbw
    replace HO := Lib.hid hO
    clear hO hbw g0 h2_3
    have HB2 := Lib.hid (show zaB nm (l.take (k + 1)) = true by rw [HZB.out]; rfl)
    have HF2 := Lib.hid (show zaF nm false (l.take (k + 1)) = zaF nm false (l.take k) ++ [⟨nm2, kd, tt, ad, to⟩] by rw [HZF.out]; rfl)
    go_wp2
    generalize hΓ : ghS w none0 (apS [blkR bq (.cells #[.int .i64 sv, .int .i64 pt, .string qs] 37), blkR br (.cells #[.int .i64 0, .int .i64 0, .string ⟨#[]⟩] 56), blkR bd (.cells #[.int .i64 id, .bool true, .int .i64 0, .string nm, .int .i64 1, .slice a1 m c1] 86), rowR (.slice a1 m c1) 49 5 m ((zaF nm false (l.take k)).flatMap cRc)] 3 (cRc ⟨nm2, kd, tt, ad, to⟩) 49 (fun v' => rowR v' 49 5 (m + 1) ((zaF nm false (l.take k)).flatMap cRc ++ cRc ⟨nm2, kd, tt, ad, to⟩))) = Γ
    have HST := Lib.hid (show Γ.inv [] x62 by rw [← hΓ]; exact apS_start HO.out)
    have q2_5 : ∀ q : Γ.Wd, q.w.cell? ⟨bd, 5, none⟩ = some (.slice a1 m c1) := by rw [← hΓ]; exact apS_cell (c := #[.int .i64 id, .bool true, .int .i64 0, .string nm, .int .i64 1, .slice a1 m c1]) (t := 86) 2 rfl (by decide) 5 rfl
    have HBL := Lib.hid (show ∀ q : Γ.Wd, Below w.heap.size w q.w by rw [← hΓ]; rintro ⟨vs, w9, L9, -, h9⟩; exact h9.below)
    have q9_0 : ∀ q : Γ.Wd, q.w.cell? ⟨g, k * 5, none⟩ = some (.string nm2) := fun q => keep (HBL.out q) Y0.out
    have q9_1 : ∀ q : Γ.Wd, q.w.cell? ⟨g, k * 5 + 1, none⟩ = some (.int .i64 kd) := fun q => keep (HBL.out q) Y1.out
    have q9_2 : ∀ q : Γ.Wd, q.w.cell? ⟨g, k * 5 + 2, none⟩ = some (.int .i64 tt) := fun q => keep (HBL.out q) Y2.out
    have q9_3 : ∀ q : Γ.Wd, q.w.cell? ⟨g, k * 5 + 3, none⟩ = some (.int .i64 ad) := fun q => keep (HBL.out q) Y3.out
    have q9_4 : ∀ q : Γ.Wd, q.w.cell? ⟨g, k * 5 + 4, none⟩ = some (.string to) := fun q => keep (HBL.out q) Y4.out
    have HΓ := Lib.hid hΓ
    clear hΓ
    have ne : Nonempty Γ.Wd := ⟨⟨[], x62, HST.out⟩⟩
    refine wp_region_H Γ 9 [6, 7] (by kernel_rfl) (by kernel_rfl) (by kernel_rfl) (by kernel_rfl) HST.out ?_
    simp only [List.take, List.drop]
    iterate 6 (first | (refine wpH_want (by kernel_rfl) (by kernel_rfl) rfl rfl ?_; intro K hK; go_big_quiet_op; go_big_quiet_on) | (refine wpH_is (by kernel_rfl) (by kernel_rfl) rfl _ (fun _ w _ => rfl) ?_; simp only [Act.put, List.setIfInBounds_toArray, List.set_cons_succ, List.set_cons_zero]))
    refine wpH_chainX 0 (gnth 0) (gnth_lasts _ _) (by kernel_rfl) (by kernel_rfl) (fun a' g hg hgl he => ?_) (fun d hd => ?_)
    ·
     obtain ⟨h25, _⟩ := he
     have h25' : a'.eval (.tmp 51) = .agg #[.string nm2, .int .i64 kd, .int .i64 tt, .int .i64 ad, .string to] := h25
     refine wp_of_value (v := .slice (some ⟨g.w.heap.size, 0, none⟩) 1 1) (w' := g.w.alloc (.cells #[.string nm2, .int .i64 kd, .int .i64 tt, .int .i64 ad, .string to] 49)) (run_v_ok ?_) ⟨_, rfl, ?_, ?_⟩
     ·
      simp only [List.map_toArray, List.map_cons, List.map_nil, h25']
      exact run_bsRc9 _ _ _ _ _ _
     ·
      rw [← HΓ.out] at hg ⊢
      exact apS_build hg hgl
     ·
      have : g.vs = [] := List.eq_nil_of_length_eq_zero hgl
      rw [this]; rfl
    cases hd
    simp only [List.nil_append]
    refine wpH_chainX 1 (gnth 1) (gnth_lasts _ _) (by kernel_rfl) (by kernel_rfl) (fun a' g hg hgl he => ?_) (fun d hd => ?_)
    ·
     obtain ⟨h24, h26, _⟩ := he
     have h24' : a'.eval (.tmp 47) = .slice a1 m c1 := h24
     rw [← HΓ.out] at hg ⊢
     exact apS_app (.tmp 47) (.tmp 52) 50 rfl Tryz.underlying50 infoRc21 rfl (by decide) rfl rfl (oneRc _ _ _ _ _) (by unfold maxLen; omega) (by omega) hg hgl h24' h26
    cases hd
    simp only [List.cons_append, List.nil_append]
    iterate 1 (first | (refine wpH_want (by kernel_rfl) (by kernel_rfl) rfl rfl ?_; intro K hK; go_big_quiet_op; go_big_quiet_on) | (refine wpH_is (by kernel_rfl) (by kernel_rfl) rfl _ (fun _ w _ => rfl) ?_; simp only [Act.put, List.setIfInBounds_toArray, List.set_cons_succ, List.set_cons_zero]))
    refine wpH_nil (by kernel_rfl) (by simp) ?_
    rintro ⟨vs5, x5⟩ hg hgl
    rw [← HΓ.out] at hg
    obtain ⟨s, v, hvs, hO⟩ := apS_end hg hgl
    obtain rfl : vs5 = [s, v] := hvs
    simp only [gexAll]
    rintro u52 - u53 hu53
    obtain rfl : v = u53 := by simpa [gnth] using hu53
    simp only [List.drop]
    clear ne HST hg hgl HΓ q2_5 q9_0 q9_1 q9_2 q9_3 q9_4 HBL hu53
    have HM9 := Lib.hid (show (zaF nm false (l.take (k + 1))).length = m + 1 by rw [HF2.out, List.length_append, HM.out]; rfl)
    have e5 : (zaF nm false (l.take k)).flatMap cRc ++ cRc ⟨nm2, kd, tt, ad, to⟩ = (zaF nm false (l.take (k + 1))).flatMap cRc := by rw [HF2.out, List.flatMap_append]; simp
    simp only [List.set_cons_succ, List.set_cons_zero, e5] at hO
    clear e5
    obtain ⟨va, vc, rfl⟩ := row_shape (hO.row 3 rfl)
    replace HO := Lib.hid (show Own w none0 x5 [blkR bq (.cells #[.int .i64 sv, .int .i64 pt, .string qs] 37), blkR br (.cells #[.int .i64 0, .int .i64 0, .string ⟨#[]⟩] 56), blkR bd (.cells #[.int .i64 id, .bool true, .int .i64 0, .string nm, .int .i64 1, .slice a1 m c1] 86), rowR (.slice va (m + 1) vc) 49 5 (m + 1) ((zaF nm false (l.take (k + 1))).flatMap cRc)] from hO)
    clear hO
    have y2_5 := HO.out.frz 2 rfl 5
    have z2_5 : x5.cell? _ = some (.slice a1 m c1) := HO.out.cell 2 rfl 5 rfl
    obtain ⟨x61, hx61, hO⟩ := HO.out.setE 2 rfl 5 (.slice va (m + 1) vc)
    replace HO := Lib.hid (show Own _ _ _ [_, _, blkR bd (.cells #[.int .i64 id, .bool true, .int .i64 0, .string nm, .int .i64 1, .slice va (m + 1) vc] 86), _] from hO)
    clear hO
    go_wp2
    go_roundw
    case rel => exact ⟨k + 1, m + 1, va, vc, by omega, by go_num, by rw [HB2.out], HM9.out, HO.out⟩
    case measure => simp [intOf]; omega
   ·
    go_wp2
    refine wp_region_B (by kernel_rfl) (by kernel_rfl) ?_
    repeat (go_big_quiet_step (fail))
    refine wpQuiet_nil ?_
    intro x61 hbw
    have hO := HO.out.stay hbw
    replace HO := Lib.hid (show Own _ _ _ [_, _, blkR bd (.cells #[.int .i64 id, .bool true, .int .i64 0, .string nm, .int .i64 1, .slice a1 m c1] 86), rowR (.slice a1 m c1) 49 5 m ((zaF nm true (l.take k)).flatMap cRc)] from hO)
    clear hO hbw g0 g2_3
    have g0 := cell_regrown (keep HO.out.below Y0.out)
    have h2_3 := cell_regrown (show x61.cell? ⟨bd, 3, none⟩ = some (.string nm) from HO.out.cell 2 rfl 3 rfl)
    go_wp2
    refine wp_region_B (by kernel_rfl) (by kernel_rfl) ?_
    repeat (go_big_quiet_step (fail))
    refine wpQuiet_nil ?_
    intro x62 hbw
    have hO := HO.out.stay hbw
    replace HO := Lib.hid hO
    clear hO hbw g0 h2_3
    have HB2 := Lib.hid (show zaB nm (l.take (k + 1)) = true by rw [HZB.out]; rfl)
    have HF2 := Lib.hid (show zaF nm true (l.take (k + 1)) = zaF nm true (l.take k) ++ [⟨nm2, kd, tt, ad, to⟩] by rw [HZF.out]; rfl)
    go_wp2
    generalize hΓ : ghS w none0 (apS [blkR bq (.cells #[.int .i64 sv, .int .i64 pt, .string qs] 37), blkR br (.cells #[.int .i64 0, .int .i64 0, .string ⟨#[]⟩] 56), blkR bd (.cells #[.int .i64 id, .bool true, .int .i64 0, .string nm, .int .i64 1, .slice a1 m c1] 86), rowR (.slice a1 m c1) 49 5 m ((zaF nm true (l.take k)).flatMap cRc)] 3 (cRc ⟨nm2, kd, tt, ad, to⟩) 49 (fun v' => rowR v' 49 5 (m + 1) ((zaF nm true (l.take k)).flatMap cRc ++ cRc ⟨nm2, kd, tt, ad, to⟩))) = Γ
    have HST := Lib.hid (show Γ.inv [] x62 by rw [← hΓ]; exact apS_start HO.out)
    have q2_5 : ∀ q : Γ.Wd, q.w.cell? ⟨bd, 5, none⟩ = some (.slice a1 m c1) := by rw [← hΓ]; exact apS_cell (c := #[.int .i64 id, .bool true, .int .i64 0, .string nm, .int .i64 1, .slice a1 m c1]) (t := 86) 2 rfl (by decide) 5 rfl
    have HBL := Lib.hid (show ∀ q : Γ.Wd, Below w.heap.size w q.w by rw [← hΓ]; rintro ⟨vs, w9, L9, -, h9⟩; exact h9.below)
    have q9_0 : ∀ q : Γ.Wd, q.w.cell? ⟨g, k * 5, none⟩ = some (.string nm2) := fun q => keep (HBL.out q) Y0.out
    have q9_1 : ∀ q : Γ.Wd, q.w.cell? ⟨g, k * 5 + 1, none⟩ = some (.int .i64 kd) := fun q => keep (HBL.out q) Y1.out
    have q9_2 : ∀ q : Γ.Wd, q.w.cell? ⟨g, k * 5 + 2, none⟩ = some (.int .i64 tt) := fun q => keep (HBL.out q) Y2.out
    have q9_3 : ∀ q : Γ.Wd, q.w.cell? ⟨g, k * 5 + 3, none⟩ = some (.int .i64 ad) := fun q => keep (HBL.out q) Y3.out
    have q9_4 : ∀ q : Γ.Wd, q.w.cell? ⟨g, k * 5 + 4, none⟩ = some (.string to) := fun q => keep (HBL.out q) Y4.out
    have HΓ := Lib.hid hΓ
    clear hΓ
    have ne : Nonempty Γ.Wd := ⟨⟨[], x62, HST.out⟩⟩
    refine wp_region_H Γ 9 [6, 7] (by kernel_rfl) (by kernel_rfl) (by kernel_rfl) (by kernel_rfl) HST.out ?_
    simp only [List.take, List.drop]
    iterate 6 (first | (refine wpH_want (by kernel_rfl) (by kernel_rfl) rfl rfl ?_; intro K hK; go_big_quiet_op; go_big_quiet_on) | (refine wpH_is (by kernel_rfl) (by kernel_rfl) rfl _ (fun _ w _ => rfl) ?_; simp only [Act.put, List.setIfInBounds_toArray, List.set_cons_succ, List.set_cons_zero]))
    refine wpH_chainX 0 (gnth 0) (gnth_lasts _ _) (by kernel_rfl) (by kernel_rfl) (fun a' g hg hgl he => ?_) (fun d hd => ?_)
    ·
     obtain ⟨h25, _⟩ := he
     have h25' : a'.eval (.tmp 51) = .agg #[.string nm2, .int .i64 kd, .int .i64 tt, .int .i64 ad, .string to] := h25
     refine wp_of_value (v := .slice (some ⟨g.w.heap.size, 0, none⟩) 1 1) (w' := g.w.alloc (.cells #[.string nm2, .int .i64 kd, .int .i64 tt, .int .i64 ad, .string to] 49)) (run_v_ok ?_) ⟨_, rfl, ?_, ?_⟩
     ·
      simp only [List.map_toArray, List.map_cons, List.map_nil, h25']
      exact run_bsRc9 _ _ _ _ _ _
     ·
      rw [← HΓ.out] at hg ⊢
      exact apS_build hg hgl
     ·
      have : g.vs = [] := List.eq_nil_of_length_eq_zero hgl
      rw [this]; rfl
    cases hd
    simp only [List.nil_append]
    refine wpH_chainX 1 (gnth 1) (gnth_lasts _ _) (by kernel_rfl) (by kernel_rfl) (fun a' g hg hgl he => ?_) (fun d hd => ?_)
    ·
     obtain ⟨h24, h26, _⟩ := he
     have h24' : a'.eval (.tmp 47) = .slice a1 m c1 := h24
     rw [← HΓ.out] at hg ⊢
     exact apS_app (.tmp 47) (.tmp 52) 50 rfl Tryz.underlying50 infoRc21 rfl (by decide) rfl rfl (oneRc _ _ _ _ _) (by unfold maxLen; omega) (by omega) hg hgl h24' h26
    cases hd
    simp only [List.cons_append, List.nil_append]
    iterate 1 (first | (refine wpH_want (by kernel_rfl) (by kernel_rfl) rfl rfl ?_; intro K hK; go_big_quiet_op; go_big_quiet_on) | (refine wpH_is (by kernel_rfl) (by kernel_rfl) rfl _ (fun _ w _ => rfl) ?_; simp only [Act.put, List.setIfInBounds_toArray, List.set_cons_succ, List.set_cons_zero]))
    refine wpH_nil (by kernel_rfl) (by simp) ?_
    rintro ⟨vs5, x5⟩ hg hgl
    rw [← HΓ.out] at hg
    obtain ⟨s, v, hvs, hO⟩ := apS_end hg hgl
    obtain rfl : vs5 = [s, v] := hvs
    simp only [gexAll]
    rintro u52 - u53 hu53
    obtain rfl : v = u53 := by simpa [gnth] using hu53
    simp only [List.drop]
    clear ne HST hg hgl HΓ q2_5 q9_0 q9_1 q9_2 q9_3 q9_4 HBL hu53
    have HM9 := Lib.hid (show (zaF nm true (l.take (k + 1))).length = m + 1 by rw [HF2.out, List.length_append, HM.out]; rfl)
    have e5 : (zaF nm true (l.take k)).flatMap cRc ++ cRc ⟨nm2, kd, tt, ad, to⟩ = (zaF nm true (l.take (k + 1))).flatMap cRc := by rw [HF2.out, List.flatMap_append]; simp
    simp only [List.set_cons_succ, List.set_cons_zero, e5] at hO
    clear e5
    obtain ⟨va, vc, rfl⟩ := row_shape (hO.row 3 rfl)
    replace HO := Lib.hid (show Own w none0 x5 [blkR bq (.cells #[.int .i64 sv, .int .i64 pt, .string qs] 37), blkR br (.cells #[.int .i64 0, .int .i64 0, .string ⟨#[]⟩] 56), blkR bd (.cells #[.int .i64 id, .bool true, .int .i64 0, .string nm, .int .i64 1, .slice a1 m c1] 86), rowR (.slice va (m + 1) vc) 49 5 (m + 1) ((zaF nm true (l.take (k + 1))).flatMap cRc)] from hO)
    clear hO
    have y2_5 := HO.out.frz 2 rfl 5
    have z2_5 : x5.cell? _ = some (.slice a1 m c1) := HO.out.cell 2 rfl 5 rfl
    obtain ⟨x61, hx61, hO⟩ := HO.out.setE 2 rfl 5 (.slice va (m + 1) vc)
    replace HO := Lib.hid (show Own _ _ _ [_, _, blkR bd (.cells #[.int .i64 id, .bool true, .int .i64 0, .string nm, .int .i64 1, .slice va (m + 1) vc] 86), _] from hO)
    clear hO
    go_wp2
    go_roundw
    case rel => exact ⟨k + 1, m + 1, va, vc, by omega, by go_num, by rw [HB2.out], HM9.out, HO.out⟩
    case measure => simp [intOf]; omega
  ·
   obtain rfl : k = n := by omega
   have hd4 : decide ((k : Int) < (k : Int)) = false := decide_eq_false (by omega)
   have HT := Lib.hid (show l.take k = l by rw [← HN.out]; exact List.take_length)
   rw [HT.out] at HO HM ⊢
   clear HT
   cases hzb : zaB nm l with
   | false =>
    have HAN := Lib.hid (ansM_no (all := all) (id := id) hzb)
    rw [HAN.out] at HD HOUT
    have y2_5 := HO.out.frz 2 rfl 5
    have z2_5 : wr.cell? _ = some (.slice a1 m c1) := HO.out.cell 2 rfl 5 rfl
    obtain ⟨x301, hx301, hO⟩ := HO.out.setE 2 rfl 5 (.slice none 0 0)
    replace HO := Lib.hid (show Own w none0 x301 [blkR bq (.cells #[.int .i64 sv, .int .i64 pt, .string qs] 37), blkR br (.cells #[.int .i64 0, .int .i64 0, .string ⟨#[]⟩] 56), blkR bd (.cells #[.int .i64 id, .bool true, .int .i64 0, .string nm, .int .i64 1, .slice none 0 0] 86), rowR (.slice a1 m c1) 49 5 m ((zaF nm all l).flatMap cRc)] from hO)
    clear hO
    have y2_2 := HO.out.frz 2 rfl 2
    have z2_2 : x301.cell? _ = some (.int .i64 0) := HO.out.cell 2 rfl 2 rfl
    obtain ⟨x302, hx302, hO⟩ := HO.out.setE 2 rfl 2 (.int .i64 1)
    replace HO := Lib.hid (show Own _ _ _ [_, _, blkR bd (.cells #[.int .i64 id, .bool true, .int .i64 1, .string nm, .int .i64 1, .slice none 0 0] 86), _] from hO)
    clear hO
    obtain ⟨z2_0, z2_1, z2_2t, z2_3, z2_4, z2_5t⟩ := HO.out.c6 2 rfl
    have z0_1 : x302.cell? _ = some (.int .i64 pt) := HO.out.cell 0 rfl 1 rfl
    have hO := HO.out.rowNew 49 5
    replace HO := Lib.hid (show Own _ _ _ [_, _, _, _, rowR (.slice none 0 0) 49 5 0 []] from hO)
    clear hO
    go_wp2_with fail
    refine (o_still HO.out (datagram_r (rs := []) _ (HO.out.row 4 rfl) rfl HD.out HOUT.out)).mono ?_
    rintro e x303 ⟨rfl, hO, -⟩
    replace HO := Lib.hid hO
    clear hO
    clear y2_5 z2_5 hx301 y2_2 z2_2 hx302 z2_0 z2_1 z2_2t z2_3 z2_4 z2_5t z0_1
    obtain ⟨x307, x310, x312, hx307, hx310, hx312, k1_0_304, lk1_0_304, k1_1_308, lk1_1_308, k1_2_311, lk1_2_311, hO⟩ := HO.out.steps3 1 rfl (.int .i64 53) (.int .i64 pt) (.string out)
    replace HO := Lib.hid (show Own _ _ _ [_, blkR br (.cells #[.int .i64 53, .int .i64 pt, .string out] 56), _, _, _] from hO)
    clear hO
    obtain ⟨r0, r1, r2⟩ := HO.out.c3 1 rfl
    go_wp2
    exact bodyPost_ret (v := .agg #[.int .i64 53, .int .i64 pt, .string out]) (by simp [results, Tryz.results25, go_sem, r0, r1, r2]) rfl ⟨rfl, HO.out.below⟩
   | true =>
    have HAN := Lib.hid (ansM_yes (all := all) (id := id) hzb)
    rw [HAN.out] at HD HOUT
    have z2_0 : wr.cell? _ = some (.int .i64 id) := HO.out.cell 2 rfl 0 rfl
    have z2_1 : wr.cell? _ = some (.bool true) := HO.out.cell 2 rfl 1 rfl
    have z2_2 : wr.cell? _ = some (.int .i64 0) := HO.out.cell 2 rfl 2 rfl
    have z2_3 : wr.cell? _ = some (.string nm) := HO.out.cell 2 rfl 3 rfl
    have z2_4 : wr.cell? _ = some (.int .i64 1) := HO.out.cell 2 rfl 4 rfl
    have z2_5 : wr.cell? _ = some (.slice a1 m c1) := HO.out.cell 2 rfl 5 rfl
    have z0_1 : wr.cell? _ = some (.int .i64 pt) := HO.out.cell 0 rfl 1 rfl
    go_wp2_with fail
    refine (o_still HO.out (datagram_r (rs := zaF nm all l) _ (HO.out.row 3 rfl) HM.out HD.out HOUT.out)).mono ?_
    rintro e x301 ⟨rfl, hO, -⟩
    replace HO := Lib.hid (show Own _ _ _ [_, blkR br (.cells #[.int .i64 0, .int .i64 0, .string ⟨#[]⟩] 56), blkR bd (.cells #[.int .i64 id, .bool true, .int .i64 0, .string nm, .int .i64 1, .slice a1 m c1] 86), _] from hO)
    clear hO
    clear z2_0 z2_1 z2_2 z2_3 z2_4 z2_5 z0_1
    obtain ⟨x305, x308, x310, hx305, hx308, hx310, k1_0_302, lk1_0_302, k1_1_306, lk1_1_306, k1_2_309, lk1_2_309, hO⟩ := HO.out.steps3 1 rfl (.int .i64 53) (.int .i64 pt) (.string out)
    replace HO := Lib.hid (show Own _ _ _ [_, blkR br (.cells #[.int .i64 53, .int .i64 pt, .string out] 56), _, _] from hO)
    clear hO
    obtain ⟨r0, r1, r2⟩ := HO.out.c3 1 rfl
    go_wp2
    exact bodyPost_ret (v := .agg #[.int .i64 53, .int .i64 pt, .string out]) (by simp [results, Tryz.results25, go_sem, r0, r1, r2]) rfl ⟨rfl, HO.out.below⟩
end Go.Proofs.YtbolfkojebbejaaGreatDoor
