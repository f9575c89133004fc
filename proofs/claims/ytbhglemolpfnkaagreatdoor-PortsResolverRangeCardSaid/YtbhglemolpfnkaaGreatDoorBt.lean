/- Contract of Same of the reference of chapter 20. -/
import Derived.Test.YtbhglemolpfnkaaGreatDoorCdat
import Derived.Test.YtbhglemolpfnkaaGreatDoorBb
import Derived.Test.YtbhglemolpfnkaaGreatDoorBh
import Derived.Test.YtbhglemolpfnkaaGreatDoorClk
set_option linter.unusedVariables false
set_option maxRecDepth 100000
set_option maxHeartbeats 32000000
namespace Go.Proofs.YtbhglemolpfnkaaGreatDoor
variable {s : ByteArray}
section
open Go.RowKit Go.Sort

def rcEq (a b : Rc) : Bool := (a.nm.toList == b.nm.toList) && ((a.kd == b.kd) && ((a.tt == b.tt) && ((a.ad == b.ad) && (a.to.toList == b.to.toList))))
theorem stRc : Tryz.prog.stoodInHeld 131 = false := by kernel_rfl
theorem run_eqRc (a b : Rc) (w : World) : (Op.equalIn 10000 131 (rcV a) (rcV b)).run Tryz.prog w = .ok (rcEq a b) w := by
 have hu : Tryz.prog.underlying 131 = some (.struct (Tryz.prog.fieldsOf 131)) := by kernel_rfl
 rw [run_equalIn_agg w 9999 131 _ _ hu stRc]
 obtain ⟨a0, a1, a2, a3, a4⟩ := a
 obtain ⟨b0, b1, b2, b3, b4⟩ := b
 have hf : ∃ f1 f2 f3 f4 f5 : Field, (Tryz.prog.fieldsOf 131).toList = [f1, f2, f3, f4, f5] ∧ (f1.name ≠ "_" ∧ f2.name ≠ "_" ∧ f3.name ≠ "_" ∧ f4.name ≠ "_" ∧ f5.name ≠ "_") ∧ (f1.type = 9 ∧ f2.type = 3 ∧ f3.type = 3 ∧ f4.type = 3 ∧ f5.type = 9) ∧ f1.offset = 0 ∧ f2.offset = 1 ∧ f3.offset = 2 ∧ f4.offset = 3 ∧ f5.offset = 4 := ⟨_, _, _, _, _, rfl, ⟨by decide, by decide, by decide, by decide, by decide⟩, ⟨rfl, rfl, rfl, rfl, rfl⟩, rfl, rfl, rfl, rfl, rfl⟩
 obtain ⟨f1, f2, f3, f4, f5, e', ⟨n1, n2, n3, n4, n5⟩, ⟨t1, t2, t3, t4, t5⟩, o1, o2, o3, o4, o5⟩ := hf
 rw [e']
 have p1 : ∀ (x : ByteArray) (y z q : Int) (u : ByteArray), (part 9 #[.string x, .int .i64 y, .int .i64 z, .int .i64 q, .string u] 0).run Tryz.prog w = .ok (.string x) w := fun x y z q u => by kernel_rfl
 have p2 : ∀ (x : ByteArray) (y z q : Int) (u : ByteArray), (part 3 #[.string x, .int .i64 y, .int .i64 z, .int .i64 q, .string u] 1).run Tryz.prog w = .ok (.int .i64 y) w := fun x y z q u => by kernel_rfl
 have p3 : ∀ (x : ByteArray) (y z q : Int) (u : ByteArray), (part 3 #[.string x, .int .i64 y, .int .i64 z, .int .i64 q, .string u] 2).run Tryz.prog w = .ok (.int .i64 z) w := fun x y z q u => by kernel_rfl
 have p4 : ∀ (x : ByteArray) (y z q : Int) (u : ByteArray), (part 3 #[.string x, .int .i64 y, .int .i64 z, .int .i64 q, .string u] 3).run Tryz.prog w = .ok (.int .i64 q) w := fun x y z q u => by kernel_rfl
 have p5 : ∀ (x : ByteArray) (y z q : Int) (u : ByteArray), (part 9 #[.string x, .int .i64 y, .int .i64 z, .int .i64 q, .string u] 4).run Tryz.prog w = .ok (.string u) w := fun x y z q u => by kernel_rfl
 simp only [rcEq]
 cases h1 : (a0.toList == b0.toList) <;> cases h2 : (a1 == b1) <;> cases h3 : (a2 == b2) <;> cases h4 : (a3 == b3) <;> cases h5 : (a4.toList == b4.toList) <;>
  simp [Op.eqFields, n1, n2, n3, n4, n5, t1, t2, t3, t4, t5, o1, o2, o3, o4, o5, p1, p2, p3, p4, p5, run_equalIn_int w _ 3 .i64 .i64 _ _ Tryz.underlying3, run_equalIn_string w _ 9 _ _ Tryz.underlying9, h1, h2, h3, h4, h5]
theorem run_neRc (a0 : ByteArray) (a1 a2 a3 : Int) (a4 b0 : ByteArray) (b1 b2 b3 : Int) (b4 : ByteArray) (w : World) : (binOp .neq 131 (.agg #[.string a0, .int .i64 a1, .int .i64 a2, .int .i64 a3, .string a4]) (.agg #[.string b0, .int .i64 b1, .int .i64 b2, .int .i64 b3, .string b4])).run Tryz.prog w = .ok (.bool (!rcEq ⟨a0, a1, a2, a3, a4⟩ ⟨b0, b1, b2, b3, b4⟩)) w := by
 have := run_eqRc ⟨a0, a1, a2, a3, a4⟩ ⟨b0, b1, b2, b3, b4⟩ w
 rw [run_neq_struct, this]; rfl
attribute [local go_sem ↓] run_neRc
end
open Go.RowKit Go.Sort

theorem last_get {α : Type} (L : List α) (x : α) : (L ++ [x])[L.length]? = some x := by simp
section
variable {w0 w : World} {D : Nat → Prop} {L : List Res} {c : Nat} {l l' : List En} {a : Addr}
theorem look_r (now : Int) (s : ByteArray) (h : Own w0 D w L) (i : Nat) (hi : L[i]? = some (resC c l)) (hl : l.length ≤ 1000) {rk : List Rc × Bool} (h1 : lookL now s l = rk) :
  Calls Tryz.prog 114 #[.pointer (some ⟨c, 0, none⟩), .int .i64 now, .string s] w (LookPost w0 D L rk w) := by
 subst h1
 exact look_o now s h i hi hl
end
def aprt (x y : En) : Prop := keyE x ≠ keyE y ∧ (x.nm.toList = y.nm.toList → x.kd ≠ 0 ∧ y.kd ≠ 0)
structure EnOk (t : Int) (e : En) : Prop where
 nm : vname e.nm = true
 val : (e.kd = 0 ∧ e.ad = 0 ∧ e.to.toList = []) ∨ recA ⟨e.nm, e.kd, 0, e.ad, e.to⟩ = true
 ex : e.ex ≤ t + 1000
 ex0 : 0 ≤ e.ex
structure CInv (t : Int) (l : List En) : Prop where
 len : l.length ≤ 32
 ap : l.Pairwise aprt
 ok : ∀ e ∈ l, EnOk t e
theorem CInv.nil (t : Int) : CInv t [] := ⟨Nat.zero_le _, List.Pairwise.nil, fun e h => by cases h⟩
theorem EnOk.later {t t' : Int} {e : En} (h : EnOk t e) (ht : t ≤ t') : EnOk t' e := ⟨h.nm, h.val, Int.le_trans h.ex (by omega), h.ex0⟩
theorem CInv.later {t t' : Int} {l : List En} (h : CInv t l) (ht : t ≤ t') : CInv t' l := ⟨h.len, h.ap, fun e he => (h.ok e he).later ht⟩
theorem CInv.sub {t : Int} {l l' : List En} (h : CInv t l) (hs : l'.Sublist l) : CInv t l' := ⟨Nat.le_trans hs.length_le h.len, h.ap.sublist hs, fun e he => h.ok e (hs.subset he)⟩
theorem recA_kd {r : Rc} (h : recA r = true) : r.kd = 1 ∨ r.kd = 2 := by
 simp only [recA, Bool.or_eq_true, Bool.and_eq_true, decide_eq_true_eq] at h
 omega
def room (l : List En) : List En := if 32 ≤ l.length then evictF l else l
theorem storeF_eq (l : List En) (e : En) : storeF l e = room l ++ [e] := rfl
theorem room_sub (l : List En) : (room l).Sublist l := by
 unfold room evictF
 split
 ·
  exact List.eraseIdx_sublist ..
 ·
  exact List.Sublist.refl _
theorem room_len {l : List En} (h : l.length ≤ 32) : (room l).length ≤ 31 := by
 unfold room
 split
 ·
  rw [evictF_len (by omega)]; omega
 ·
  omega
theorem CInv.store {t : Int} {l : List En} {e : En} (h : CInv t l) (ho : EnOk t e) (ha : ∀ x ∈ l, aprt x e) : CInv t (storeF l e) := by
 rw [storeF_eq]
 refine ⟨by rw [List.length_append]; have := room_len h.len; simp; omega, ?_, fun x hx => ?_⟩
 ·
  rw [List.pairwise_append]
  exact ⟨h.ap.sublist (room_sub l), List.pairwise_singleton _ _, fun x hx y hy => by
   obtain rfl : y = e := by simpa using hy
   exact ha x ((room_sub l).subset hx)⟩
 ·
  rcases List.mem_append.1 hx with hx | hx
  ·
   exact h.ok x ((room_sub l).subset hx)
  ·
   obtain rfl : x = e := by simpa using hx
   exact ho
theorem emp_list : (⟨#[]⟩ : ByteArray).toList = [] := Go.ByteArray.toList_eq ⟨#[]⟩
theorem eq_nil_bytes {b : ByteArray} (h : b.toList = []) : b = ⟨#[]⟩ := bytes_ext (by rw [h, emp_list])
theorem EnOk.key0 {t : Int} {e : En} (h : EnOk t e) (h0 : e.kd = 0) : keyE e = noneK e.nm := by
 obtain ⟨nm, kd, ad, to, ex⟩ := e
 rcases h.val with ⟨h1, h2, h3⟩ | h1
 ·
  simp only at h0 h2 h3
  simp [keyE, noneK, h0, h2, eq_nil_bytes h3]
 ·
  have := recA_kd h1
  simp only at h0 this
  omega
theorem put_aprt {t : Int} {l : List En} {r : Rc} {ex : Int} (h : CInv t l) (hk : r.kd ≠ 0) : ∀ x ∈ l.filter (fun x => !putP r x), aprt x ⟨r.nm, r.kd, r.ad, r.to, ex⟩ := by
 intro x hx
 obtain ⟨h1, h2⟩ := List.mem_filter.1 hx
 simp only [putP, Bool.not_eq_true', Bool.or_eq_false_iff] at h2
 obtain ⟨g1, g2⟩ := h2
 have k1 : keyE x ≠ ownK r := fun e => by rw [(kyEq_iff _ _).2 e] at g1; cases g1
 have k2 : keyE x ≠ noneK r.nm := fun e => by rw [(kyEq_iff _ _).2 e] at g2; cases g2
 refine ⟨k1, fun e => ⟨fun h0 => k2 ?_, hk⟩⟩
 rw [(h.ok x h1).key0 h0, bytes_ext e]
theorem CInv.put {t : Int} {l : List En} (h : CInv t l) (r : Rc) : CInv t (putF t r l) := by
 unfold putF
 split
 ·
  rename_i hc
  simp only [Bool.and_eq_true, decide_eq_true_eq] at hc
  obtain ⟨hb, ht⟩ := hc
  have hbd := recB_bds hb
  rw [recB_eq, Bool.and_eq_true] at hb
  have hk := recA_kd hb.1
  have hv : vname r.nm = true := by have := hb.2; simp only [chkF, Bool.and_eq_true] at this; exact this.2
  refine (h.sub List.filter_sublist).store ⟨hv, .inr hb.1, ?_, ?_⟩ (put_aprt h (by omega))
  ·
   show t + r.tt ≤ t + 1000; omega
  ·
   show 0 ≤ t + r.tt; omega
 ·
  exact h
def recs (now : Int) (s : ByteArray) (l : List En) : List Rc := (l.filter fun e => hitB now s e && decide (e.kd ≠ 0)).map (rcOf now)
theorem hit_nm {now : Int} {e : En} (h : hitB now s e = true) : e.nm.toList = s.toList ∧ now < e.ex := by
 simp only [hitB, liveB, Bool.and_eq_true, beq_iff_eq, decide_eq_true_eq] at h
 exact h
theorem look_eq {now : Int} {s : ByteArray} : ∀ {l : List En}, l.Pairwise aprt → lookL now s l = (recs now s l, l.any (hitB now s))
 | [], _ => rfl
 | e :: r, h => by
  obtain ⟨h1, h2⟩ := List.pairwise_cons.1 h
  have ih := look_eq (now := now) (s := s) h2
  simp only [lookL, recs, List.filter_cons, List.any_cons]
  cases hh : hitB now s e with
  | false => simpa [recs] using ih
  | true =>
   by_cases h0 : e.kd = 0
   ·
    have hno : (r.filter fun x => hitB now s x && decide (x.kd ≠ 0)) = [] := by
     rw [List.filter_eq_nil_iff]
     intro x hx hc
     simp only [Bool.and_eq_true] at hc
     have := (h1 x hx).2 ((hit_nm hh).1.trans (hit_nm hc.1).1.symm)
     exact this.1 h0
    rw [if_pos rfl, if_pos h0, if_neg (by simp [h0]), hno]
    rfl
   ·
    simp [h0, ih, recs]
def sep2 (x y : Rc) : Prop := ltR x y ∨ ltR y x
theorem sep2_symm {x y : Rc} (h : sep2 x y) : sep2 y x := h.elim .inr .inl
def leB (x y : Rc) : Bool := !ltOf cmpR y x
theorem leB_iff (x y : Rc) : leB x y = true ↔ ¬ ltR y x := by simp [leB, ltOf_R]
def srtR (l : List Rc) : List Rc := l.mergeSort leB
theorem srtR_perm (l : List Rc) : (srtR l).Perm l := List.mergeSort_perm l leB
theorem srtR_sorted (l : List Rc) : sortedR (srtR l) := by
 have h := List.pairwise_mergeSort (le := leB) (fun a b c h1 h2 => by rw [leB_iff] at *; exact ltR_neg h2 h1)
  (fun a b => by
   rw [Bool.or_eq_true, leB_iff, leB_iff]
   by_cases h : ltR b a
   ·
    exact .inr fun h' => ltR_irrefl _ (ltR_trans h h')
   ·
    exact .inl h) l
 exact h.imp fun h => (leB_iff _ _).1 h
theorem sep_all : ∀ {l : List Rc}, l.Pairwise sep2 → ∀ a ∈ l, ∀ b ∈ l, a = b ∨ sep2 a b
 | [], _, a, ha, _, _ => by cases ha
 | x :: l, h, a, ha, b, hb => by
  obtain ⟨h1, h2⟩ := List.pairwise_cons.1 h
  rcases List.mem_cons.1 ha with ea | ha
  ·
   rcases List.mem_cons.1 hb with eb | hb
   ·
    exact .inl (ea.trans eb.symm)
   ·
    exact .inr (ea ▸ h1 b hb)
  ·
   rcases List.mem_cons.1 hb with eb | hb
   ·
    exact .inr (eb ▸ sep2_symm (h1 a ha))
   ·
    exact sep_all h2 a ha b hb
theorem srt_unique {d l : List Rc} (hp : d.Perm l) (hs : sortedR d) (hl : l.Pairwise sep2) : d = srtR l :=
 List.Perm.eq_of_pairwise (le := fun x y => ¬ ltR y x) (fun a b ha hb h1 h2 => by
  rcases sep_all hl a (hp.mem_iff.1 ha) b ((srtR_perm l).mem_iff.1 hb) with e | e | e
  ·
   exact e
  ·
   exact absurd e h2
  ·
   exact absurd e h1) hs (srtR_sorted l) (hp.trans (srtR_perm l).symm)
theorem recs_sep {now : Int} {l : List En} (h : l.Pairwise aprt) : (recs now s l).Pairwise sep2 := by
 unfold recs
 rw [List.pairwise_map]
 refine (h.filter _).imp_of_mem ?_
 intro x y hx hy ⟨hk, _⟩
 have hnx := (hit_nm ((Bool.and_eq_true _ _ ▸ (List.mem_filter.1 hx).2 : _ ∧ _).1)).1
 have hny := (hit_nm ((Bool.and_eq_true _ _ ▸ (List.mem_filter.1 hy).2 : _ ∧ _).1)).1
 rcases ltR_tri (rcOf now x) (rcOf now y) with a | ⟨a1, a2, a3⟩ | a
 ·
  exact .inl a
 ·
  refine absurd ?_ hk
  have e0 := bytes_ext (hnx.trans hny.symm)
  have e3 := bytes_ext a3
  simp only [rcOf] at a1 a2 e3
  simp only [keyE, e0, a1, a2, e3]
 ·
  exact .inr a
def lookD (now : Int) (s : ByteArray) (l : List En) : List Rc := srtR (recs now s l)
def knwD (now : Int) (s : ByteArray) (l : List En) : Bool := l.any (hitB now s)
def LookD (w0 : World) (D : Nat → Prop) (L : List Res) (m : List Rc) (k : Bool) (w : World) (e : Ending) (w' : World) : Prop :=
 ∃ a cap, e = .returned (.tuple #[.slice a m.length cap, .bool k]) ∧ Own w0 D w' (L ++ [rowR (.slice a m.length cap) 131 5 m.length (m.flatMap cRc)]) ∧ w.heap.size ≤ w'.heap.size
theorem look_d {w0 w : World} {D : Nat → Prop} {L : List Res} {c : Nat} {l : List En} (now : Int) (s : ByteArray) (h : Own w0 D w L) (i : Nat) (hi : L[i]? = some (resC c l)) (hl : l.length ≤ 32) (ha : l.Pairwise aprt) {m : List Rc} {k : Bool} (hm : lookD now s l = m) (hk : knwD now s l = k) :
  Calls Tryz.prog 114 #[.pointer (some ⟨c, 0, none⟩), .int .i64 now, .string s] w (LookD w0 D L m k w) :=
 (look_r now s h i hi (by omega) (look_eq ha)).mono fun e w' ⟨v, d', he, hp, hs, hO, hz⟩ => by
  have hd : d' = m := (srt_unique hp hs (recs_sep ha)).trans hm
  subst hd
  obtain ⟨p, cap, rfl⟩ := row_shape (hO.row L.length (last_get L _))
  exact ⟨p, cap, by rw [he, ← hk]; rfl, hO, hz⟩
theorem recs_len_le (now : Int) (s : ByteArray) (l : List En) : (recs now s l).length ≤ l.length := by
 unfold recs; rw [List.length_map]; exact List.length_filter_le _ _
theorem lookD_len (now : Int) (s : ByteArray) (l : List En) : (lookD now s l).length = (recs now s l).length := (srtR_perm _).length_eq
theorem lookD_mem {now : Int} {l : List En} {y : Rc} : y ∈ lookD now s l ↔ ∃ e ∈ l, hitB now s e = true ∧ e.kd ≠ 0 ∧ y = rcOf now e := by
 unfold lookD
 rw [(srtR_perm _).mem_iff]
 unfold recs
 simp only [List.mem_map, List.mem_filter, Bool.and_eq_true, decide_eq_true_eq]
 constructor
 ·
  rintro ⟨e, ⟨h1, h2, h3⟩, rfl⟩; exact ⟨e, h1, h2, h3, rfl⟩
 ·
  rintro ⟨e, h1, h2, h3, rfl⟩; exact ⟨e, ⟨h1, h2, h3⟩, rfl⟩
end Go.Proofs.YtbhglemolpfnkaaGreatDoor
