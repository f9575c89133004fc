/- The data of package firewall in memory: rules, flows, keys, the filter. -/
import Derived.Laws.StructEq
import Derived.Test.YtjngfhgcifhioaaMapS
import Derived.Test.YtjngfhgcifhioaaAddr
namespace Go.Proofs.Ytjngfhgcifhioaa
open Go.RowKit Go.Sort
set_option linter.unusedVariables false
set_option maxRecDepth 100000

structure FK where
  pr : Int
  he : Int
  hp : Int
  th : Int
  tp : Int
deriving DecidableEq
structure Us where
  la : Int
  nu : Int
structure Rl where
  inn : Bool
  pr : Int
  na : Int
  nb : Int
  lo : Int
  hi : Int
  ps : Bool
structure Fl where
  pr : Int
  he : Int
  hp : Int
  th : Int
  tp : Int
  sy : Bool
  fi : Bool
  rs : Bool
  sq : Int
abbrev encK (k : FK) : Value := .agg #[.int .i64 k.pr, .int .i64 k.he, .int .i64 k.hp, .int .i64 k.th, .int .i64 k.tp]
abbrev valU (u : Us) : Value := .agg #[.int .i64 u.la, .int .i64 u.nu]
abbrev rlA (r : Rl) : Array Value := #[.bool r.inn, .int .i64 r.pr, .int .i64 r.na, .int .i64 r.nb, .int .i64 r.lo, .int .i64 r.hi, .bool r.ps]
abbrev rlV (r : Rl) : Value := .agg (rlA r)
def cRl (r : Rl) : List Value := (rlA r).toList
abbrev flA (x : Fl) : Array Value := #[.int .i64 x.pr, .int .i64 x.he, .int .i64 x.hp, .int .i64 x.th, .int .i64 x.tp, .bool x.sy, .bool x.fi, .bool x.rs, .int .i64 x.sq]
abbrev flV (x : Fl) : Value := .agg (flA x)
def keyF (x : Fl) : FK := ⟨x.pr, x.he, x.hp, x.th, x.tp⟩
theorem encK_inj (a b : FK) (h : encK a = encK b) : a = b := by cases a; cases b; simp at h; simp [h]

theorem stK : Try.prog.stoodInHeld 105 = false := by kernel_rfl
theorem run_eqK (a b : FK) (w : World) : (Op.equalIn 10000 105 (encK a) (encK b)).run Try.prog w = .ok (decide (a = b)) w := by
  have hu : Try.prog.underlying 105 = some (.struct (Try.prog.fieldsOf 105)) := by kernel_rfl
  rw [run_equalIn_agg w 9999 105 _ _ hu stK]
  obtain ⟨a0, a1, a2, a3, a4⟩ := a
  obtain ⟨b0, b1, b2, b3, b4⟩ := b
  have hf : ∃ f1 f2 f3 f4 f5 : Field, (Try.prog.fieldsOf 105).toList = [f1, f2, f3, f4, f5] ∧ (f1.name ≠ "_" ∧ f2.name ≠ "_" ∧ f3.name ≠ "_" ∧ f4.name ≠ "_" ∧ f5.name ≠ "_") ∧ (f1.type = 3 ∧ f2.type = 3 ∧ f3.type = 3 ∧ f4.type = 3 ∧ f5.type = 3) ∧ f1.offset = 0 ∧ f2.offset = 1 ∧ f3.offset = 2 ∧ f4.offset = 3 ∧ f5.offset = 4 := ⟨_, _, _, _, _, rfl, ⟨by decide, by decide, by decide, by decide, by decide⟩, ⟨rfl, rfl, rfl, rfl, rfl⟩, rfl, rfl, rfl, rfl, rfl⟩
  obtain ⟨f1, f2, f3, f4, f5, e', ⟨n1, n2, n3, n4, n5⟩, ⟨t1, t2, t3, t4, t5⟩, o1, o2, o3, o4, o5⟩ := hf
  rw [e']
  have p1 : ∀ x y z u v : Int, (part 3 #[.int .i64 x, .int .i64 y, .int .i64 z, .int .i64 u, .int .i64 v] 0).run Try.prog w = .ok (.int .i64 x) w := fun x y z u v => by kernel_rfl
  have p2 : ∀ x y z u v : Int, (part 3 #[.int .i64 x, .int .i64 y, .int .i64 z, .int .i64 u, .int .i64 v] 1).run Try.prog w = .ok (.int .i64 y) w := fun x y z u v => by kernel_rfl
  have p3 : ∀ x y z u v : Int, (part 3 #[.int .i64 x, .int .i64 y, .int .i64 z, .int .i64 u, .int .i64 v] 2).run Try.prog w = .ok (.int .i64 z) w := fun x y z u v => by kernel_rfl
  have p4 : ∀ x y z u v : Int, (part 3 #[.int .i64 x, .int .i64 y, .int .i64 z, .int .i64 u, .int .i64 v] 3).run Try.prog w = .ok (.int .i64 u) w := fun x y z u v => by kernel_rfl
  have p5 : ∀ x y z u v : Int, (part 3 #[.int .i64 x, .int .i64 y, .int .i64 z, .int .i64 u, .int .i64 v] 4).run Try.prog w = .ok (.int .i64 v) w := fun x y z u v => by kernel_rfl
  have hd : decide ((⟨a0, a1, a2, a3, a4⟩ : FK) = ⟨b0, b1, b2, b3, b4⟩) = (a0 == b0 && (a1 == b1 && (a2 == b2 && (a3 == b3 && a4 == b4)))) := by
    rw [Bool.eq_iff_iff]; simp
  rw [hd]
  cases h1 : (a0 == b0) <;> cases h2 : (a1 == b1) <;> cases h3 : (a2 == b2) <;> cases h4 : (a3 == b3) <;> cases h5 : (a4 == b4) <;>
    simp [Op.eqFields, n1, n2, n3, n4, n5, t1, t2, t3, t4, t5, o1, o2, o3, o4, o5, p1, p2, p3, p4, p5, run_equalIn_int w _ 3 .i64 .i64 _ _ Try.underlying3, h1, h2, h3, h4, h5]
theorem keyK : KeyRun Try.prog 105 encK where
  check := fun e k w => by kernel_rfl
  find := ⟨.struct (Try.prog.fieldsOf 105), by kernel_rfl, .inr ⟨fun a b => rfl, fun a b w => by
    show (Op.equalIn 10000 105 _ _).run Try.prog w = _
    rw [run_eqK]⟩⟩
  bits := fun a => by
    have : ∀ x y z u v : Int, Instr.sameBits 10000 (.agg #[.int .i64 x, .int .i64 y, .int .i64 z, .int .i64 u, .int .i64 v]) (.agg #[.int .i64 x, .int .i64 y, .int .i64 z, .int .i64 u, .int .i64 v]) = ((x == x) && ((y == y) && ((z == z) && ((u == u) && (v == v))))) := fun x y z u v => by
      simp [Instr.sameBits]
    rw [this]; simp
theorem zeroU (w : World) : (zeroValue 108).run Try.prog w = .ok (.agg #[.int .i64 0, .int .i64 0]) w := by kernel_rfl
theorem egK : Try.prog.eqGuardType Try.prog.depth 105 = false := by kernel_rfl
theorem run_eqlK (a b : FK) (w : World) : (binOp .eql 105 (encK a) (encK b)).run Try.prog w = .ok (.bool (decide (a = b))) w := by
  rw [run_eql_struct, run_eqK]; rfl

/-- The flows as the map's entries. -/
def mapU (m : List (FK × Us)) : List (FK × Value) := m.map fun x => (x.1, valU x.2)
structure FSt where
  rl : List Rl
  m : List (FK × Us)
  ins : Int
/-- A map, or none. -/
def mapO (o : Value) (m : List (FK × Us)) : Res where
  P w F := (o = .map none ∧ m = [] ∧ ∀ x, ¬ F x) ∨ ∃ b, o = .map (some b) ∧ (mapR encK b (mapU m)).P w F
  bound h x hx := by
    rcases h with ⟨_, _, hn⟩ | ⟨b, _, h⟩
    · exact (hn x hx).elim
    · exact (mapR encK b (mapU m)).bound h x hx
  move h hu hF := by
    rcases h with h | ⟨b, e, h⟩
    · exact .inl h
    · exact .inr ⟨b, e, (mapR encK b (mapU m)).move h hu hF⟩
abbrev blkF (f : Nat) (vr om : Value) (ins : Int) : Res := blkR f (.cells #[vr, om, .int .i64 ins] 77)
abbrev rowRl (v : Value) (l : List Rl) : Res := rowR v 74 7 l.length (l.flatMap cRl)
/-- A filter at f that holds st. -/
def resF (f : Nat) (st : FSt) : Res := exR fun vs : Value × Value => sepR [blkF f vs.1 vs.2 st.ins, rowRl vs.1 st.rl, mapO vs.2 st.m]
section
variable {w0 w : World} {D : Nat → Prop} {L : List Res} {f : Nat} {st : FSt}
theorem openF (h : Own w0 D w [resF f st]) : ∃ vr om, Own w0 D w [blkF f vr om st.ins, rowRl vr st.rl, mapO om st.m] := by
  obtain ⟨⟨vr, om⟩, h⟩ := h.openEx
  exact ⟨vr, om, h.open⟩
theorem shutF {vr om : Value} (h : Own w0 D w [blkF f vr om st.ins, rowRl vr st.rl, mapO om st.m]) : Own w0 D w [resF f st] := Own.shutEx (f := fun vs : Value × Value => sepR [blkF f vs.1 vs.2 st.ins, rowRl vs.1 st.rl, mapO vs.2 st.m]) (vr, om) h.shut
theorem mapO_open (h : Own w0 D w L) (i : Nat) {o : Value} {m : List (FK × Us)} (hi : L[i]? = some (mapO o m)) : (o = .map none ∧ m = []) ∨ ∃ b, o = .map (some b) ∧ Own w0 D w (L.set i (mapR encK b (mapU m))) := by
  obtain ⟨F, h1, _, h3⟩ := h.step hi
  rcases h1 with ⟨e, hm, _⟩ | ⟨b, e, hb⟩
  · exact .inl ⟨e, hm⟩
  · exact .inr ⟨b, e, h3 (R' := mapR encK b (mapU m)) hb (fun _ h => .inl h) (Upd.refl _ _)⟩
theorem mapO_shut (h : Own w0 D w L) (i : Nat) {b : Nat} {m : List (FK × Us)} (hi : L[i]? = some (mapR encK b (mapU m))) : Own w0 D w (L.set i (mapO (.map (some b)) m)) := by
  obtain ⟨F, h1, _, h3⟩ := h.step hi
  exact h3 (R' := mapO (.map (some b)) m) (F' := F) (.inr ⟨b, rfl, h1⟩) (fun _ h => .inl h) (Upd.refl _ _)
theorem mapO_none (h : Own w0 D w L) : Own w0 D w (L ++ [mapO (.map none) []]) :=
  h.push (R := mapO (.map none) []) (F := fun _ => False) (.inl ⟨rfl, rfl, fun _ h => h⟩) (fun _ h => h.elim) (Below.refl _ _)
end

/-- What the functions compute. -/
def portB (n : Int) : Bool := decide (0 ≤ n ∧ n ≤ 65535)
def hostB (n : Int) : Bool := !(n == 0) && validB n
def validF (x : Fl) : Bool := decide (0 ≤ x.pr ∧ x.pr ≤ 255) && hostB x.he && hostB x.th && portB x.hp && portB x.tp
def invalR (r : Rl) : Bool := !(decide (0 ≤ r.pr ∧ r.pr ≤ 255) && vpB r.na r.nb && decide (0 ≤ r.lo ∧ r.lo ≤ r.hi ∧ r.hi ≤ 65535))
def matchR (x : Fl) (inn : Bool) (r : Rl) : Bool := (r.inn == inn) && (r.pr == 0 || r.pr == x.pr) && conB r.na r.nb x.th && decide (r.lo ≤ (if inn then x.hp else x.tp)) && decide ((if inn then x.hp else x.tp) ≤ r.hi)
def admitF (rl : List Rl) (x : Fl) (inn : Bool) : Bool := match rl.find? (matchR x inn) with
  | some r => r.ps
  | none => !inn
def oldU (now : Int) (u : Us) : Bool := decide (u.la < now) && decide (400 < now - u.la)
def expF (now : Int) (m : List (FK × Us)) : List (FK × Us) := m.filter fun x => !oldU now x.2
def getU (k : FK) : List (FK × Us) → Option Us
  | [] => none
  | x :: l => if k = x.1 then some x.2 else getU k l
def setU (k : FK) (u : Us) : List (FK × Us) → List (FK × Us)
  | [] => [(k, u)]
  | x :: l => if k = x.1 then (k, u) :: l else x :: setU k u l
def delU (k : FK) (m : List (FK × Us)) : List (FK × Us) := m.filter fun x => x.1 ≠ k
theorem mapU_set (k : FK) (u : Us) : ∀ m, mset k (valU u) (mapU m) = mapU (setU k u m)
  | [] => rfl
  | x :: m => by
    simp only [mapU, List.map_cons, mset, setU]
    split
    · rfl
    · have := mapU_set k u m
      simp only [mapU] at this
      rw [this]; rfl
theorem mapU_get (k : FK) : ∀ m, asc k (mapU m) = (getU k m).map valU
  | [] => rfl
  | x :: m => by
    simp only [mapU, List.map_cons, asc, getU]
    split
    · rfl
    · exact mapU_get k m
def keysU (m : List (FK × Us)) : List FK := m.map (·.1)
theorem mapU_keys (m : List (FK × Us)) : (mapU m).map (·.1) = keysU m := by simp [mapU, keysU]
theorem mapU_del {k : FK} : ∀ {m : List (FK × Us)}, (keysU m).Nodup → mdel k (mapU m) = mapU (delU k m)
  | [], _ => rfl
  | x :: m, h => by
    simp only [keysU, List.map_cons, List.nodup_cons] at h
    simp only [mapU, List.map_cons, mdel, delU]
    by_cases hk : k = x.1
    · rw [if_pos hk, List.filter_cons_of_neg (by simp [hk])]
      congr 1
      rw [List.filter_eq_self.2]
      intro y hy
      have : y.1 ≠ k := fun e => h.1 (by rw [← hk, ← e]; exact List.mem_map_of_mem hy)
      simp [this]
    · rw [if_neg hk, List.filter_cons_of_pos (by simp [Ne.symm hk])]
      simp only [List.map_cons]
      have := mapU_del (k := k) h.2
      simp only [mapU, delU] at this
      rw [this]
theorem keysU_filter {m : List (FK × Us)} (p : FK × Us → Bool) (h : (keysU m).Nodup) : (keysU (m.filter p)).Nodup := (List.filter_sublist.map _).nodup h

end Go.Proofs.Ytjngfhgcifhioaa
