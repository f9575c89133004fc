/- A machine of symbolic values: rows, maps, conversions; one operation. -/
import Derived.Test.YthdnonoheochhaaGreatDoorVa
import Derived.Test.YthdnonoheochhaaGreatDoorApp
import Derived.Laws.BytesString
namespace Go.Proofs.YthdnonoheochhaaGreatDoor
open Go.RowKit
set_option linter.unusedVariables false
section
variable {w0 w w' : World} {D : Nat → Prop} {N : Nat} {R : Nat → Res}
theorem OwnN.trade (h : OwnN w0 D w N R) {i : Nat} (hi : i < N) :
    ∃ F, (R i).P w F ∧ ∀ {w' : World} {Q : Res} {F' : Nat → Prop}, Q.P w' F' → (∀ b, F' b → F b ∨ w.heap.size ≤ b) → Upd F w w' → OwnN w0 D w' (N + 1) (fun j => if j = N then Q else if j = i then noR else R j) := by
  obtain ⟨h1, Fs, h2, h3⟩ := h
  refine ⟨Fs i, (h2 i hi).1, fun {w' Q F'} hR' hF' hu => ⟨h1.then hu (fun b hb hf => ((h2 i hi).2 b hf).elim id (fun h => by omega)), fun j => if j = N then F' else if j = i then fun _ => False else Fs j, fun j hj => ?_, fun j k hj hk hjk b => ?_⟩⟩
  · by_cases e : j = N
    · simp only [if_pos e]
      exact ⟨hR', fun b hb => (hF' b hb).elim ((h2 i hi).2 b) (fun h => .inr (Nat.le_trans h1.size h))⟩
    · simp only [if_neg e]
      by_cases e2 : j = i
      · simp only [if_pos e2]
        exact ⟨fun b hb => hb, fun b hb => hb.elim⟩
      · simp only [if_neg e2]
        have hj' : j < N := by omega
        exact ⟨(R j).move (h2 j hj').1 hu (h3 j i hj' hi e2), (h2 j hj').2⟩
  · have key : ∀ k, k < N → k ≠ i → ∀ b, F' b → ¬ Fs k b := fun k hk e b hb hkb => by
      rcases hF' b hb with h | h
      · exact h3 i k hi hk (fun h => e h.symm) b h hkb
      · have := (R k).bound (h2 k hk).1 b hkb
        omega
    dsimp only
    by_cases e1 : j = N
    · by_cases e2 : k = N
      · exact absurd (e1.trans e2.symm) hjk
      · rw [if_pos e1, if_neg e2]
        by_cases e3 : k = i
        · rw [if_pos e3]; exact fun _ h => h
        · rw [if_neg e3]; exact key k (by omega) e3 b
    · rw [if_neg e1]
      by_cases e2 : j = i
      · rw [if_pos e2]; exact fun h => h.elim
      · rw [if_neg e2]
        by_cases e3 : k = N
        · rw [if_pos e3]; exact fun a c => key j (by omega) e2 b c a
        · rw [if_neg e3]
          by_cases e4 : k = i
          · rw [if_pos e4]; exact fun _ h => h
          · rw [if_neg e4]; exact h3 j k (by omega) (by omega) hjk b
end
section
variable {A : Type} {ar : A → List Value → Value → Res} {P : Program} {B : Nat → Prop} {w0 w : World} {D : Nat → Prop} {ρ : En} {M : List (Pl A)}
theorem At.trade (h : At ar w0 D w ρ M) (hB : ∀ n, B n → n < M.length ∨ M.length + 1 ≤ n) (hs : scM B M) {n : Nat} (hn : n < M.length) : ∃ F, (denP ar ρ n (Mget M n)).P w F ∧
    ∀ {w' : World} {p : Pl A} {v : Value} {F' : Nat → Prop}, (denP ar (upE ρ M.length v) M.length p).P w' F' → (∀ b, F' b → F b ∨ w.heap.size ≤ b) → Upd F w w' → At ar w0 D w' (upE ρ M.length v) (M.set n .none ++ [p]) := by
  obtain ⟨F, h1, h2⟩ := OwnN.trade h hn
  refine ⟨F, h1, fun {w' p v F'} hp hF hu => ?_⟩
  have hup : ∀ n, n < M.length → upE ρ M.length v n = ρ n := fun n hn => if_neg (by omega)
  have he : ∀ n, B n → upE ρ M.length v n = ρ n := fun n hn => if_neg (by have := hB n hn; omega)
  unfold At
  rw [List.length_append, List.length_set]
  refine (h2 hp hF hu).congr fun i hi => ?_
  by_cases e : i = M.length
  · subst e
    rw [if_pos rfl]
    have : Mget (M.set n .none ++ [p]) M.length = p := by
      have := Mget_new (M := M.set n .none) (p := p)
      rwa [List.length_set] at this
    rw [this]
  · have hlt : i < M.length := by have : i < M.length + 1 := hi; omega
    rw [if_neg e, Mget_app (by rw [List.length_set]; exact hlt)]
    by_cases e2 : i = n
    · subst e2; rw [if_pos rfl, Mget_set hlt]; rfl
    · rw [if_neg e2, Mget_set_ne (Ne.symm e2)]
      exact denP_eq ar he (hup i hlt) _ (hs i)
theorem scM_trade {M : List (Pl A)} {n : Nat} {p : Pl A} (hS : scM B M) (hp : p.sc B) : scM (wid B M.length (M.set n .none ++ [p]).length) (M.set n .none ++ [p]) := by
  have := scM_new (scM_set (n := n) hS (show (Pl.none : Pl A).sc B from trivial)) hp
  rwa [List.length_set] at this
theorem ext_one {n : Nat} {ρ : En} {v : Value} : Ext n (n + 1) ρ (upE ρ n v) := fun k hk => if_neg (by omega)
theorem row_take {w : World} {v : Value} {E sz n : Nat} {xs : List Value} (h : w.ownsRow 0 E sz v n xs) {m : Nat} (hm : m ≤ n) : w.ownsRow 0 E sz (subOf sz 0 m v) m (xs.take (m * sz)) := by
  obtain ⟨hx, ⟨rfl, rfl⟩ | ⟨g, cp, cur, rfl, hb, hh, hcp, hmx, hs, htk⟩⟩ := h
  · have : m = 0 := by omega
    subst this
    exact ⟨by simp, .inl ⟨rfl, rfl⟩⟩
  · have hms : m * sz ≤ n * sz := Nat.mul_le_mul_right _ hm
    refine ⟨by rw [List.length_take, hx]; omega, .inr ⟨g, cp, cur, ?_, hb, hh, by omega, hmx, hs, ?_⟩⟩
    · simp [subOf]
    · rw [← htk, List.take_take]
      congr 1
      omega
theorem own_sub (sz i m : Nat) (v : Value) : (subOf sz i m v).ownBlock = v.ownBlock := by
  cases v with
  | slice a l c => cases a <;> rfl
  | _ => rfl
theorem flat_take {α : Type} {sz : Nat} : ∀ {xs : List (List α)}, (∀ x ∈ xs, x.length = sz) → ∀ m, (xs.take m).flatten = xs.flatten.take (m * sz)
  | [], _, m => by simp
  | x :: xs, h, 0 => by simp
  | x :: xs, h, m + 1 => by
    have hx := h x List.mem_cons_self
    rw [List.take_succ_cons, List.flatten_cons, List.flatten_cons, flat_take (fun y hy => h y (List.mem_cons_of_mem _ hy)) m, show (m + 1) * sz = x.length + m * sz by rw [hx, Nat.add_mul]; omega, List.take_length_add_append]
theorem flat_drop {α : Type} {sz : Nat} : ∀ {xs : List (List α)}, (∀ x ∈ xs, x.length = sz) → ∀ m, (xs.drop m).flatten = xs.flatten.drop (m * sz)
  | [], _, m => by simp
  | x :: xs, h, 0 => by simp
  | x :: xs, h, m + 1 => by
    have hx := h x List.mem_cons_self
    rw [List.drop_succ_cons, List.flatten_cons, flat_drop (fun y hy => h y (List.mem_cons_of_mem _ hy)) m, show (m + 1) * sz = x.length + m * sz by rw [hx, Nat.add_mul]; omega, List.drop_length_add_append]
theorem view_cells {w : World} {v : Value} {E sz : Nat} {xs : List (List V)} {ρ : En} (hl : ∀ x ∈ xs, x.length = sz) (h : w.ownsRow 0 E sz v xs.length (denL ρ xs.flatten)) {i m : Nat} (hm : i + m ≤ xs.length) (hp : 0 < m) :
    ∃ a c, subOf sz i m v = .slice (some a) m c ∧ ∀ j u, (denL ρ ((xs.drop i).take m).flatten)[j]? = some u → w.cell? (a.add j) = some u := by
  obtain ⟨c, hc, ⟨_, h0, _⟩ | ⟨g, hv, hsub⟩⟩ := sub_spec h sz i m hm
  · omega
  · have hne : c ≠ i := by omega
    rw [if_neg hne] at hsub
    refine ⟨_, _, hsub, fun j u hu => ?_⟩
    rw [add_ptr]
    have hdl : ∀ y ∈ xs.drop i, y.length = sz := fun y hy => hl y (List.mem_of_mem_drop hy)
    rw [flat_take hdl, flat_drop hl, denL_get, List.getElem?_take] at hu
    split at hu
    · rw [List.getElem?_drop] at hu
      have hb : blkOf v = g := by rw [hv]; rfl
      rw [← hb]
      exact own_cells h (by rw [denL_get]; exact hu)
    · cases hu
end
end Go.Proofs.YthdnonoheochhaaGreatDoor
namespace Go.Proofs.YthdnonoheochhaaGreatDoor
open Go.RowKit
set_option linter.unusedVariables false
section
variable {A : Type} {ar : A → List Value → Value → Res} {P : Program} {B : Nat → Prop}
def elO (P : Program) (t : TypeId) : Option (TypeId × Nat × Nat) := match P.underlying t with
  | some (.slice e) => (match P.info? e with
    | some i => (match i.zero with
      | some z => (match Nat.beq z.cells.size i.size && Nat.blt 0 i.size with
        | true => some (e, i.size, i.bytes)
        | false => none)
      | none => none)
    | none => none)
  | _ => none
theorem elO_spec {t e sz by_ : Nat} (h : elO P t = some (e, sz, by_)) : P.underlying t = some (.slice e) ∧ ∃ i z, P.info? e = some i ∧ i.zero = some z ∧ i.size = sz ∧ i.bytes = by_ ∧ z.cells.size = sz ∧ 0 < sz := by
  unfold elO at h
  split at h
  · rename_i e' hu
    split at h
    · rename_i i hi
      split at h
      · rename_i z hz
        split at h
        · rename_i hc
          simp only [Bool.and_eq_true, Nat.blt_eq] at hc
          have h1 := Nat.eq_of_beq_eq_true hc.1
          simp only [Option.some.injEq, Prod.mk.injEq] at h
          obtain ⟨rfl, rfl, rfl⟩ := h
          exact ⟨hu, i, z, hi, hz, rfl, rfl, h1, hc.2⟩
        · cases h
      · cases h
    · cases h
  · cases h
def appX (x : V) (k : List (List V) → T A) : T A := match x with
  | .sl n sz i (m + 1) => rowG n i (m + 1) fun _ s xs => (match Nat.beq s sz with
    | true => k ((xs.drop i).take (m + 1))
    | false => .fail 510)
  | _ => .fail 511
def evApp0 (P : Program) (t : TypeId) (s x : V) : T A := match elO P t with
  | some _ => (match x with
    | .lit (.slice none 0 0) => (match s with
      | .lit (.slice none 0 0) => .ret (rv s)
      | .sl n sz i m => rowG n i m fun _ _ _ => .ret (rv (.sl n sz i m))
      | _ => .fail 516)
    | .sl n2 _ i2 0 => rowG n2 i2 0 fun _ _ _ => (match s with
      | .lit (.slice none 0 0) => .ret (rv s)
      | .sl n sz i m => rowG n i m fun _ _ _ => .ret (rv (.sl n sz i m))
      | _ => .fail 516)
    | _ => .fail 517)
  | none => .fail 518
def isNil : V → Bool
  | .lit (.slice none 0 0) => true
  | .sl _ _ _ 0 => true
  | _ => false
def evAppN (P : Program) (t : TypeId) (s x : V) : T A := match elO P t with
  | some (e, sz, by_) => (match s with
    | .lit (.slice none 0 0) => appX x fun ys => (match Nat.ble ys.length 9223372036854775807 && Nat.ble (ys.length * by_) 140737488355328 && ys.all fun y => Nat.beq y.length sz with
      | true => chk ys.flatten (.new (.row e sz ys) fun N => .ret (rv (.sl N sz 0 ys.length)))
      | false => .fail 512)
    | .sl n _ 0 m => rowG n 0 m fun e' sz' xs => (match Nat.beq e' e && Nat.beq sz' sz with
      | true => appX x fun ys => (match Nat.ble (m + ys.length) 9223372036854775807 && Nat.ble ((m + ys.length) * by_) 140737488355328 && ys.all fun y => Nat.beq y.length sz with
        | true => chk ys.flatten (.put n .none (.new (.row e sz (xs.take m ++ ys)) fun N => .ret (rv (.sl N sz 0 (m + ys.length)))))
        | false => .fail 512)
      | false => .fail 513)
    | _ => .fail 514)
  | none => .fail 515
def evApp (P : Program) (t : TypeId) (s x : V) : T A := match isNil x with
  | true => evApp0 P t s x
  | false => evAppN P t s x
theorem appX_run {x : V} {k : List (List V) → T A} {M : List (Pl A)} {ch : List Bool} {obs : Obs} {lg : Lg} {r M' ch' obs' lg'} (h : (appX x k).run ch M obs lg = .ok r M' ch' obs' lg') :
    ∃ n sz i m t xs lg2, x = .sl n sz i m ∧ 0 < m ∧ Mget M n = .row t sz xs ∧ i + m ≤ xs.length ∧ (k ((xs.drop i).take m)).run ch M obs lg2 = .ok r M' ch' obs' lg' := by
  unfold appX at h
  split at h
  · rename_i n sz i m
    obtain ⟨t, s, xs, lg2, h1, h2, h3⟩ := rowG_run h
    split at h3
    · rename_i hs
      have hs' : s = sz := Nat.eq_of_beq_eq_true hs
      subst hs'
      exact ⟨n, s, i, m + 1, t, xs, lg2, rfl, by omega, h1, h2, h3⟩
    · cases h3
  · cases h
theorem sub_full {w : World} {v : Value} {E sz n : Nat} {xs : List Value} (h : w.ownsRow 0 E sz v n xs) (s : Nat) : subOf s 0 n v = v := by
  obtain ⟨c, _, ⟨rfl, rfl, _, _⟩ | ⟨g, rfl, _⟩⟩ := sub_spec h s 0 n (by omega)
  · rfl
  · simp [subOf]
theorem evAppN_snd {o : Oper} {e : Operand → V} {t t' : TypeId} {s x : Operand} (hop : o.op = .call { callee := .builtin .append, args := #[s, x], argTypes := #[t, t'] }) (hs : (e s).sc B) (hxs : (e x).sc B) (htt : t' = t) :
    Snd ar P (evAppN P t (e s) (e x) : T A) B (fun ρ => execOp (fun x => (e x).den ρ) o) := by
  subst htt
  have hx : ∀ ρ, execOp (fun x => (e x).den ρ) o = (do let r ← Builtin.append_ #[t', t'] o.type #[(e s).den ρ, (e x).den ρ]; pure (.value r)) := fun ρ => by
    unfold execOp; rw [hop]; simp [resolve, invoke, builtin]
  have ml : maxLen = 9223372036854775807 := rfl
  unfold evAppN
  split
  case h_2 => exact Snd.fail
  rename_i el sz by_ hel
  obtain ⟨ht, i, z, hi, hz, hsz, hby, hzs, hpos⟩ := elO_spec hel
  split
  · rename_i hes
    rw [hes] at hx hs
    intro ch M obs lg r M' ch' obs' lg' hr ho ρ w0 D w hB hA hS
    obtain ⟨n, sz', i', m, t2, xs, lg2, hex, hm, hM, hle, hr⟩ := appX_run hr
    rw [hex] at hx hxs
    split at hr
    case h_2 => cases hr
    rename_i hc
    simp only [Bool.and_eq_true, Nat.ble_eq, List.all_eq_true] at hc
    obtain ⟨⟨hc1, hc2⟩, hc3⟩ := hc
    obtain ⟨lg3, hr, hone⟩ := chk_run hr
    have h1 := one_of hA hone
    cases hr
    have hyl : ((xs.drop i').take m).length = m := by rw [List.length_take, List.length_drop]; omega
    have hys : ∀ y ∈ (xs.drop i').take m, y.length = sz := fun y hy => Nat.eq_of_beq_eq_true (hc3 y hy)
    obtain ⟨hl, hrow⟩ := hA.row hM
    obtain ⟨a, c, hsub, hcells⟩ := view_cells hl hrow hle hm
    have hnl : (denL ρ ((xs.drop i').take m).flatten).length = m * sz := by rw [denL_len, flat_len hys, hyl]
    rw [hyl] at hc1 hc2
    obtain ⟨v', w', hrun, r1, r2, r3⟩ := run_append_near (P := P) w 0 t' o.type el i z sz by_ ht hi hz hsz hby hzs hpos (.slice none 0 0) 0 [] (World.ownsRow_nil w _ _ _) a m c _ hnl hcells h1 (by rw [ml]; omega) (by rw [Nat.zero_add]; exact hc2) (Nat.zero_le _)
    rw [Nat.zero_add, List.nil_append] at r1
    have hnew : ∀ b, v'.ownBlock = some b → w.heap.size ≤ b := fun b hb => by
      rcases r3 with h | h | ⟨g, h, hg⟩
      · rw [h] at hb; cases hb
      · rw [h] at hb; cases hb
      · rw [h] at hb; cases hb; exact hg
    have hysc : scL B ((xs.drop i').take m).flatten := scL_iff.2 fun u hu => by
      obtain ⟨y, hy, huy⟩ := List.mem_flatten.1 hu
      have := hS n
      rw [hM] at this
      exact scL_iff.1 (show scL B xs.flatten from this) u (List.mem_flatten.2 ⟨y, List.mem_of_mem_drop (List.mem_of_mem_take hy), huy⟩)
    have hB' : ∀ n, B n → n < M.length ∨ M.length + 1 ≤ n := fun n hn => by have := hB n hn; simpa using this
    have he : ∀ n, B n → upE ρ M.length v' n = ρ n := fun n hn => if_neg (by have := hB' n hn; omega)
    refine ⟨.sl M.length sz 0 ((xs.drop i').take m).length, upE ρ M.length v', w', rfl, .inl ?_, by rw [List.length_append]; exact ext_one, hA.mk hB' hS (F := fun b => v'.ownBlock = some b) ?_ hnew (below_of_grown r2), .inr ⟨Nat.le_refl _, by simp⟩, scM_new hS (show scL B _ from hysc)⟩
    · show (execOp (fun x => (e x).den ρ) o).run P w = _
      rw [hx]
      simp only [V.den, hsub, Sem.run_bind, hrun, Result.andThen_ok, upE, if_pos, hyl, sub_full r1]
      rfl
    · refine ⟨hys, ?_⟩
      simp only [upE, if_pos]
      rw [hyl, denL_eq he _ hysc]
      exact ⟨fun _ => Iff.rfl, r1⟩
  · rename_i n sz0 m hes
    rw [hes] at hx hs
    intro ch M obs lg r M' ch' obs' lg' hr ho ρ w0 D w hB hA hS
    obtain ⟨e', sz', zs, lg1, hMn, hlen, hr⟩ := rowG_run hr
    rw [Nat.zero_add] at hlen
    split at hr
    case h_2 => cases hr
    rename_i hc0
    simp only [Bool.and_eq_true] at hc0
    have he1 : e' = el := Nat.eq_of_beq_eq_true hc0.1
    have he2 : sz' = sz := Nat.eq_of_beq_eq_true hc0.2
    subst he1 he2
    obtain ⟨n2, sz2, i', k, t2, xs, lg2, hex, hm, hM, hle, hr⟩ := appX_run hr
    rw [hex] at hx hxs
    split at hr
    case h_2 => cases hr
    rename_i hc
    simp only [Bool.and_eq_true, Nat.ble_eq, List.all_eq_true] at hc
    obtain ⟨⟨hc1, hc2⟩, hc3⟩ := hc
    obtain ⟨lg3, hr, hone⟩ := chk_run hr
    have h1 := one_of hA hone
    simp only [T.run] at hr
    split at hr
    case h_2 => cases hr
    rename_i hlt
    have hlt' : n < M.length := by simpa using hlt
    cases hr
    have hyl : ((xs.drop i').take k).length = k := by rw [List.length_take, List.length_drop]; omega
    have hys : ∀ y ∈ (xs.drop i').take k, y.length = sz' := fun y hy => Nat.eq_of_beq_eq_true (hc3 y hy)
    obtain ⟨hl, hrow⟩ := hA.row hM
    obtain ⟨a, c, hsub, hcells⟩ := view_cells hl hrow hle hm
    have hnl : (denL ρ ((xs.drop i').take k).flatten).length = k * sz' := by rw [denL_len, flat_len hys, hyl]
    rw [hyl] at hc1 hc2
    obtain ⟨hzl, hzrow⟩ := hA.row hMn
    have hztake := row_take hzrow hlen
    obtain ⟨v', w', hrun, r1, r2, r3⟩ := run_append_near (P := P) w 0 t' o.type e' i z sz' by_ ht hi hz hsz hby hzs hpos _ m _ hztake a k c _ hnl hcells h1 (by rw [ml]; omega) (by omega) (Nat.zero_le _)
    rw [own_sub] at r2
    have hS' := hS n
    rw [hMn] at hS'
    have hzsc : scL B zs.flatten := hS'
    have hysc : scL B ((xs.drop i').take k).flatten := scL_iff.2 fun u hu => by
      obtain ⟨y, hy, huy⟩ := List.mem_flatten.1 hu
      have := hS n2
      rw [hM] at this
      exact scL_iff.1 (show scL B xs.flatten from this) u (List.mem_flatten.2 ⟨y, List.mem_of_mem_drop (List.mem_of_mem_take hy), huy⟩)
    have hallsc : scL B (zs.take m ++ (xs.drop i').take k).flatten := scL_iff.2 fun u hu => by
      rw [List.flatten_append] at hu
      rcases List.mem_append.1 hu with h | h
      · obtain ⟨y, hy, huy⟩ := List.mem_flatten.1 h
        exact scL_iff.1 hzsc u (List.mem_flatten.2 ⟨y, List.mem_of_mem_take hy, huy⟩)
      · exact scL_iff.1 hysc u h
    have hlens : (M.set n .none).length = M.length := List.length_set
    have hB' : ∀ n, B n → n < M.length ∨ M.length + 1 ≤ n := fun n hn => by have := hB n hn; simpa using this
    have he : ∀ n, B n → upE ρ M.length v' n = ρ n := fun n hn => if_neg (by have := hB' n hn; omega)
    obtain ⟨F, f1, f2⟩ := hA.trade hB' hS hlt'
    rw [hMn] at f1
    have hall : ∀ y ∈ zs.take m ++ (xs.drop i').take k, y.length = sz' := fun y hy => (List.mem_append.1 hy).elim (fun h => hzl y (List.mem_of_mem_take h)) (hys y)
    have htl : (zs.take m ++ (xs.drop i').take k).length = m + k := by rw [List.length_append, hyl, List.length_take]; omega
    refine ⟨.sl (M.set n .none).length sz' 0 (m + ((xs.drop i').take k).length), upE ρ M.length v', w', rfl, .inl ?_, by rw [List.length_append, hlens]; exact ext_one, ?_, ?_, ?_⟩
    · show (execOp (fun x => (e x).den ρ) o).run P w = _
      rw [hx]
      have hd : (V.sl n sz0 0 m).den ρ = subOf sz' 0 m (ρ n) := by
        show subOf sz0 0 m (ρ n) = subOf sz' 0 m (ρ n)
        cases ρ n with
        | slice a l c => cases a <;> simp [subOf]
        | _ => rfl
      rw [hd]
      simp only [V.den, hsub, Sem.run_bind, hrun, Result.andThen_ok, upE, hlens, if_pos, hyl, sub_full r1]
      rfl
    · refine f2 (v := v') (F' := fun b => v'.ownBlock = some b) ?_ (fun b hb => ?_) ((upd_of_grown r2).mono fun b _ hb => (f1.2.1 b).2 hb)
      · refine ⟨hall, ?_⟩
        simp only [upE, if_pos]
        rw [htl, denL_eq he _ hallsc]
        refine ⟨fun _ => Iff.rfl, ?_⟩
        have e3 : denL ρ (zs.take m ++ (xs.drop i').take k).flatten = (denL ρ zs.flatten).take (m * sz') ++ denL ρ ((xs.drop i').take k).flatten := by
          rw [List.flatten_append, denL_map, List.map_append, ← denL_map, ← denL_map, flat_take hzl, denL_map ρ (zs.flatten.take _), List.map_take, ← denL_map]
        rw [e3]
        exact r1
      · rcases r3 with h | h | ⟨g, h, hg⟩
        · rw [h] at hb; cases hb
        · rw [h, own_sub] at hb; exact .inl ((f1.2.1 b).2 hb)
        · rw [h] at hb; cases hb; exact .inr hg
    · rw [hlens]; exact .inr ⟨Nat.le_refl _, by simp⟩
    · exact scM_trade hS (show scL B _ from hallsc)
  · exact Snd.fail
theorem run_append_zero {t e sz by_ : Nat} (hel : elO P t = some (e, sz, by_)) (a b : Option Addr) (m c c2 : Nat) (hm : m ≤ c) (ty : TypeId) (w : World) : (Builtin.append_ #[t, t] ty #[.slice a m c, .slice b 0 c2]).run P w = .ok (.slice a m c) w := by
  obtain ⟨ht, i, z, hi, hz, hsz, hby, hzs, hpos⟩ := elO_spec hel
  have hszo : (sizeOf e).run P w = .ok sz w := by simp [sizeOf, typeInfo, hi, hsz]
  have hl : ∀ (x : Addr), (loadCells x 0).run P w = .ok #[] w := fun x => by simpa using run_loadCells_list (P := P) w x [] (by simp)
  cases a <;> cases b <;> simp [Builtin.append_, run_underlying ht, Builtin.lenOf, Builtin.firstCells, hszo, hm, storeCells, hl]
theorem nil_val {s : V} {M : List (Pl A)} {w0 w : World} {D : Nat → Prop} {ρ : En} (hA : At ar w0 D w ρ M) {n sz i m t s2 : Nat} {xs : List (List V)} (hM : Mget M n = .row t s2 xs) (hle : i + m ≤ xs.length) : ∃ a c, (V.sl n sz i m).den ρ = .slice a m c ∧ m ≤ c := by
  obtain ⟨_, hrow⟩ := hA.row hM
  obtain ⟨c, hc, ⟨_, h0, _, h⟩ | ⟨g, _, h⟩⟩ := sub_spec hrow sz i m hle
  · exact ⟨none, 0, h, by omega⟩
  · exact ⟨_, c - i, h, by omega⟩
theorem evApp_snd {o : Oper} {e : Operand → V} {t t' : TypeId} {s x : Operand} (hop : o.op = .call { callee := .builtin .append, args := #[s, x], argTypes := #[t, t'] }) (hs : (e s).sc B) (hxs : (e x).sc B) (htt : t' = t) :
    Snd ar P (evApp P t (e s) (e x) : T A) B (fun ρ => execOp (fun x => (e x).den ρ) o) := by
  unfold evApp
  split
  case h_2 => exact evAppN_snd hop hs hxs htt
  subst htt
  have hx : ∀ ρ, execOp (fun x => (e x).den ρ) o = (do let r ← Builtin.append_ #[t', t'] o.type #[(e s).den ρ, (e x).den ρ]; pure (.value r)) := fun ρ => by
    unfold execOp; rw [hop]; simp [resolve, invoke, builtin]
  unfold evApp0
  split
  case h_2 => exact Snd.fail
  rename_i q hel
  obtain ⟨el, sz, by_⟩ := q
  -- what is appended to
  have key : ∀ {ch obs lg r M' ch' obs' lg'} {M : List (Pl A)} {ρ : En} {w0 : World} {D : Nat → Prop} {w : World} (b : Option Addr) (c2 : Nat), (e x).den ρ = .slice b 0 c2 →
      (match e s with
      | .lit (.slice none 0 0) => .ret (rv (e s))
      | .sl n sz i m => rowG n i m fun _ _ _ => .ret (rv (.sl n sz i m))
      | _ => .fail 516 : T A).run ch M obs lg = .ok r M' ch' obs' lg' → At ar w0 D w ρ M → scM B M →
      ∃ v ρ' w', r = rv v ∧ ((execOp (fun x => (e x).den ρ) o).run P w = .ok (.value (v.den ρ')) w' ∨ ((execOp (fun x => (e x).den ρ) o).run P w = .ok .skip w' ∧ v = undV)) ∧ Ext M.length M'.length ρ ρ' ∧ At ar w0 D w' ρ' M' ∧ v.sc (wid B M.length M'.length) ∧ scM (wid B M.length M'.length) M' := fun {ch obs lg r M' ch' obs' lg' M ρ w0 D w} b c2 hb hr hA hS => by
    split at hr
    · rename_i hes
      cases hr
      refine ⟨_, ρ, w, rfl, .inl ?_, Ext.rfl', hA, V.sc_mono wid_l _ hs, scM_wid hS⟩
      rw [hx, hes, hb]
      have := run_append_zero (P := P) hel none b 0 0 c2 (Nat.le_refl _) o.type w
      simp only [V.den, Sem.run_bind, this, Result.andThen_ok]
      rfl
    · rename_i n sz0 i m hes
      obtain ⟨t2, s2, xs, lg2, hM, hle, hr⟩ := rowG_run hr
      cases hr
      obtain ⟨a, c, hv, hmc⟩ := nil_val (ar := ar) (s := undV) (sz := sz0) hA hM hle
      refine ⟨.sl n sz0 i m, ρ, w, rfl, .inl ?_, Ext.rfl', hA, V.sc_mono wid_l _ (hes ▸ hs), scM_wid hS⟩
      rw [hx, hes, hb, hv]
      have := run_append_zero (P := P) hel a b m c c2 hmc o.type w
      simp only [Sem.run_bind, this, Result.andThen_ok]
      rfl
    · cases hr
  split
  · rename_i hex
    intro ch M obs lg r M' ch' obs' lg' hr ho ρ w0 D w hB hA hS
    exact key none 0 (by rw [hex]; rfl) hr hA hS
  · rename_i n2 s2 i2 hex
    intro ch M obs lg r M' ch' obs' lg' hr ho ρ w0 D w hB hA hS
    obtain ⟨t3, s3, xs, lg2, hM, hle, hr⟩ := rowG_run hr
    obtain ⟨a, c, hv, _⟩ := nil_val (ar := ar) (s := undV) (sz := s2) hA hM hle
    exact key a c (by rw [hex]; exact hv) hr hA hS
  · exact Snd.fail
end
end Go.Proofs.YthdnonoheochhaaGreatDoor
namespace Go.Proofs.YthdnonoheochhaaGreatDoor
open Go.RowKit
set_option linter.unusedVariables false
section
def keq : Key → Key → Bool
  | .i a, .i b => ieq a b
  | .p a b, .p c d => (match ieq a c with | true => ieq b d | false => false)
  | .t a b c, .t d e f => (match ieq a d with | true => (match ieq b e with | true => ieq c f | false => false) | false => false)
  | .s a, .s b => leqB (bL a) (bL b)
  | _, _ => false
theorem leqB_eq (a b : ByteArray) : leqB (bL a) (bL b) = decide (a = b) := by
  rw [leqB_dec]
  by_cases h : a = b
  · subst h; simp
  · have : ¬ bL a = bL b := fun e => h (ByteArray.ext (Array.toList_inj.1 e))
    simp [h, this]
theorem keq_dec (a b : Key) : keq a b = decide (a = b) := by
  cases a <;> cases b <;> simp only [keq, ieq_dec, leqB_eq] <;> first | (simp; done) | skip
  · rename_i a b c d
    by_cases h1 : a = c <;> by_cases h2 : b = d <;> simp [h1, h2]
  · rename_i a b c d e f
    by_cases h1 : a = d <;> by_cases h2 : b = e <;> by_cases h3 : c = f <;> simp [h1, h2, h3]
def keyV (kd : Nat) (v : V) : Option Key := match v with
  | .int _ .i64 n => (match Nat.beq kd 0 with | true => some (.i n) | false => none)
  | .str _ x => (match Nat.beq kd 3 with | true => some (.s x) | false => none)
  | .agg [.int _ .i64 a, .int _ .i64 b] => (match Nat.beq kd 1 with | true => some (.p a b) | false => none)
  | .agg [.int _ .i64 a, .int _ .i64 b, .int _ .i64 c] => (match Nat.beq kd 2 with | true => some (.t a b c) | false => none)
  | _ => none
theorem keyV_spec {kd : Nat} {v : V} {k : Key} (h : keyV kd v = some k) : k.kind = kd ∧ ∀ ρ, v.den ρ = k.enc := by
  unfold keyV at h
  split at h <;> first | (cases h; done) | skip
  all_goals
    split at h
    · rename_i hk
      have := Nat.eq_of_beq_eq_true hk
      cases h
      exact ⟨this.symm, fun ρ => rfl⟩
    · cases h
def mgetK (k : Key) : List (Key × V) → Option V
  | [] => none
  | x :: l => if k = x.1 then some x.2 else mgetK k l
def msetK (k : Key) (v : V) : List (Key × V) → List (Key × V)
  | [] => [(k, v)]
  | x :: l => if k = x.1 then (k, v) :: l else x :: msetK k v l
def mdelK (k : Key) : List (Key × V) → List (Key × V)
  | [] => []
  | x :: l => if k = x.1 then l else x :: mdelK k l
variable {ρ : En} {kd : Nat} {k : Key}
theorem keysK_cons (h : k.kind = kd) (v : Value) (l : List (Key × Value)) : keysK kd ((k, v) :: l) = (⟨k, h⟩, v) :: keysK kd l := by
  simp only [keysK, h, dif_pos]
theorem asc_K (hk : k.kind = kd) : ∀ {es : List (Key × V)}, (∀ e ∈ es, e.1.kind = kd) → asc (⟨k, hk⟩ : KeyK kd) (keysK kd (denE ρ es)) = (mgetK k es).map (V.den ρ)
  | [], _ => rfl
  | (k', v) :: es, he => by
    have h1 := he (k', v) List.mem_cons_self
    have ih := asc_K hk (es := es) fun e h => he e (List.mem_cons_of_mem _ h)
    have e : denE ρ ((k', v) :: es) = (k', v.den ρ) :: denE ρ es := rfl
    rw [e, keysK_cons h1]
    unfold asc mgetK
    by_cases h : k = k'
    · subst h; simp
    · have : ¬ (⟨k, hk⟩ : KeyK kd) = ⟨k', h1⟩ := fun e => h (congrArg Subtype.val e)
      simp only [this, h, if_false]
      exact ih
theorem mset_K (hk : k.kind = kd) (v : V) : ∀ {es : List (Key × V)}, (∀ e ∈ es, e.1.kind = kd) → mset (⟨k, hk⟩ : KeyK kd) (v.den ρ) (keysK kd (denE ρ es)) = keysK kd (denE ρ (msetK k v es))
  | [], _ => by
    show [((⟨k, hk⟩ : KeyK kd), v.den ρ)] = keysK kd ((k, v.den ρ) :: [])
    rw [keysK_cons hk]; rfl
  | (k', u) :: es, he => by
    have h1 := he (k', u) List.mem_cons_self
    have ih := mset_K hk v (es := es) fun e h => he e (List.mem_cons_of_mem _ h)
    have e : denE ρ ((k', u) :: es) = (k', u.den ρ) :: denE ρ es := rfl
    rw [e, keysK_cons h1]
    unfold mset msetK
    by_cases h : k = k'
    · subst h
      simp only [if_true]
      show _ = keysK kd ((k, v.den ρ) :: denE ρ es)
      rw [keysK_cons hk]
    · have : ¬ (⟨k, hk⟩ : KeyK kd) = ⟨k', h1⟩ := fun e => h (congrArg Subtype.val e)
      simp only [this, h, if_false]
      show _ = keysK kd ((k', u.den ρ) :: denE ρ (msetK k v es))
      rw [keysK_cons h1, ← ih]
theorem mdel_K (hk : k.kind = kd) : ∀ {es : List (Key × V)}, (∀ e ∈ es, e.1.kind = kd) → mdel (⟨k, hk⟩ : KeyK kd) (keysK kd (denE ρ es)) = keysK kd (denE ρ (mdelK k es))
  | [], _ => rfl
  | (k', u) :: es, he => by
    have h1 := he (k', u) List.mem_cons_self
    have ih := mdel_K hk (es := es) fun e h => he e (List.mem_cons_of_mem _ h)
    have e : denE ρ ((k', u) :: es) = (k', u.den ρ) :: denE ρ es := rfl
    rw [e, keysK_cons h1]
    unfold mdel mdelK
    by_cases h : k = k'
    · subst h; simp
    · have : ¬ (⟨k, hk⟩ : KeyK kd) = ⟨k', h1⟩ := fun e => h (congrArg Subtype.val e)
      simp only [this, h, if_false]
      show _ = keysK kd ((k', u.den ρ) :: denE ρ (mdelK k es))
      rw [keysK_cons h1, ← ih]
theorem msetK_mem {v : V} : ∀ {es : List (Key × V)} {e : Key × V}, e ∈ msetK k v es → e ∈ es ∨ e = (k, v)
  | [], e, h => .inr (by simpa [msetK] using h)
  | x :: es, e, h => by
    unfold msetK at h
    split at h
    · rcases List.mem_cons.1 h with h | h
      · exact .inr h
      · exact .inl (List.mem_cons_of_mem _ h)
    · rcases List.mem_cons.1 h with h | h
      · exact .inl (h ▸ List.mem_cons_self)
      · exact (msetK_mem h).imp (List.mem_cons_of_mem _) id
theorem mdelK_sub : ∀ (es : List (Key × V)), (mdelK k es).Sublist es
  | [] => List.Sublist.refl _
  | x :: es => by
    unfold mdelK
    split
    · exact List.sublist_cons_self _ _
    · exact (mdelK_sub es).cons_cons _
theorem msetK_keys {v : V} : ∀ (es : List (Key × V)), (msetK k v es).map (·.1) = es.map (·.1) ∨ (k ∉ es.map (·.1) ∧ (msetK k v es).map (·.1) = es.map (·.1) ++ [k])
  | [] => .inr ⟨by simp, rfl⟩
  | x :: es => by
    unfold msetK
    by_cases h : k = x.1
    · rw [if_pos h]; exact .inl (by simp [h])
    · rw [if_neg h]
      rcases msetK_keys (v := v) es with h1 | ⟨h1, h2⟩
      · exact .inl (by simp only [List.map_cons, h1])
      · exact .inr ⟨by simp only [List.map_cons, List.mem_cons, not_or]; exact ⟨h, h1⟩, by simp only [List.map_cons, h2, List.cons_append]⟩
theorem msetK_nodup {v : V} {es : List (Key × V)} (h : (es.map (·.1)).Nodup) : ((msetK k v es).map (·.1)).Nodup := by
  rcases msetK_keys (k := k) (v := v) es with h1 | ⟨h1, h2⟩
  · rw [h1]; exact h
  · rw [h2]
    refine List.nodup_append.2 ⟨h, by simp, fun a ha b hb e => ?_⟩
    have : b = k := by simpa using hb
    subst this
    exact h1 (e ▸ ha)
end
section
variable {A : Type} {ar : A → List Value → Value → Res} {P : Program} {B : Nat → Prop}
def findE (s : Bool) (k : Key) (f : Option V → T A) : List (Key × V) → T A
  | [] => f none
  | x :: l => (match s with
    | true => .ask (keq k x.1) fun y => (match y with
      | true => f (some x.2)
      | false => findE s k f l)
    | false => (match keq k x.1 with
      | true => f (some x.2)
      | false => findE s k f l))
theorem findE_run {s : Bool} {k : Key} {f : Option V → T A} {M : List (Pl A)} {lg : Lg} {r M' ch' obs' lg'} : ∀ {es : List (Key × V)} {ch : List Bool} {obs : Obs}, (findE s k f es).run ch M obs lg = .ok r M' ch' obs' lg' → okObs obs' →
    ∃ ch2 obs2, (f (mgetK k es)).run ch2 M obs2 lg = .ok r M' ch' obs' lg'
  | [], ch, obs, h, ho => ⟨ch, obs, h⟩
  | x :: es, ch, obs, h, ho => by
    have fin : ∀ y : Bool, keq k x.1 = y → ∀ ch obs, (match y with | true => f (some x.2) | false => findE s k f es : T A).run ch M obs lg = .ok r M' ch' obs' lg' → ∃ ch2 obs2, (f (mgetK k (x :: es))).run ch2 M obs2 lg = .ok r M' ch' obs' lg' := fun y hy ch obs h => by
      rw [keq_dec] at hy
      cases y with
      | true =>
        have : k = x.1 := by simpa using hy
        unfold mgetK
        rw [if_pos this]
        exact ⟨ch, obs, h⟩
      | false =>
        have : ¬ k = x.1 := by simpa using hy
        unfold mgetK
        rw [if_neg this]
        exact findE_run h ho
    unfold findE at h
    split at h
    · cases ch with
      | nil => cases h
      | cons y ch =>
        have hy : keq k x.1 = y := run_obs (match y with | true => f (some x.2) | false => findE true k f es) h ho (keq k x.1, y) List.mem_cons_self
        exact fin y hy _ _ h
    · cases hy : keq k x.1 with
      | true => rw [hy] at h; exact fin true hy _ _ h
      | false => rw [hy] at h; exact fin false hy _ _ h
def setA (k : Key) (v : V) : List (Key × V) → (List (Key × V) → T A) → T A
  | [], f => f [(k, v)]
  | x :: l, f => .ask (keq k x.1) fun y => (match y with
    | true => f ((k, v) :: l)
    | false => setA k v l fun l' => f (x :: l'))
def setE (s : Bool) (k : Key) (v : V) (f : List (Key × V) → T A) (es : List (Key × V)) : T A := match s with
  | true => setA k v es f
  | false => f (msetK k v es)
theorem setA_run {k : Key} {v : V} {M : List (Pl A)} {lg : Lg} {r M' ch' obs' lg'} : ∀ {es : List (Key × V)} {f : List (Key × V) → T A} {ch : List Bool} {obs : Obs}, (setA k v es f).run ch M obs lg = .ok r M' ch' obs' lg' → okObs obs' →
    ∃ ch2 obs2, (f (msetK k v es)).run ch2 M obs2 lg = .ok r M' ch' obs' lg'
  | [], f, ch, obs, h, ho => ⟨ch, obs, h⟩
  | x :: es, f, ch, obs, h, ho => by
    unfold setA at h
    cases ch with
    | nil => cases h
    | cons y ch =>
      unfold msetK
      cases y with
      | true =>
        have h : (f ((k, v) :: es) : T A).run ch M ((keq k x.1, true) :: obs) lg = .ok r M' ch' obs' lg' := h
        have hy := run_obs _ h ho (keq k x.1, true) List.mem_cons_self
        rw [keq_dec] at hy
        have : k = x.1 := by simpa using hy
        rw [if_pos this]
        exact ⟨ch, _, h⟩
      | false =>
        have h : (setA k v es fun l' => f (x :: l') : T A).run ch M ((keq k x.1, false) :: obs) lg = .ok r M' ch' obs' lg' := h
        have hy := run_obs _ h ho (keq k x.1, false) List.mem_cons_self
        rw [keq_dec] at hy
        have : ¬ k = x.1 := by simpa using hy
        rw [if_neg this]
        exact setA_run h ho
theorem setE_run {s : Bool} {k : Key} {v : V} {f : List (Key × V) → T A} {M : List (Pl A)} {lg : Lg} {r M' ch' obs' lg'} {es : List (Key × V)} {ch : List Bool} {obs : Obs} (h : (setE s k v f es).run ch M obs lg = .ok r M' ch' obs' lg') (ho : okObs obs') :
    ∃ ch2 obs2, (f (msetK k v es)).run ch2 M obs2 lg = .ok r M' ch' obs' lg' := by
  unfold setE at h
  split at h
  · exact setA_run h ho
  · exact ⟨_, _, h⟩
def delA (k : Key) : List (Key × V) → (List (Key × V) → T A) → T A
  | [], f => f []
  | x :: l, f => .ask (keq k x.1) fun y => (match y with
    | true => f l
    | false => delA k l fun l' => f (x :: l'))
def delE (s : Bool) (k : Key) (f : List (Key × V) → T A) (es : List (Key × V)) : T A := match s with
  | true => delA k es f
  | false => f (mdelK k es)
theorem delA_run {k : Key} {M : List (Pl A)} {lg : Lg} {r M' ch' obs' lg'} : ∀ {es : List (Key × V)} {f : List (Key × V) → T A} {ch : List Bool} {obs : Obs}, (delA k es f).run ch M obs lg = .ok r M' ch' obs' lg' → okObs obs' →
    ∃ ch2 obs2, (f (mdelK k es)).run ch2 M obs2 lg = .ok r M' ch' obs' lg'
  | [], f, ch, obs, h, ho => ⟨ch, obs, h⟩
  | x :: es, f, ch, obs, h, ho => by
    unfold delA at h
    cases ch with
    | nil => cases h
    | cons y ch =>
      unfold mdelK
      cases y with
      | true =>
        have h : (f es : T A).run ch M ((keq k x.1, true) :: obs) lg = .ok r M' ch' obs' lg' := h
        have hy := run_obs _ h ho (keq k x.1, true) List.mem_cons_self
        rw [keq_dec] at hy
        have : k = x.1 := by simpa using hy
        rw [if_pos this]
        exact ⟨ch, _, h⟩
      | false =>
        have h : (delA k es fun l' => f (x :: l') : T A).run ch M ((keq k x.1, false) :: obs) lg = .ok r M' ch' obs' lg' := h
        have hy := run_obs _ h ho (keq k x.1, false) List.mem_cons_self
        rw [keq_dec] at hy
        have : ¬ k = x.1 := by simpa using hy
        rw [if_neg this]
        exact delA_run h ho
theorem delE_run {s : Bool} {k : Key} {f : List (Key × V) → T A} {M : List (Pl A)} {lg : Lg} {r M' ch' obs' lg'} {es : List (Key × V)} {ch : List Bool} {obs : Obs} (h : (delE s k f es).run ch M obs lg = .ok r M' ch' obs' lg') (ho : okObs obs') :
    ∃ ch2 obs2, (f (mdelK k es)).run ch2 M obs2 lg = .ok r M' ch' obs' lg' := by
  unfold delE at h
  split at h
  · exact delA_run h ho
  · exact ⟨_, _, h⟩
def lookO (z : Value) (ok : Bool) (r : Option V) : V := match ok with
  | true => .tup [r.getD (ofV false z), .bool false r.isSome]
  | false => r.getD (ofV false z)
def evLook (P : Program) (kof : TypeId → Option (Nat × Bool)) (T' : TypeId) (m kv : V) (ok : Bool) : T A := match P.underlying T' with
  | some (.map kt et) => (match kof kt, (P.info? et).bind (·.zero) with
    | some (kd, s), some z => (match keyV kd kv with
      | some k => (match m with
        | .nm n => .get n fun
          | .map kd' es => (match Nat.beq kd' kd with
            | true => findE s k (fun r => .ret (rv (lookO z ok r))) es
            | false => .fail 520)
          | _ => .fail 521
        | .lit (.map none) => .ret (rv (lookO z ok none))
        | _ => .fail 522)
      | none => .fail 523)
    | _, _ => .fail 524)
  | _ => .fail 525
theorem mgetK_sc {k : Key} {v : V} : ∀ {es : List (Key × V)}, scL B (es.map (·.2)) → mgetK k es = some v → v.sc B
  | x :: es, hs, h => by
    unfold mgetK at h
    split at h
    · cases h; exact hs.1
    · exact mgetK_sc hs.2 h
theorem run_zero {e : TypeId} {z : Value} (h : (P.info? e).bind (·.zero) = some z) (w : World) : (zeroValue e).run P w = .ok z w := by
  cases hi : P.info? e with
  | none => rw [hi] at h; cases h
  | some i =>
    rw [hi] at h
    simp only [Option.bind_some] at h
    simp [zeroValue, typeInfo, hi, h]
theorem evLook_snd {kof : TypeId → Option (Nat × Bool)} (hK : ∀ t kd s, kof t = some (kd, s) → KeyRun P t (encK kd)) (T' : TypeId) (m kv : V) (ok : Bool) (hm : m.sc B) :
    Snd ar P (evLook P kof T' m kv ok : T A) B (fun ρ => do pure (.value (← Instr.lookup T' (m.den ρ) (kv.den ρ) ok))) := by
  unfold evLook
  split
  case h_2 => exact Snd.fail
  rename_i kt et hu
  split
  case h_2 => exact Snd.fail
  rename_i kd s z hk hz
  split
  case h_2 => exact Snd.fail
  rename_i k hkv
  obtain ⟨hkd, hden⟩ := keyV_spec hkv
  have KR := hK kt kd s hk
  have hv : ∀ r : Option V, ∀ ρ : En, lookV z ok (r.map (V.den ρ)) = (lookO z ok r).den ρ := fun r ρ => by
    cases ok <;> cases r <;> simp [lookV, lookO, V.den, denL, ofV_den]
  have hsc' : ∀ r : Option V, (∀ v, r = some v → v.sc B) → (lookO z ok r).sc B := fun r hr => by
    have h1 : (r.getD (ofV false z)).sc B := by
      cases r with
      | none => exact ofV_sc _ _ _
      | some v => exact hr v rfl
    cases ok with
    | true => exact ⟨h1, trivial, trivial⟩
    | false => exact h1
  split
  · rename_i n
    refine Snd.get fun M ch obs lg r M' ch' obs' lg' hr ho ρ w0 D w hB hA hs => ?_
    split at hr
    case h_2 => cases hr
    rename_i kd' es hme
    split at hr
    case h_2 => cases hr
    rename_i hkd'
    have hkd' : kd' = kd := Nat.eq_of_beq_eq_true hkd'
    subst hkd'
    obtain ⟨ch2, obs2, hr⟩ := findE_run hr ho
    obtain ⟨hmv, hks, hnd, hmap⟩ := hA.map hme
    have hrun := KR.lookup hu (run_zero hz w) hmap.toB ⟨k, hkd⟩ ok
    rw [← hmv, asc_K hkd hks, hv] at hrun
    have hsc := hs n
    rw [hme] at hsc
    cases hr
    refine here hA hs ?_ (hsc' _ fun v hv => mgetK_sc hsc hv)
    rw [hden]
    simp only [V.den, Sem.run_bind, show Key.enc k = encK kd' ⟨k, hkd⟩ from rfl, hrun, Result.andThen_ok]
    rfl
  · refine Snd.pure (fun ρ w => ?_) (hsc' none fun v h => by cases h)
    have hrun := KR.lookup_nil hu (run_zero hz w) ⟨k, hkd⟩ ok
    rw [show (none : Option Value) = (none : Option V).map (V.den ρ) from rfl, hv] at hrun
    rw [hden]
    simp only [V.den, Sem.run_bind, show Key.enc k = encK kd ⟨k, hkd⟩ from rfl, hrun, Result.andThen_ok]
    rfl
  · exact Snd.fail
def evUpd (P : Program) (kof : TypeId → Option (Nat × Bool)) (T' : TypeId) (m kv v : V) : T A := match P.underlying T' with
  | some (.map kt et) => (match kof kt with
    | some (kd, s) => (match keyV kd kv with
      | some k => (match m with
        | .nm n => .get n fun
          | .map kd' es => (match Nat.beq kd' kd with
            | true => setE s k v (fun es' => .put n (.map kd es') (.ret (rv undV))) es
            | false => .fail 530)
          | _ => .fail 531
        | _ => .fail 532)
      | none => .fail 533)
    | none => .fail 534)
  | _ => .fail 535
theorem evUpd_snd {kof : TypeId → Option (Nat × Bool)} (hK : ∀ t kd s, kof t = some (kd, s) → KeyRun P t (encK kd)) (T' : TypeId) (m kv v : V) (hm : m.sc B) (hvs : v.sc B) :
    Snd ar P (evUpd P kof T' m kv v : T A) B (fun ρ => do Instr.mapUpdate T' (m.den ρ) (kv.den ρ) (v.den ρ); pure .skip) := by
  unfold evUpd
  split
  case h_2 => exact Snd.fail
  rename_i kt et hu
  split
  case h_2 => exact Snd.fail
  rename_i kd s hk
  split
  case h_2 => exact Snd.fail
  rename_i k hkv
  obtain ⟨hkd, hden⟩ := keyV_spec hkv
  have KR := hK kt kd s hk
  split
  case h_2 => exact Snd.fail
  rename_i n
  refine Snd.get fun M ch obs lg r M' ch' obs' lg' hr ho ρ w0 D w hB hA hs => ?_
  split at hr
  case h_2 => cases hr
  rename_i kd' es hme
  split at hr
  case h_2 => cases hr
  rename_i hkd'
  have hkd' : kd' = kd := Nat.eq_of_beq_eq_true hkd'
  subst hkd'
  obtain ⟨ch2, obs2, hr⟩ := setE_run hr ho
  obtain ⟨hmv, hks, hnd, hmap⟩ := hA.map hme
  have hlt := At.lt' hme (by intro e; cases e)
  simp only [T.run] at hr
  split at hr
  case h_2 => cases hr
  cases hr
  obtain ⟨w', hrun, hmap', hu'⟩ := KR.updateS hu hmap ⟨k, hkd⟩ (v.den ρ)
  rw [mset_K hkd v hks] at hmap'
  obtain ⟨F, f1, f2, f3⟩ := hA.chg hlt
  rw [hme] at f1
  have hsc := hs n
  rw [hme] at hsc
  refine ⟨undV, ρ, w', rfl, .inr ⟨?_, rfl⟩, Ext.rfl', f3 (F' := F) (p := .map kd' (msetK k v es)) ⟨⟨hmv, fun e he => ?_, msetK_nodup hnd⟩, f1.2.1, hmap'⟩ (fun _ h => .inl h) (hu'.mono fun b _ hb => (f1.2.1 b).2 hb), trivial, scM_wid (scM_set hs (show scL B _ from scL_iff.2 fun u hu => ?_))⟩
  · rw [hden]
    have e : (V.nm n).den ρ = .map (some (blkOf (ρ n))) := hmv
    rw [e]
    simp only [Sem.run_bind, show Key.enc k = encK kd' ⟨k, hkd⟩ from rfl, hrun, Result.andThen_ok]
    rfl
  · rcases msetK_mem he with h | h
    · exact hks e h
    · rw [h]; exact hkd
  · obtain ⟨e, he, rfl⟩ := List.mem_map.1 hu
    rcases msetK_mem he with h | h
    · exact scL_iff.1 (show scL B (es.map (·.2)) from hsc) _ (List.mem_map.2 ⟨e, h, rfl⟩)
    · rw [h]; exact hvs
def evDel (P : Program) (kof : TypeId → Option (Nat × Bool)) (T' : TypeId) (m kv : V) : T A := match P.underlying T' with
  | some (.map kt et) => (match kof kt with
    | some (kd, s) => (match keyV kd kv with
      | some k => (match m with
        | .nm n => .get n fun
          | .map kd' es => (match Nat.beq kd' kd with
            | true => delE s k (fun es' => .put n (.map kd es') (.ret (rv (.tup [])))) es
            | false => .fail 540)
          | _ => .fail 541
        | .lit (.map none) => .ret (rv (.tup []))
        | _ => .fail 542)
      | none => .fail 543)
    | none => .fail 544)
  | _ => .fail 545
theorem evDel_snd {kof : TypeId → Option (Nat × Bool)} (hK : ∀ t kd s, kof t = some (kd, s) → KeyRun P t (encK kd)) (T' t2 ty : TypeId) (m kv : V) (hm : m.sc B) :
    Snd ar P (evDel P kof T' m kv : T A) B (fun ρ => do let r ← Builtin.delete_ #[T', t2] ty #[m.den ρ, kv.den ρ]; pure (.value r)) := by
  unfold evDel
  split
  case h_2 => exact Snd.fail
  rename_i kt et hu
  split
  case h_2 => exact Snd.fail
  rename_i kd s hk
  split
  case h_2 => exact Snd.fail
  rename_i k hkv
  obtain ⟨hkd, hden⟩ := keyV_spec hkv
  have KR := hK kt kd s hk
  split
  rotate_left
  · have h : Snd ar P (.ret (rv (.tup [])) : T A) B (fun ρ => do let r ← Builtin.delete_ #[T', t2] ty #[(V.lit (.map none)).den ρ, kv.den ρ]; pure (.value r)) := Snd.pure (v := .tup []) (fun ρ w => by
      rw [hden]
      have hrun := KR.delete_nil hu w ⟨k, hkd⟩ ty t2
      simp only [V.den, Sem.run_bind, show Key.enc k = encK kd ⟨k, hkd⟩ from rfl, hrun, Result.andThen_ok]
      rfl) trivial
    exact h
  · exact Snd.fail
  rename_i n
  refine Snd.get fun M ch obs lg r M' ch' obs' lg' hr ho ρ w0 D w hB hA hs => ?_
  split at hr
  case h_2 => cases hr
  rename_i kd' es hme
  split at hr
  case h_2 => cases hr
  rename_i hkd'
  have hkd' : kd' = kd := Nat.eq_of_beq_eq_true hkd'
  subst hkd'
  obtain ⟨ch2, obs2, hr⟩ := delE_run hr ho
  obtain ⟨hmv, hks, hnd, hmap⟩ := hA.map hme
  have hlt := At.lt' hme (by intro e; cases e)
  simp only [T.run] at hr
  split at hr
  case h_2 => cases hr
  cases hr
  obtain ⟨es0, clk, h1, h2, hst⟩ := hmap
  obtain ⟨es', hrun, he', hsub⟩ := del_run KR hu h1 h2 ⟨k, hkd⟩ ty t2
  rw [mdel_K hkd hks] at he'
  obtain ⟨F, f1, f2, f3⟩ := hA.chg hlt
  rw [hme] at f1
  have hsc := hs n
  rw [hme] at hsc
  have hst' : Stamped es'.toList clk := by
    rcases hsub with e | ⟨j, e⟩ <;> rw [e]
    · exact hst
    · exact stamped_erase hst
  refine ⟨.tup [], ρ, _, rfl, .inl ?_, Ext.rfl', f3 (F' := F) (p := .map kd' (mdelK k es)) ⟨⟨hmv, fun e he => hks e ((mdelK_sub es).subset he), ((mdelK_sub es).map _).nodup hnd⟩, f1.2.1, es', clk, get_set _ (Array.getElem?_eq_some_iff.1 h1).1, he', hst'⟩ (fun _ h => .inl h) ((upd_set _ _ _).mono fun b _ hb => (f1.2.1 b).2 hb), trivial, scM_wid (scM_set hs (show scL B _ from scL_iff.2 fun u hu => ?_))⟩
  · rw [hden]
    have e : (V.nm n).den ρ = .map (some (blkOf (ρ n))) := hmv
    rw [e]
    simp only [Sem.run_bind, show Key.enc k = encK kd' ⟨k, hkd⟩ from rfl, hrun, Result.andThen_ok]
    rfl
  · obtain ⟨e, he, rfl⟩ := List.mem_map.1 hu
    exact scL_iff.1 (show scL B (es.map (·.2)) from hsc) _ (List.mem_map.2 ⟨e, (mdelK_sub es).subset he, rfl⟩)
def evMkMap (P : Program) (kof : TypeId → Option (Nat × Bool)) (T' : TypeId) : T A := match P.underlying T' with
  | some (.map kt _) => (match kof kt with
    | some (kd, _) => .new (.map kd []) fun n => .ret (rv (.nm n))
    | none => .fail 550)
  | _ => .fail 551
theorem evMkMap_snd {kof : TypeId → Option (Nat × Bool)} (T' : TypeId) : Snd ar P (evMkMap P kof T' : T A) B (fun ρ => do pure (.value (← Instr.makeMap T' none))) := by
  unfold evMkMap
  split
  case h_2 => exact Snd.fail
  split
  case h_2 => exact Snd.fail
  rename_i kd s hk
  intro ch M obs lg r M' ch' obs' lg' hr ho ρ w0 D w hB hA hs
  cases hr
  refine ⟨.nm M.length, upE ρ M.length (.map (some w.heap.size)), w.alloc (.map #[] 0), rfl, .inl ?_, by rw [List.length_append]; exact ext_one, hA.mk (fun n hn => by have := hB n hn; simpa using this) hs (F := fun b => b = w.heap.size) ?_ (fun b hb => by rw [hb]; exact Nat.le_refl _) (below_one w _), .inr ⟨Nat.le_refl _, by simp⟩, scM_new hs trivial⟩
  · show (do pure (.value (← Instr.makeMap T' none)) : Sem Next).run P w = _
    simp only [Instr.makeMap, Sem.run_bind, Sem.run_pure, run_newObj_alloc, Result.andThen_ok, V.den, upE, if_pos]
  · refine ⟨⟨by simp [upE, blkOf], (fun e he => nomatch he), by simp⟩, ?_⟩
    simp only [upE, if_pos, blkOf]
    exact ⟨fun _ => Iff.rfl, #[], 0, by show (w.heap.push _)[w.heap.size]? = _; simp, rfl, by simp [Stamped]⟩
end
end Go.Proofs.YthdnonoheochhaaGreatDoor
namespace Go.Proofs.YthdnonoheochhaaGreatDoor
open Go.RowKit Go.ChangeMaps
set_option linter.unusedVariables false
section
variable {A : Type} {ar : A → List Value → Value → Res} {P : Program} {B : Nat → Prop}
def kyV : Key → V
  | .i n => .int false .i64 n
  | .p a b => .agg [.int false .i64 a, .int false .i64 b]
  | .t a b c => .agg [.int false .i64 a, .int false .i64 b, .int false .i64 c]
  | .s x => .str false x
theorem kyV_den (ρ : En) (k : Key) : (kyV k).den ρ = k.enc := by cases k <;> rfl
theorem kyV_sc (C : Nat → Prop) (k : Key) : (kyV k).sc C := by cases k <;> simp [kyV, V.sc, scL]
def evRng2 (n : Nat) (p : Pl A) : T A := match p with
  | .map kd es => (match Nat.ble es.length 1 with
    | true => .new (.itr n) fun r => .put n (.rng r kd es false) (.ret (rv (.ptr r 0)))
    | false => .fail 661)
  | _ => .fail 662
def evRng (P : Program) (t : TypeId) (x : V) : T A := match P.underlying t with
  | some (.map _ _) => (match x with
    | .nm n => .get n (evRng2 n)
    | _ => .fail 663)
  | _ => .fail 664
def evNxE (n kd : Nat) (es : List (Key × V)) : T A := .put n (.map kd es) (.ret (rv (.tup [.bool false false])))
def evNx1 (n r kd : Nat) (es : List (Key × V)) (d : Bool) : T A := match d with
  | false => (match es with
    | [e] => .put n (.rng r kd [e] true) (.ret (rv (.tup [.bool false true, kyV e.1, e.2])))
    | _ => evNxE n kd es)
  | true => evNxE n kd es
def evNx2 (r n : Nat) (p : Pl A) : T A := match p with
  | .rng r' kd es d => (match Nat.beq r' r with
    | true => evNx1 n r kd es d
    | false => .fail 665)
  | _ => .fail 666
def evNx3 (r : Nat) (p : Pl A) : T A := match p with
  | .itr n => .get n (evNx2 r n)
  | _ => .fail 667
def evNext (x : V) (s : Bool) : T A := match x with
  | .ptr r 0 => (match s with
    | false => .get r (evNx3 r)
    | true => .fail 668)
  | _ => .fail 669
def evEn2 (r n : Nat) (p : Pl A) : T A := match p with
  | .rng r' kd [e] true => (match Nat.beq r' r with
    | true => .ret (rv (.tup [kyV e.1, e.2]))
    | false => .fail 670)
  | _ => .fail 671
def evEn3 (r : Nat) (p : Pl A) : T A := match p with
  | .itr n => .get n (evEn2 r n)
  | _ => .fail 672
def evEntry (x : V) : T A := match x with
  | .ptr r 0 => .get r (evEn3 r)
  | _ => .fail 673
theorem keysK_one {kd : Nat} {k : Key} {v : Value} (h : k.kind = kd) : keysK kd [(k, v)] = [(⟨k, h⟩, v)] := by simp [keysK, h]
theorem evRng_snd (t : TypeId) (x : V) : Snd ar P (evRng P t x : T A) B (fun ρ => do pure (.value (← Instr.range t (x.den ρ)))) := by
  unfold evRng
  split
  case h_2 => exact Snd.fail
  rename_i kt et hu
  split
  case h_2 => exact Snd.fail
  rename_i n
  intro ch M obs lg r M' ch' obs' lg' hr ho ρ w0 D w hB hA hs
  simp only [T.run] at hr
  unfold evRng2 at hr
  split at hr
  case h_2 => cases hr
  rename_i kd es hm
  split at hr
  case h_2 => cases hr
  rename_i hl
  simp only [T.run] at hr
  split at hr
  case h_2 => cases hr
  cases hr
  have hn := At.lt' hm (by intro e; cases e)
  have hB' : ∀ k, B k → k < M.length ∨ M.length + 1 ≤ k := fun k hk => by have := hB k hk; simpa using this
  obtain ⟨v, hv⟩ : ∃ v : Value, v = .pointer (some ⟨w.heap.size, 0, none⟩) := ⟨_, rfl⟩
  have hA1 := hA.mk hB' hs (p := .itr n) (v := v) (F := fun _ => False) (w' := w) (fun b hb => hb) (fun b hb => hb.elim) (Below.refl _ _)
  obtain ⟨F, h1, h2, h3⟩ := hA1.chg (n := n) (by rw [List.length_append]; simp; omega)
  rw [Mget_app hn, hm] at h1
  obtain ⟨⟨f1, f2, f3⟩, hF, es0, clk, g1, g2, hst⟩ := h1
  have hρn : upE ρ M.length v n = ρ n := if_neg (by omega)
  have hρr : upE ρ M.length v M.length = v := if_pos rfl
  have hlt := (Array.getElem?_eq_some_iff.1 g1).1
  have hat := h3 (p := .rng M.length kd es false) (F' := fun x => x = blkOf (upE ρ M.length v n) ∨ x = w.heap.size) (w' := w.alloc (.mapIter (some (blkOf (upE ρ M.length v n))) clk #[] clk))
    (by
      refine ⟨⟨f1, f2, f3⟩, fun x => ?_, ?_, es0, clk, #[], ?_, ?_, g2, hst, ?_, fun _ => rfl, fun h => by cases h⟩
      · rw [hρr, hv]; exact Iff.rfl
      · intro e
        rw [hρr] at e
        rw [e, hv] at hlt
        exact Nat.lt_irrefl _ hlt
      · show (w.heap.push _)[_]? = _
        rw [Array.getElem?_push_lt hlt, Array.getElem?_eq_getElem hlt] at *
        exact g1
      · rw [hρr, hv]
        show (w.heap.push _)[w.heap.size]? = _
        simp
      · rw [keysK_len f2]
        simpa using hl)
    (fun x hx => hx.imp (hF x).2 (fun h => by omega)) (Upd.of_below (below_one w _))
  refine ⟨.ptr M.length 0, upE ρ M.length v, _, rfl, .inl ?_, ?_, hat, ?_, ?_⟩
  · have hx : (V.nm n).den ρ = .map (some (blkOf (upE ρ M.length v n))) := by
      show ρ n = _
      rw [← f1, hρn]
    have hrun := run_range_map (P := P) w t kt et _ es0 clk hu g1
    have he : (V.ptr M.length 0).den (upE ρ M.length v) = .pointer (some ⟨w.heap.size, 0, none⟩) := by
      show Value.pointer (some ⟨blkOf (upE ρ M.length v M.length), 0, none⟩) = _
      rw [hρr, hv]
      rfl
    dsimp only
    rw [he, hx]
    simp only [Sem.run_bind, hrun, Result.andThen_ok, Sem.run_pure]
  · rw [List.length_set, List.length_append]; exact ext_one
  · exact .inr ⟨Nat.le_refl _, by simp⟩
  · rw [List.length_set]
    refine scM_set (scM_new hs trivial) ⟨.inr ⟨Nat.le_refl _, by simp⟩, ?_⟩
    have := hs n
    rw [hm] at this
    exact scL_mono (fun _ h => .inl h) _ this
theorem At.rng {w0 w : World} {D : Nat → Prop} {ρ : En} {M : List (Pl A)} (h : At ar w0 D w ρ M) {n r kd : Nat} {es : List (Key × V)} {d : Bool} (hn : Mget M n = .rng r kd es d) :
    ρ n = .map (some (blkOf (ρ n))) ∧ (∀ e ∈ es, e.1.kind = kd) ∧ (es.map (·.1)).Nodup ∧ ∃ F, (rng1R (encK kd) (blkOf (ρ n)) (blkOf (ρ r)) (keysK kd (denE ρ es)) d).P w F ∧
    ∀ {w' : World} {p : Pl A} {F' : Nat → Prop}, (denP ar ρ n p).P w' F' → (∀ b, F' b → F b ∨ w.heap.size ≤ b) → Upd F w w' → At ar w0 D w' ρ (M.set n p) := by
  obtain ⟨F, h1, h2, h3⟩ := h.chg (At.lt' hn (by intro e; cases e))
  rw [hn] at h1
  exact ⟨h1.1.1, h1.1.2.1, h1.1.2.2, F, h1.2, h3⟩
theorem leftOf_mem {es : Array MapEntry} {seen : Array Nat} {e : MapEntry} : e ∈ (leftOf es seen).toList ↔ e ∈ es.toList ∧ seen.contains e.born = false := by
  unfold leftOf
  simp only [Array.toList_filter, List.mem_filter]
  constructor
  · rintro ⟨a, b⟩; exact ⟨a, by simpa using b⟩
  · rintro ⟨a, b⟩; exact ⟨a, by simpa using b⟩
theorem oneOf {α : Type} {enc : α → Value} {es : List MapEntry} {m : List (α × Value)} (h : entR enc es m) (hl : m.length ≤ 1) {a b : MapEntry} (ha : a ∈ es) (hb : b ∈ es) : a = b := by
  have he : es.length = m.length := by have := congrArg List.length h; simpa using this
  match es, ha, hb, he with
  | [x], ha, hb, _ => rw [List.mem_singleton.1 ha, List.mem_singleton.1 hb]
  | x :: y :: l, _, _, he => simp at he; omega
theorem evNext_snd (x : V) (s : Bool) (ty : TypeId) (hx : x.sc B) : Snd ar P (evNext x s : T A) B (fun ρ => do pure (.value (← Instr.next (x.den ρ) s ty))) := by
  unfold evNext
  split
  case h_2 => exact Snd.fail
  rename_i r
  split
  case h_2 => exact Snd.fail
  intro ch M obs lg rr M' ch' obs' lg' hr ho ρ w0 D w hB hA hs
  simp only [T.run] at hr
  unfold evNx3 at hr
  split at hr
  case h_2 => cases hr
  rename_i n hmr
  simp only [T.run] at hr
  unfold evNx2 at hr
  split at hr
  case h_2 => cases hr
  rename_i r' kd es d hm
  split at hr
  case h_2 => cases hr
  rename_i hrr
  obtain rfl := Nat.eq_of_beq_eq_true hrr
  have hn := At.lt' hm (by intro e; cases e)
  obtain ⟨f1, f2, f3, F, ⟨hF, hne, es0, clk, seen, g1, hit, g2, hst, hlen, hd0, hd1⟩, h3⟩ := hA.rng hm
  have hsc : scL B (es.map (·.2)) := by have := hs n; rw [hm] at this; exact this.2
  have hnext := run_next_at (P := P) w ty (blkOf (ρ r')) (blkOf (ρ n)) clk clk seen es0 clk hit g1 hst.2 (Nat.le_refl _)
  have hend : (∀ e ∈ es0.toList, seen.contains e.born = true) → (evNxE n kd es : T A).run ch M obs ((lg.rd r').rd n) = .ok rr M' ch' obs' lg' →
      ∃ v ρ' w', rr = (rv v) ∧ ((do pure (.value (← Instr.next ((V.ptr r' 0).den ρ) false ty)) : Sem Next).run P w = .ok (.value (v.den ρ')) w' ∨ ((do pure (.value (← Instr.next ((V.ptr r' 0).den ρ) false ty)) : Sem Next).run P w = .ok .skip w' ∧ v = undV)) ∧ Ext M.length M'.length ρ ρ' ∧ At ar w0 D w' ρ' M' ∧ v.sc (wid B M.length M'.length) ∧ scM (wid B M.length M'.length) M' := fun hall hr => by
    unfold evNxE at hr
    simp only [T.run] at hr
    split at hr
    case h_2 => cases hr
    cases hr
    have hrun : (Instr.next (.pointer (some ⟨blkOf (ρ r'), 0, none⟩)) false ty).run P w = .ok (.tuple #[.bool false]) w := by
      rcases hnext with ⟨_, hrun⟩ | ⟨e, he, _⟩
      · exact hrun
      · have := leftOf_mem.1 he
        rw [hall e this.1] at this
        cases this.2
    refine ⟨.tup [.bool false false], ρ, w, rfl, .inl ?_, by rw [List.length_set]; exact Ext.rfl', h3 (p := .map kd es) (F' := fun x => x = blkOf (ρ n)) ⟨⟨f1, f2, f3⟩, fun _ => Iff.rfl, es0, clk, g1, g2, hst⟩ (fun x hx => .inl ((hF x).2 (.inl hx))) (Upd.refl _ _), ⟨trivial, trivial⟩, ?_⟩
    · simp only [V.den, Sem.run_bind, hrun, Result.andThen_ok, Sem.run_pure, denL]
    · rw [List.length_set]
      exact scM_set (fun i => Pl.sc_mono wid_l _ (hs i)) (scL_mono wid_l _ hsc)
  unfold evNx1 at hr
  split at hr
  · have hseen := hd0 rfl
    subst hseen
    split at hr
    · rename_i e
      obtain ⟨k, v⟩ := e
      simp only [T.run] at hr
      split at hr
      case h_2 => cases hr
      cases hr
      have hk : k.kind = kd := f2 _ List.mem_cons_self
      have hke : keysK kd (denE ρ [(k, v)]) = [(⟨k, hk⟩, v.den ρ)] := keysK_one hk
      rw [hke] at g2 hlen
      obtain ⟨e0, es1, he0, hek, hev, he1⟩ := entR_cons g2
      have he1 := entR_nil he1
      subst he1
      have hmem : e0 ∈ es0.toList := by rw [he0]; exact List.mem_cons_self
      rcases hnext with ⟨h0, _⟩ | ⟨e, he, w1, hw1, hrun⟩
      · have hp := Array.size_pos_of_mem (Array.mem_toList_iff.1 (leftOf_mem.2 ⟨hmem, (by simp : (#[] : Array Nat).contains e0.born = false)⟩))
        omega
      have hee : e = e0 := oneOf g2 hlen (leftOf_mem.1 he).1 hmem
      subst hee
      have hb1 : w1.heap = w.heap ∧ Upd F w w1 := by rcases hw1 with rfl | rfl <;> exact ⟨rfl, ⟨rfl, rfl, rfl, Nat.le_refl _, fun _ _ _ => rfl⟩⟩
      have hu : Upd F w (setBlock w1 (blkOf (ρ r')) (.mapIter (some (blkOf (ρ n))) clk ((#[] : Array Nat).push e.born) clk)) := hb1.2.trans ((setBlock_upd _ _ _).mono fun x _ hx => (hF x).2 (.inr hx))
      have hrl := (Array.getElem?_eq_some_iff.1 hit).1
      have q1 : (setBlock w1 (blkOf (ρ r')) (.mapIter (some (blkOf (ρ n))) clk ((#[] : Array Nat).push e.born) clk)).heap[blkOf (ρ n)]? = some (.map es0 clk) := by
        rw [(setBlock_upd w1 _ _).block _ (by rw [hb1.1]; exact (Array.getElem?_eq_some_iff.1 g1).1) hne, hb1.1]; exact g1
      have q2 : (setBlock w1 (blkOf (ρ r')) (.mapIter (some (blkOf (ρ n))) clk ((#[] : Array Nat).push e.born) clk)).heap[blkOf (ρ r')]? = some (.mapIter (some (blkOf (ρ n))) clk ((#[] : Array Nat).push e.born) clk) := get_set _ (by rw [hb1.1]; exact hrl)
      refine ⟨.tup [.bool false true, kyV k, v], ρ, _, rfl, .inl ?_, by rw [List.length_set]; exact Ext.rfl', h3 (p := .rng r' kd [(k, v)] true) (F' := F) ⟨⟨f1, f2, f3⟩, hF, hne, es0, clk, _, q1, q2, by rw [hke]; exact g2, hst, by rw [hke]; exact hlen, fun h => (by cases h), fun _ => ⟨e, hmem, rfl⟩⟩ (fun _ h => .inl h) hu, ⟨trivial, kyV_sc _ _, V.sc_mono wid_l _ hsc.1, trivial⟩, ?_⟩
      · simp only [V.den, Sem.run_bind, hrun, Result.andThen_ok, Sem.run_pure, denL, kyV_den, hek, hev, encK]
      · rw [List.length_set]
        refine scM_set (fun i => Pl.sc_mono wid_l _ (hs i)) ⟨?_, scL_mono wid_l _ hsc⟩
        have := hs n
        rw [hm] at this
        exact .inl this.1
    · rename_i hno
      refine hend (fun e he => ?_) hr
      exfalso
      rw [keysK_len f2] at hlen
      match es, hlen, hno, g2 with
      | [], _, _, g2 =>
        have := entR_nil g2
        rw [this] at he
        cases he
      | [e], _, hno, _ => exact hno e rfl
      | a :: b :: l, hlen, _, _ => simp at hlen
  · obtain ⟨e0, he0, hseen⟩ := hd1 rfl
    refine hend (fun e he => ?_) hr
    rw [oneOf g2 hlen he he0, hseen]
    simp
theorem evEntry_snd (x : V) (hx : x.sc B) : Snd ar P (evEntry x : T A) B (fun ρ => do pure (.value (← Instr.entry (x.den ρ)))) := by
  unfold evEntry
  split
  case h_2 => exact Snd.fail
  rename_i r
  intro ch M obs lg rr M' ch' obs' lg' hr ho ρ w0 D w hB hA hs
  simp only [T.run] at hr
  unfold evEn3 at hr
  split at hr
  case h_2 => cases hr
  rename_i n hmr
  simp only [T.run] at hr
  unfold evEn2 at hr
  split at hr
  case h_2 => cases hr
  rename_i r' kd e hm
  split at hr
  case h_2 => cases hr
  rename_i hrr
  obtain rfl := Nat.eq_of_beq_eq_true hrr
  simp only [T.run] at hr
  cases hr
  obtain ⟨f1, f2, f3, F, ⟨hF, hne, es0, clk, seen, g1, hit, g2, hst, hlen, hd0, hd1⟩, h3⟩ := hA.rng hm
  have hsc : scL B ([e].map (·.2)) := by have := hs n; rw [hm] at this; exact this.2
  obtain ⟨k, v⟩ := e
  have hk : k.kind = kd := f2 _ List.mem_cons_self
  have hke : keysK kd (denE ρ [(k, v)]) = [(⟨k, hk⟩, v.den ρ)] := keysK_one hk
  rw [hke] at g2 hlen
  obtain ⟨e0, he0, hseen⟩ := hd1 rfl
  subst hseen
  obtain ⟨e1, es1, he1, hek, hev, _⟩ := entR_cons g2
  have hee : e0 = e1 := oneOf g2 hlen he0 (by rw [he1]; exact List.mem_cons_self)
  subst hee
  have hrun := run_entry_at (P := P) w (blkOf (ρ r')) (blkOf (ρ n)) clk #[] es0 clk e0 hit g1 he0 hst.1
  refine here hA hs (v := .tup [kyV k, v]) ?_ ⟨kyV_sc _ _, hsc.1, trivial⟩
  simp only [V.den, Sem.run_bind, hrun, Result.andThen_ok, Sem.run_pure, denL, kyV_den, hek, hev, encK]
end
end Go.Proofs.YthdnonoheochhaaGreatDoor
namespace Go.Proofs.YthdnonoheochhaaGreatDoor
open Go.RowKit
set_option linter.unusedVariables false
section
variable {A : Type} {ar : A → List Value → Value → Res} {P : Program} {B : Nat → Prop}
def inB (j : Int) (n : Nat) : Bool := match j with
  | .ofNat a => Nat.blt a n
  | .negSucc _ => false
theorem inB_iff {j : Int} {n : Nat} : inB j n = true ↔ 0 ≤ j ∧ j < (n : Int) := by
  cases j with
  | ofNat a => simp only [inB, Nat.blt_eq]; constructor <;> intro h <;> simp at * <;> omega
  | negSucc a => simp [inB]
def evIndex (P : Program) (t : TypeId) (x i : V) : T A := match i with
  | .int s k j => (match P.underlying t with
    | some .string => (match x with
      | .str s2 z => cnd (s || s2) (inB j (bL z).length) (.ret (rv (.int (s || s2) .u8 (Int.ofNat ((bL z).getD j.toNat 0).toNat))))
      | _ => .fail 560)
    | some (.array len el) => (match x with
      | .agg l => (match szO P el with
        | some sz => (match s, inB j len with
          | false, true => (match ldV P el l (j.toNat * sz) with
            | some v => .ret (rv v)
            | none => .fail 561)
          | _, _ => .fail 562)
        | none => .fail 563)
      | _ => .fail 564)
    | _ => .fail 565)
  | _ => .fail 566
theorem evIndex_snd (t : TypeId) (x i : V) (hx : x.sc B) : Snd ar P (evIndex P t x i : T A) B (fun ρ => do pure (.value (← Instr.index t (x.den ρ) (i.den ρ)))) := by
  unfold evIndex
  split
  case h_2 => exact Snd.fail
  rename_i s k j
  split
  · rename_i hu
    split
    case h_2 => exact Snd.fail
    rename_i s2 z
    refine cnd_snd fun h => Snd.pure (fun ρ w => ?_) trivial
    rw [inB_iff] at h
    have hlt : j.toNat < (bL z).length := by omega
    have hg : z[j.toNat]? = some ((bL z).getD j.toNat 0) := by
      rw [← bL_get, List.getElem?_eq_getElem hlt, List.getD_eq_getElem?_getD, List.getElem?_eq_getElem hlt]; rfl
    simp [Instr.index, asIntOf, V.den, run_underlying hu, h.1, hg]
  · rename_i len el hu
    split
    case h_2 => exact Snd.fail
    rename_i l
    split
    case h_2 => exact Snd.fail
    rename_i sz hsz
    split
    case h_2 => exact Snd.fail
    rename_i h
    rw [inB_iff] at h
    split
    case h_2 => exact Snd.fail
    rename_i v hv
    exact Snd.pure (fun ρ w => by simp [Instr.index, asIntOf, V.den, run_underlying hu, h.1, h.2, run_szOf hsz, run_part hv]) (ldV_sc hv hx)
  · exact Snd.fail
def evIndexAddr (P : Program) (t : TypeId) (x i : V) : T A := match i with
  | .int s k j => (match P.underlying t with
    | some (.array len el) => (match szO P el with
      | some sz => (match x with
        | .ptr n o => cnd s (inB j len) (.ret (rv (.ptr n (o + j.toNat * sz))))
        | .el n s2 i o => cnd s (inB j len) (.ret (rv (.el n s2 i (o + j.toNat * sz))))
        | _ => .fail 570)
      | none => .fail 571)
    | some (.slice el) => (match szO P el with
      | some sz => (match x with
        | .sl n s2 i m => rowG n i m fun _ s3 xs => (match Nat.beq s2 sz && Nat.beq s3 sz with
          | true => cnd s (inB j m) (.ret (rv (.el n sz (i + j.toNat) 0)))
          | false => .fail 572)
        | _ => .fail 573)
      | none => .fail 574)
    | _ => .fail 575)
  | _ => .fail 576
theorem evIndexAddr_snd (t : TypeId) (x i : V) (hx : x.sc B) : Snd ar P (evIndexAddr P t x i : T A) B (fun ρ => do pure (.value (← Instr.indexAt t (x.den ρ) (i.den ρ)))) := by
  unfold evIndexAddr
  split
  case h_2 => exact Snd.fail
  rename_i s k j
  split
  · rename_i len el hu
    split
    case h_2 => exact Snd.fail
    rename_i sz hsz
    split
    · rename_i n o
      refine cnd_snd fun h => Snd.pure (fun ρ w => ?_) hx
      rw [inB_iff] at h
      simp [Instr.indexAt, asIntOf, V.den, run_underlying hu, Instr.sureAddr, h.1, h.2, run_szOf hsz, add_ptr]
    · rename_i n s2 i o
      refine cnd_snd fun h => Snd.pure (fun ρ w => ?_) hx
      rw [inB_iff] at h
      simp [Instr.indexAt, asIntOf, V.den, run_underlying hu, Instr.sureAddr, h.1, h.2, run_szOf hsz, add_ptr, Nat.add_assoc]
    · exact Snd.fail
  · rename_i el hu
    split
    case h_2 => exact Snd.fail
    rename_i sz hsz
    split
    case h_2 => exact Snd.fail
    rename_i n s2 i m
    intro ch M obs lg r M' ch' obs' lg' hr ho ρ w0 D w hB hA hs
    obtain ⟨t', s3, xs, lg2, hM, hle, hr⟩ := rowG_run hr
    split at hr
    case h_2 => cases hr
    rename_i hc
    simp only [Bool.and_eq_true] at hc
    have e1 : s2 = sz := Nat.eq_of_beq_eq_true hc.1
    have e2 : s3 = sz := Nat.eq_of_beq_eq_true hc.2
    subst e1 e2
    obtain ⟨h, obs2, hr⟩ := cnd_run hr ho
    rw [inB_iff] at h
    cases hr
    obtain ⟨_, hrow⟩ := hA.row hM
    obtain ⟨c, hc, ⟨_, h0, _⟩ | ⟨g, hv, hsub⟩⟩ := sub_spec hrow s3 i m hle
    · omega
    · have hne : c ≠ i := by omega
      rw [if_neg hne] at hsub
      refine here hA hs ?_ hx
      show (do pure (.value (← Instr.indexAt t ((V.sl n s3 i m).den ρ) ((V.int s k j).den ρ))) : Sem Next).run P w = _
      have hb : blkOf (ρ n) = g := by rw [hv]; rfl
      have hden : (V.el n s3 (i + j.toNat) 0).den ρ = .pointer (some ⟨g, i * s3 + j.toNat * s3, none⟩) := by
        simp only [V.den, hb, Nat.add_zero, Nat.add_mul]
      rw [hden]
      simp [Instr.indexAt, asIntOf, V.den, run_underlying hu, hsub, h.1, h.2, run_szOf hsz, add_ptr]
  · exact Snd.fail
def bnd : Option V → Nat → Option (Bool × Int)
  | none, d => some (false, Int.ofNat d)
  | some (.int s _ j), _ => some (s, j)
  | _, _ => none
def bnds (l h : Int) (n : Nat) : Bool := match l, h with
  | .ofNat a, .ofNat b => Nat.ble a b && Nat.ble b n
  | _, _ => false
theorem bnds_iff {l h : Int} {n : Nat} : bnds l h n = true ↔ 0 ≤ l ∧ l ≤ h ∧ h ≤ (n : Int) := by
  cases l with
  | ofNat a =>
    cases h with
    | ofNat b => simp only [bnds, Bool.and_eq_true, Nat.ble_eq]; constructor <;> intro h <;> simp at * <;> omega
    | negSucc b => first | (simp [bnds]; done) | (simp [bnds]; omega)
  | negSucc a => first | (simp [bnds]; done) | (simp [bnds]; omega)
def evSlice0 (P : Program) (t : TypeId) (x : V) (lo hi : Option V) : T A := match P.underlying t with
  | some .string => (match x with
    | .str s z => (match bnd lo 0, bnd hi (bL z).length with
      | some (s1, l), some (s2, h) => cnd (s || s1 || s2) (bnds l h (bL z).length) (.ret (rv (.str (s || s1 || s2) (mkB (((bL z).drop l.toNat).take (h.toNat - l.toNat))))))
      | _, _ => .fail 580)
    | _ => .fail 581)
  | some (.slice el) => (match szO P el with
    | some sz => (match x with
      | .sl n s2 i m => rowG n i m fun _ s3 xs => (match bnd lo 0, bnd hi m with
        | some (s1, l), some (s4, h) => (match Nat.beq s2 sz && Nat.beq s3 sz, bnds l h m, s1 || s4 with
          | true, true, false => (match Nat.beq i 0 || Nat.beq l.toNat 0 || Nat.blt (i + l.toNat) xs.length with
            | true => .ret (rv (.sl n sz (i + l.toNat) (h.toNat - l.toNat)))
            | false => (match Nat.beq h.toNat l.toNat with
              | true => .new .esl fun N => .ret (rv (.nm N))
              | false => .fail 582))
          | _, _, _ => .fail 583)
        | _, _ => .fail 584)
      | .lit (.slice none 0 0) => (match bnd lo 0, bnd hi 0 with
        | some (s1, l), some (s4, h) => (match bnds l h 0, s1 || s4 with
          | true, false => .ret (rv (.lit (.slice none 0 0)))
          | _, _ => .fail 588)
        | _, _ => .fail 589)
      | _ => .fail 585)
    | none => .fail 586)
  | _ => .fail 587
theorem bounds_run {P : Program} {isS : Bool} {len cap : Nat} {lo hi : Option V} {s1 s2 : Bool} {l h : Int} (hl : bnd lo 0 = some (s1, l)) (hh : bnd hi len = some (s2, h)) (hb : bnds l h len = true) (hc : len ≤ cap) (ρ : En) (w : World) :
    (Instr.sliceBounds isS len cap (lo.map (V.den ρ)) (hi.map (V.den ρ)) none).run P w = .ok (l.toNat, h.toNat, cap) w := by
  rw [bnds_iff] at hb
  have hi' : ∀ (x : V) (s : Bool) (k : IntKind) (j : Int) (y : Nat) (c : BoundsCode), x = .int s k j → 0 ≤ j → j ≤ (y : Int) → (Instr.sliceBound (x.den ρ) y c).run P w = .ok j.toNat w := fun x s k j y c e h1 h2 => by
    subst e
    simp [Instr.sliceBound, asIntOf, V.den, h1, h2]
  unfold Instr.sliceBounds
  cases hi with
  | none =>
    simp only [bnd, Option.some.injEq, Prod.mk.injEq] at hh
    obtain ⟨rfl, rfl⟩ := hh
    cases lo with
    | none =>
      simp only [bnd, Option.some.injEq, Prod.mk.injEq] at hl
      obtain ⟨rfl, rfl⟩ := hl
      simp
    | some x =>
      cases x with
      | int s k j =>
        simp only [bnd, Option.some.injEq, Prod.mk.injEq] at hl
        obtain ⟨rfl, rfl⟩ := hl
        simp [hi' (.int s k j) s k j len _ rfl hb.1 (by simpa using hb.2.1)]
      | _ => simp [bnd] at hl
  | some x =>
    cases x with
    | int s k j =>
      simp only [bnd, Option.some.injEq, Prod.mk.injEq] at hh
      obtain ⟨rfl, rfl⟩ := hh
      cases lo with
      | none =>
        simp only [bnd, Option.some.injEq, Prod.mk.injEq] at hl
        obtain ⟨rfl, rfl⟩ := hl
        cases isS
        · simp [hi' (.int s k j) s k j cap _ rfl (by omega) (by omega)]
        · simp [hi' (.int s k j) s k j cap _ rfl (by omega) (by omega)]
      | some y =>
        cases y with
        | int s' k' j' =>
          simp only [bnd, Option.some.injEq, Prod.mk.injEq] at hl
          obtain ⟨rfl, rfl⟩ := hl
          cases isS
          · simp [hi' (.int s k j) s k j cap _ rfl (by omega) (by omega), hi' (.int s' k' j') s' k' j' j.toNat _ rfl hb.1 (by omega)]
          · simp [hi' (.int s k j) s k j cap _ rfl (by omega) (by omega), hi' (.int s' k' j') s' k' j' j.toNat _ rfl hb.1 (by omega)]
        | _ => simp [bnd] at hl
    | _ => simp [bnd] at hh
theorem evSlice0_snd (t : TypeId) (x : V) (lo hi : Option V) (hx : x.sc B) : Snd ar P (evSlice0 P t x lo hi : T A) B (fun ρ => do pure (.value (← Instr.sliceAt t (x.den ρ) (lo.map (V.den ρ)) (hi.map (V.den ρ)) none))) := by
  unfold evSlice0
  split
  · rename_i hu
    split
    case h_2 => exact Snd.fail
    rename_i s z
    split
    case h_2 => exact Snd.fail
    rename_i s1 l s2 h hl hh
    refine cnd_snd fun hb => Snd.pure (fun ρ w => ?_) trivial
    have h1 := bounds_run (P := P) (isS := false) hl hh hb (Nat.le_refl _) ρ w
    rw [bL_size] at h1
    simp [Instr.sliceAt, Instr.slice, run_underlying hu, V.den, h1, mkB_extract]
  · rename_i el hu
    split
    case h_2 => exact Snd.fail
    rename_i sz hsz
    split
    case h_3 => exact Snd.fail
    case h_2 =>
      split
      case h_2 => exact Snd.fail
      rename_i s1 l s4 h hl hh
      split
      case h_2 => exact Snd.fail
      rename_i hb hsy
      refine Snd.pure (fun ρ w => ?_) trivial
      have h1 := bounds_run (P := P) (isS := true) hl hh hb (Nat.zero_le 0) ρ w
      have hb' := bnds_iff.1 hb
      have hl0 : l.toNat = 0 := by omega
      have hh0 : h.toNat = 0 := by omega
      rw [hl0, hh0] at h1
      simp [Instr.sliceAt, Instr.slice, run_underlying hu, V.den, h1, run_szOf hsz]
    rename_i n s2 i m
    intro ch M obs lg r M' ch' obs' lg' hr ho ρ w0 D w hB hA hs
    obtain ⟨t', s3, xs, lg2, hM, hle, hr⟩ := rowG_run hr
    split at hr
    case h_2 => cases hr
    rename_i s1 l s4 h hl hh
    split at hr
    case h_2 => cases hr
    rename_i hc hb hsy
    simp only [Bool.and_eq_true] at hc
    have e1 : s2 = sz := Nat.eq_of_beq_eq_true hc.1
    have e2 : s3 = sz := Nat.eq_of_beq_eq_true hc.2
    subst e1 e2
    split at hr
    case h_2 =>
      rename_i hcap
      simp only [Bool.or_eq_false_iff] at hcap
      split at hr
      case h_2 => cases hr
      rename_i hhl
      have hhl := Nat.eq_of_beq_eq_true hhl
      simp only [T.run] at hr
      cases hr
      have hi0 : i ≠ 0 := fun e => by rw [e] at hcap; simp at hcap
      have hb' := bnds_iff.1 hb
      obtain ⟨_, hrow⟩ := hA.row hM
      obtain ⟨c, hcc, hsub⟩ := sub_spec hrow s3 i m hle
      rcases hsub with ⟨hv, h0, hc0, hsub⟩ | ⟨g, hv, hsub⟩
      · omega
      have h1 := bounds_run (P := P) (isS := true) hl hh hb (show m ≤ c - i by omega) ρ w
      have hrun : (Instr.sliceAt t ((V.sl n s3 i m).den ρ) (lo.map (V.den ρ)) (hi.map (V.den ρ)) none).run P w = .ok (.slice (some (if c - i = l.toNat then ⟨g, if c = i then 0 else i * s3, none⟩ else (⟨g, if c = i then 0 else i * s3, none⟩ : Addr).add (l.toNat * s3))) (h.toNat - l.toNat) (c - i - l.toNat)) w := by
        simp [Instr.sliceAt, Instr.slice, run_underlying hu, V.den, hsub, h1, run_szOf hsz]
        split <;> rfl
      have hB' : ∀ k, B k → k < M.length ∨ M.length + 1 ≤ k := fun k hk => by have := hB k hk; simpa using this
      have hz : h.toNat - l.toNat = 0 := by omega
      rw [hz] at hrun
      generalize hval : Value.slice (some (if c - i = l.toNat then (⟨g, if c = i then 0 else i * s3, none⟩ : Addr) else (⟨g, if c = i then 0 else i * s3, none⟩ : Addr).add (l.toNat * s3))) 0 (c - i - l.toNat) = val at hrun
      have hat := hA.mk hB' hs (p := .esl) (v := val) (F := fun _ => False) (w' := w) ⟨⟨_, _, by simp only [upE, if_true]; exact hval.symm⟩, fun b hb => hb⟩ (fun b hb => hb.elim) (Below.refl _ _)
      refine ⟨.nm M.length, upE ρ M.length val, w, rfl, .inl ?_, by rw [List.length_append]; exact ext_one, hat, .inr ⟨Nat.le_refl _, by simp⟩, scM_new hs trivial⟩
      have hnm : (V.nm M.length).den (upE ρ M.length val) = val := by simp only [V.den, upE, if_true]
      dsimp only
      rw [hnm]
      simp only [Sem.run_bind, hrun, Result.andThen_ok, Sem.run_pure]
    rename_i hcap
    simp only [Bool.or_eq_true, Nat.blt_eq] at hcap
    cases hr
    have hb' := bnds_iff.1 hb
    obtain ⟨_, hrow⟩ := hA.row hM
    obtain ⟨c, hcc, hsub⟩ := sub_spec hrow s3 i m hle
    obtain ⟨c2, hcc2, hsub2⟩ := sub_spec hrow s3 (i + l.toNat) (h.toNat - l.toNat) (by omega)
    refine here hA hs ?_ hx
    show (do pure (.value (← Instr.sliceAt t ((V.sl n s3 i m).den ρ) (lo.map (V.den ρ)) (hi.map (V.den ρ)) none)) : Sem Next).run P w = .ok (.value (subOf s3 (i + l.toNat) (h.toNat - l.toNat) (ρ n))) w
    rcases hsub with ⟨hv, h0, hc0, hsub⟩ | ⟨g, hv, hsub⟩
    · rcases hsub2 with ⟨_, _, _, hsub2⟩ | ⟨g, hv2, _⟩
      · have hm0 : m = 0 := by omega
        have hi0 : i = 0 := by omega
        subst hm0 hi0
        have h1 := bounds_run (P := P) (isS := true) hl hh hb (Nat.zero_le 0) ρ w
        have hl0 : l.toNat = 0 := by omega
        have hh0 : h.toNat = 0 := by omega
        rw [hsub2]
        rw [hl0, hh0] at h1 ⊢
        simp [Instr.sliceAt, Instr.slice, run_underlying hu, V.den, hsub, h1, run_szOf hsz]
      · rw [hv] at hv2; cases hv2
    · have h1 := bounds_run (P := P) (isS := true) hl hh hb (show m ≤ c - i by omega) ρ w
      have hsub2' : subOf s3 (i + l.toNat) (h.toNat - l.toNat) (ρ n) = .slice (some ⟨g, if c = i + l.toNat then 0 else (i + l.toNat) * s3, none⟩) (h.toNat - l.toNat) (c - (i + l.toNat)) := by rw [hv]; rfl
      have hrun : (Instr.sliceAt t ((V.sl n s3 i m).den ρ) (lo.map (V.den ρ)) (hi.map (V.den ρ)) none).run P w = .ok (.slice (some (if c - i = l.toNat then ⟨g, if c = i then 0 else i * s3, none⟩ else (⟨g, if c = i then 0 else i * s3, none⟩ : Addr).add (l.toNat * s3))) (h.toNat - l.toNat) (c - i - l.toNat)) w := by
        simp [Instr.sliceAt, Instr.slice, run_underlying hu, V.den, hsub, h1, run_szOf hsz]
        split <;> rfl
      rw [hsub2']
      simp only [Sem.run_bind, hrun, Result.andThen_ok, Sem.run_pure, add_ptr]
      have haddr : (if c - i = l.toNat then (⟨g, if c = i then 0 else i * s3, none⟩ : Addr) else ⟨g, (if c = i then 0 else i * s3) + l.toNat * s3, none⟩) = ⟨g, if c = i + l.toNat then 0 else (i + l.toNat) * s3, none⟩ := by
        rcases hcap with (h2 | h2) | h2
        · have hi0 : i = 0 := Nat.eq_of_beq_eq_true h2
          subst hi0
          by_cases h3 : c = l.toNat
          · simp [h3]
          · by_cases h4 : c = 0
            · omega
            · simp [h3, h4]
        · have hl0 : l.toNat = 0 := Nat.eq_of_beq_eq_true h2
          rw [hl0]
          by_cases h3 : c = i
          · simp [h3]
          · have : ¬ c - i = 0 := by omega
            simp [h3, this]
        · have h3 : ¬ c - i = l.toNat := by omega
          have h4 : ¬ c = i := by omega
          have h5 : ¬ c = i + l.toNat := by omega
          simp [h3, h4, h5, Nat.add_mul]
      rw [haddr, Nat.sub_sub]
  · exact Snd.fail
theorem sliceO_run {E N t el s3 n m : Nat} {cells : List Value} {lo hi : Option V} {s1 s4 : Bool} {l h : Int} {ρ : En} {w : World} (hu : P.underlying t = some (.slice el)) (hsz : szO P el = some s3) (hrow : w.ownsRow 0 E s3 (ρ n) N cells) (hm : m ≤ N)
    (hl : bnd lo 0 = some (s1, l)) (hh : bnd hi m = some (s4, h)) (hb : bnds l h m = true) :
    (do pure (.value (← Instr.sliceAt t ((V.sl n s3 0 m).den ρ) (lo.map (V.den ρ)) (hi.map (V.den ρ)) none)) : Sem Next).run P w = .ok (.value ((V.sl n s3 l.toNat (h.toNat - l.toNat)).den ρ)) w := by
  have hb' := bnds_iff.1 hb
  obtain ⟨c, hcc, hsub⟩ := sub_spec hrow s3 0 m (by omega)
  obtain ⟨c2, hcc2, hsub2⟩ := sub_spec hrow s3 l.toNat (h.toNat - l.toNat) (by omega)
  show (do pure (.value (← Instr.sliceAt t ((V.sl n s3 0 m).den ρ) (lo.map (V.den ρ)) (hi.map (V.den ρ)) none)) : Sem Next).run P w = .ok (.value (subOf s3 l.toNat (h.toNat - l.toNat) (ρ n))) w
  rcases hsub with ⟨hv, h0, hc0, hsub⟩ | ⟨g, hv, hsub⟩
  · rcases hsub2 with ⟨_, _, _, hsub2⟩ | ⟨g, hv2, _⟩
    · have hm0 : m = 0 := by omega
      subst hm0
      have h1 := bounds_run (P := P) (isS := true) hl hh hb (Nat.zero_le 0) ρ w
      have hl0 : l.toNat = 0 := by omega
      have hh0 : h.toNat = 0 := by omega
      rw [hsub2]
      rw [hl0, hh0] at h1 ⊢
      simp [Instr.sliceAt, Instr.slice, run_underlying hu, V.den, hsub, h1, run_szOf hsz]
    · rw [hv] at hv2; cases hv2
  · have h1 := bounds_run (P := P) (isS := true) hl hh hb (show m ≤ c by omega) ρ w
    have hsub2' : subOf s3 l.toNat (h.toNat - l.toNat) (ρ n) = .slice (some ⟨g, if c = l.toNat then 0 else l.toNat * s3, none⟩) (h.toNat - l.toNat) (c - l.toNat) := by rw [hv]; rfl
    have hrun : (Instr.sliceAt t ((V.sl n s3 0 m).den ρ) (lo.map (V.den ρ)) (hi.map (V.den ρ)) none).run P w = .ok (.slice (some (if c = l.toNat then ⟨g, 0, none⟩ else (⟨g, 0, none⟩ : Addr).add (l.toNat * s3))) (h.toNat - l.toNat) (c - l.toNat)) w := by
      simp [Instr.sliceAt, Instr.slice, run_underlying hu, V.den, hsub, h1, run_szOf hsz]
      split <;> rfl
    rw [hsub2']
    simp only [Sem.run_bind, hrun, Result.andThen_ok, Sem.run_pure, add_ptr]
    have haddr : (if c = l.toNat then (⟨g, 0, none⟩ : Addr) else ⟨g, 0 + l.toNat * s3, none⟩) = ⟨g, if c = l.toNat then 0 else l.toNat * s3, none⟩ := by
      by_cases h3 : c = l.toNat
      · simp [h3]
      · simp [h3]
    rw [haddr]
def opnB : Option V → Bool
  | some (.int true _ _) => true
  | _ => false
def evSliceR (P : Program) (t : TypeId) (n s2 m : Nat) (lo hi : Option V) : T A := match P.underlying t with
  | some (.slice el) => (match szO P el with
    | some sz => .get n fun q => (match q with
      | .row _ s3 xs => (match bnd lo 0, bnd hi m with
        | some (s1, l), some (s4, h) => (match Nat.beq s2 sz && Nat.beq s3 sz with
          | true => .need (bnds l h m && Nat.ble m xs.length) (.ret (rv (.sl n sz l.toNat (h.toNat - l.toNat))))
          | false => .fail 584)
        | _, _ => .fail 585)
      | .rowo _ xs => (match bnd lo 0, bnd hi m with
        | some (s1, l), some (s4, h) => (match Nat.beq s2 sz && Nat.beq 1 sz with
          | true => .need (bnds l h m && Nat.ble m xs.length) (.ret (rv (.sl n sz l.toNat (h.toNat - l.toNat))))
          | false => .fail 586)
        | _, _ => .fail 587)
      | _ => .fail 588)
    | none => .fail 589)
  | _ => .fail 590
def evSliceW (P : Program) (t : TypeId) (z : ByteArray) (lo hi : Option V) : T A := match P.underlying t, bnd lo 0, bnd hi (bL z).length with
  | some .string, some (s1, l), some (s2, h) => .ask (ieq l 0 && ieq h (Int.ofNat (bL z).length)) fun c => (match c with
    | true => .ret (rv (.str true z))
    | false => evSlice0 P t (.str true z) lo hi)
  | _, _, _ => .fail 592
def evSlice (P : Program) (t : TypeId) (x : V) (lo hi : Option V) : T A := match x with
  | .sl n s2 i m => (match opnB lo || opnB hi with
    | true => (match Nat.beq i 0 with
      | true => evSliceR P t n s2 m lo hi
      | false => .fail 591)
    | false => evSlice0 P t (.sl n s2 i m) lo hi)
  | .str true z => (match opnB lo || opnB hi with
    | true => evSliceW P t z lo hi
    | false => evSlice0 P t (.str true z) lo hi)
  | _ => evSlice0 P t x lo hi
theorem evSliceW_snd (t : TypeId) (z : ByteArray) (lo hi : Option V) : Snd ar P (evSliceW P t z lo hi : T A) B (fun ρ => do pure (.value (← Instr.sliceAt t ((V.str true z).den ρ) (lo.map (V.den ρ)) (hi.map (V.den ρ)) none))) := by
  unfold evSliceW
  split
  case h_2 => exact Snd.fail
  rename_i s1 l s2 h hu hl hh
  intro ch M obs lg r M' ch' obs' lg' hr ho ρ w0 D w hB hA hs
  match ch, hr with
  | [], hr => cases hr
  | c :: ch, hr =>
  cases c with
  | false => exact evSlice0_snd t (.str true z) lo hi trivial _ _ _ _ _ _ _ _ _ hr ho ρ w0 D w hB hA hs
  | true =>
    cases hr
    have hc := ho _ List.mem_cons_self
    simp only [Bool.and_eq_true, ieq_dec, decide_eq_true_eq] at hc
    obtain ⟨rfl, rfl⟩ := hc
    have hb : bnds 0 (Int.ofNat (bL z).length) (bL z).length = true := bnds_iff.2 ⟨Int.le_refl _, by simp, by simp⟩
    refine here hA hs ?_ trivial
    have h1 := bounds_run (P := P) (isS := false) hl hh hb (Nat.le_refl _) ρ w
    have hz : (bL z).length = z.size := by rw [bL_size]
    rw [hz] at h1
    simp [Instr.sliceAt, Instr.slice, run_underlying hu, V.den, h1]
theorem evSliceR_snd (t : TypeId) (n s2 m : Nat) (lo hi : Option V) (hx : (V.sl n s2 0 m).sc B) : Snd ar P (evSliceR P t n s2 m lo hi : T A) B (fun ρ => do pure (.value (← Instr.sliceAt t ((V.sl n s2 0 m).den ρ) (lo.map (V.den ρ)) (hi.map (V.den ρ)) none))) := by
  unfold evSliceR
  split
  case h_2 => exact Snd.fail
  rename_i el hu
  split
  case h_2 => exact Snd.fail
  rename_i sz hsz
  intro ch M obs lg r M' ch' obs' lg' hr ho ρ w0 D w hB hA hs
  simp only [T.run] at hr
  split at hr
  · rename_i t' s3 xs hM
    split at hr
    case h_2 => cases hr
    rename_i s1 l s4 h hl hh
    split at hr
    case h_2 => cases hr
    rename_i hc
    simp only [Bool.and_eq_true] at hc
    have e1 : s2 = sz := Nat.eq_of_beq_eq_true hc.1
    have e2 : s3 = sz := Nat.eq_of_beq_eq_true hc.2
    subst e1 e2
    have hn : (bnds l h m && Nat.ble m xs.length) = true := by
      cases hr
      exact ho _ List.mem_cons_self
    rw [Bool.and_eq_true, Nat.ble_eq] at hn
    cases hr
    exact here hA hs (sliceO_run hu hsz (hA.row hM).2 hn.2 hl hh hn.1) hx
  · rename_i t' xs hM
    split at hr
    case h_2 => cases hr
    rename_i s1 l s4 h hl hh
    split at hr
    case h_2 => cases hr
    rename_i hc
    simp only [Bool.and_eq_true] at hc
    have e1 : s2 = sz := Nat.eq_of_beq_eq_true hc.1
    have e2 : 1 = sz := Nat.eq_of_beq_eq_true hc.2
    subst e1 e2
    have hn : (bnds l h m && Nat.ble m xs.length) = true := by
      cases hr
      exact ho _ List.mem_cons_self
    rw [Bool.and_eq_true, Nat.ble_eq] at hn
    cases hr
    have hrow : w.ownsRow 0 t' 1 (ρ n) xs.length (denL ρ xs) := by
      have hlt : n < M.length := by
        rcases Nat.lt_or_ge n M.length with h | h
        · exact h
        · have : Mget M n = .none := by unfold Mget; rw [List.getD_eq_getElem?_getD, List.getElem?_eq_none h]; rfl
          rw [this] at hM; cases hM
      obtain ⟨F, h1, _⟩ := OwnN.step hA hlt
      rw [hM] at h1
      exact h1.2
    exact here hA hs (sliceO_run hu hsz hrow hn.2 hl hh hn.1) hx
  · cases hr
theorem evSlice_snd (t : TypeId) (x : V) (lo hi : Option V) (hx : x.sc B) : Snd ar P (evSlice P t x lo hi : T A) B (fun ρ => do pure (.value (← Instr.sliceAt t (x.den ρ) (lo.map (V.den ρ)) (hi.map (V.den ρ)) none))) := by
  unfold evSlice
  split
  · rename_i n s2 i m
    split
    · split
      · rename_i h0
        have h0 := Nat.eq_of_beq_eq_true h0
        subst h0
        exact evSliceR_snd t n s2 m lo hi hx
      · exact Snd.fail
    · exact evSlice0_snd t _ lo hi hx
  · split
    · exact evSliceW_snd t _ lo hi
    · exact evSlice0_snd t _ lo hi hx
  · exact evSlice0_snd t x lo hi hx
end
end Go.Proofs.YthdnonoheochhaaGreatDoor
namespace Go.Proofs.YthdnonoheochhaaGreatDoor
open Go.RowKit
set_option linter.unusedVariables false
section
variable {A : Type} {ar : A → List Value → Value → Res} {P : Program} {B : Nat → Prop}
def chunk (sz : Nat) : Nat → List V → List (List V)
  | 0, _ => []
  | n + 1, l => l.take sz :: chunk sz n (l.drop sz)
theorem chunk_spec {sz : Nat} : ∀ {n : Nat} {l : List V}, l.length = n * sz → (chunk sz n l).flatten = l ∧ (∀ x ∈ chunk sz n l, x.length = sz) ∧ (chunk sz n l).length = n
  | 0, l, h => by
    have : l = [] := List.length_eq_zero_iff.1 (by omega)
    subst this
    exact ⟨rfl, (fun x h => nomatch h), rfl⟩
  | n + 1, l, h => by
    rw [Nat.add_mul] at h
    obtain ⟨h1, h2, h3⟩ := chunk_spec (sz := sz) (n := n) (l := l.drop sz) (by rw [List.length_drop]; omega)
    refine ⟨by simp only [chunk, List.flatten_cons, h1, List.take_append_drop], fun x hx => ?_, by simp only [chunk, List.length_cons, h3]⟩
    rcases List.mem_cons.1 hx with h | h
    · rw [h, List.length_take]; omega
    · exact h2 x h
def zerosV (z : Value) (n : Nat) : List V := (List.range n).map fun j => ofV1 false (z.cells[j % z.cells.size]!)
theorem zerosV_den (ρ : En) (z : Value) (n : Nat) : denL ρ (zerosV z n) = ((Array.range n).map (fun j => z.cells[j % z.cells.size]!)).toList := by
  rw [denL_map, zerosV, List.map_map]
  simp only [Array.toList_map, Array.toList_range]
  exact List.map_congr_left fun j _ => ofV1_den _ _ _
def evBS (P : Program) (t : TypeId) (len : Nat) (ps : List (Nat × V)) : T A := match elO P t with
  | some (e, sz, _) => (match (P.info? e).bind (·.zero), Nat.ble (len * sz) 16777216 && Nat.ble len 9223372036854775807 with
    | some z, true => chkN (ps.map (·.2)) (match fillV (fun i => some (i * sz, sz)) (zerosV z (len * sz)) ps with
      | some out => (match Nat.beq out.length (len * sz) with
        | true => .new (.row e sz (chunk sz len out)) fun N => .ret (rv (.sl N sz 0 len))
        | false => .fail 590)
      | none => .fail 591)
    | _, _ => .fail 592)
  | none => .fail 593
theorem evBS_snd (t : TypeId) (len : Nat) (ps : List (Nat × V)) (parts : En → Array (Nat × Value)) (hp : ∀ p ∈ ps, p.2.sc B) (he : ∀ ρ, (parts ρ).toList = ps.map fun p => (p.1, p.2.den ρ)) :
    Snd ar P (evBS P t len ps) B (fun ρ => do pure (.value (← Instr.buildSlice t len (parts ρ)))) := by
  unfold evBS
  split
  case h_2 => exact Snd.fail
  rename_i e sz by_ hel
  obtain ⟨ht, i, z0, hi, hz0, hsz, hby, hzs, hpos⟩ := elO_spec hel
  split
  case h_2 => exact Snd.fail
  rename_i z hz hle
  have hzz : z0 = z := by
    rw [hi] at hz
    simp only [Option.bind_some, hz0, Option.some.injEq] at hz
    exact hz
  subst hzz
  simp only [Bool.and_eq_true, Nat.ble_eq] at hle
  intro ch M obs lg r M' ch' obs' lg' hr ho ρ w0 D w hB hA hS
  obtain ⟨lg2, hr, hn⟩ := chkN_run hr
  split at hr
  case h_2 => cases hr
  rename_i out hout
  split at hr
  case h_2 => cases hr
  rename_i hol
  have hol' : out.length = len * sz := Nat.eq_of_beq_eq_true hol
  obtain ⟨c1, c2, c3⟩ := chunk_spec hol'
  cases hr
  have hosc : scL B out := fillV_sc (by
    rw [scL_iff]; intro v hv
    obtain ⟨j, _, rfl⟩ := List.mem_map.1 hv
    exact ofV1_sc _ _ _) hp hout
  have hfill := fill_den (ρ := ρ) (fun p hp => cell_denN hA (hn p.2 (List.mem_map.2 ⟨p, hp, rfl⟩))) hout
  rw [zerosV_den] at hfill
  have hB' : ∀ n, B n → n < M.length ∨ M.length + 1 ≤ n := fun n hn => by have := hB n hn; simpa using this
  have hup : ∀ v n, B n → upE ρ M.length v n = ρ n := fun v n hn => if_neg (by have := hB' n hn; omega)
  have hrun : (Instr.buildSlice t len (parts ρ)).run P w = .ok (.slice (some ⟨w.heap.size, 0, none⟩) len len) (w.alloc (.cells (denL ρ out).toArray e)) := by
    have hzv : (zeroValue e).run P w = .ok z0 w := run_zero (by rw [hi]; exact hz0) w
    have hszo : (sizeOf e).run P w = .ok sz w := by simp [sizeOf, typeInfo, hi, hsz]
    have hlt : ¬ (len * sz > 2 ^ 24) := by omega
    unfold Instr.buildSlice
    simp only [Sem.run_bind, run_underlying ht, Result.andThen_ok, hszo, hlt, if_false]
    rw [he]
    by_cases h0 : len * sz = 0
    · rw [h0] at hfill ⊢
      simp only [if_true, Sem.run_bind, Sem.run_pure, Result.andThen_ok]
      have e0 : (Array.map (fun x => (#[] : Array Value)[x % (#[] : Array Value).size]!) (Array.range 0)) = (Array.map (fun x => z0.cells[x % z0.cells.size]!) (Array.range 0)) := by simp
      rw [e0]
      simp only [Array.toArray_toList] at hfill
      rw [hfill]
      simp only [Sem.run_bind, newRow, run_newObj_alloc, Result.andThen_ok, Sem.run_pure]
    · simp only [h0, if_false, Sem.run_bind, hzv, Result.andThen_ok, Sem.run_pure]
      simp only [Array.toArray_toList] at hfill
      rw [hfill]
      simp only [Sem.run_bind, newRow, run_newObj_alloc, Result.andThen_ok, Sem.run_pure]
  refine ⟨.sl M.length sz 0 len, upE ρ M.length (.slice (some ⟨w.heap.size, 0, none⟩) len len), w.alloc (.cells (denL ρ out).toArray e), rfl, .inl ?_, by rw [List.length_append]; exact ext_one, hA.mk hB' hS (F := fun b => b = w.heap.size) ?_ (fun b hb => by rw [hb]; exact Nat.le_refl _) (below_one w _), .inr ⟨Nat.le_refl _, by simp⟩, scM_new hS (show scL B _ from ?_)⟩
  · show (do pure (.value (← Instr.buildSlice t len (parts ρ))) : Sem Next).run P w = _
    simp only [Sem.run_bind, hrun, Result.andThen_ok, V.den, upE, if_pos, subOf, Nat.sub_zero, Nat.zero_mul, ite_self]
    rfl
  · refine ⟨c2, ?_⟩
    simp only [upE, if_pos]
    rw [c3, c1, denL_eq (hup _) _ hosc]
    refine ⟨fun b => ?_, by rw [denL_len, hol'], .inr ⟨w.heap.size, len, (denL ρ out).toArray, rfl, Nat.zero_le _, ?_, Nat.le_refl _, hle.2, by simp [denL_len, hol'], ?_⟩⟩
    · simp [Value.ownBlock, eq_comm]
    · show (w.heap.push _)[w.heap.size]? = _; simp
    · simp only [List.take_of_length_le (show (denL ρ out).length ≤ len * sz by rw [denL_len, hol']; exact Nat.le_refl _)]
  · rw [c1]; exact hosc
def mmI (mx : Bool) (a b : Int) : Int := match mx with
  | true => (match ilt a b with | true => b | false => a)
  | false => (match ilt b a with | true => b | false => a)
def mmV (mx : Bool) : Bool → IntKind → Int → List V → Option V
  | s, k, a, [] => some (.int s k a)
  | s, k, a, x :: l => match x with
    | .int s' _ b => mmV mx (s || s') k (mmI mx a b) l
    | _ => none
def evMM0 (P : Program) (o : Oper) (e : Operand → V) (mx : Bool) (l : List V) : T A := match l with
  | .int s k a :: l => (match mmV mx s k a l with
    | some v => .ret (rv v)
    | none => evPure P o e)
  | _ => evPure P o e
theorem mmV_run {mx : Bool} (f : Value → Value → Sem Value) (hf : ∀ k k' a b, f (.int k a) (.int k' b) = pure (.int k (mmI mx a b))) (ρ : En) (w : World) : ∀ {l : List V} {s : Bool} {k : IntKind} {a : Int} {v : V}, mmV mx s k a l = some v → v.cl = true ∧ ((denL ρ l).foldlM f (.int k a)).run P w = .ok (v.den ρ) w
  | [], s, k, a, v, h => by cases h; exact ⟨rfl, rfl⟩
  | x :: l, s, k, a, v, h => by
    unfold mmV at h
    split at h
    · rename_i s' k' b
      obtain ⟨h1, h2⟩ := mmV_run f hf ρ w h
      refine ⟨h1, ?_⟩
      simp only [denL, V.den, List.foldlM_cons, hf, Sem.run_bind, Sem.run_pure, Result.andThen_ok]
      exact h2
    · cases h
theorem evMM0_snd {o : Oper} {e : Operand → V} {mx : Bool} {c : Call} (hop : o.op = .call c) (hc : c.callee = .builtin (if mx then .max else .min)) :
    Snd ar P (evMM0 P o e mx (c.args.toList.map e) : T A) B (fun ρ => execOp (fun x => (e x).den ρ) o) := by
  have hpure : Snd ar P (evPure P o e : T A) B (fun ρ => execOp (fun x => (e x).den ρ) o) := evPure_snd (by rw [hop]; intro cs b h; cases h)
  unfold evMM0
  split
  case h_2 => exact hpure
  rename_i s k a l hl
  split
  case h_2 => exact hpure
  rename_i v hv
  have hargs : ∀ ρ, List.map (fun x => (e x).den ρ) c.args.toList = .int k a :: denL ρ l := fun ρ => by
    have := congrArg (denL ρ) hl
    rw [denL_map, List.map_map] at this
    exact this
  have hvc := (mmV_run (P := P) (mx := mx) (fun x y => match x, y with | .int k a, .int _ b => pure (.int k (mmI mx a b)) | _, _ => pure x) (fun _ _ _ _ => rfl) ρ0 default hv).1
  refine Snd.pure (fun ρ w => ?_) (V.cl_sc v hvc)
  show (execOp (fun x => (e x).den ρ) o).run P w = _
  unfold execOp
  rw [hop]
  cases mx with
  | true =>
    simp only [if_true] at hc
    have h1 := (mmV_run (P := P) (mx := true) Builtin.max2 (fun k k' a b => by simp only [Builtin.max2, mmI, ilt_dec]; congr 2; by_cases h : a < b <;> simp [h] <;> omega) ρ w hv).2
    simp [resolve, hc, invoke, builtin, Builtin.max_, hargs, h1]
  | false =>
    simp only [Bool.false_eq_true, if_false] at hc
    have h1 := (mmV_run (P := P) (mx := false) Builtin.min2 (fun k k' a b => by simp only [Builtin.min2, mmI, ilt_dec]; congr 2; by_cases h : b < a <;> simp [h]) ρ w hv).2
    simp [resolve, hc, invoke, builtin, Builtin.min_, hargs, h1]
def mm2 (l : List V) : Option (Bool × IntKind × Int × Bool × Int) := match l with
  | [.int s k a, .int s' _ b] => (match s || s' with
    | true => some (s, k, a, s', b)
    | false => none)
  | _ => none
def mmC (mx : Bool) (a b : Int) : Bool := match mx with
  | true => ilt a b
  | false => !ilt a b
theorem mm_pick {mx : Bool} {a b : Int} : ∀ {y : Bool}, mmC mx a b = y → mmI mx a b = bif y then b else a := by
  intro y h
  cases mx
  · simp only [mmC, ilt_dec] at h
    subst h
    simp only [mmI, ilt_dec]
    by_cases h1 : b < a
    · have h2 : ¬ a < b := by omega
      simp [h1, h2]
    · by_cases h2 : a < b
      · simp [h1, h2]
      · have : a = b := by omega
        subst this
        simp
  · simp only [mmC, ilt_dec] at h
    subst h
    simp only [mmI, ilt_dec]
    by_cases h1 : a < b <;> simp [h1]
def evMM (P : Program) (o : Oper) (e : Operand → V) (mx : Bool) (l : List V) : T A := match mm2 l with
  | some (s, k, a, s', b) => .ask (mmC mx a b) fun c => (match c with
    | true => .ret (rv (.int s' k b))
    | false => .ret (rv (.int s k a)))
  | none => evMM0 P o e mx l
theorem evMM_snd {o : Oper} {e : Operand → V} {mx : Bool} {c : Call} (hop : o.op = .call c) (hc : c.callee = .builtin (if mx then .max else .min)) :
    Snd ar P (evMM P o e mx (c.args.toList.map e) : T A) B (fun ρ => execOp (fun x => (e x).den ρ) o) := by
  have h0 := evMM0_snd (ar := ar) (P := P) (B := B) (A := A) (e := e) hop hc
  unfold evMM
  split
  case h_2 => exact h0
  rename_i s k a s' b hm
  have hl : ∃ k', c.args.toList.map e = [.int s k a, .int s' k' b] := by
    unfold mm2 at hm
    split at hm
    · rename_i hl
      split at hm
      · cases hm; exact ⟨_, hl⟩
      · cases hm
    · cases hm
  obtain ⟨k', hl⟩ := hl
  rw [hl] at h0
  intro ch M obs lg r M' ch' obs' lg' hr ho ρ w0 D w hB hA hS
  match ch, hr with
  | [], hr => cases hr
  | y :: ch, hr =>
  have key : ∀ v : V, v = (match y with | true => V.int s' k b | false => V.int s k a) → mmC mx a b = y → ∃ v' ρ' w', (rv v : RT) = rv v' ∧ ((execOp (fun x => (e x).den ρ) o).run P w = .ok (.value (v'.den ρ')) w' ∨ ((execOp (fun x => (e x).den ρ) o).run P w = .ok .skip w' ∧ v' = undV)) ∧ Ext M.length M.length ρ ρ' ∧ At ar w0 D w' ρ' M ∧ v'.sc (wid B M.length M.length) ∧ scM (wid B M.length M.length) M := fun v hv hy => by
    have hrun : (evMM0 P o e mx [.int s k a, .int s' k' b] : T A).run ch M obs lg = .ok (rv (.int (s || s') k (mmI mx a b))) M ch obs lg := rfl
    obtain ⟨v1, ρ1, w1, e1, e2, e3, e4, e5, e6⟩ := h0 ch M obs lg _ M ch obs lg hrun (fun p hp => ho p (by
      cases y with
      | true => cases hr; exact List.mem_cons_of_mem _ hp
      | false => cases hr; exact List.mem_cons_of_mem _ hp)) ρ w0 D w (fun n hn => by
        have := hB n hn
        cases y with
        | true => cases hr; exact this
        | false => cases hr; exact this) hA hS
    have e1 : V.int (s || s') k (mmI mx a b) = v1 := by
      have := congrArg RT.l e1
      exact (List.cons.inj this).1
    subst e1
    have hden : ∀ ρ : En, v.den ρ = (V.int (s || s') k (mmI mx a b)).den ρ := fun ρ => by
      rw [hv]
      show _ = Value.int k (mmI mx a b)
      rw [mm_pick hy]
      cases y <;> rfl
    refine ⟨v, ρ1, w1, rfl, ?_, e3, e4, ?_, e6⟩
    · rcases e2 with e2 | ⟨_, e2⟩
      · left; rw [hden]; exact e2
      · cases e2
    · rw [hv]; cases y <;> trivial
  cases y with
  | true =>
    cases hr
    exact key _ rfl (ho _ List.mem_cons_self)
  | false =>
    cases hr
    exact key _ rfl (ho _ List.mem_cons_self)
end
end Go.Proofs.YthdnonoheochhaaGreatDoor
namespace Go.Proofs.YthdnonoheochhaaGreatDoor
open Go.RowKit
set_option linter.unusedVariables false
section
variable {A : Type} {ar : A → List Value → Value → Res} {P : Program} {B : Nat → Prop}
def evMkS0 (P : Program) (t : TypeId) (l c : V) : T A := match l, c with
  | .int false .i64 (.ofNat a), .int false .i64 (.ofNat b) => (match elO P t with
    | some (e, sz, by_) => (match (P.info? e).bind (·.zero), Nat.ble a b && Nat.ble (by_ * b) 16777216 && Nat.ble b 16777216 with
      | some z, true => .new (.row e sz (List.replicate a (z.cells.toList.map (ofV1 false)))) fun N => .ret (rv (.sl N sz 0 a))
      | _, _ => .fail 600)
    | none => .fail 601)
  | _, _ => .fail 602
theorem zeros_rep (z : Array Value) (hz : 0 < z.size) : ∀ n, ((Array.range (n * z.size)).map (fun j => z[j % z.size]!)).toList = (List.replicate n z.toList).flatten := by
  intro n
  simp only [Array.toList_map, Array.toList_range]
  induction n with
  | zero => simp
  | succ n ih =>
    rw [List.replicate_succ', List.flatten_append, ← ih, Nat.add_mul, Nat.one_mul, List.range_add, List.map_append]
    congr 1
    rw [List.map_map]
    simp only [List.flatten_cons, List.flatten_nil, List.append_nil]
    apply List.ext_getElem?
    intro j
    simp only [List.getElem?_map]
    by_cases h : j < z.size
    · rw [List.getElem?_range h]
      simp only [Option.map_some, Function.comp]
      have : (n * z.size + j) % z.size = j := by rw [Nat.mul_comm, Nat.mul_add_mod]; exact Nat.mod_eq_of_lt h
      rw [this]
      simp [h]
    · rw [List.getElem?_eq_none (by simp; omega)]
      simp; omega
theorem run_mk {t e sz by_ : Nat} {z : Value} (hel : elO P t = some (e, sz, by_)) (hz : (P.info? e).bind (·.zero) = some z) {la lb : Int} (h0 : 0 ≤ la) (hab : la ≤ lb) (hb : lb ≤ 16777216) (hbb : (by_ : Int) * lb ≤ 16777216) (w : World) :
    (Instr.makeSlice t (.int .i64 la) (.int .i64 lb)).run P w = .ok (.slice (some ⟨w.heap.size, 0, none⟩) la.toNat lb.toNat) (w.alloc (.cells ((Array.range (lb.toNat * sz)).map (fun j => z.cells[j % z.cells.size]!)) e)) := by
  obtain ⟨ht, i, z0, hi, hz0, hsz, hby, hzs, hpos⟩ := elO_spec hel
  have wa : IntKind.i64.wrap la = la := IntWalk.i64_in _ (by omega)
  have wb : IntKind.i64.wrap lb = lb := IntWalk.i64_in _ (by omega)
  have hzv : (zeroValue e).run P w = .ok z w := run_zero hz w
  have hszo : (sizeOf e).run P w = .ok sz w := by simp [sizeOf, typeInfo, hi, hsz]
  have hti : (typeInfo e).run P w = .ok i w := by simp [typeInfo, hi]
  have n1 : decide (lb < 0) = false := decide_eq_false (by omega)
  have n2 : decide ((by_ : Int) * lb > 2 ^ 48) = false := decide_eq_false (by omega)
  have n3 : decide (la < 0) = false := decide_eq_false (by omega)
  have n4 : decide (la > lb) = false := decide_eq_false (by omega)
  have hroom : (askRoom (lb.toNat * by_)).run P w = .ok () w := by
    unfold askRoom
    have hn : by_ * lb.toNat ≤ 16777216 := by
      have : ((by_ * lb.toNat : Nat) : Int) = (by_ : Int) * lb := by rw [Int.natCast_mul, Int.toNat_of_nonneg (by omega)]
      omega
    have : ¬ (lb.toNat * by_ > roomBytes) := by rw [Nat.mul_comm]; unfold roomBytes; omega
    rw [if_neg this]; rfl
  have hfin : (do
      let zero ← if lb.toNat * sz = 0 then pure #[] else do pure (← zeroValue e).cells
      let a ← newRow e ((Array.range (lb.toNat * sz)).map (zero[· % zero.size]!))
      pure (Value.slice (some a) la.toNat lb.toNat) : Sem Value).run P w = .ok (.slice (some ⟨w.heap.size, 0, none⟩) la.toNat lb.toNat) (w.alloc (.cells ((Array.range (lb.toNat * sz)).map (fun j => z.cells[j % z.cells.size]!)) e)) := by
    by_cases hz : lb.toNat * sz = 0
    · rw [if_pos hz, hz]
      have e0 : ∀ f : Nat → Value, Array.map f (Array.range 0) = #[] := fun f => by simp
      simp only [e0, Sem.run_bind, Sem.run_pure, newRow, run_newObj_alloc, Result.andThen_ok]
    · rw [if_neg hz]
      simp [newRow, Result.andThen, hzv]
  unfold Instr.makeSlice
  rw [Sem.run_bind, run_underlying ht]
  simp only [Result.andThen_ok]
  rw [Sem.run_bind, show (asInt (.int .i64 la)).run P w = .ok la w from rfl]
  simp only [Result.andThen_ok]
  rw [Sem.run_bind, show (asInt (.int .i64 lb)).run P w = .ok lb w from rfl]
  simp only [Result.andThen_ok]
  rw [Sem.run_bind, hti]
  simp only [Result.andThen_ok, hby, wa, wb, n1, n2, n3, n4, Bool.or_false, Bool.false_eq_true, if_false]
  rw [Sem.run_bind, hroom]
  simp only [Result.andThen_ok]
  rw [Sem.run_bind, hszo]
  simp only [Result.andThen_ok]
  exact hfin
theorem evMkS0_snd (t : TypeId) (l c : V) : Snd ar P (evMkS0 P t l c : T A) B (fun ρ => do pure (.value (← Instr.makeSlice t (l.den ρ) (c.den ρ)))) := by
  unfold evMkS0
  split
  case h_2 => exact Snd.fail
  rename_i a b
  split
  case h_2 => exact Snd.fail
  rename_i e sz by_ hel
  obtain ⟨ht, i, z0, hi, hz0, hsz, hby, hzs, hpos⟩ := elO_spec hel
  split
  case h_2 => exact Snd.fail
  rename_i z hz hle
  have hzz : z0 = z := by
    rw [hi] at hz
    simp only [Option.bind_some, hz0, Option.some.injEq] at hz
    exact hz
  subst hzz
  simp only [Bool.and_eq_true, Nat.ble_eq] at hle
  obtain ⟨⟨hab, hbb⟩, hb2⟩ := hle
  intro ch M obs lg r M' ch' obs' lg' hr ho ρ w0 D w hB hA hS
  cases hr
  have hB' : ∀ n, B n → n < M.length ∨ M.length + 1 ≤ n := fun n hn => by have := hB n hn; simpa using this
  have hrun := run_mk (P := P) hel hz (la := Int.ofNat a) (lb := Int.ofNat b) (by simp only [Int.ofNat_eq_natCast]; omega) (by simp only [Int.ofNat_eq_natCast]; omega) (by simp only [Int.ofNat_eq_natCast]; omega) (by show (by_ : Int) * (b : Int) ≤ 16777216; rw [← Int.natCast_mul]; omega) w
  simp only [Int.ofNat_eq_natCast, Int.toNat_natCast] at hrun
  obtain ⟨cells, hcells⟩ : ∃ cells, (Array.range (b * sz)).map (fun j => z0.cells[j % z0.cells.size]!) = cells := ⟨_, rfl⟩
  rw [hcells] at hrun
  have hcl : cells.toList = (List.replicate b z0.cells.toList).flatten := by
    rw [← hcells, ← hzs]; exact zeros_rep z0.cells (by omega) b
  have hlen1 : ∀ x ∈ List.replicate a (z0.cells.toList.map (ofV1 false)), x.length = sz := fun x hx => by
    rw [(List.mem_replicate.1 hx).2]; simp [hzs]
  have hden : ∀ ρ, denL ρ (List.replicate a (z0.cells.toList.map (ofV1 false))).flatten = (List.replicate a z0.cells.toList).flatten := fun ρ => by
    rw [denL_map, List.map_flatten, List.map_replicate]
    congr 2
    rw [List.map_map]
    exact (List.map_congr_left (fun v _ => ofV1_den false v _)).trans (List.map_id' _)
  have hszc : cells.size = b * sz := by rw [← hcells]; simp
  refine ⟨.sl M.length sz 0 a, upE ρ M.length (.slice (some ⟨w.heap.size, 0, none⟩) a b), w.alloc (.cells cells e), rfl, .inl ?_, by rw [List.length_append]; exact ext_one, hA.mk hB' hS (F := fun b => b = w.heap.size) ?_ (fun b hb => by rw [hb]; exact Nat.le_refl _) (below_one w _), .inr ⟨Nat.le_refl _, by simp⟩, scM_new hS (show scL B _ from ?_)⟩
  · show (do pure (.value (← Instr.makeSlice t (.int .i64 (Int.ofNat a)) (.int .i64 (Int.ofNat b)))) : Sem Next).run P w = _
    simp only [Int.ofNat_eq_natCast, Sem.run_bind, hrun, Result.andThen_ok, V.den, upE, if_pos, subOf, Nat.sub_zero, Nat.zero_mul, ite_self]
    rfl
  · refine ⟨hlen1, ?_⟩
    simp only [upE, if_pos]
    rw [List.length_replicate, hden]
    refine ⟨fun b => ?_, ?_, .inr ⟨w.heap.size, b, cells, rfl, Nat.zero_le _, ?_, hab, ?_, hszc, ?_⟩⟩
    · simp [Value.ownBlock, eq_comm]
    · rw [flat_len (sz := sz) fun x hx => by rw [(List.mem_replicate.1 hx).2]; simp [hzs], List.length_replicate]
    · show (w.heap.push _)[w.heap.size]? = _; simp
    · have : maxLen = 9223372036854775807 := rfl
      omega
    · rw [hcl]
      have hrl : ∀ x ∈ List.replicate b z0.cells.toList, x.length = sz := fun x hx => by rw [(List.mem_replicate.1 hx).2]; simp [hzs]
      rw [← flat_take hrl, List.take_replicate, Nat.min_eq_left hab]
  · rw [scL_iff]
    intro u hu
    obtain ⟨y, hy, huy⟩ := List.mem_flatten.1 hu
    rw [(List.mem_replicate.1 hy).2] at huy
    obtain ⟨v, _, rfl⟩ := List.mem_map.1 huy
    exact ofV1_sc _ _ _
def evMkO (P : Program) (t : TypeId) (a b : Int) : T A := match elO P t with
  | some (e, 1, by_) => (match (P.info? e).bind (·.zero), Nat.beq by_ 1 with
    | some z, true => .need (ieq a b && bnds 0 a 16777216) (.new (.rowo e (List.replicate a.toNat (z.cells.toList.map (ofV1 false))).flatten) fun N => .ret (rv (.sl N 1 0 a.toNat)))
    | _, _ => .fail 603)
  | _ => .fail 604
def evMkS (P : Program) (t : TypeId) (l c : V) : T A := match l with
  | .int true .i64 a => (match c with
    | .int true .i64 b => evMkO P t a b
    | _ => .fail 605)
  | _ => evMkS0 P t l c
theorem evMkO_snd (t : TypeId) (la lb : Int) : Snd ar P (evMkO P t la lb : T A) B (fun ρ => do pure (.value (← Instr.makeSlice t (.int .i64 la) (.int .i64 lb)))) := by
  unfold evMkO
  split
  case h_2 => exact Snd.fail
  rename_i e by_ hel
  obtain ⟨ht, i, z0, hi, hz0, hsz, hby, hzs, hpos⟩ := elO_spec hel
  split
  case h_2 => exact Snd.fail
  rename_i z hz hb1
  have hb1 := Nat.eq_of_beq_eq_true hb1
  have hzz : z0 = z := by
    rw [hi] at hz
    simp only [Option.bind_some, hz0, Option.some.injEq] at hz
    exact hz
  subst hzz
  intro ch M obs lg r M' ch' obs' lg' hr ho ρ w0 D w hB hA hS
  have hc : (ieq la lb && bnds 0 la 16777216) = true := by
    have h2 : (T.need (ieq la lb && bnds 0 la 16777216) (.new (.rowo e (List.replicate la.toNat (z0.cells.toList.map (ofV1 false))).flatten) fun N => .ret (rv (.sl N 1 0 la.toNat))) : T A).run ch M obs lg = .ok r M' ch' obs' lg' := hr
    cases hr
    exact ho _ List.mem_cons_self
  rw [Bool.and_eq_true, ieq_dec, decide_eq_true_eq, bnds_iff] at hc
  obtain ⟨rfl, h0, h1, h2⟩ := hc
  cases hr
  have hB' : ∀ n, B n → n < M.length ∨ M.length + 1 ≤ n := fun n hn => by have := hB n hn; simpa using this
  have hrun := run_mk (P := P) hel hz (la := la) (lb := la) h1 (Int.le_refl _) (by omega) (by rw [hb1]; omega) w
  obtain ⟨a, ha⟩ : ∃ a, la.toNat = a := ⟨_, rfl⟩
  rw [ha] at hrun ⊢
  obtain ⟨cells, hcells⟩ : ∃ cells, (Array.range (a * 1)).map (fun j => z0.cells[j % z0.cells.size]!) = cells := ⟨_, rfl⟩
  rw [hcells] at hrun
  have hcl : cells.toList = (List.replicate a z0.cells.toList).flatten := by
    rw [← hcells]
    have := zeros_rep z0.cells (by omega) a
    rw [hzs] at this
    rw [hzs]
    exact this
  have hden : ∀ ρ, denL ρ (List.replicate a (z0.cells.toList.map (ofV1 false))).flatten = (List.replicate a z0.cells.toList).flatten := fun ρ => by
    rw [denL_map, List.map_flatten, List.map_replicate]
    congr 2
    rw [List.map_map]
    exact (List.map_congr_left (fun v _ => ofV1_den false v _)).trans (List.map_id' _)
  have hszc : cells.size = a * 1 := by rw [← hcells]; simp
  have hxl : (List.replicate a (z0.cells.toList.map (ofV1 false))).flatten.length = a := by
    rw [flat_len (sz := 1) fun x hx => by rw [(List.mem_replicate.1 hx).2]; simp [hzs], List.length_replicate, Nat.mul_one]
  refine ⟨.sl M.length 1 0 a, upE ρ M.length (.slice (some ⟨w.heap.size, 0, none⟩) a a), w.alloc (.cells cells e), rfl, .inl ?_, by rw [List.length_append]; exact ext_one, hA.mk hB' hS (F := fun b => b = w.heap.size) ?_ (fun b hb => by rw [hb]; exact Nat.le_refl _) (below_one w _), .inr ⟨Nat.le_refl _, by simp⟩, scM_new hS ?_⟩
  · simp only [Sem.run_bind, hrun, Result.andThen_ok, V.den, upE, if_pos, subOf, Nat.sub_zero, Nat.zero_mul, ite_self]
    rfl
  · show (rowR (upE ρ M.length _ M.length) e 1 _ _).P _ _
    simp only [upE, if_pos]
    rw [hxl, hden]
    refine ⟨fun b => ?_, ?_, .inr ⟨w.heap.size, a, cells, rfl, Nat.zero_le _, ?_, Nat.le_refl _, ?_, hszc, ?_⟩⟩
    · simp [Value.ownBlock, eq_comm]
    · rw [flat_len (sz := 1) fun x hx => by rw [(List.mem_replicate.1 hx).2]; simp [hzs], List.length_replicate]
    · show (w.heap.push _)[w.heap.size]? = _; simp
    · have : maxLen = 9223372036854775807 := rfl
      omega
    · rw [hcl, List.take_of_length_le]
      rw [flat_len (sz := 1) fun x hx => by rw [(List.mem_replicate.1 hx).2]; simp [hzs], List.length_replicate]
      exact Nat.le_refl _
  · show scL _ (List.replicate a (z0.cells.toList.map (ofV1 false))).flatten
    rw [scL_iff]
    intro u hu
    obtain ⟨y, hy, huy⟩ := List.mem_flatten.1 hu
    rw [(List.mem_replicate.1 hy).2] at huy
    obtain ⟨v, _, rfl⟩ := List.mem_map.1 huy
    exact ofV1_sc _ _ _
theorem evMkS_snd (t : TypeId) (l c : V) : Snd ar P (evMkS P t l c : T A) B (fun ρ => do pure (.value (← Instr.makeSlice t (l.den ρ) (c.den ρ)))) := by
  unfold evMkS
  split
  · split
    · exact evMkO_snd t _ _
    · exact Snd.fail
  · exact evMkS0_snd t l c
end
end Go.Proofs.YthdnonoheochhaaGreatDoor
namespace Go.Proofs.YthdnonoheochhaaGreatDoor
open Go.RowKit
set_option linter.unusedVariables false
section
variable {A : Type} {ar : A → List Value → Value → Res} {P : Program} {B : Nat → Prop}
def copySrc (x : V) (d : Nat) (k : Nat → List (List V) → T A) : T A := match x with
  | .sl n sz i m => rowG n i m fun _ s xs => (match Nat.beq s sz with
    | true => k (Nat.min m d) ((xs.drop i).take (Nat.min m d))
    | false => .fail 610)
  | .str false z => k (Nat.min (bL z).length d) (((bL z).take (Nat.min (bL z).length d)).map fun b => [V.int false .u8 (Int.ofNat b.toNat)])
  | _ => .fail 611
theorem copySrc_run {x : V} {d : Nat} {k : Nat → List (List V) → T A} {ch obs lg r M' ch' obs' lg'} {M : List (Pl A)} {ρ : En} {w0 w : World} {D : Nat → Prop} (hA : At ar w0 D w ρ M) (hS : scM B M) (h : (copySrc x d k).run ch M obs lg = .ok r M' ch' obs' lg') :
    ∃ c ys lg2 sz, (k c ys).run ch M obs lg2 = .ok r M' ch' obs' lg' ∧ ys.length = c ∧ (∀ y ∈ ys, y.length = sz) ∧ scL B ys.flatten ∧ c ≤ d ∧
      (∃ L, (Builtin.lenOf (x.den ρ)).run P w = .ok L w ∧ Nat.min L d = c) ∧ (Builtin.firstCells sz c (x.den ρ)).run P w = .ok (denL ρ ys.flatten).toArray w := by
  unfold copySrc at h
  split at h
  · rename_i n sz i m
    obtain ⟨t, s, xs, lg2, hM, hle, h2⟩ := rowG_run h
    clear h
    split at h2
    case h_2 => cases h2
    rename_i hs
    have hs' : s = sz := Nat.eq_of_beq_eq_true hs
    subst hs'
    obtain ⟨hl, hrow⟩ := hA.row hM
    obtain ⟨c0, hc, hsub⟩ := sub_spec hrow s i m hle
    have hmin : Nat.min m d ≤ m := Nat.min_le_left _ _
    refine ⟨Nat.min m d, (xs.drop i).take (Nat.min m d), lg2, s, h2, by rw [List.length_take, List.length_drop]; omega, fun y hy => hl y (List.mem_of_mem_drop (List.mem_of_mem_take hy)), scL_iff.2 fun u hu => ?_, Nat.min_le_right _ _, ⟨m, ?_, rfl⟩, ?_⟩
    · obtain ⟨y, hy, huy⟩ := List.mem_flatten.1 hu
      have := hS n
      rw [hM] at this
      exact scL_iff.1 (show scL B xs.flatten from this) u (List.mem_flatten.2 ⟨y, List.mem_of_mem_drop (List.mem_of_mem_take hy), huy⟩)
    · rcases hsub with ⟨_, _, _, h1⟩ | ⟨g, _, h1⟩ <;> (show (Builtin.lenOf (subOf s i m (ρ n))).run P w = _; rw [h1]; rfl)
    · show (Builtin.firstCells s (Nat.min m d) (subOf s i m (ρ n))).run P w = _
      by_cases h0 : Nat.min m d = 0
      · rw [h0]
        rcases hsub with ⟨_, _, _, h1⟩ | ⟨g, _, h1⟩
        · rw [h1]; rfl
        · rw [h1]
          simp only [Builtin.firstCells, Nat.zero_mul, List.take_zero, List.flatten_nil, denL]
          simpa using run_loadCells_list (P := P) w _ [] (by simp)
      · obtain ⟨a, c2, hsub2, hcells⟩ := view_cells hl hrow (i := i) (m := Nat.min m d) (by omega) (by omega)
        obtain ⟨a', c2', hsub3, hcells'⟩ := view_cells hl hrow hle (by omega)
        have haa : a = a' := by
          rcases hsub with ⟨hv, h0, _⟩ | ⟨g, hv, _⟩
          · omega
          · rw [hv] at hsub2 hsub3
            simp only [subOf, Value.slice.injEq, Option.some.injEq] at hsub2 hsub3
            rw [← hsub2.1, ← hsub3.1]
        rw [hsub3]
        simp only [Builtin.firstCells]
        have hlen : (denL ρ ((xs.drop i).take (Nat.min m d)).flatten).length = Nat.min m d * s := by
          rw [denL_len, flat_len (sz := s) fun y hy => hl y (List.mem_of_mem_drop (List.mem_of_mem_take hy)), List.length_take, List.length_drop]
          congr 1
          omega
        have := run_loadCells_list (P := P) w a' _ (haa ▸ hcells)
        rw [hlen] at this
        exact this
  · rename_i z
    have hmin : Nat.min (bL z).length d ≤ (bL z).length := Nat.min_le_left _ _
    have hfl : ∀ l : List UInt8, (l.map fun b => [V.int false .u8 (Int.ofNat b.toNat)]).flatten = l.map fun b => V.int false .u8 (Int.ofNat b.toNat) := fun l => by
      induction l with
      | nil => rfl
      | cons a l ih => simp only [List.map_cons, List.flatten_cons, ih]; rfl
    refine ⟨_, _, _, 1, h, by rw [List.length_map, List.length_take]; omega, fun y hy => ?_, ?_, Nat.min_le_right _ _, ⟨(bL z).length, ?_, rfl⟩, ?_⟩
    · obtain ⟨b, _, rfl⟩ := List.mem_map.1 hy; rfl
    · rw [hfl, scL_iff]
      intro u hu
      obtain ⟨b, _, rfl⟩ := List.mem_map.1 hu
      trivial
    · rw [bL_size]; rfl
    · show (Builtin.firstCells 1 (Nat.min (bL z).length d) (.string z)).run P w = _
      rw [hfl, denL_map, List.map_map]
      simp only [Builtin.firstCells, Sem.run_pure]
      congr 1
      apply Array.toList_inj.1
      rw [Array.toList_map, Lib.extract_data]
      simp only [List.drop_zero, Nat.sub_zero]
      exact List.map_congr_left fun b _ => rfl
  · cases h
def evCopy0 (P : Program) (t : TypeId) (d x : V) : T A := match P.underlying t with
  | some (.slice e) => (match szO P e with
    | some sz => (match d with
      | .sl n s0 i m => rowG n i m fun e' sz' xs => (match Nat.beq sz' sz && Nat.beq s0 sz with
        | true => copySrc x m fun c ys => (match ys.all fun y => Nat.beq y.length sz with
          | true => (match Nat.beq c 0 with
            | true => .ret (rv (.int false .i64 0))
            | false => chk ys.flatten (.put n (.row e' sz' (xs.take i ++ ys ++ xs.drop (i + c))) (.ret (rv (.int false .i64 (Int.ofNat c))))))
          | false => .fail 620)
        | false => .fail 621)
      | _ => .fail 622)
    | none => .fail 623)
  | _ => .fail 624
theorem evCopy0_snd (t t2 ty : TypeId) (d x : V) (hd : d.sc B) (hx : x.sc B) : Snd ar P (evCopy0 P t d x : T A) B (fun ρ => do let r ← Builtin.copy_ #[t, t2] ty #[d.den ρ, x.den ρ]; pure (.value r)) := by
  unfold evCopy0
  split
  case h_2 => exact Snd.fail
  rename_i e hu
  split
  case h_2 => exact Snd.fail
  rename_i sz hsz
  split
  case h_2 => exact Snd.fail
  rename_i n s0 i m
  intro ch M obs lg r M' ch' obs' lg' hr ho ρ w0 D w hB hA hS
  obtain ⟨e', sz', xs, lg1, hM, hle, hr⟩ := rowG_run hr
  split at hr
  case h_2 => cases hr
  rename_i hc
  simp only [Bool.and_eq_true] at hc
  have he : sz' = sz := Nat.eq_of_beq_eq_true hc.1
  have hes : s0 = sz := Nat.eq_of_beq_eq_true hc.2
  subst he
  subst hes
  obtain ⟨c, ys, lg2, sz2, hr, hyl, hys2, hysc, hcm, ⟨L, hL, hLc⟩, hcells⟩ := copySrc_run (P := P) (B := B) hA hS hr
  split at hr
  case h_2 => cases hr
  rename_i hall
  have hys : ∀ y ∈ ys, y.length = s0 := fun y hy => Nat.eq_of_beq_eq_true (List.all_eq_true.1 hall y hy)
  obtain ⟨hl, hrow⟩ := hA.row hM
  obtain ⟨c0, hc0, hsub⟩ := sub_spec hrow s0 i m hle
  have hszo : (sizeOf e).run P w = .ok s0 w := run_szOf hsz w
  have hcells' : (Builtin.firstCells s0 c (x.den ρ)).run P w = .ok (denL ρ ys.flatten).toArray w := by
    cases ys with
    | nil =>
      have : c = 0 := by rw [← hyl]; rfl
      subst this
      rw [← hcells]
      cases hq : x.den ρ <;> first | rfl | skip
      rename_i a l cc
      cases a with
      | none => rfl
      | some a => simp only [Builtin.firstCells, Nat.zero_mul]
    | cons y l => rw [← hys y List.mem_cons_self, hys2 y List.mem_cons_self]; exact hcells
  have hcopy : ∀ (base : Option Addr) (cap : Nat) (w' : World), (V.sl n s0 i m).den ρ = .slice base m cap → (match base with | some a => (storeCells a (denL ρ ys.flatten)).run P w = .ok () w' | none => w' = w) →
      (do let r ← Builtin.copy_ #[t, t2] ty #[(V.sl n s0 i m).den ρ, x.den ρ]; pure (.value r) : Sem Next).run P w = .ok (.value (goInt c)) w' := fun base cap w' hden hst => by
    rw [hden]
    unfold Builtin.copy_
    simp only [List.getElem?_toArray, List.getElem?_cons_zero, List.getElem?_cons_succ, Sem.run_bind, run_underlying hu, Result.andThen_ok, hL, hLc, hszo, hcells']
    cases base with
    | none => simp at hst; subst hst; rfl
    | some a => simp only at hst; simp only [Sem.run_bind, hst, Result.andThen_ok]; rfl
  split at hr
  · rename_i hcz
    have hcz' : c = 0 := Nat.eq_of_beq_eq_true hcz
    subst hcz'
    cases hr
    have hnil : ys = [] := List.length_eq_zero_iff.1 hyl
    refine here hA hS ?_ trivial
    show (do let r ← Builtin.copy_ #[t, t2] ty #[(V.sl n s0 i m).den ρ, x.den ρ]; pure (.value r) : Sem Next).run P w = _
    rcases hsub with ⟨_, _, _, h1⟩ | ⟨g, _, h1⟩
    · exact hcopy none 0 w (by show subOf s0 i m (ρ n) = _; exact h1) rfl
    · exact hcopy _ _ w (by show subOf s0 i m (ρ n) = _; exact h1) (by rw [hnil]; rfl)
  · rename_i hcz
    obtain ⟨lg3, hr2, hone⟩ := chk_run hr
    clear hr
    have hr := hr2
    clear hr2
    have h1 := one_of hA hone
    simp only [T.run] at hr
    split at hr
    case h_2 => cases hr
    cases hr
    have hcp : 0 < c := by
      rcases Nat.eq_zero_or_pos c with h | h
      · subst h; cases hcz
      · exact h
    have hyfl : (denL ρ ys.flatten).length = c * s0 := by rw [denL_len, flat_len hys, hyl]
    have hmul : i * s0 + c * s0 ≤ xs.length * s0 := by rw [← Nat.add_mul]; exact Nat.mul_le_mul_right _ (by omega)
    obtain ⟨w', hst, hrow', hu'⟩ := row_store (P := P) (p := i * s0) (vs := denL ρ ys.flatten) hrow (by rw [hyfl]; exact hmul) h1
    rcases hsub with ⟨_, h0, _, _⟩ | ⟨g, hv, hs1⟩
    · omega
    have hne : c0 ≠ i := by omega
    rw [if_neg hne] at hs1
    obtain ⟨F, f1, f2, f3⟩ := hA.chg (At.ltR hM)
    rw [hM] at f1
    have hall2 : ∀ y ∈ xs.take i ++ ys ++ xs.drop (i + c), y.length = s0 := fun y hy => by
      rcases List.mem_append.1 hy with h | h
      · rcases List.mem_append.1 h with h | h
        · exact hl y (List.mem_of_mem_take h)
        · exact hys y h
      · exact hl y (List.mem_of_mem_drop h)
    have hlen2 : (xs.take i ++ ys ++ xs.drop (i + c)).length = xs.length := by
      simp only [List.length_append, List.length_take, List.length_drop, hyl]; omega
    refine ⟨.int false .i64 (Int.ofNat c), ρ, w', rfl, .inl ?_, Ext.rfl', f3 (F' := F) (p := .row e' s0 (xs.take i ++ ys ++ xs.drop (i + c))) ⟨hall2, f1.2.1, ?_⟩ (fun _ h => .inl h) (hu'.mono fun b _ hb => (f1.2.1 b).2 hb), trivial, scM_wid (scM_set hS (show scL B _ from ?_))⟩
    · show (do let r ← Builtin.copy_ #[t, t2] ty #[(V.sl n s0 i m).den ρ, x.den ρ]; pure (.value r) : Sem Next).run P w = _
      have hb : blkOf (ρ n) = g := by rw [hv]; rfl
      rw [hb] at hst
      exact hcopy (some ⟨g, i * _, none⟩) (c0 - i) w' (by show subOf _ i m (ρ n) = _; rw [hs1]) hst
    · rw [hlen2]
      have e1 : denL ρ (xs.take i ++ ys ++ xs.drop (i + c)).flatten = (denL ρ xs.flatten).take (i * s0) ++ denL ρ ys.flatten ++ (denL ρ xs.flatten).drop (i * s0 + (denL ρ ys.flatten).length) := by
        rw [hyfl, ← Nat.add_mul, List.flatten_append, List.flatten_append, flat_take hl, flat_drop hl]
        simp only [denL_map, List.map_append, List.map_take, List.map_drop]
      rw [e1]
      exact hrow'
    · have h4 := hS n
      rw [hM] at h4
      have h4 : scL B xs.flatten := h4
      rw [scL_iff] at h4 hysc ⊢
      intro u hu
      rw [List.flatten_append, List.flatten_append] at hu
      rcases List.mem_append.1 hu with h | h
      · rcases List.mem_append.1 h with h | h
        · obtain ⟨y, hy, huy⟩ := List.mem_flatten.1 h
          exact h4 u (List.mem_flatten.2 ⟨y, List.mem_of_mem_take hy, huy⟩)
        · exact hysc u h
      · obtain ⟨y, hy, huy⟩ := List.mem_flatten.1 h
        exact h4 u (List.mem_flatten.2 ⟨y, List.mem_of_mem_drop hy, huy⟩)
def tabO (L i : Nat) (z : ByteArray) (xs : List (List V)) : List (List V) := (List.range L).map fun k => match Nat.ble i k && Nat.blt (Nat.sub k i) (bL z).length with
  | true => [V.int true .u8 (Int.ofNat ((bL z).getD (Nat.sub k i) 0).toNat)]
  | false => xs.getD k []
def ysO (z : ByteArray) : List (List V) := (bL z).map fun b => [V.int true .u8 (Int.ofNat b.toNat)]
theorem tabO_eq {i : Nat} {z : ByteArray} {xs : List (List V)} (h : i + (bL z).length ≤ xs.length) : tabO xs.length i z xs = xs.take i ++ ysO z ++ xs.drop (i + (bL z).length) := by
  have hy : (ysO z).length = (bL z).length := by simp [ysO]
  apply List.ext_getElem?
  intro k
  unfold tabO
  by_cases hk : k < xs.length
  · rw [List.getElem?_map, List.getElem?_range hk]
    by_cases h1 : k < i
    · rw [List.append_assoc, List.getElem?_append_left (by rw [List.length_take]; omega), List.getElem?_take_of_lt h1]
      have : (Nat.ble i k && Nat.blt (Nat.sub k i) (bL z).length) = false := by
        rw [Bool.and_eq_false_iff]
        exact .inl (by rw [← Bool.not_eq_true, Nat.ble_eq]; omega)
      simp only [Option.map_some, this]
      rw [List.getD_eq_getElem?_getD, List.getElem?_eq_getElem hk]
      rfl
    · by_cases h2 : k < i + (bL z).length
      · rw [List.append_assoc, List.getElem?_append_right (by rw [List.length_take]; omega), List.length_take, Nat.min_eq_left (by omega), List.getElem?_append_left (by rw [hy]; omega)]
        have : (Nat.ble i k && Nat.blt (Nat.sub k i) (bL z).length) = true := by
          rw [Bool.and_eq_true]
          exact ⟨by rw [Nat.ble_eq]; omega, by rw [blt_dec]; exact decide_eq_true (show k - i < _ by omega)⟩
        simp only [Option.map_some, this]
        unfold ysO
        rw [List.getElem?_map, List.getElem?_eq_getElem (by omega)]
        show some _ = some _
        rw [List.getD_eq_getElem?_getD, show Nat.sub k i = k - i from rfl, List.getElem?_eq_getElem (by omega)]
        rfl
      · rw [List.getElem?_append_right (by rw [List.length_append, List.length_take, hy]; omega), List.length_append, List.length_take, hy, List.getElem?_drop]
        have : (Nat.ble i k && Nat.blt (Nat.sub k i) (bL z).length) = false := by
          rw [Bool.and_eq_false_iff]
          exact .inr (by rw [blt_dec]; exact decide_eq_false (show ¬ k - i < _ by omega))
        simp only [Option.map_some, this]
        rw [Nat.min_eq_left (by omega), show i + (bL z).length + (k - (i + (bL z).length)) = k by omega, List.getD_eq_getElem?_getD, List.getElem?_eq_getElem hk]
        rfl
  · rw [List.getElem?_eq_none (by simp; omega), List.getElem?_eq_none (by rw [List.length_append, List.length_append, List.length_take, hy, List.length_drop]; omega)]
theorem ysO_flat (z : ByteArray) : (ysO z).flatten = (bL z).map fun b => V.int true .u8 (Int.ofNat b.toNat) := by
  unfold ysO
  induction bL z with
  | nil => rfl
  | cons a l ih => simp only [List.map_cons, List.flatten_cons, ih]; rfl
def rowN (n i m : Nat) (k : TypeId → Nat → List (List V) → T A) : T A := .get n fun
  | .row t sz xs => .need (Nat.ble (i + m) xs.length) (k t sz xs)
  | _ => .fail 505
theorem rowN_run {n i m : Nat} {k : TypeId → Nat → List (List V) → T A} {M : List (Pl A)} {ch : List Bool} {obs : Obs} {lg : Lg} {r M' ch' obs' lg'} (h : (rowN n i m k).run ch M obs lg = .ok r M' ch' obs' lg') (ho : okObs obs') :
    ∃ t sz xs obs2 lg2, Mget M n = .row t sz xs ∧ i + m ≤ xs.length ∧ (k t sz xs).run ch M obs2 lg2 = .ok r M' ch' obs' lg' := by
  unfold rowN at h
  simp only [T.run] at h
  split at h
  · rename_i t sz xs hm
    have h : (k t sz xs).run ch M ((Nat.ble (i + m) xs.length, true) :: obs) (lg.rd n) = .ok r M' ch' obs' lg' := h
    have hle : Nat.ble (i + m) xs.length = true := run_obs _ h ho _ List.mem_cons_self
    exact ⟨t, sz, xs, _, _, hm, Nat.le_of_ble_eq_true hle, h⟩
  · cases h
def evCopyO (P : Program) (t : TypeId) (d : V) (z : ByteArray) : T A := match P.underlying t with
  | some (.slice e) => (match szO P e with
    | some 1 => (match d with
      | .sl n 1 i m => rowN n i m fun e' sz' xs => (match Nat.beq sz' 1 with
        | true => .ask (Nat.blt 0 (bL z).length) fun b => (match b with
          | true => .need (Nat.ble (bL z).length m) (.put n (.row e' 1 (tabO xs.length i z xs)) (.ret (rv (.int true .i64 (Int.ofNat (bL z).length)))))
          | false => .ret (rv (.int false .i64 0)))
        | false => .fail 625)
      | _ => .fail 626)
    | _ => .fail 627)
  | _ => .fail 628
def evCopyR (P : Program) (t : TypeId) (n i m : Nat) (e' : TypeId) (xs : List V) (x : V) : T A := match P.underlying t with
  | some (.slice e) => (match szO P e with
    | some 1 => (match x with
      | .sl n2 1 i2 m2 => .get n2 fun q => (match q with
        | .row e2 1 ys => .ask (Nat.ble m m2) fun b => (match b with
          | true => .ask (Nat.blt 0 m) fun b2 => .need (Nat.ble (i + m) xs.length && (Nat.ble (i2 + m2) ys.length && (((ys.drop i2).take m).flatten).all V.one)) (match b2 with
            | true => .put n (.rowo e' (xs.take i ++ ((ys.drop i2).take m).flatten ++ xs.drop (i + m))) (.ret (rv (.int true .i64 (Int.ofNat m))))
            | false => .ret (rv (.int false .i64 0)))
          | false => .fail 629)
        | _ => .fail 630)
      | _ => .fail 631)
    | _ => .fail 632)
  | _ => .fail 633
def evCopy (P : Program) (t : TypeId) (d x : V) : T A := match x with
  | .str true z => evCopyO P t d z
  | _ => (match d with
    | .sl n s0 i m => .get n fun q => (match q with
      | .rowo e' xs => (match Nat.beq s0 1 with
        | true => evCopyR P t n i m e' xs x
        | false => .fail 634)
      | _ => evCopy0 P t (.sl n s0 i m) x)
    | _ => evCopy0 P t d x)
theorem evCopyO_snd (t t2 ty : TypeId) (d : V) (z : ByteArray) (hd : d.sc B) : Snd ar P (evCopyO P t d z : T A) B (fun ρ => do let r ← Builtin.copy_ #[t, t2] ty #[d.den ρ, .string z]; pure (.value r)) := by
  unfold evCopyO
  split
  case h_2 => exact Snd.fail
  rename_i e hu
  split
  case h_2 => exact Snd.fail
  rename_i hsz
  split
  case h_2 => exact Snd.fail
  rename_i n i m
  intro ch M obs lg r M' ch' obs' lg' hr ho ρ w0 D w hB hA hS
  obtain ⟨e', sz', xs, obs2, lg1, hM, hle, hr⟩ := rowN_run hr ho
  split at hr
  case h_2 => cases hr
  rename_i he
  have he := Nat.eq_of_beq_eq_true he
  subst he
  obtain ⟨hl, hrow⟩ := hA.row hM
  obtain ⟨c0, hc0, hsub⟩ := sub_spec hrow 1 i m hle
  have hszo : (sizeOf e).run P w = .ok 1 w := run_szOf hsz w
  have hL : (Builtin.lenOf (.string z)).run P w = .ok (bL z).length w := by rw [bL_size]; rfl
  cases ch with
  | nil => cases hr
  | cons b ch =>
    simp only [T.run] at hr
    cases b with
    | false =>
      cases hr
      have hz : (bL z).length = 0 := by
        have := ho (Nat.blt 0 (bL z).length, false) List.mem_cons_self
        simp only [blt_dec] at this
        have := of_decide_eq_false this
        omega
      refine here hA hS ?_ trivial
      have hmin : Nat.min (bL z).length m = 0 := by rw [hz]; exact Nat.zero_min _
      have hfc : (Builtin.firstCells 1 0 (.string z)).run P w = .ok #[] w := by
        simp only [Builtin.firstCells, Sem.run_pure]
        congr 1
        apply Array.toList_inj.1
        rw [Array.toList_map, Lib.extract_data]
        simp
      show (do let r ← Builtin.copy_ #[t, t2] ty #[subOf 1 i m (ρ n), .string z]; pure (.value r) : Sem Next).run P w = _
      rcases hsub with ⟨_, _, _, h1⟩ | ⟨g, _, h1⟩
      · rw [h1]
        unfold Builtin.copy_
        simp only [List.getElem?_toArray, List.getElem?_cons_zero, List.getElem?_cons_succ, Sem.run_bind, run_underlying hu, Result.andThen_ok, hL, hmin, hszo, hfc]
        rfl
      · rw [h1]
        unfold Builtin.copy_
        simp only [List.getElem?_toArray, List.getElem?_cons_zero, List.getElem?_cons_succ, Sem.run_bind, run_underlying hu, Result.andThen_ok, hL, hmin, hszo, hfc]
        rfl
    | true =>
      simp only [T.run] at hr
      split at hr
      case h_2 => cases hr
      cases hr
      have hpos : 0 < (bL z).length := by
        have := ho (Nat.blt 0 (bL z).length, true) (by simp)
        simp only [blt_dec] at this
        exact of_decide_eq_true this
      have hfit : (bL z).length ≤ m := by
        have := ho (Nat.ble (bL z).length m, true) (by simp)
        simpa using this
      have hmin : Nat.min (bL z).length m = (bL z).length := Nat.min_eq_left hfit
      have hys : ∀ y ∈ ysO z, y.length = 1 := fun y hy => by obtain ⟨b, _, rfl⟩ := List.mem_map.1 hy; rfl
      have hyl : (ysO z).length = (bL z).length := by simp [ysO]
      have hysc : scL B (ysO z).flatten := by
        rw [ysO_flat, scL_iff]
        intro u hu
        obtain ⟨b, _, rfl⟩ := List.mem_map.1 hu
        trivial
      have h1 : ∀ u ∈ denL ρ (ysO z).flatten, u.oneCell' = true := fun u hu => by
        rw [ysO_flat, denL_map, List.map_map] at hu
        obtain ⟨b, _, rfl⟩ := List.mem_map.1 hu
        rfl
      have hcells : (Builtin.firstCells 1 (bL z).length (.string z)).run P w = .ok (denL ρ (ysO z).flatten).toArray w := by
        rw [ysO_flat, denL_map, List.map_map]
        simp only [Builtin.firstCells, Sem.run_pure]
        congr 1
        apply Array.toList_inj.1
        rw [Array.toList_map, Lib.extract_data]
        simp only [List.drop_zero, Nat.sub_zero]
        rw [show z.data.toList = bL z from rfl, List.take_of_length_le (Nat.le_refl _)]
        rfl
      rw [tabO_eq (by omega)]
      have hyfl : (denL ρ (ysO z).flatten).length = (bL z).length * 1 := by rw [denL_len, flat_len hys, hyl]
      have hmul : i * 1 + (bL z).length * 1 ≤ xs.length * 1 := by omega
      obtain ⟨w', hst, hrow', hu'⟩ := row_store (P := P) (p := i * 1) (vs := denL ρ (ysO z).flatten) hrow (by rw [hyfl]; exact hmul) h1
      rcases hsub with ⟨_, h0, _, _⟩ | ⟨g, hv, hs1⟩
      · omega
      have hne : c0 ≠ i := by omega
      rw [if_neg hne] at hs1
      obtain ⟨F, f1, f2, f3⟩ := hA.chg (At.ltR hM)
      rw [hM] at f1
      have hall2 : ∀ y ∈ xs.take i ++ ysO z ++ xs.drop (i + (bL z).length), y.length = 1 := fun y hy => by
        rcases List.mem_append.1 hy with h | h
        · rcases List.mem_append.1 h with h | h
          · exact hl y (List.mem_of_mem_take h)
          · exact hys y h
        · exact hl y (List.mem_of_mem_drop h)
      have hlen2 : (xs.take i ++ ysO z ++ xs.drop (i + (bL z).length)).length = xs.length := by
        simp only [List.length_append, List.length_take, List.length_drop, hyl]; omega
      refine ⟨.int true .i64 (Int.ofNat (bL z).length), ρ, w', rfl, .inl ?_, Ext.rfl', f3 (F' := F) (p := .row e' 1 (xs.take i ++ ysO z ++ xs.drop (i + (bL z).length))) ⟨hall2, f1.2.1, ?_⟩ (fun _ h => .inl h) (hu'.mono fun b _ hb => (f1.2.1 b).2 hb), trivial, scM_wid (scM_set hS ?_)⟩
      · have hb : blkOf (ρ n) = g := by rw [hv]; rfl
        rw [hb] at hst
        show (do let r ← Builtin.copy_ #[t, t2] ty #[subOf 1 i m (ρ n), .string z]; pure (.value r) : Sem Next).run P w = _
        rw [hs1]
        unfold Builtin.copy_
        simp only [List.getElem?_toArray, List.getElem?_cons_zero, List.getElem?_cons_succ, Sem.run_bind, run_underlying hu, Result.andThen_ok, hL, hmin, hszo, hcells, hst]
        rfl
      · rw [hlen2]
        have e1 : denL ρ (xs.take i ++ ysO z ++ xs.drop (i + (bL z).length)).flatten = (denL ρ xs.flatten).take (i * 1) ++ denL ρ (ysO z).flatten ++ (denL ρ xs.flatten).drop (i * 1 + (denL ρ (ysO z).flatten).length) := by
          rw [hyfl, ← Nat.add_mul, List.flatten_append, List.flatten_append, flat_take hl, flat_drop hl]
          simp only [denL_map, List.map_append, List.map_take, List.map_drop]
        rw [e1]
        exact hrow'
      · have h4 := hS n
        rw [hM] at h4
        have h4 : scL B xs.flatten := h4
        show scL B (xs.take i ++ ysO z ++ xs.drop (i + (bL z).length)).flatten
        rw [scL_iff] at h4 hysc ⊢
        intro u hu
        rw [List.flatten_append, List.flatten_append] at hu
        rcases List.mem_append.1 hu with h | h
        · rcases List.mem_append.1 h with h | h
          · obtain ⟨y, hy, huy⟩ := List.mem_flatten.1 h
            exact h4 u (List.mem_flatten.2 ⟨y, List.mem_of_mem_take hy, huy⟩)
          · exact hysc u h
        · obtain ⟨y, hy, huy⟩ := List.mem_flatten.1 h
          exact h4 u (List.mem_flatten.2 ⟨y, List.mem_of_mem_drop hy, huy⟩)
theorem src_cells {w0 w : World} {D : Nat → Prop} {ρ : En} {M : List (Pl A)} (hA : At ar w0 D w ρ M) {n2 i2 m2 m : Nat} {e2 : TypeId} {ys : List (List V)} (hM : Mget M n2 = .row e2 1 ys) (hle : i2 + m2 ≤ ys.length) (hm : m ≤ m2) :
    (Builtin.lenOf (subOf 1 i2 m2 (ρ n2))).run P w = .ok m2 w ∧ (Builtin.firstCells 1 m (subOf 1 i2 m2 (ρ n2))).run P w = .ok (denL ρ ((ys.drop i2).take m).flatten).toArray w ∧ (((ys.drop i2).take m).flatten).length = m := by
  obtain ⟨hl, hrow⟩ := hA.row hM
  obtain ⟨c0, hc, hsub⟩ := sub_spec hrow 1 i2 m2 hle
  have hfl : (((ys.drop i2).take m).flatten).length = m := by
    rw [flat_len (sz := 1) fun y hy => hl y (List.mem_of_mem_drop (List.mem_of_mem_take hy)), List.length_take, List.length_drop]; omega
  refine ⟨?_, ?_, hfl⟩
  · rcases hsub with ⟨_, _, _, h1⟩ | ⟨g, _, h1⟩ <;> (rw [h1]; rfl)
  · by_cases h0 : m = 0
    · subst h0
      rcases hsub with ⟨_, _, _, h1⟩ | ⟨g, _, h1⟩
      · rw [h1]; rfl
      · rw [h1]
        simp only [Builtin.firstCells, Nat.zero_mul, List.take_zero, List.flatten_nil, denL]
        simpa using run_loadCells_list (P := P) w _ [] (by simp)
    · obtain ⟨a, c2, hsub2, hcells⟩ := view_cells hl hrow (i := i2) (m := m) (by omega) (by omega)
      obtain ⟨a', c2', hsub3, hcells'⟩ := view_cells hl hrow hle (by omega)
      have haa : a = a' := by
        rcases hsub with ⟨hv, h0, _⟩ | ⟨g, hv, _⟩
        · omega
        · rw [hv] at hsub2 hsub3
          simp only [subOf, Value.slice.injEq, Option.some.injEq] at hsub2 hsub3
          rw [← hsub2.1, ← hsub3.1]
      rw [hsub3]
      simp only [Builtin.firstCells]
      have hlen : (denL ρ ((ys.drop i2).take m).flatten).length = m * 1 := by rw [denL_len, hfl, Nat.mul_one]
      have := run_loadCells_list (P := P) w a' _ (haa ▸ hcells)
      rw [hlen] at this
      exact this
theorem evCopyR_snd (t t2 ty : TypeId) (n i m : Nat) (e' : TypeId) (xs : List V) (x : V) (hx : x.sc B) {ch : List Bool} {M : List (Pl A)} {obs : Obs} {lg : Lg} {r M' ch' obs' lg'} (hM : Mget M n = .rowo e' xs)
    (hr : (evCopyR P t n i m e' xs x : T A).run ch M obs lg = .ok r M' ch' obs' lg') (ho : okObs obs') (ρ : En) (w0 : World) (D : Nat → Prop) (w : World) (hB : ∀ n, B n → n < M.length ∨ M'.length ≤ n) (hA : At ar w0 D w ρ M) (hS : scM B M) :
    ∃ v ρ' w', r = (rv v) ∧ ((do let r ← Builtin.copy_ #[t, t2] ty #[(V.sl n 1 i m).den ρ, x.den ρ]; pure (.value r) : Sem Next).run P w = .ok (.value (v.den ρ')) w' ∨ ((do let r ← Builtin.copy_ #[t, t2] ty #[(V.sl n 1 i m).den ρ, x.den ρ]; pure (.value r) : Sem Next).run P w = .ok .skip w' ∧ v = undV)) ∧ Ext M.length M'.length ρ ρ' ∧ At ar w0 D w' ρ' M' ∧ v.sc (wid B M.length M'.length) ∧ scM (wid B M.length M'.length) M' := by
  unfold evCopyR at hr
  split at hr
  case h_2 => cases hr
  rename_i e hu
  split at hr
  case h_2 => cases hr
  rename_i hsz
  split at hr
  case h_2 => cases hr
  rename_i n2 i2 m2
  simp only [T.run] at hr
  split at hr
  case h_2 => cases hr
  rename_i e2 ys hM2
  match ch, hr with
  | [], hr => cases hr
  | b :: ch, hr =>
  simp only [T.run] at hr
  cases b with
  | false => cases hr
  | true =>
  simp only at hr
  match ch, hr with
  | [], hr => cases hr
  | b2 :: ch, hr =>
  simp only [T.run] at hr
  have hszo : (sizeOf e).run P w = .ok 1 w := run_szOf hsz w
  have hlt : n < M.length := At.lt' hM (by intro e; cases e)
  obtain ⟨F, f1, f2, f3⟩ := hA.chg hlt
  rw [hM] at f1
  have hrow : w.ownsRow 0 e' 1 (ρ n) xs.length (denL ρ xs) := f1.2
  have hobs : (Nat.blt 0 m = b2) ∧ (Nat.ble m m2 = true) ∧ (Nat.ble (i + m) xs.length && (Nat.ble (i2 + m2) ys.length && (((ys.drop i2).take m).flatten).all V.one)) = true := by
    cases b2 with
    | false => cases hr; exact ⟨ho (Nat.blt 0 m, false) (by simp), ho (Nat.ble m m2, true) (by simp), ho _ List.mem_cons_self⟩
    | true =>
      simp only [T.run] at hr
      split at hr
      case h_2 => cases hr
      cases hr; exact ⟨ho (Nat.blt 0 m, true) (by simp), ho (Nat.ble m m2, true) (by simp), ho _ List.mem_cons_self⟩
  obtain ⟨o1, o2, o3⟩ := hobs
  simp only [Bool.and_eq_true, Nat.ble_eq] at o2 o3
  obtain ⟨o3, o4, o5⟩ := o3
  obtain ⟨hL, hcells, hfl⟩ := src_cells (P := P) hA hM2 o4 o2
  obtain ⟨c0, hc0, hsub⟩ := sub_spec hrow 1 i m o3
  have hmin : Nat.min m2 m = m := Nat.min_eq_right o2
  cases b2 with
  | false =>
    cases hr
    have hz : m = 0 := by
      rw [blt_dec] at o1
      have := of_decide_eq_false o1
      omega
    refine here hA hS ?_ trivial
    show (do let r ← Builtin.copy_ #[t, t2] ty #[subOf 1 i m (ρ n), subOf 1 i2 m2 (ρ n2)]; pure (.value r) : Sem Next).run P w = _
    have hst0 : ∀ a : Addr, (storeCells a (denL ρ ((ys.drop i2).take m).flatten)).run P w = .ok () w := fun a => by
      rw [hz]
      rfl
    rcases hsub with ⟨_, _, _, h1⟩ | ⟨g, _, h1⟩
    · rw [h1]
      unfold Builtin.copy_
      simp only [List.getElem?_toArray, List.getElem?_cons_zero, List.getElem?_cons_succ, Sem.run_bind, run_underlying hu, Result.andThen_ok, hL, hmin, hszo, hcells]
      rw [hz]; rfl
    · rw [h1]
      unfold Builtin.copy_
      simp only [List.getElem?_toArray, List.getElem?_cons_zero, List.getElem?_cons_succ, Sem.run_bind, run_underlying hu, Result.andThen_ok, hL, hmin, hszo, hcells, hst0]
      rw [hz]; rfl
  | true =>
    have hpos : 0 < m := by
      rw [blt_dec] at o1
      exact of_decide_eq_true o1
    simp only [T.run] at hr
    split at hr
    case h_2 => cases hr
    cases hr
    obtain ⟨zs, hzs⟩ : ∃ zs, ((ys.drop i2).take m).flatten = zs := ⟨_, rfl⟩
    rw [hzs] at hcells hfl o5 ⊢
    have h1 : ∀ u ∈ denL ρ zs, u.oneCell' = true := fun u hu => by
      rw [denL_map] at hu
      obtain ⟨v, hv, rfl⟩ := List.mem_map.1 hu
      exact V.one_den (List.all_eq_true.1 o5 v hv) ρ
    have hyfl : (denL ρ zs).length = m := by rw [denL_len, hfl]
    obtain ⟨w', hst, hrow', hu'⟩ := row_store (P := P) (p := i) (vs := denL ρ zs) hrow (by rw [hyfl]; omega) h1
    rcases hsub with ⟨_, h0, _, _⟩ | ⟨g, hv, hs1⟩
    · omega
    have hne : c0 ≠ i := by omega
    rw [if_neg hne] at hs1
    have hlen2 : (xs.take i ++ zs ++ xs.drop (i + m)).length = xs.length := by
      simp only [List.length_append, List.length_take, List.length_drop, hfl]; omega
    have hzsc : scL B zs := by
      have := hS n2
      rw [hM2] at this
      have this : scL B ys.flatten := this
      rw [← hzs, scL_iff] at *
      intro u hu
      obtain ⟨y, hy, huy⟩ := List.mem_flatten.1 hu
      exact this u (List.mem_flatten.2 ⟨y, List.mem_of_mem_drop (List.mem_of_mem_take hy), huy⟩)
    refine ⟨.int true .i64 (Int.ofNat m), ρ, w', rfl, .inl ?_, Ext.rfl', f3 (F' := F) (p := .rowo e' (xs.take i ++ zs ++ xs.drop (i + m))) ⟨f1.1, ?_⟩ (fun _ h => .inl h) (hu'.mono fun b _ hb => (f1.1 b).2 hb), trivial, scM_wid (scM_set hS ?_)⟩
    · have hb : blkOf (ρ n) = g := by rw [hv]; rfl
      rw [hb] at hst
      show (do let r ← Builtin.copy_ #[t, t2] ty #[subOf 1 i m (ρ n), subOf 1 i2 m2 (ρ n2)]; pure (.value r) : Sem Next).run P w = _
      rw [hs1]
      rw [← Nat.mul_one i] at hst
      unfold Builtin.copy_
      simp only [List.getElem?_toArray, List.getElem?_cons_zero, List.getElem?_cons_succ, Sem.run_bind, run_underlying hu, Result.andThen_ok, hL, hmin, hszo, hcells, hst]
      rfl
    · rw [hlen2]
      have e1 : denL ρ (xs.take i ++ zs ++ xs.drop (i + m)) = (denL ρ xs).take i ++ denL ρ zs ++ (denL ρ xs).drop (i + (denL ρ zs).length) := by
        rw [hyfl]
        simp only [denL_map, List.map_append, List.map_take, List.map_drop]
      rw [e1]
      exact hrow'
    · have h4 := hS n
      rw [hM] at h4
      have h4 : scL B xs := h4
      show scL B (xs.take i ++ zs ++ xs.drop (i + m))
      rw [scL_iff] at h4 hzsc ⊢
      intro u hu
      rcases List.mem_append.1 hu with h | h
      · rcases List.mem_append.1 h with h | h
        · exact h4 u (List.mem_of_mem_take h)
        · exact hzsc u h
      · exact h4 u (List.mem_of_mem_drop h)
theorem evCopy_snd (t t2 ty : TypeId) (d x : V) (hd : d.sc B) (hx : x.sc B) : Snd ar P (evCopy P t d x : T A) B (fun ρ => do let r ← Builtin.copy_ #[t, t2] ty #[d.den ρ, x.den ρ]; pure (.value r)) := by
  unfold evCopy
  split
  · exact evCopyO_snd t t2 ty d _ hd
  · split
    · rename_i n s0 i m
      intro ch M obs lg r M' ch' obs' lg' hr ho ρ w0 D w hB hA hS
      simp only [T.run] at hr
      split at hr
      · rename_i e' xs hM
        split at hr
        case h_2 => cases hr
        rename_i h0
        have h0 := Nat.eq_of_beq_eq_true h0
        subst h0
        exact evCopyR_snd t t2 ty n i m e' xs x hx hM hr ho ρ w0 D w hB hA hS
      · exact evCopy0_snd t t2 ty (.sl n s0 i m) x hd hx _ _ _ _ _ _ _ _ _ hr ho ρ w0 D w hB hA hS
    · exact evCopy0_snd t t2 ty d x hd hx
end
end Go.Proofs.YthdnonoheochhaaGreatDoor
namespace Go.Proofs.YthdnonoheochhaaGreatDoor
open Go.RowKit
set_option linter.unusedVariables false
section
variable {A : Type} {ar : A → List Value → Value → Res} {P : Program} {B : Nat → Prop}
def byts : List V → Option (List UInt8)
  | [] => some []
  | v :: l => match v with
    | .int _ .u8 n => (match byts l with
      | some r => some (UInt8.ofNat n.toNat :: r)
      | none => none)
    | _ => none
theorem byts_ints (ρ : En) : ∀ {l : List V} {r : List UInt8}, byts l = some r → ∃ ns : List Int, denL ρ l = ns.map (Value.int .u8) ∧ r = ns.map fun n => UInt8.ofNat n.toNat
  | [], r, h => by cases h; exact ⟨[], rfl, rfl⟩
  | v :: l, r, h => by
    unfold byts at h
    split at h
    · rename_i s n
      split at h
      · rename_i r' hr
        cases h
        obtain ⟨ns, h1, h2⟩ := byts_ints ρ hr
        exact ⟨n :: ns, by simp only [denL, V.den, h1, List.map_cons], by simp only [List.map_cons, h2]⟩
      · cases h
    · cases h
theorem vPush_all : ∀ (ns : List Int) (s : ByteArray), ns.foldl (fun r n => r.push (UInt8.ofNat n.toNat)) s = mkB (bL s ++ ns.map fun n => UInt8.ofNat n.toNat)
  | [], s => by
    apply ByteArray.ext; apply Array.toList_inj.1; simp [mkB, bL]
  | n :: ns, s => by
    rw [List.foldl_cons, vPush_all ns]
    apply ByteArray.ext; apply Array.toList_inj.1; simp [mkB, bL, ByteArray.push]
def evB2S0 (P : Program) (s d : TypeId) (x : V) : T A := match x with
  | .sl n sz i m => rowG n i m fun _ s3 xs => (match Nat.beq s3 1 && Nat.beq sz 1 with
    | true => (match byts ((xs.drop i).take m).flatten with
      | some r => .ret (rv (.str (syL ((xs.drop i).take m).flatten) (mkB r)))
      | none => .fail 630)
    | false => .fail 631)
  | _ => .fail 632
def bytO : List V → List UInt8
  | [] => []
  | v :: l => (match v with
    | .int _ _ n => UInt8.ofNat n.toNat
    | _ => 0) :: bytO l
theorem byts_O : ∀ {l : List V} {r : List UInt8}, byts l = some r → bytO l = r
  | [], r, h => by cases h; rfl
  | v :: l, r, h => by
    unfold byts at h
    split at h
    · split at h
      · rename_i r' hr
        cases h
        simp only [bytO, byts_O hr]
      · cases h
    · cases h
def evB2S (P : Program) (s d : TypeId) (x : V) : T A := match x with
  | .sl n sz i m => .get n fun q => (match q with
    | .rowo _ xs => (match Nat.beq sz 1 with
      | true => .need (Nat.ble (i + m) xs.length && (byts ((xs.drop i).take m)).isSome) (.ret (rv (.str true (mkB (bytO ((xs.drop i).take m))))))
      | false => .fail 633)
    | _ => evB2S0 P s d (.sl n sz i m))
  | _ => evB2S0 P s d x
def isBS (P : Program) (s d : TypeId) : Bool := match P.underlying s, P.underlying d with
  | some (.slice e), some .string => (match P.underlying e with
    | some (.int .u8) => true
    | _ => false)
  | _, _ => false
theorem evB2S0_snd {s d : TypeId} (hbs : isBS P s d = true) (x : V) : Snd ar P (evB2S0 P s d x : T A) B (fun ρ => do let r ← convert s d (x.den ρ); pure (.value r)) := by
  unfold isBS at hbs
  split at hbs
  case h_2 => cases hbs
  rename_i e hs hd
  split at hbs
  case h_2 => cases hbs
  rename_i he
  have hconv : ∀ a l c, convert s d (.slice a l c) = convert s d (.slice a l c) := fun _ _ _ => rfl
  unfold evB2S0
  split
  case h_2 => exact Snd.fail
  rename_i n sz i m
  intro ch M obs lg r M' ch' obs' lg' hr ho ρ w0 D w hB hA hS
  obtain ⟨t, s3, xs, lg2, hM, hle, hr2⟩ := rowG_run hr
  clear hr
  have hr := hr2
  clear hr2
  split at hr
  case h_2 => cases hr
  rename_i hc
  simp only [Bool.and_eq_true] at hc
  have e1 : s3 = 1 := Nat.eq_of_beq_eq_true hc.1
  have e2 : sz = 1 := Nat.eq_of_beq_eq_true hc.2
  subst e1 e2
  split at hr
  case h_2 => cases hr
  rename_i bs hb
  cases hr
  refine here hA hS ?_ trivial
  obtain ⟨hl, hrow⟩ := hA.row hM
  obtain ⟨ns, h1, h2⟩ := byts_ints ρ hb
  obtain ⟨c0, hc0, hsub⟩ := sub_spec hrow 1 i m hle
  have hcv : ∀ a l c, (convert s d (.slice a l c)).run P w = (Conv.bytesToString (.slice a l c)).run P w := fun a l c => by
    cases a <;> simp [convert, run_underlying hs, run_underlying hd, run_underlying he]
  show (do let r ← convert s d (subOf 1 i m (ρ n)); pure (.value r) : Sem Next).run P w = _
  have hfin : ∀ a l c, subOf 1 i m (ρ n) = .slice a l c → (Conv.bytesToString (.slice a l c)).run P w = .ok (.string (mkB bs)) w → (do let r ← convert s d (subOf 1 i m (ρ n)); pure (.value r) : Sem Next).run P w = .ok (.value ((V.str (syL ((xs.drop i).take m).flatten) (mkB bs)).den ρ)) w := fun a l c h3 h4 => by
    rw [h3]
    simp only [Sem.run_bind, hcv, h4, Result.andThen_ok]
    rfl
  by_cases h0 : m = 0
  · subst h0
    have : bs = [] := by
      simp only [List.take_zero, List.flatten_nil, byts, Option.some.injEq] at hb
      exact hb.symm
    subst this
    rcases hsub with ⟨_, _, _, h3⟩ | ⟨g, _, h3⟩
    · exact hfin _ _ _ h3 rfl
    · refine hfin _ _ _ h3 ?_
      have := run_bytesToString (P := P) w ⟨g, if c0 = i then 0 else i * 1, none⟩ 0 (c0 - i) [] (by simpa using run_loadCells_list (P := P) w _ [] (by simp))
      rw [this]
      rfl
  · obtain ⟨a, c, h3, hcells⟩ := view_cells hl hrow hle (by omega)
    refine hfin _ _ _ h3 ?_
    have hlen : (denL ρ ((xs.drop i).take m).flatten).length = m := by
      rw [denL_len, flat_len (sz := 1) fun y hy => hl y (List.mem_of_mem_drop (List.mem_of_mem_take hy)), List.length_take, List.length_drop]
      omega
    have hload := run_loadCells_list (P := P) w a _ hcells
    rw [hlen, h1] at hload
    rw [run_bytesToString w a m c ns hload, vPush_all]
    rw [h2]
    rfl
theorem ones_flat : ∀ xs : List V, (xs.map fun v => [v]).flatten = xs
  | [] => rfl
  | v :: l => by simp only [List.map_cons, List.flatten_cons, ones_flat l]; rfl
theorem evB2S_snd {s d : TypeId} (hbs : isBS P s d = true) (x : V) : Snd ar P (evB2S P s d x : T A) B (fun ρ => do let r ← convert s d (x.den ρ); pure (.value r)) := by
  unfold evB2S
  split
  case h_2 => exact evB2S0_snd hbs x
  rename_i n sz i m
  intro ch M obs lg r M' ch' obs' lg' hr ho ρ w0 D w hB hA hS
  simp only [T.run] at hr
  split at hr
  case h_2 => exact evB2S0_snd hbs (.sl n sz i m) _ _ _ _ _ _ _ _ _ hr ho ρ w0 D w hB hA hS
  rename_i e0 xs hM
  split at hr
  case h_2 => cases hr
  rename_i hz
  have hz := Nat.eq_of_beq_eq_true hz
  subst hz
  have hn : (Nat.ble (i + m) xs.length && (byts ((xs.drop i).take m)).isSome) = true := by
    cases hr
    exact ho _ List.mem_cons_self
  cases hr
  simp only [Bool.and_eq_true, Nat.ble_eq] at hn
  obtain ⟨hle, hb⟩ := hn
  obtain ⟨bs, hb⟩ := Option.isSome_iff_exists.1 hb
  rw [byts_O hb]
  unfold isBS at hbs
  split at hbs
  case h_2 => cases hbs
  rename_i e hs hd
  split at hbs
  case h_2 => cases hbs
  rename_i he
  refine here hA hS ?_ trivial
  have hlt : n < M.length := At.lt' hM (by intro e; cases e)
  obtain ⟨F, f1, _⟩ := OwnN.step hA hlt
  rw [hM] at f1
  obtain ⟨ys, hys⟩ : ∃ ys, xs.map (fun v => [v]) = ys := ⟨_, rfl⟩
  have hyl : ys.length = xs.length := by rw [← hys, List.length_map]
  have hl : ∀ y ∈ ys, y.length = 1 := fun y hy => by
    rw [← hys] at hy
    obtain ⟨v, _, rfl⟩ := List.mem_map.1 hy
    rfl
  have hcut : ((ys.drop i).take m).flatten = (xs.drop i).take m := by
    rw [← hys, ← List.map_drop, ← List.map_take, ones_flat]
  have hrow : w.ownsRow 0 e0 1 (ρ n) ys.length (denL ρ ys.flatten) := by
    rw [hyl, ← hys, ones_flat]
    exact f1.2
  obtain ⟨ns, h1, h2⟩ := byts_ints ρ hb
  obtain ⟨c0, hc0, hsub⟩ := sub_spec hrow 1 i m (by omega)
  have hcv : ∀ a l c, (convert s d (.slice a l c)).run P w = (Conv.bytesToString (.slice a l c)).run P w := fun a l c => by
    cases a <;> simp [convert, run_underlying hs, run_underlying hd, run_underlying he]
  show (do let r ← convert s d (subOf 1 i m (ρ n)); pure (.value r) : Sem Next).run P w = .ok (.value (.string (mkB bs))) w
  have hfin : ∀ a l c, subOf 1 i m (ρ n) = .slice a l c → (Conv.bytesToString (.slice a l c)).run P w = .ok (.string (mkB bs)) w → (do let r ← convert s d (subOf 1 i m (ρ n)); pure (.value r) : Sem Next).run P w = .ok (.value (.string (mkB bs))) w := fun a l c h3 h4 => by
    rw [h3]
    simp only [Sem.run_bind, hcv, h4, Result.andThen_ok]
    rfl
  by_cases h0 : m = 0
  · subst h0
    have : bs = [] := by
      simp only [List.take_zero, byts, Option.some.injEq] at hb
      exact hb.symm
    subst this
    rcases hsub with ⟨_, _, _, h3⟩ | ⟨g, _, h3⟩
    · exact hfin _ _ _ h3 rfl
    · refine hfin _ _ _ h3 ?_
      have := run_bytesToString (P := P) w ⟨g, if c0 = i then 0 else i * 1, none⟩ 0 (c0 - i) [] (by simpa using run_loadCells_list (P := P) w _ [] (by simp))
      rw [this]
      rfl
  · obtain ⟨a, c, h3, hcells⟩ := view_cells hl hrow (i := i) (m := m) (by omega) (by omega)
    refine hfin _ _ _ h3 ?_
    have hlen : (denL ρ ((ys.drop i).take m).flatten).length = m := by
      rw [hcut, denL_len, List.length_take, List.length_drop]
      omega
    have hload := run_loadCells_list (P := P) w a _ hcells
    rw [hlen, hcut, h1] at hload
    rw [run_bytesToString w a m c ns hload, vPush_all]
    rw [h2]
    rfl
def evPick (c a b : V) : T A := match c with
  | .bool s x => (match s with
    | true => .ask x fun y => .ret (rv (match y with | true => a | false => b))
    | false => .ret (rv (match x with | true => a | false => b)))
  | _ => .fail 32
def evNil (x : V) : T A := match x with
  | .ptr n o => .ret (rv (.ptr n o))
  | .el n sz i o => .ret (rv (.el n sz i o))
  | .fn (.func f) a b => .ret (rv (.fn (.func f) a b))
  | _ => .fail 33
def evBi (P : Program) (kof : TypeId → Option (Nat × Bool)) (o : Oper) (e : Operand → V) (c : Call) (b : Builtin) : T A := match b with
  | .len => (match c.args.toList, c.argTypes.toList with
    | [x], [t] => evLen P o e t (e x)
    | _, _ => .fail 640)
  | .append => (match c.args.toList, c.argTypes.toList with
    | [s, x], [t, t'] => (match Nat.beq t' t with
      | true => evApp P t (e s) (e x)
      | false => .fail 641)
    | _, _ => .fail 642)
  | .copy => (match c.args.toList, c.argTypes.toList with
    | [d, x], [t, _] => evCopy P t (e d) (e x)
    | _, _ => .fail 643)
  | .delete => (match c.args.toList, c.argTypes.toList with
    | [m, k], [t, _] => evDel P kof t (e m) (e k)
    | _, _ => .fail 644)
  | .min => evMM P o e false (c.args.toList.map e)
  | .max => evMM P o e true (c.args.toList.map e)
  | _ => evPure P o e
def evOp (P : Program) (kof : TypeId → Option (Nat × Bool)) (o : Oper) (e : Operand → V) : T A := match o.op with
  | .move x => .ret (rv (e x))
  | .assign x => .ret (rv (e x))
  | .pick c a b => evPick (e c) (e a) (e b)
  | .alloc t => evAlloc P t
  | .box t x => evNew (e x).cells t
  | .build t ps => evBuild P t (ps.toList.map fun p => (p.1, e p.2))
  | .buildSlice t n ps => evBS P t n (ps.toList.map fun p => (p.1, e p.2))
  | .load t a => evLoad P t (e a)
  | .store t a x => evStore P t (e a) (e x)
  | .nilCheck x => evNil (e x)
  | .binOp op t x y _ => evBin P o e op t (e x) (e y)
  | .unOp op _ x => evUn P o e op (e x)
  | .convert s d x => (match isBS P s d with
    | true => evB2S P s d (e x)
    | false => evConv P o e s d (e x))
  | .makeInterface t x => evIfc P t (e x)
  | .makeFunc fn a b => .ret (rv (.fn fn (a.toList.map e) (b.toList.map e)))
  | .makeMap t r => (match r with
    | none => evMkMap P kof t
    | some _ => .fail 650)
  | .makeSlice t l c => evMkS P t (e l) (e c)
  | .slice t x lo hi mx => (match mx with
    | none => evSlice P t (e x) (lo.map e) (hi.map e)
    | some _ => .fail 61)
  | .fieldAddr s x f => evFieldAddr P s (e x) f
  | .field s x f => evField P s (e x) f
  | .index t x i => evIndex P t (e x) (e i)
  | .indexAddr t x i => evIndexAddr P t (e x) (e i)
  | .lookup t x i ok => evLook P kof t (e x) (e i) ok
  | .mapUpdate t m k v => evUpd P kof t (e m) (e k) (e v)
  | .insert t m k v => evUpd P kof t (e m) (e k) (e v)
  | .extract x i => evExtract (e x) i
  | .range t x => evRng P t (e x)
  | .next x b => evNext (e x) b
  | .entry x => evEntry (e x)
  | .call c => (match c.callee with
    | .builtin b => evBi P kof o e c b
    | _ => .fail 651)
  | .select _ _ => .fail 62
  | _ => evPure P o e
theorem map_scL {e : Operand → V} {l : List Operand} (h : ∀ x ∈ l, (e x).sc B) : scL B (l.map e) := scL_iff.2 fun v hv => by
  obtain ⟨x, hx, rfl⟩ := List.mem_map.1 hv
  exact h x hx
def KeyOK (P : Program) (kof : TypeId → Option (Nat × Bool)) : Prop := ∀ t kd s, kof t = some (kd, s) → KeyRun P t (encK kd)
theorem arr1 {α : Type} {a : Array α} {x : α} (h : a.toList = [x]) : a = #[x] := by cases a; simp_all
theorem arr2 {α : Type} {a : Array α} {x y : α} (h : a.toList = [x, y]) : a = #[x, y] := by cases a; simp_all
theorem evBi_snd {kof : TypeId → Option (Nat × Bool)} (hK : KeyOK P kof) {o : Oper} {e : Operand → V} {c : Call} {b : Builtin} (hop : o.op = .call c) (hc : c.callee = .builtin b) (hsc : ∀ x ∈ o.op.operands, (e x).sc B) :
    Snd ar P (evBi P kof o e c b : T A) B (fun ρ => execOp (fun x => (e x).den ρ) o) := by
  have hpure : Snd ar P (evPure P o e : T A) B (fun ρ => execOp (fun x => (e x).den ρ) o) := evPure_snd (by rw [hop]; intro cs b h; cases h)
  have hin : ∀ x ∈ c.args, (e x).sc B := fun x hx => hsc x (by rw [hop]; simp [Op.operands, Call.operands, hx])
  unfold evBi
  split
  · split
    · rename_i x t ha ht
      obtain ⟨cal, args, ats⟩ := c
      simp only at hc ha ht
      have ha := arr1 ha
      have ht := arr1 ht
      subst hc ha ht
      exact evLen_snd hop (hin x (by simp))
    · exact Snd.fail
  · split
    · rename_i s x t t' ha ht
      obtain ⟨cal, args, ats⟩ := c
      simp only at hc ha ht
      have ha := arr2 ha
      have ht := arr2 ht
      subst hc ha ht
      split
      · rename_i h
        exact evApp_snd hop (hin s (by simp)) (hin x (by simp)) (Nat.eq_of_beq_eq_true h)
      · exact Snd.fail
    · exact Snd.fail
  · split
    · rename_i d x t t' ha ht
      obtain ⟨cal, args, ats⟩ := c
      simp only at hc ha ht
      have ha := arr2 ha
      have ht := arr2 ht
      subst hc ha ht
      have h := evCopy_snd (ar := ar) (P := P) (B := B) t t' o.type (e d) (e x) (hin d (by simp)) (hin x (by simp))
      have hx : (fun ρ => execOp (fun x => (e x).den ρ) o) = fun ρ => (do let r ← Builtin.copy_ #[t, t'] o.type #[(e d).den ρ, (e x).den ρ]; pure (.value r)) := by
        funext ρ; unfold execOp; rw [hop]; simp [resolve, invoke, builtin]
      rw [hx]; exact h
    · exact Snd.fail
  · split
    · rename_i m k t t' ha ht
      obtain ⟨cal, args, ats⟩ := c
      simp only at hc ha ht
      have ha := arr2 ha
      have ht := arr2 ht
      subst hc ha ht
      have h := evDel_snd (ar := ar) (P := P) (B := B) hK t t' o.type (e m) (e k) (hin m (by simp))
      have hx : (fun ρ => execOp (fun x => (e x).den ρ) o) = fun ρ => (do let r ← Builtin.delete_ #[t, t'] o.type #[(e m).den ρ, (e k).den ρ]; pure (.value r)) := by
        funext ρ; unfold execOp; rw [hop]; simp [resolve, invoke, builtin]
      rw [hx]; exact h
    · exact Snd.fail
  · exact evMM_snd (mx := false) hop hc
  · exact evMM_snd (mx := true) hop hc
  · exact hpure
theorem evOp_snd {kof : TypeId → Option (Nat × Bool)} (hK : KeyOK P kof) (o : Oper) (e : Operand → V) (hsc : ∀ x ∈ o.op.operands, (e x).sc B) : Snd ar P (evOp P kof o e : T A) B (fun ρ => execOp (fun x => (e x).den ρ) o) := by
  have hX : ∀ {t : T A} {X : En → Sem Next}, Snd ar P t B X → (∀ ρ, execOp (fun x => (e x).den ρ) o = X ρ) → Snd ar P t B (fun ρ => execOp (fun x => (e x).den ρ) o) := fun h he => by
    rw [show (fun ρ => execOp (fun x => (e x).den ρ) o) = _ from funext he]; exact h
  unfold evOp
  split
  · rename_i x hop
    rw [hop] at hsc
    exact hX (Snd.pure (fun ρ w => rfl) (hsc x (by simp [Op.operands]))) fun ρ => by unfold execOp; rw [hop]
  · rename_i x hop
    rw [hop] at hsc
    exact hX (Snd.pure (fun ρ w => rfl) (hsc x (by simp [Op.operands]))) fun ρ => by unfold execOp; rw [hop]
  · rename_i c a b hop
    rw [hop] at hsc
    exact hX (evPick_snd (c := e c) (hsc a (by simp [Op.operands])) (hsc b (by simp [Op.operands]))) fun ρ => by unfold execOp; rw [hop]
  · rename_i t hop
    exact hX (evAlloc_snd t) fun ρ => by unfold execOp; rw [hop]
  · rename_i t x hop
    rw [hop] at hsc
    exact hX (evBox_snd t (e x) (hsc x (by simp [Op.operands]))) fun ρ => by unfold execOp; rw [hop]
  · rename_i t ps hop
    rw [hop] at hsc
    refine hX (evBuild_snd t _ (fun ρ => ps.map fun (i, x) => (i, (e x).den ρ)) (fun p hp => ?_) (fun ρ => ?_)) fun ρ => by unfold execOp; rw [hop]
    · obtain ⟨q, hq, rfl⟩ := List.mem_map.1 hp
      exact hsc q.2 (by simp only [Op.operands, List.mem_toArray, List.mem_map]; exact ⟨q, hq, rfl⟩)
    · simp
  · rename_i t n ps hop
    rw [hop] at hsc
    refine hX (evBS_snd t n _ (fun ρ => ps.map fun (i, x) => (i, (e x).den ρ)) (fun p hp => ?_) (fun ρ => ?_)) fun ρ => by unfold execOp; rw [hop]
    · obtain ⟨q, hq, rfl⟩ := List.mem_map.1 hp
      exact hsc q.2 (by simp only [Op.operands, List.mem_toArray, List.mem_map]; exact ⟨q, hq, rfl⟩)
    · simp
  · rename_i t a hop
    rw [hop] at hsc
    exact hX (evLoad_snd t (e a) (hsc a (by simp [Op.operands]))) fun ρ => by unfold execOp; rw [hop]
  · rename_i t a x hop
    rw [hop] at hsc
    exact hX (evStore_snd t (e a) (e x) (hsc a (by simp [Op.operands])) (hsc x (by simp [Op.operands]))) fun ρ => by unfold execOp; rw [hop]
  · rename_i x hop
    rw [hop] at hsc
    have hx := hsc x (by simp [Op.operands])
    unfold evNil
    split
    · rename_i n o h
      exact Snd.pure (fun ρ w => by unfold execOp; rw [hop]; simp only [h, V.den]; rfl) (h ▸ hx)
    · rename_i n sz i o h
      exact Snd.pure (fun ρ w => by unfold execOp; rw [hop]; simp only [h, V.den]; rfl) (h ▸ hx)
    · rename_i f a b h
      exact Snd.pure (fun ρ w => by unfold execOp; rw [hop]; simp only [h, V.den]; rfl) (h ▸ hx)
    · exact Snd.fail
  · rename_i op t x y u hop
    exact evBin_snd hop hsc
  · rename_i op t x hop
    exact evUn_snd hop
  · rename_i s d x hop
    split
    · rename_i h
      exact hX (evB2S_snd h (e x)) fun ρ => by unfold execOp; rw [hop]
    · exact evConv_snd hop hsc
  · rename_i t x hop
    rw [hop] at hsc
    exact hX (evIfc_snd t (e x) (hsc x (by simp [Op.operands]))) fun ρ => by unfold execOp; rw [hop]
  · rename_i fn a b hop
    rw [hop] at hsc
    refine hX (evFunc_snd fn _ _ (map_scL fun x hx => hsc x (by simp only [Op.operands, Array.mem_append]; exact .inl (by simpa using hx))) (map_scL fun x hx => hsc x (by simp only [Op.operands, Array.mem_append]; exact .inr (by simpa using hx))) (fun ρ => a.map fun x => (e x).den ρ) (fun ρ => b.map fun x => (e x).den ρ) (fun ρ => ?_) (fun ρ => ?_)) fun ρ => by unfold execOp; rw [hop]
    · rw [denL_map, List.map_map]; apply Array.toList_inj.1; simp
    · rw [denL_map, List.map_map]; apply Array.toList_inj.1; simp
  · rename_i t r hop
    split
    · exact hX (evMkMap_snd t) fun ρ => by unfold execOp; rw [hop]; rfl
    · exact Snd.fail
  · rename_i t l c hop
    exact hX (evMkS_snd t (e l) (e c)) fun ρ => by unfold execOp; rw [hop]
  · rename_i t x lo hi mx hop
    rw [hop] at hsc
    split
    · refine hX (evSlice_snd t (e x) (lo.map e) (hi.map e) (hsc x (by simp [Op.operands]))) fun ρ => ?_
      unfold execOp; rw [hop]
      simp only [Option.map_map, Option.map_none]
      rfl
    · exact Snd.fail
  · rename_i s x f hop
    rw [hop] at hsc
    exact hX (evFieldAddr_snd s (e x) f (hsc x (by simp [Op.operands]))) fun ρ => by unfold execOp; rw [hop]
  · rename_i s x f hop
    rw [hop] at hsc
    exact hX (evField_snd s (e x) f (hsc x (by simp [Op.operands]))) fun ρ => by unfold execOp; rw [hop]
  · rename_i t x i hop
    rw [hop] at hsc
    exact hX (evIndex_snd t (e x) (e i) (hsc x (by simp [Op.operands]))) fun ρ => by unfold execOp; rw [hop]
  · rename_i t x i hop
    rw [hop] at hsc
    exact hX (evIndexAddr_snd t (e x) (e i) (hsc x (by simp [Op.operands]))) fun ρ => by unfold execOp; rw [hop]
  · rename_i t x i ok hop
    rw [hop] at hsc
    exact hX (evLook_snd hK t (e x) (e i) ok (hsc x (by simp [Op.operands]))) fun ρ => by unfold execOp; rw [hop]
  · rename_i t m k v hop
    rw [hop] at hsc
    exact hX (evUpd_snd hK t (e m) (e k) (e v) (hsc m (by simp [Op.operands])) (hsc v (by simp [Op.operands]))) fun ρ => by unfold execOp; rw [hop]
  · rename_i t m k v hop
    rw [hop] at hsc
    exact hX (evUpd_snd hK t (e m) (e k) (e v) (hsc m (by simp [Op.operands])) (hsc v (by simp [Op.operands]))) fun ρ => by unfold execOp; rw [hop]
  · rename_i x i hop
    rw [hop] at hsc
    exact hX (evExtract_snd (e x) i (hsc x (by simp [Op.operands]))) fun ρ => by unfold execOp; rw [hop]
  · rename_i t x hop
    exact hX (evRng_snd t (e x)) fun ρ => by unfold execOp; rw [hop]
  · rename_i x b hop
    rw [hop] at hsc
    exact hX (evNext_snd (e x) b o.type (hsc x (by simp [Op.operands]))) fun ρ => by unfold execOp; rw [hop]
  · rename_i x hop
    rw [hop] at hsc
    exact hX (evEntry_snd (e x) (hsc x (by simp [Op.operands]))) fun ρ => by unfold execOp; rw [hop]
  · rename_i c hop
    split
    · rename_i b hc
      exact evBi_snd hK hop hc hsc
    · exact Snd.fail
  · exact Snd.fail
  · exact evPure_snd fun cs b h => by simp_all
end
end Go.Proofs.YthdnonoheochhaaGreatDoor
namespace Go.Proofs.YthdnonoheochhaaGreatDoor
set_option linter.unusedVariables false
section
variable {α β : Type}
noncomputable def rgd (d : α) : List α → Nat → α := @List.rec α (fun _ => Nat → α) (fun _ => d) (fun v _ ih n => @Nat.rec (fun _ => α) v (fun m _ => ih m) n)
noncomputable def rapp (l m : List α) : List α := @List.rec α (fun _ => List α) m (fun v _ ih => v :: ih) l
noncomputable def rlen : List α → Nat := @List.rec α (fun _ => Nat) 0 (fun _ _ ih => Nat.succ ih)
noncomputable def rall (f : α → Bool) : List α → Bool := @List.rec α (fun _ => Bool) true (fun v _ ih => @Bool.rec (fun _ => Bool) false ih (f v))
theorem rgd_eq (d : α) : ∀ (l : List α) (n : Nat), rgd d l n = l.getD n d
  | [], n => rfl
  | v :: l, 0 => rfl
  | v :: l, n + 1 => rgd_eq d l n
theorem rapp_eq (m : List α) : ∀ (l : List α), rapp l m = l ++ m
  | [] => rfl
  | v :: l => congrArg (v :: ·) (rapp_eq m l)
theorem rlen_eq : ∀ (l : List α), rlen l = l.length
  | [] => rfl
  | v :: l => congrArg Nat.succ (rlen_eq l)
theorem rall_eq (f : α → Bool) : ∀ (l : List α), rall f l = l.all f
  | [] => rfl
  | v :: l => by
    show @Bool.rec (fun _ => Bool) false (rall f l) (f v) = _
    rw [List.all_cons, rall_eq f l]
    cases f v <;> rfl
end
end Go.Proofs.YthdnonoheochhaaGreatDoor
