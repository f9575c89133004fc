/- A machine of symbolic values: contracts of library functions. -/
import Derived.Test.YtockaipodnapjaaGreatDoorVe
import Derived.Lib.SlKeysI
import Derived.Maps.Own
import Derived.Test.YtockaipodnapjaaGreatDoorSp
import Derived.Test.YtockaipodnapjaaGreatDoorCks
namespace Go.Proofs.YtockaipodnapjaaGreatDoor
open Go.RowKit
set_option linter.unusedVariables false
section
variable {A : Type} {ar : A → List Value → Value → Res} {P : Program}
def asG (R G E g0 : Nat) (p : Pl A) : Bool := match p with
  | .glb g [.lit (.iface a (.agg ⟨[.pointer (some ⟨b, c, none⟩)]⟩))] _ => Nat.beq g g0 && Nat.beq a R && Nat.beq b G && Nat.beq c E
  | _ => false
def asT2 (m : Nat) (s : Bool) (n : Int) (q : Pl A) : T A := match q with
  | .blk [.int _ .i64 _] t => .put m (.blk [.int s .i64 n] t) (.ret (rv (.bool false true)))
  | _ => .fail 801
def asT1 (R G E g0 m : Nat) (s : Bool) (n : Int) (p : Pl A) : T A := match asG R G E g0 p with
  | true => .get m (asT2 m s n)
  | false => .fail 802
def asC (tf tp R G E g0 i0 : Nat) (args : List V) : T A := match args with
  | [.ifc te (.agg [.int s .i64 n]), .ifc tt (.ptr m 0)] => (match Nat.beq te tf && Nat.beq tt tp with
    | true => .get i0 (asT1 R G E g0 m s n)
    | false => .fail 803)
  | _ => .fail 804
theorem asC_ok {f tf tp R G E g0 i0 : Nat}
    (hit : ∀ (n old : Int) (tb : Nat) (w : World), w.cell? ⟨g0, 0, none⟩ = some (.iface R (.agg #[.pointer (some ⟨G, E, none⟩)])) → w.cell? ⟨tb, 0, none⟩ = some (.int .i64 old) → w.frozen? ⟨tb, 0, none⟩ = false →
      ∃ a b c d, Calls P f #[.iface tf (.agg #[.int .i64 n]), .iface tp (.pointer (some ⟨tb, 0, none⟩))] w fun ev w' => ev = .returned (.bool true) ∧ w' = ((((w.alloc a).alloc b).alloc c).alloc d).setCell ⟨tb, 0, none⟩ (.int .i64 n))
    (args : List V) : CallOK ar P f args (asC tf tp R G E g0 i0 args : T A) := by
  intro ch M obs lg r M' ch' obs' lg' hr ho B ρ w0 D w K hB hA hM hs hK Q hQ
  unfold asC at hr
  split at hr
  case h_2 => cases hr
  rename_i te s n tt m
  split at hr
  case h_2 => cases hr
  rename_i hc
  simp only [Bool.and_eq_true] at hc
  obtain rfl : te = tf := Nat.eq_of_beq_eq_true hc.1
  obtain rfl : tt = tp := Nat.eq_of_beq_eq_true hc.2
  simp only [T.run] at hr
  unfold asT1 at hr
  split at hr
  case h_2 => cases hr
  rename_i hg
  simp only [T.run] at hr
  unfold asT2 at hr
  split at hr
  case h_2 => cases hr
  rename_i s0 old tb hm
  simp only [T.run] at hr
  split at hr
  case h_2 => cases hr
  cases hr
  have hblk := hA.blk hm
  have hglb : w.cell? ⟨g0, 0, none⟩ = some (.iface R (.agg #[.pointer (some ⟨G, E, none⟩)])) := by
    unfold asG at hg
    split at hg
    · rename_i g a b c t hp
      simp only [Bool.and_eq_true] at hg
      obtain rfl := Nat.eq_of_beq_eq_true hg.1.1.1
      obtain rfl := Nat.eq_of_beq_eq_true hg.1.1.2
      obtain rfl := Nat.eq_of_beq_eq_true hg.1.2
      obtain rfl := Nat.eq_of_beq_eq_true hg.2
      exact hA.glb (j := 0) (u := .lit (.iface _ (.agg #[.pointer (some ⟨_, _, none⟩)]))) hp rfl
    · cases hg
  obtain ⟨a, b, c, d, h⟩ := hit n old (blkOf (ρ m)) w hglb (by simp [World.cell?, hblk, denL, V.den]) (by simp [World.frozen?, hblk])
  refine Calls.mono h fun ev w' hw => ?_
  obtain ⟨rfl, rfl⟩ := hw
  refine hQ _ ρ _ (.bool false true) rfl (hK ρ _ (by rw [List.length_set]; exact Ext.rfl') ?_ ?_ ?_)
  · obtain ⟨F, h1, h2, h3⟩ := hA.chg (At.lt hm)
    rw [hm] at h1
    have hF : F (blkOf (ρ m)) := (h1.1 _).2 rfl
    have hup : Upd F w ((((w.alloc a).alloc b).alloc c).alloc d) := ((((Upd.refl F w).alloc a).alloc b).alloc c).alloc d
    refine h3 (p := .blk [.int s .i64 n] tb) (F' := F) ⟨h1.1, ?_⟩ (fun b hb => .inl hb) (hup.setCell (fun _ => hF) _)
    have hlt : blkOf (ρ m) < w.heap.size := (Array.getElem?_eq_some_iff.1 hblk).1
    have hx : ((((w.alloc a).alloc b).alloc c).alloc d).heap[blkOf (ρ m)]? = some (.cells (denL ρ [V.int s0 .i64 old]).toArray tb) := by
      rw [← hblk]
      have hb : Below w.heap.size w ((((w.alloc a).alloc b).alloc c).alloc d) := ((((Below.refl _ w).alloc (Nat.le_refl _) a).alloc (by simp) b).alloc (by simp; omega) c).alloc (by simp; omega) d
      exact hb.block _ hlt
    simp [World.setCell, Array.getElem?_modify, hx, denL, V.den]
  · exact ⟨⟨trivial, trivial⟩, trivial, fun m hm => by cases hm⟩
  · intro i
    by_cases e : m = i
    · subst e
      rw [Mget_set (At.lt hm)]
      trivial
    · rw [Mget_set_ne e]
      exact Pl.sc_mono (by rw [List.length_set]; exact wid_l) _ (hM i)
end
end Go.Proofs.YtockaipodnapjaaGreatDoor
namespace Go.Proofs.YtockaipodnapjaaGreatDoor
open Go.RowKit
set_option linter.unusedVariables false
def kI : Key → Int
  | .i n => n
  | _ => 0
def insI (n : Int) : List Int → List Int
  | [] => [n]
  | m :: l => match ilt m n with
    | true => m :: insI n l
    | false => n :: m :: l
def isortI : List Int → List Int
  | [] => []
  | n :: l => insI n (isortI l)
theorem insI_perm (n : Int) : ∀ l, (insI n l).Perm (n :: l)
  | [] => .refl _
  | m :: l => by
    unfold insI
    split
    · exact ((insI_perm n l).cons m).trans (.swap n m l)
    · exact .refl _
theorem isortI_perm : ∀ l, (isortI l).Perm l
  | [] => .refl _
  | n :: l => (insI_perm n _).trans ((isortI_perm l).cons n)
theorem insI_le (n : Int) : ∀ l, l.Pairwise (· ≤ ·) → (insI n l).Pairwise (· ≤ ·)
  | [], _ => by simp [insI]
  | m :: l, h => by
    unfold insI
    have h1 := List.pairwise_cons.1 h
    split
    · rename_i hlt
      rw [ilt_dec] at hlt
      have hlt := of_decide_eq_true hlt
      refine List.pairwise_cons.2 ⟨fun x hx => ?_, insI_le n l h1.2⟩
      rcases List.mem_cons.1 ((insI_perm n l).mem_iff.1 hx) with rfl | hx
      · omega
      · exact h1.1 x hx
    · rename_i hlt
      rw [ilt_dec] at hlt
      have hlt := of_decide_eq_false hlt
      refine List.pairwise_cons.2 ⟨fun x hx => ?_, h⟩
      rcases List.mem_cons.1 hx with rfl | hx
      · omega
      · have := h1.1 x hx; omega
theorem isortI_le : ∀ l, (isortI l).Pairwise (· ≤ ·)
  | [] => List.Pairwise.nil
  | n :: l => insI_le n _ (isortI_le l)
theorem isortI_merge {l ss : List Int} (h : ss.Perm l) : ss.mergeSort (fun x y => decide (x ≤ y)) = isortI l := by
  refine List.Perm.eq_of_pairwise (le := (· ≤ ·)) (fun a b _ _ h1 h2 => by omega) ?_ (isortI_le l) ((List.mergeSort_perm ss _).trans (h.trans (isortI_perm l).symm))
  have := List.pairwise_mergeSort (le := fun x y : Int => decide (x ≤ y)) (fun a b c h1 h2 => by simp at *; omega) (fun a b => by simp; omega) ss
  exact this.imp fun h => of_decide_eq_true h
theorem keysK_map (kd : Nat) : ∀ l : List (Key × Value), (∀ e ∈ l, e.1.kind = kd) → (keysK kd l).map (fun x => (encK kd x.1, x.2)) = l.map fun e => (e.1.enc, e.2)
  | [], _ => rfl
  | (k, v) :: l, h => by
    have hk := h (k, v) List.mem_cons_self
    have ih := keysK_map kd l fun e he => h e (List.mem_cons_of_mem _ he)
    unfold keysK
    rw [dif_pos hk, List.map_cons, ih]
    rfl
theorem key0 {k : Key} (h : k.kind = 0) : k = .i (kI k) := by cases k <;> first | rfl | cases h
open Go.WideElems Go.Maps Go.WideShapes in
theorem owns_of {P : Program} {ti : TypeId} (hP : P.underlying ti = some (.int .i64)) {w : World} {b : Nat} {es : List (Key × Value)} (h : MapS (encK 0) w b (keysK 0 es)) (hk : ∀ e ∈ es, e.1.kind = 0) (hn : (es.map (·.1)).Nodup) (hr : ∀ e ∈ es, inR (kI e.1) = true) (hl : es.length ≤ maxLen) :
    ∃ (D0 : DataW Unit) (R : Value → Option (DataW Unit × List MemPlace)) (nn : Nat), w.ownsMap P ti R b nn D0 ∧ (intKeys D0).Perm (es.map fun e => kI e.1) ∧ Maps.size D0 = es.length := by
  obtain ⟨es', clk, h1, h2, h3, h4⟩ := h
  have hmap : es'.toList.map (fun e => (e.key, e.val)) = es.map fun e => (e.1.enc, e.2) := by
    have : es'.toList.map (fun e => (e.key, e.val)) = (keysK 0 es).map fun x => (encK 0 x.1, x.2) := h2
    rw [this, keysK_map 0 es hk]
  have hkeys : es'.toList.map (·.key) = es.map fun e => e.1.enc := by
    have := congrArg (List.map Prod.fst) hmap
    simpa [List.map_map, Function.comp_def] using this
  have hlen : es'.size = es.length := by
    have := congrArg List.length hmap
    simpa using this
  let R : Value → Option (DataW Unit × List MemPlace) := fun _ => some (.nil, [])
  have hkey : ∀ x ∈ es'.toList, ∃ e ∈ es, x.key = .int .i64 (kI e.1) := fun x hx => by
    have : x.key ∈ es.map fun e => e.1.enc := by rw [← hkeys]; exact List.mem_map.2 ⟨x, hx, rfl⟩
    obtain ⟨e, he, he2⟩ := List.mem_map.1 this
    refine ⟨e, he, ?_⟩
    rw [← he2, key0 (hk e he)]
    rfl
  have hrd : ∀ x ∈ es'.toList, ∀ n, x.key = .int .i64 n → inR n = true → rd P ti R x = some (.int .i64 n, .nil) := fun x hx n hxn hin => by
    have hw : (Lit.int .i64 n).wf = true := by
      rw [inR_iff] at hin
      simp only [Lit.wf, Bool.and_eq_true, decide_eq_true_eq]
      exact ⟨hin.1, hin.2⟩
    unfold rd
    rw [hxn]
    simp [keyOf, hP, mapKey, hw, R]
  have hreads : ∀ x ∈ es'.toList, ∃ y, rd P ti R x = some y := fun x hx => by
    obtain ⟨e, he, h5⟩ := hkey x hx
    exact ⟨_, hrd x hx _ h5 (hr e he)⟩
  have hnd : (es'.toList.map (·.key)).Nodup := by
    rw [hkeys]
    have : (es.map fun e => e.1.enc) = (es.map (·.1)).map Key.enc := by rw [List.map_map]; rfl
    rw [this]
    refine List.pairwise_map.2 (List.Pairwise.imp_of_mem (fun {a b} ha hb hab hc => ?_) hn)
    obtain ⟨e1, he1, rfl⟩ := List.mem_map.1 ha
    obtain ⟨e2, he2, rfl⟩ := List.mem_map.1 hb
    rw [key0 (hk e1 he1), key0 (hk e2 he2)] at hc hab
    simp only [Key.enc, Value.int.injEq, true_and] at hc
    exact hab (by rw [hc])
  refine ⟨.map ((es'.toList.map (rg P ti R)).foldr DataW.insert []), R, es'.size, ⟨es', clk, h1, ⟨by rw [hlen]; exact hl, ⟨h4, h3, hnd⟩, hreads⟩, Nat.le_refl _, rfl⟩, ?_, ?_⟩
  · show ((es'.toList.map (rg P ti R)).foldr DataW.insert [] |>.map fun p => Go.intOf p.1).Perm _
    refine ((sorted_perm _).map _).trans ?_
    rw [List.map_map]
    have he : es'.toList.map ((fun p : Lit × DataW Unit => Go.intOf p.1) ∘ rg P ti R) = es'.toList.map fun x => (match x.key with | .int _ n => n | _ => 0) := by
      refine List.map_congr_left fun x hx => ?_
      obtain ⟨e, he, h5⟩ := hkey x hx
      have := hrd x hx _ h5 (hr e he)
      simp only [Function.comp, rg, this, Option.getD_some, h5, Go.intOf]
    rw [he]
    have h6 : es'.toList.map (fun x => (match x.key with | .int _ n => n | _ => 0 : Int)) = (es'.toList.map (·.key)).map fun v => (match v with | .int _ n => n | _ => 0 : Int) := by rw [List.map_map]; rfl
    rw [h6, hkeys, List.map_map]
    refine List.Perm.of_eq (List.map_congr_left fun e he => ?_)
    have := key0 (hk e he)
    rw [Function.comp, this]
    rfl
  · show ((es'.toList.map (rg P ti R)).foldr DataW.insert []).length = _
    rw [(sorted_perm _).length_eq, List.length_map, ← hlen]
    simp
end Go.Proofs.YtockaipodnapjaaGreatDoor
namespace Go.Proofs.YtockaipodnapjaaGreatDoor
open Go.RowKit
set_option linter.unusedVariables false
section
variable {A : Type} {ar : A → List Value → Value → Res} {P : Program}
def okKeys (es : List (Key × V)) : Bool := es.all (fun e => inR (kI e.1)) && Nat.ble es.length 100000
def srtN (ti : TypeId) (l : List Int) : T A := match l with
  | [] => .new .none fun _ => .ret (rv (.lit (.slice none 0 0)))
  | n :: l => .new (.row ti 1 ((n :: l).map fun n => [.int false .i64 n])) fun N => .ret (rv (.sl N 1 0 (n :: l).length))
def srtM (ti : TypeId) (p : Pl A) : T A := match p with
  | .map 0 es => (match okKeys es with
    | true => srtN ti (isortI (es.map fun e => kI e.1))
    | false => .fail 812)
  | _ => .fail 813
def srtB (ti : TypeId) (p : Pl A) : T A := match p with
  | .blk [.nm m] _ => .get m (srtM ti)
  | _ => .fail 814
def srtC (ti : TypeId) (g : FuncId) (args : List V) : T A := match args with
  | [.fn (.func h) [] [.ptr b 0]] => (match Nat.beq h g with
    | true => .get b (srtB ti)
    | false => .fail 815)
  | _ => .fail 816
theorem flat_one (ρ : En) : ∀ l : List Int, denL ρ (l.map fun n => [V.int false .i64 n]).flatten = l.map encZ
  | [] => rfl
  | n :: l => by
    simp only [List.map_cons, List.flatten_cons, List.singleton_append, denL, V.den, flat_one ρ l]
theorem srtC_ok {f g : FuncId} {ti : TypeId} (hP : P.underlying ti = some (.int .i64))
    (hit : ∀ (bm b nn : Nat) (D0 : DataW Unit) (R : Value → Option (DataW Unit × List MemPlace)) (w : World), bm < w.heap.size → w.cell? ⟨bm, 0, none⟩ = some (.map (some b)) → w.ownsMap P ti R b nn D0 → Maps.size D0 ≤ maxLen → Maps.size D0 * 8 ≤ 140737488355328 →
      Calls P f #[.func (.func g) #[] #[.pointer (some ⟨bm, 0, none⟩)]] w fun e w' => ∃ (v : Value) (ss : List Int), e = .returned v ∧ ss.Perm (intKeys D0) ∧
        w'.ownsRow w.heap.size ti 1 v ss.length ((ss.mergeSort (fun x y => decide (x ≤ y))).map encZ) ∧ (v = .slice none 0 0 ↔ ss = []) ∧ Below w.heap.size w w')
    (args : List V) : CallOK ar P f args (srtC ti g args : T A) := by
  intro ch M obs lg r M' ch' obs' lg' hr ho B ρ w0 D w K hB hA hM hs hK Q hQ
  unfold srtC at hr
  split at hr
  case h_2 => cases hr
  rename_i h0 b
  split at hr
  case h_2 => cases hr
  rename_i hg
  obtain rfl : h0 = g := Nat.eq_of_beq_eq_true hg
  simp only [T.run] at hr
  unfold srtB at hr
  split at hr
  case h_2 => cases hr
  rename_i m t hb
  simp only [T.run] at hr
  unfold srtM at hr
  split at hr
  case h_2 => cases hr
  rename_i es hm
  split at hr
  case h_2 => cases hr
  rename_i hok
  simp only [okKeys, Bool.and_eq_true, List.all_eq_true, Nat.ble_eq] at hok
  obtain ⟨hv, hkd, hnd, hS⟩ := hA.map hm
  have hblk := hA.blk hb
  have hden : (denE ρ es).map (fun e => kI e.1) = es.map fun e => kI e.1 := by simp [denE, List.map_map, Function.comp_def]
  obtain ⟨D0, R, nn, hown, hperm, hsize⟩ := owns_of hP hS (fun e he => by
      obtain ⟨x, hx, rfl⟩ := List.mem_map.1 he
      exact hkd x hx)
    (by simpa [denE, List.map_map, Function.comp_def] using hnd)
    (fun e he => by
      obtain ⟨x, hx, rfl⟩ := List.mem_map.1 he
      exact hok.1 x hx)
    (by simp only [denE, List.length_map]; have := hok.2; simp [maxLen]; omega)
  rw [hden] at hperm
  have hlen : Maps.size D0 ≤ 100000 := by rw [hsize]; simpa [denE] using hok.2
  have hcell : w.cell? ⟨blkOf (ρ b), 0, none⟩ = some (.map (some (blkOf (ρ m)))) := by
    simp only [World.cell?, hblk, denL, V.den]
    rw [hv]
    simp [blkOf]
  refine Calls.mono (hit (blkOf (ρ b)) (blkOf (ρ m)) nn D0 R w (Array.getElem?_eq_some_iff.1 hblk).1 hcell hown (by simp [maxLen]; omega) (by omega)) fun ev w' hw => ?_
  obtain ⟨v, ss, rfl, hp, hrow, hnil, hbel⟩ := hw
  have hmerge := isortI_merge (hp.trans hperm)
  rw [hmerge] at hrow
  have hl : ss.length = (isortI (es.map fun e => kI e.1)).length := by
    rw [(isortI_perm _).length_eq, ← hperm.length_eq, ← hp.length_eq]
  rw [hl] at hrow
  generalize isortI (es.map fun e => kI e.1) = l at hr hrow hl
  unfold srtN at hr
  split at hr
  · simp only [T.run] at hr
    cases hr
    have hv0 : v = .slice none 0 0 := hnil.2 (List.length_eq_zero_iff.1 hl)
    have hB' : ∀ n, B n → n < M.length ∨ M.length + 1 ≤ n := fun n hn => by have := hB n hn; simpa using this
    have hat := hA.mk hB' hM (p := .none) (v := v) (F := fun _ => False) (fun b hb => hb) (fun b hb => hb.elim) hbel
    refine (show Q (.returned ((V.lit (.slice none 0 0)).den (upE ρ M.length v))) w' → Q (.returned v) w' from fun h => by rw [hv0]; exact h) ?_
    refine hQ _ _ _ _ rfl (hK _ _ (by rw [List.length_append]; exact ext_one) hat ⟨⟨trivial, trivial⟩, trivial, fun m hm => by cases hm⟩ (scM_new hM trivial))
  · rename_i n l'
    simp only [T.run] at hr
    cases hr
    have hB' : ∀ n, B n → n < M.length ∨ M.length + 1 ≤ n := fun n hn => by have := hB n hn; simpa using this
    obtain ⟨h1, h2⟩ := hrow
    rcases h2 with ⟨_, hz⟩ | ⟨gb, cp, cur, e, hge, h3⟩
    · simp at hz
    have hrow : w'.ownsRow w.heap.size ti 1 v (n :: l').length ((n :: l').map encZ) := ⟨h1, .inr ⟨gb, cp, cur, e, hge, h3⟩⟩
    have hat := hA.mk hB' hM (p := .row ti 1 ((n :: l').map fun n => [.int false .i64 n])) (v := v) (F := fun x => v.ownBlock = some x) (w' := w')
      (by
        refine ⟨fun x hx => ?_, fun _ => ?_, ?_⟩
        · obtain ⟨k, _, rfl⟩ := List.mem_map.1 hx; rfl
        · simp [upE]
        · rw [flat_one]
          simp only [upE, if_true, List.length_map]
          exact ownsRow_base hrow (Nat.zero_le _))
      (fun b hb => by rw [e] at hb; simp [Value.ownBlock] at hb; omega) hbel
    refine (show Q (.returned ((V.sl M.length 1 0 (n :: l').length).den (upE ρ M.length v))) w' → Q (.returned v) w' from fun h => ?_) ?_
    · have : (V.sl M.length 1 0 (n :: l').length).den (upE ρ M.length v) = v := by
        simp only [V.den, upE, if_true, e, subOf]
        simp
      rw [this] at h
      exact h
    refine hQ _ _ _ _ rfl (hK _ _ (by rw [List.length_append]; exact ext_one) hat ⟨⟨.inr ⟨Nat.le_refl _, by simp⟩, trivial⟩, trivial, fun m hm => by cases hm⟩ (scM_new hM ?_))
    show scL B _
    refine scL_iff.2 fun x hx => ?_
    obtain ⟨y, hy, hx⟩ := List.mem_flatten.1 hx
    obtain ⟨k, _, rfl⟩ := List.mem_map.1 hy
    obtain rfl := List.mem_singleton.1 hx
    trivial
end
end Go.Proofs.YtockaipodnapjaaGreatDoor
namespace Go.Proofs.YtockaipodnapjaaGreatDoor
open Go.RowKit
set_option linter.unusedVariables false
def ints1 : List (List V) → Option (List Int)
  | [] => some []
  | [.int _ .i64 n] :: l => (match ints1 l with
    | some ns => some (n :: ns)
    | none => none)
  | _ => none
theorem ints1_den (ρ : En) : ∀ {xs : List (List V)} {ns : List Int}, ints1 xs = some ns → denL ρ xs.flatten = ns.map encI
  | [], ns, h => by
    cases h
    rfl
  | x :: l, ns, h => by
    unfold ints1 at h
    split at h
    · cases ‹_ :: _ = []›
    · rename_i hx
      cases hx
      split at h
      · rename_i ns' hl
        cases h
        have := ints1_den ρ hl
        simp only [List.flatten_cons, List.singleton_append, denL, V.den, this, List.map_cons]
      · cases h
    · cases h
def rgB (K : Nat) (n : Int) : Bool := match n with
  | .ofNat m => Nat.blt m (Nat.pow 256 K)
  | .negSucc _ => false
theorem rgB_iff {K : Nat} {n : Int} (h : rgB K n = true) : 0 ≤ n ∧ n < 256 ^ K := by
  unfold rgB at h
  split at h
  · rename_i m
    have h1 : m < 256 ^ K := by rw [blt_dec] at h; exact of_decide_eq_true h
    refine ⟨by simp, ?_⟩
    have : ((256 ^ K : Nat) : Int) = (256 : Int) ^ K := by simp
    rw [← this]
    simp only [Int.ofNat_eq_natCast]
    omega
  · cases h
section
variable {A : Type} {ar : A → List Value → Value → Res} {P : Program}
def needs (K : Nat) (t : T A) : List Int → T A
  | [] => t
  | n :: l => .need (rgB K n) (needs K t l)
theorem needs_run {K : Nat} {t : T A} : ∀ {l : List Int} {ch : List Bool} {M : List (Pl A)} {obs : Obs} {lg : Lg} {r M' ch' obs' lg'}, (needs K t l).run ch M obs lg = .ok r M' ch' obs' lg' → okObs obs' → (∀ n ∈ l, rgB K n = true) ∧ ∃ obs2, t.run ch M obs2 lg = .ok r M' ch' obs' lg'
  | [], ch, M, obs, lg, r, M', ch', obs', lg', h, _ => ⟨fun n hn => (by cases hn), obs, h⟩
  | n :: l, ch, M, obs, lg, r, M', ch', obs', lg', h, ho => by
    have h1 : (needs K t l).run ch M ((rgB K n, true) :: obs) lg = .ok r M' ch' obs' lg' := h
    obtain ⟨h2, h3⟩ := needs_run h1 ho
    have h4 := run_obs _ h1 ho (rgB K n, true) List.mem_cons_self
    refine ⟨fun m hm => ?_, h3⟩
    rcases List.mem_cons.1 hm with rfl | hm
    · exact h4
    · exact h2 m hm
def okK (K : Nat) : Bool := Nat.beq K 1 || (Nat.beq K 2 || Nat.beq K 4)
theorem call_ret {f : FuncId} {args : List V} {B : Nat → Prop} {ρ : En} {w0 w : World} {D : Nat → Prop} {M : List (Pl A)} {v : V} {K : RT → En → World → Prop} {Q : Ending → World → Prop}
    (hA : At ar w0 D w ρ M) (hM : scM B M) (hv : v.sc B) (hK : ∀ ρ' w', Ext M.length M.length ρ ρ' → At ar w0 D w' ρ' M → scR (wid B M.length M.length) (rv v) → scM (wid B M.length M.length) M → K (rv v) ρ' w')
    (hQ : ∀ r ρ' w' u, r = rv u → K r ρ' w' → Q (.returned (u.den ρ')) w') (hc : Calls P f (denL ρ args).toArray w fun e w' => e = .returned (v.den ρ) ∧ Below w.heap.size w w') : Calls P f (denL ρ args).toArray w Q :=
  Calls.mono hc fun ev w' hw => by
    obtain ⟨rfl, hb⟩ := hw
    exact hQ _ ρ w' v rfl (hK ρ w' Ext.rfl' (OwnN.stay hA hb) ⟨⟨V.sc_mono wid_l v hv, trivial⟩, trivial, fun m hm => by cases hm⟩ (fun i => Pl.sc_mono wid_l _ (hM i)))
def sgPutT (ti K m : Nat) (p : Pl A) : T A := match p with
  | .row t 1 xs => (match Nat.beq t ti && (Nat.beq m xs.length && (Nat.blt 0 m && Nat.ble m 1000)) with
    | true => (match ints1 xs with
      | some ns => needs K (.ret (rv (.str true ⟨(putL K ns).toArray⟩))) ns
      | none => .fail 821)
    | false => .fail 822)
  | _ => .fail 823
def sgPutC (ti : Nat) (args : List V) : T A := match args with
  | [.int _ .i64 (.ofNat K), .sl n 1 0 m] => (match okK K with
    | true => .get n (sgPutT ti K m)
    | false => .fail 824)
  | _ => .fail 825
theorem sgPutC_ok {f : FuncId} {ti : Nat}
    (hit : ∀ (K : Nat) (ns : List Int) (g cp : Nat) (w : World), K = 1 ∨ K = 2 ∨ K = 4 → 0 < ns.length → ns.length ≤ 1000 → (∀ n ∈ ns, 0 ≤ n ∧ n < 256 ^ K) → (∀ k (h : k < ns.length), w.cell? ⟨g, k, none⟩ = some (.int .i64 ns[k])) →
      Calls P f #[.int .i64 (Int.ofNat K), .slice (some ⟨g, 0, none⟩) ns.length cp] w fun e w' => e = .returned (.string ⟨(putL K ns).toArray⟩) ∧ Below w.heap.size w w')
    (args : List V) : CallOK ar P f args (sgPutC ti args : T A) := by
  intro ch M obs lg r M' ch' obs' lg' hr ho B ρ w0 D w K hB hA hM hs hK Q hQ
  unfold sgPutC at hr
  split at hr
  case h_2 => cases hr
  rename_i s0 k n m
  split at hr
  case h_2 => cases hr
  rename_i hk
  simp only [T.run] at hr
  unfold sgPutT at hr
  split at hr
  case h_2 => cases hr
  rename_i t xs hm
  split at hr
  case h_2 => cases hr
  rename_i hc
  simp only [Bool.and_eq_true, Nat.ble_eq] at hc
  split at hr
  case h_2 => cases hr
  rename_i ns hns
  obtain ⟨hrg, obs2, hr⟩ := needs_run hr ho
  simp only [T.run] at hr
  cases hr
  obtain rfl : t = ti := Nat.eq_of_beq_eq_true hc.1
  obtain rfl : m = xs.length := Nat.eq_of_beq_eq_true hc.2.1
  obtain ⟨hl, hrow⟩ := hA.row hm
  have hden := ints1_den ρ hns
  rw [hden] at hrow
  have hlen : ns.length = xs.length := by
    have := hrow.1
    simp only [List.length_map, Nat.mul_one] at this
    exact this
  have hpos : 0 < xs.length := by have := hc.2.2.1; rw [blt_dec] at this; exact of_decide_eq_true this
  obtain ⟨h1, h2⟩ := hrow
  rcases h2 with ⟨_, hz⟩ | ⟨g, cp, cur, e, _, hh, hcp, _, hsz, hcur⟩
  · omega
  have hcell : ∀ k (h : k < ns.length), w.cell? ⟨g, k, none⟩ = some (.int .i64 ns[k]) := fun k h => by
    have h5 : (cur.toList.take (xs.length * 1))[k]? = some (.int .i64 ns[k]) := by rw [hcur]; simp [List.getElem?_map, List.getElem?_eq_getElem h]
    rw [List.getElem?_take, if_pos (by omega), Array.getElem?_toList] at h5
    simp [World.cell?, hh, h5]
  have hkk : k = 1 ∨ k = 2 ∨ k = 4 := by
    simp only [okK, Bool.or_eq_true] at hk
    rcases hk with h | h | h
    · exact .inl (Nat.eq_of_beq_eq_true h)
    · exact .inr (.inl (Nat.eq_of_beq_eq_true h))
    · exact .inr (.inr (Nat.eq_of_beq_eq_true h))
  have hv : (V.sl n 1 0 xs.length).den ρ = .slice (some ⟨g, 0, none⟩) ns.length cp := by
    simp only [V.den, e, subOf, hlen]
    simp
  refine call_ret (v := .str true ⟨(putL k ns).toArray⟩) hA hM trivial hK hQ (show Calls P f (denL ρ [V.int s0 .i64 (Int.ofNat k), V.sl n 1 0 xs.length]).toArray w _ from by
    simp only [denL, hv]
    exact hit k ns g cp w hkk (by omega) (by rw [hlen]; exact hc.2.2.2) (fun n hn => rgB_iff (hrg n hn)) hcell)
def csC (args : List V) : T A := match args with
  | [.str _ x] => .need (Nat.ble (bL x).length 100000) (.ret (rv (.int true .i64 (ckF x))))
  | _ => .fail 826
theorem csC_ok {f : FuncId} (hit : ∀ (s : ByteArray), s.size ≤ 100000 → ∀ w, Calls P f #[.string s] w fun e w' => e = .returned (.int .i64 (ckF s)) ∧ Below w.heap.size w w')
    (args : List V) : CallOK ar P f args (csC args : T A) := by
  intro ch M obs lg r M' ch' obs' lg' hr ho B ρ w0 D w K hB hA hM hs hK Q hQ
  unfold csC at hr
  split at hr
  case h_2 => cases hr
  rename_i s0 x
  have hb := run_obs _ (show (T.ret _ : T A).run ch M (_ :: obs) lg = _ from hr) ho _ List.mem_cons_self
  simp only [T.run] at hr
  cases hr
  have hl : x.size ≤ 100000 := by rw [← bL_size]; exact Nat.le_of_ble_eq_true hb
  exact call_ret (v := .int true .i64 (ckF x)) hA hM trivial hK hQ (hit x hl w)
def gtC (args : List V) : T A := match args with
  | [.str _ x, .int _ .i64 (.ofNat p), .int _ .i64 (.ofNat k)] => (match okK k with
    | true => .need (Nat.ble (p + k) (bL x).length && Nat.ble (bL x).length 100000) (.ret (rv (.tup [.int true .i64 (beD (((bL x).drop p).take k)), .int false .i64 0])))
    | false => .fail 827)
  | _ => .fail 828
theorem gtC_ok {f : FuncId} (hit : ∀ (s : ByteArray) (p k : Nat), k = 1 ∨ k = 2 ∨ k = 4 → p + k ≤ s.size → s.size ≤ 100000 → ∀ w, Calls P f #[.string s, .int .i64 p, .int .i64 k] w fun e w' => e = .returned (.tuple #[.int .i64 (beD ((s.data.toList.drop p).take k)), .int .i64 0]) ∧ Below w.heap.size w w')
    (args : List V) : CallOK ar P f args (gtC args : T A) := by
  intro ch M obs lg r M' ch' obs' lg' hr ho B ρ w0 D w K hB hA hM hs hK Q hQ
  unfold gtC at hr
  split at hr
  case h_2 => cases hr
  rename_i s0 x s1 p s2 k
  split at hr
  case h_2 => cases hr
  rename_i hk
  have hb := run_obs _ (show (T.ret _ : T A).run ch M (_ :: obs) lg = _ from hr) ho _ List.mem_cons_self
  simp only [T.run] at hr
  cases hr
  simp only [Bool.and_eq_true] at hb
  have hl : x.size ≤ 100000 := by rw [← bL_size]; exact Nat.le_of_ble_eq_true hb.2
  have hp : p + k ≤ x.size := by rw [← bL_size]; exact Nat.le_of_ble_eq_true hb.1
  have hkk : k = 1 ∨ k = 2 ∨ k = 4 := by
    simp only [okK, Bool.or_eq_true] at hk
    rcases hk with h | h | h
    · exact .inl (Nat.eq_of_beq_eq_true h)
    · exact .inr (.inl (Nat.eq_of_beq_eq_true h))
    · exact .inr (.inr (Nat.eq_of_beq_eq_true h))
  exact call_ret (v := .tup [.int true .i64 (beD (((bL x).drop p).take k)), .int false .i64 0]) hA hM ⟨trivial, trivial, trivial⟩ hK hQ (hit x p k hkk hp hl w)
end
end Go.Proofs.YtockaipodnapjaaGreatDoor
namespace Go.Proofs.YtockaipodnapjaaGreatDoor
open Go.RowKit
set_option linter.unusedVariables false
theorem own_one {w : World} {F : Nat → Prop} {R : Res} (h : R.P w F) : Own w F w [R] := by
  refine ⟨Upd.refl F w, fun _ => F, fun i Q hi => ?_, fun i j hi hj hij => ?_⟩
  · cases i with
    | zero =>
      cases hi
      exact ⟨h, fun b hb => .inl hb⟩
    | succ i => cases hi
  · simp at hi hj; omega
section
variable {ar : Nat → List Value → Value → Res} {P : Program}
def wsB (n : Nat) (x y : ByteArray) (a2 : Nat) : T Nat := .need (Nat.ble ((bL y).length + (bL x).length) 100000) (.put n (.abs a2 [.str true (mkB (bL y ++ bL x))]) (.ret (rv (.tup [.int true .i64 (Int.ofNat (bL x).length), .lit .nilIface]))))
def wsT (tb a2 n : Nat) (x : ByteArray) (p : Pl Nat) : T Nat := match p with
  | .blk [.lit (.pointer none), .lit (.slice none 0 0)] t => (match Nat.beq t tb with
    | true => wsB n x ⟨#[]⟩ a2
    | false => .fail 831)
  | .abs a [.str _ y] => (match Nat.beq a a2 with
    | true => wsB n x y a2
    | false => .fail 832)
  | _ => .fail 833
def wsC (tb a2 : Nat) (args : List V) : T Nat := match args with
  | [.ptr n 0, .str _ x] => .get n (wsT tb a2 n x)
  | _ => .fail 834
theorem wsB_ok {f : FuncId} {a2 n : Nat} {s0 : Bool} {x y : ByteArray} (har : ∀ z v, ar a2 [.string z] v = resB (blkOf v) (bL z))
    (hit : ∀ (D : Nat → Prop) (w : World) (b : Nat) (bs : List UInt8) (s : ByteArray), Own w D w [resB b bs] → bs.length + s.size ≤ 1000000 → Calls P f #[.pointer (some ⟨b, 0, none⟩), .string s] w (OPost w D [resB b (bs ++ bL s)] (.tuple #[.int .i64 s.size, .nilIface]) w))
    {ch : List Bool} {M : List (Pl Nat)} {obs : Obs} {lg : Lg} {r M' ch' obs' lg'} (hr : (wsB n x y a2).run ch M obs lg = .ok r M' ch' obs' lg') (ho : okObs obs') {B : Nat → Prop} {ρ : En} {w0 w : World} {D : Nat → Prop} {K : RT → En → World → Prop}
    (hA : At ar w0 D w ρ M) (hM : scM B M) (hn : n < M.length)
    (hown : ∀ F, (denP ar ρ n (Mget M n)).P w F → Own w F w [resB (blkOf (ρ n)) (bL y)])
    (hK : ∀ ρ' w', Ext M.length M'.length ρ ρ' → At ar w0 D w' ρ' M' → scR (wid B M.length M'.length) r → scM (wid B M.length M'.length) M' → K r ρ' w')
    {Q : Ending → World → Prop} (hQ : ∀ r ρ' w' u, r = rv u → K r ρ' w' → Q (.returned (u.den ρ')) w') : Calls P f (denL ρ [.ptr n 0, .str s0 x]).toArray w Q := by
  unfold wsB at hr
  have hb := run_obs _ (show (T.put n _ _ : T Nat).run ch M (_ :: obs) lg = _ from hr) ho _ List.mem_cons_self
  simp only [T.run] at hr
  split at hr
  case h_2 => cases hr
  cases hr
  have hl : (bL y).length + (bL x).length ≤ 100000 := Nat.le_of_ble_eq_true hb
  obtain ⟨F, h1, h2, h3⟩ := hA.chg hn
  refine Calls.mono (hit F w (blkOf (ρ n)) (bL y) x (hown F h1) (by rw [← bL_size x]; omega)) fun ev w' hw => ?_
  obtain ⟨rfl, hO, hsz⟩ := hw
  obtain ⟨F', g1, g2, _⟩ := hO.step (i := 0) rfl
  have hat := h3 (p := .abs a2 [.str true (mkB (bL y ++ bL x))]) (F' := F') (w' := w') (by
    show (ar a2 [.string (mkB (bL y ++ bL x))] (ρ n)).P w' F'
    rw [har]
    exact g1) g2 hO.upd
  have hv : (V.tup [.int true .i64 (Int.ofNat (bL x).length), .lit .nilIface]).den ρ = .tuple #[.int .i64 x.size, .nilIface] := by
    simp only [V.den, denL, bL_size]
    rfl
  rw [← hv]
  exact hQ _ ρ w' _ rfl (hK ρ w' (by rw [List.length_set]; exact Ext.rfl') hat ⟨⟨⟨trivial, trivial, trivial⟩, trivial⟩, trivial, fun m hm => by cases hm⟩ (by rw [List.length_set]; exact scM_set (fun i => Pl.sc_mono wid_l _ (hM i)) ⟨trivial, trivial⟩))
theorem wsC_ok {f : FuncId} {tb a2 : Nat} (har : ∀ z v, ar a2 [.string z] v = resB (blkOf v) (bL z))
    (hnew : ∀ (D : Nat → Prop) (w : World) (b : Nat), Own w D w [blkR b (.cells #[.pointer none, .slice none 0 0] tb)] → Own w D w [resB b []])
    (hit : ∀ (D : Nat → Prop) (w : World) (b : Nat) (bs : List UInt8) (s : ByteArray), Own w D w [resB b bs] → bs.length + s.size ≤ 1000000 → Calls P f #[.pointer (some ⟨b, 0, none⟩), .string s] w (OPost w D [resB b (bs ++ bL s)] (.tuple #[.int .i64 s.size, .nilIface]) w))
    (args : List V) : CallOK ar P f args (wsC tb a2 args) := by
  intro ch M obs lg r M' ch' obs' lg' hr ho B ρ w0 D w K hB hA hM hs hK Q hQ
  unfold wsC at hr
  split at hr
  case h_2 => cases hr
  rename_i n s0 x
  simp only [T.run] at hr
  unfold wsT at hr
  split at hr
  · rename_i t hm
    split at hr
    case h_2 => cases hr
    rename_i ht
    obtain rfl := Nat.eq_of_beq_eq_true ht
    refine wsB_ok har hit hr ho hA hM (At.lt hm) (fun F hF => ?_) hK hQ
    rw [hm] at hF
    exact hnew F w _ (own_one hF)
  · rename_i a s1 y hm
    split at hr
    case h_2 => cases hr
    rename_i ht
    obtain rfl := Nat.eq_of_beq_eq_true ht
    refine wsB_ok har hit hr ho hA hM (At.lt' hm (by intro e; cases e)) (fun F hF => ?_) hK hQ
    rw [hm] at hF
    simp only [denP, denL, V.den, har] at hF
    exact own_one hF
  · cases hr
def bsT (a2 n : Nat) (p : Pl Nat) : T Nat := match p with
  | .abs a [.str _ y] => (match Nat.beq a a2 with
    | true => .need (Nat.blt 0 (bL y).length && Nat.ble (bL y).length 100000) (.put n .none (.ret (rv (.str true y))))
    | false => .fail 835)
  | _ => .fail 836
def bsC (a2 : Nat) (args : List V) : T Nat := match args with
  | [.ptr n 0] => .get n (bsT a2 n)
  | _ => .fail 837
theorem bsC_ok {f : FuncId} {a2 : Nat} (har : ∀ z v, ar a2 [.string z] v = resB (blkOf v) (bL z))
    (hit : ∀ (D : Nat → Prop) (w : World) (b : Nat) (bs : List UInt8), Own w D w [resB b bs] → bs.length ≤ 1000000 → bs ≠ [] → Calls P f #[.pointer (some ⟨b, 0, none⟩)] w (OPost w D [junkR] (.string ⟨bs.toArray⟩) w))
    (args : List V) : CallOK ar P f args (bsC a2 args) := by
  intro ch M obs lg r M' ch' obs' lg' hr ho B ρ w0 D w K hB hA hM hs hK Q hQ
  unfold bsC at hr
  split at hr
  case h_2 => cases hr
  rename_i n
  simp only [T.run] at hr
  unfold bsT at hr
  split at hr
  case h_2 => cases hr
  rename_i a s1 y hm
  split at hr
  case h_2 => cases hr
  rename_i ht
  obtain rfl := Nat.eq_of_beq_eq_true ht
  have hb := run_obs _ (show (T.put n _ _ : T Nat).run ch M (_ :: obs) _ = _ from hr) ho _ List.mem_cons_self
  simp only [T.run] at hr
  split at hr
  case h_2 => cases hr
  cases hr
  simp only [Bool.and_eq_true, Nat.ble_eq] at hb
  have hn := At.lt' hm (by intro e; cases e)
  obtain ⟨F, h1, h2, h3⟩ := hA.chg hn
  rw [hm] at h1
  simp only [denP, denL, V.den, har] at h1
  have hO : Own w F w [resB (blkOf (ρ n)) (bL y)] := own_one h1
  have h0 : bL y ≠ [] := fun e => by rw [e] at hb; simp at hb
  refine Calls.mono (hit F w _ _ hO (by omega) h0) fun ev w' hw => ?_
  obtain ⟨rfl, hO, hsz⟩ := hw
  have hat := h3 (p := .none) (F' := fun _ => False) (w' := w') (fun b hb => hb) (fun b hb => hb.elim) hO.upd
  exact hQ _ ρ w' (.str true y) rfl (hK ρ w' (by rw [List.length_set]; exact Ext.rfl') hat ⟨⟨trivial, trivial⟩, trivial, fun m hm => by cases hm⟩ (by rw [List.length_set]; exact scM_set (fun i => Pl.sc_mono wid_l _ (hM i)) trivial))
end
end Go.Proofs.YtockaipodnapjaaGreatDoor
namespace Go.Proofs.YtockaipodnapjaaGreatDoor
open Go.RowKit
set_option linter.unusedVariables false
theorem okO_nil : okObs [] := fun p hp => by cases hp
theorem okO_cons {a b : Bool} {l : Obs} (h : a = b) (hl : okObs l) : okObs ((a, b) :: l) := fun p hp => by
  rcases List.mem_cons.1 hp with rfl | hp
  · exact h
  · exact hl p hp
section
variable {A : Type} {ar : A → List Value → Value → Res} {P : Program}
def pureC (g : List V → Option (Bool × V)) (args : List V) : T A := match g args with
  | some p => .need p.1 (.ret (rv p.2))
  | none => .fail 850
theorem pureC_ok {f : FuncId} {g : List V → Option (Bool × V)} (hit : ∀ args c v, g args = some (c, v) → c = true → v.cl = true ∧ ∀ ρ w, Calls P f (denL ρ args).toArray w fun e w' => e = .returned (v.den ρ) ∧ Below w.heap.size w w')
    (args : List V) : CallOK ar P f args (pureC g args : T A) := by
  intro ch M obs lg r M' ch' obs' lg' hr ho B ρ w0 D w K hB hA hM hs hK Q hQ
  unfold pureC at hr
  split at hr
  case h_2 => cases hr
  rename_i p hp
  obtain ⟨c, v⟩ := p
  have hb := run_obs _ (show (T.ret _ : T A).run ch M (_ :: obs) lg = _ from hr) ho _ List.mem_cons_self
  simp only [T.run] at hr
  cases hr
  obtain ⟨h1, h2⟩ := hit args c v hp hb
  exact call_ret hA hM (V.cl_sc _ h1) hK hQ (h2 ρ w)
end
def fB (sy fi rs ha sa : Bool) : Int := (((((0 + if sy then 1 else 0) + if fi then 2 else 0) + if rs then 4 else 0) + if ha then 8 else 0) + if sa then 16 else 0)
structure Sg where
  fp : Int
  tp : Int
  sq : Int
  ak : Int
  sy : Bool
  fi : Bool
  rs : Bool
  ha : Bool
  wn : Int
  ms : Int
  sa : Bool
  d : ByteArray
def Sg.cells (s : Sg) : List Value := [.int .i64 s.fp, .int .i64 s.tp, .int .i64 s.sq, .int .i64 s.ak, .bool s.sy, .bool s.fi, .bool s.rs, .bool s.ha, .int .i64 s.wn, .int .i64 s.ms, .bool s.sa, .slice none 0 0, .string s.d]
def Sg.vs (s : Sg) : List V := [.int true .i64 s.fp, .int true .i64 s.tp, .int true .i64 s.sq, .int true .i64 s.ak, .bool true s.sy, .bool true s.fi, .bool true s.rs, .bool true s.ha, .int true .i64 s.wn, .int true .i64 s.ms, .bool true s.sa, .lit (.slice none 0 0), .str true s.d]
def sgOf (l : List V) : Option Sg := match l with
  | [.int _ .i64 fp, .int _ .i64 tp, .int _ .i64 sq, .int _ .i64 ak, .bool _ sy, .bool _ fi, .bool _ rs, .bool _ ha, .int _ .i64 wn, .int _ .i64 ms, .bool _ sa, .lit (.slice none 0 0), .str _ d] => some ⟨fp, tp, sq, ak, sy, fi, rs, ha, wn, ms, sa, d⟩
  | _ => none
theorem sgOf_den {l : List V} {s : Sg} (h : sgOf l = some s) (ρ : En) : denL ρ l = s.cells := by
  unfold sgOf at h
  split at h
  · cases h; rfl
  · cases h
theorem sgOf_cl {l : List V} {s : Sg} (h : sgOf l = some s) : clL l = true := by
  unfold sgOf at h
  split at h
  · rfl
  · cases h
def rgI (a b n : Int) : Bool := !ilt n a && !ilt b n
theorem rgI_iff {a b n : Int} : rgI a b n = true ↔ a ≤ n ∧ n ≤ b := by
  simp only [rgI, ilt_dec, Bool.and_eq_true, Bool.not_eq_true', decide_eq_false_iff_not, Int.not_lt]
def Sg.okB (s : Sg) : Bool := rgI 1 65535 s.fp && (rgI 1 65535 s.tp && (rgI 0 4294967295 s.sq && (rgI 0 4294967295 s.ak && ((match s.ha with | true => true | false => ieq s.ak 0) && (rgI 0 65535 s.wn && (
  (match s.sy with | true => !s.fi && (!s.rs && (rgI 28 1024 s.ms && Nat.beq (bL s.d).length 0)) | false => !(s.fi && s.rs) && (!s.sa && ieq s.ms 0)) && (
  (match s.rs with | true => Nat.beq (bL s.d).length 0 | false => true) && Nat.ble (bL s.d).length 1024)))))))
structure Sg.ok (s : Sg) : Prop where
  fp : 1 ≤ s.fp ∧ s.fp ≤ 65535
  tp : 1 ≤ s.tp ∧ s.tp ≤ 65535
  sq : 0 ≤ s.sq ∧ s.sq ≤ 4294967295
  ak : 0 ≤ s.ak ∧ s.ak ≤ 4294967295
  ha : s.ha = false → s.ak = 0
  wn : 0 ≤ s.wn ∧ s.wn ≤ 65535
  sy : s.sy = true → s.fi = false ∧ s.rs = false ∧ 28 ≤ s.ms ∧ s.ms ≤ 1024 ∧ (bL s.d).length = 0
  ns : s.sy = false → (s.fi && s.rs) = false ∧ s.sa = false ∧ s.ms = 0
  rs : s.rs = true → (bL s.d).length = 0
  d : (bL s.d).length ≤ 1024
theorem Sg.ok_iff {s : Sg} : s.okB = true ↔ s.ok := by
  unfold Sg.okB
  simp only [Bool.and_eq_true, rgI_iff, Nat.ble_eq]
  constructor
  · rintro ⟨h1, h2, h3, h4, h5, h6, h7, h8, h9⟩
    refine ⟨h1, h2, h3, h4, fun h => ?_, h6, fun h => ?_, fun h => ?_, fun h => ?_, h9⟩
    · rw [h] at h5; rw [ieq_dec] at h5; exact of_decide_eq_true h5
    · rw [h] at h7
      simp only [Bool.and_eq_true, Bool.not_eq_true', rgI_iff] at h7
      exact ⟨h7.1, h7.2.1, h7.2.2.1.1, h7.2.2.1.2, Nat.eq_of_beq_eq_true h7.2.2.2⟩
    · rw [h] at h7
      simp only [Bool.and_eq_true, Bool.not_eq_true', ieq_dec, decide_eq_true_eq] at h7
      exact ⟨h7.1, h7.2.1, h7.2.2⟩
    · rw [h] at h8; exact Nat.eq_of_beq_eq_true h8
  · rintro ⟨h1, h2, h3, h4, h5, h6, h7, h8, h9, h10⟩
    refine ⟨h1, h2, h3, h4, ?_, h6, ?_, ?_, h10⟩
    · cases h : s.ha with
      | true => rfl
      | false => rw [h5 h]; rfl
    · cases h : s.sy with
      | true =>
        obtain ⟨a, b, c, d, e⟩ := h7 h
        simp only [a, b, e, rgI_iff.2 ⟨c, d⟩]; rfl
      | false =>
        obtain ⟨a, b, c⟩ := h8 h
        simp only [a, b, c]; rfl
    · cases h : s.rs with
      | true => simp only [h9 h]; rfl
      | false => rfl
def segL (s : Sg) (sum : Int) : List UInt8 := ((((([] ++ putL 2 [s.fp, s.tp]) ++ putL 4 [s.sq, s.ak]) ++ putL 1 [fB s.sy s.fi s.rs s.ha s.sa, 0]) ++ putL 2 [s.wn, s.ms, sum]) ++ bL s.d)
noncomputable def coverL (fr to : Int) (s : Sg) : List UInt8 := (putL 4 [fr, to] ++ putL 2 [6, Int.ofNat (rlen (segL s 0))]) ++ segL s 0
noncomputable def encS (fr to : Int) (s : Sg) : ByteArray := mkB (segL s (ckF (mkB (coverL fr to s))))
def fbG (args : List V) : Option (Bool × V) := match args with
  | [.agg l] => (match sgOf l with
    | some s => some (true, .int true .i64 (fB s.sy s.fi s.rs s.ha s.sa))
    | none => none)
  | _ => none
def vlG (args : List V) : Option (Bool × V) := match args with
  | [.agg l] => (match sgOf l with
    | some s => some (s.okB, .bool false true)
    | none => none)
  | _ => none
def wrG (args : List V) : Option (Bool × V) := match args with
  | [.agg l, .int _ .i64 n] => (match sgOf l with
    | some s => some (s.okB && rgI 0 65535 n, .str true (mkB (segL s n)))
    | none => none)
  | _ => none
noncomputable def enG (args : List V) : Option (Bool × V) := match args with
  | [.int _ .i64 fr, .int _ .i64 to, .agg l] => (match sgOf l with
    | some s => some (s.okB && (rgI 0 4294967295 fr && rgI 0 4294967295 to), .tup [.str true (encS fr to s), .int false .i64 0])
    | none => none)
  | _ => none
section
variable {P : Program} {f : FuncId}
theorem fbG_hit (hit : ∀ (s : Sg) w, Calls P f #[.agg s.cells.toArray] w fun e w' => e = .returned (.int .i64 (fB s.sy s.fi s.rs s.ha s.sa)) ∧ Below w.heap.size w w') (args : List V) (c : Bool) (v : V) (h : fbG args = some (c, v)) (hc : c = true) :
    v.cl = true ∧ ∀ ρ w, Calls P f (denL ρ args).toArray w fun e w' => e = .returned (v.den ρ) ∧ Below w.heap.size w w' := by
  unfold fbG at h
  split at h
  case h_2 => cases h
  split at h
  case h_2 => cases h
  rename_i s hs
  cases h
  exact ⟨rfl, fun ρ w => by simp only [denL, V.den, sgOf_den hs]; exact hit s w⟩
theorem vlG_hit (hit : ∀ (s : Sg) w, s.ok → Calls P f #[.agg s.cells.toArray] w fun e w' => e = .returned (.bool true) ∧ Below w.heap.size w w') (args : List V) (c : Bool) (v : V) (h : vlG args = some (c, v)) (hc : c = true) :
    v.cl = true ∧ ∀ ρ w, Calls P f (denL ρ args).toArray w fun e w' => e = .returned (v.den ρ) ∧ Below w.heap.size w w' := by
  unfold vlG at h
  split at h
  case h_2 => cases h
  split at h
  case h_2 => cases h
  rename_i s hs
  simp only [Option.some.injEq, Prod.mk.injEq] at h
  obtain ⟨h1, rfl⟩ := h
  exact ⟨rfl, fun ρ w => by simp only [denL, V.den, sgOf_den hs]; exact hit s w (Sg.ok_iff.1 (h1.trans hc))⟩
theorem wrG_hit (hit : ∀ (s : Sg) (n : Int) w, s.ok → 0 ≤ n → n ≤ 65535 → Calls P f #[.agg s.cells.toArray, .int .i64 n] w fun e w' => e = .returned (.string (mkB (segL s n))) ∧ Below w.heap.size w w') (args : List V) (c : Bool) (v : V) (h : wrG args = some (c, v)) (hc : c = true) :
    v.cl = true ∧ ∀ ρ w, Calls P f (denL ρ args).toArray w fun e w' => e = .returned (v.den ρ) ∧ Below w.heap.size w w' := by
  unfold wrG at h
  split at h
  case h_2 => cases h
  split at h
  case h_2 => cases h
  rename_i s hs
  simp only [Option.some.injEq, Prod.mk.injEq] at h
  obtain ⟨h1, rfl⟩ := h
  have h1 := h1.trans hc
  simp only [Bool.and_eq_true, rgI_iff] at h1
  exact ⟨rfl, fun ρ w => by simp only [denL, V.den, sgOf_den hs]; exact hit s _ w (Sg.ok_iff.1 h1.1) h1.2.1 h1.2.2⟩
theorem enG_hit (hit : ∀ (fr to : Int) (s : Sg) w, s.ok → 0 ≤ fr → fr ≤ 4294967295 → 0 ≤ to → to ≤ 4294967295 → Calls P f #[.int .i64 fr, .int .i64 to, .agg s.cells.toArray] w fun e w' => e = .returned (.tuple #[.string (encS fr to s), .int .i64 0]) ∧ Below w.heap.size w w') (args : List V) (c : Bool) (v : V) (h : enG args = some (c, v)) (hc : c = true) :
    v.cl = true ∧ ∀ ρ w, Calls P f (denL ρ args).toArray w fun e w' => e = .returned (v.den ρ) ∧ Below w.heap.size w w' := by
  unfold enG at h
  split at h
  case h_2 => cases h
  split at h
  case h_2 => cases h
  rename_i s hs
  simp only [Option.some.injEq, Prod.mk.injEq] at h
  obtain ⟨h1, rfl⟩ := h
  have h1 := h1.trans hc
  simp only [Bool.and_eq_true, rgI_iff] at h1
  exact ⟨rfl, fun ρ w => by simp only [denL, V.den, sgOf_den hs]; exact hit _ _ s w (Sg.ok_iff.1 h1.1) h1.2.1.1 h1.2.1.2 h1.2.2.1 h1.2.2.2⟩
end
end Go.Proofs.YtockaipodnapjaaGreatDoor
