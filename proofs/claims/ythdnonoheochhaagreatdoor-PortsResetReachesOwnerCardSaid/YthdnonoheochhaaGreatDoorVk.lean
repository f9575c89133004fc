/- A machine of symbolic values: contracts of library functions. -/
import Derived.Test.YthdnonoheochhaaGreatDoorVe
import Derived.Lib.SlKeysI
import Derived.Maps.Own
import Derived.Test.YthdnonoheochhaaGreatDoorSp
import Derived.Test.YthdnonoheochhaaGreatDoorCks
namespace Go.Proofs.YthdnonoheochhaaGreatDoor
open Go.RowKit
set_option linter.unusedVariables false
section
variable {A : Type} {ar : A → List Value → Value → Res} {P : Program}
end
end Go.Proofs.YthdnonoheochhaaGreatDoor
namespace Go.Proofs.YthdnonoheochhaaGreatDoor
open Go.RowKit
set_option linter.unusedVariables false
def kI : Key → Int
  | .i n => n
  | _ => 0
end Go.Proofs.YthdnonoheochhaaGreatDoor
namespace Go.Proofs.YthdnonoheochhaaGreatDoor
open Go.RowKit
set_option linter.unusedVariables false
section
variable {A : Type} {ar : A → List Value → Value → Res} {P : Program}
end
end Go.Proofs.YthdnonoheochhaaGreatDoor
namespace Go.Proofs.YthdnonoheochhaaGreatDoor
open Go.RowKit
set_option linter.unusedVariables false
def ints1 : List (List V) → Option (List Int)
  | [] => some []
  | [.int _ .i64 n] :: l => (match ints1 l with
    | some ns => some (n :: ns)
    | none => none)
  | _ => none
theorem ints1_den (ρ : En) : ∀ {xs : List (List V)} {ns : List Int}, ints1 xs = some ns → denL ρ xs.flatten = ns.map encI
  | [], ns, h => by
    cases h
    rfl
  | x :: l, ns, h => by
    unfold ints1 at h
    split at h
    · cases ‹_ :: _ = []›
    · rename_i hx
      cases hx
      split at h
      · rename_i ns' hl
        cases h
        have := ints1_den ρ hl
        simp only [List.flatten_cons, List.singleton_append, denL, V.den, this, List.map_cons]
      · cases h
    · cases h
def rgB (K : Nat) (n : Int) : Bool := match n with
  | .ofNat m => Nat.blt m (Nat.pow 256 K)
  | .negSucc _ => false
theorem rgB_iff {K : Nat} {n : Int} (h : rgB K n = true) : 0 ≤ n ∧ n < 256 ^ K := by
  unfold rgB at h
  split at h
  · rename_i m
    have h1 : m < 256 ^ K := by rw [blt_dec] at h; exact of_decide_eq_true h
    refine ⟨by simp, ?_⟩
    have : ((256 ^ K : Nat) : Int) = (256 : Int) ^ K := by simp
    rw [← this]
    simp only [Int.ofNat_eq_natCast]
    omega
  · cases h
section
variable {A : Type} {ar : A → List Value → Value → Res} {P : Program}
def needs (K : Nat) (t : T A) : List Int → T A
  | [] => t
  | n :: l => .need (rgB K n) (needs K t l)
theorem needs_run {K : Nat} {t : T A} : ∀ {l : List Int} {ch : List Bool} {M : List (Pl A)} {obs : Obs} {lg : Lg} {r M' ch' obs' lg'}, (needs K t l).run ch M obs lg = .ok r M' ch' obs' lg' → okObs obs' → (∀ n ∈ l, rgB K n = true) ∧ ∃ obs2, t.run ch M obs2 lg = .ok r M' ch' obs' lg'
  | [], ch, M, obs, lg, r, M', ch', obs', lg', h, _ => ⟨fun n hn => (by cases hn), obs, h⟩
  | n :: l, ch, M, obs, lg, r, M', ch', obs', lg', h, ho => by
    have h1 : (needs K t l).run ch M ((rgB K n, true) :: obs) lg = .ok r M' ch' obs' lg' := h
    obtain ⟨h2, h3⟩ := needs_run h1 ho
    have h4 := run_obs _ h1 ho (rgB K n, true) List.mem_cons_self
    refine ⟨fun m hm => ?_, h3⟩
    rcases List.mem_cons.1 hm with rfl | hm
    · exact h4
    · exact h2 m hm
def okK (K : Nat) : Bool := Nat.beq K 1 || (Nat.beq K 2 || Nat.beq K 4)
theorem call_ret {f : FuncId} {args : List V} {B : Nat → Prop} {ρ : En} {w0 w : World} {D : Nat → Prop} {M : List (Pl A)} {v : V} {K : RT → En → World → Prop} {Q : Ending → World → Prop}
    (hA : At ar w0 D w ρ M) (hM : scM B M) (hv : v.sc B) (hK : ∀ ρ' w', Ext M.length M.length ρ ρ' → At ar w0 D w' ρ' M → scR (wid B M.length M.length) (rv v) → scM (wid B M.length M.length) M → K (rv v) ρ' w')
    (hQ : ∀ r ρ' w' u, r = rv u → K r ρ' w' → Q (.returned (u.den ρ')) w') (hc : Calls P f (denL ρ args).toArray w fun e w' => e = .returned (v.den ρ) ∧ Below w.heap.size w w') : Calls P f (denL ρ args).toArray w Q :=
  Calls.mono hc fun ev w' hw => by
    obtain ⟨rfl, hb⟩ := hw
    exact hQ _ ρ w' v rfl (hK ρ w' Ext.rfl' (OwnN.stay hA hb) ⟨⟨V.sc_mono wid_l v hv, trivial⟩, trivial, fun m hm => by cases hm⟩ (fun i => Pl.sc_mono wid_l _ (hM i)))
def sgPutT (ti K m : Nat) (p : Pl A) : T A := match p with
  | .row t 1 xs => (match Nat.beq t ti && (Nat.beq m xs.length && (Nat.blt 0 m && Nat.ble m 1000)) with
    | true => (match ints1 xs with
      | some ns => needs K (.ret (rv (.str true ⟨(putL K ns).toArray⟩))) ns
      | none => .fail 821)
    | false => .fail 822)
  | _ => .fail 823
def sgPutC (ti : Nat) (args : List V) : T A := match args with
  | [.int _ .i64 (.ofNat K), .sl n 1 0 m] => (match okK K with
    | true => .get n (sgPutT ti K m)
    | false => .fail 824)
  | _ => .fail 825
theorem sgPutC_ok {f : FuncId} {ti : Nat}
    (hit : ∀ (K : Nat) (ns : List Int) (g cp : Nat) (w : World), K = 1 ∨ K = 2 ∨ K = 4 → 0 < ns.length → ns.length ≤ 1000 → (∀ n ∈ ns, 0 ≤ n ∧ n < 256 ^ K) → (∀ k (h : k < ns.length), w.cell? ⟨g, k, none⟩ = some (.int .i64 ns[k])) →
      Calls P f #[.int .i64 (Int.ofNat K), .slice (some ⟨g, 0, none⟩) ns.length cp] w fun e w' => e = .returned (.string ⟨(putL K ns).toArray⟩) ∧ Below w.heap.size w w')
    (args : List V) : CallOK ar P f args (sgPutC ti args : T A) := by
  intro ch M obs lg r M' ch' obs' lg' hr ho B ρ w0 D w K hB hA hM hs hK Q hQ
  unfold sgPutC at hr
  split at hr
  case h_2 => cases hr
  rename_i s0 k n m
  split at hr
  case h_2 => cases hr
  rename_i hk
  simp only [T.run] at hr
  unfold sgPutT at hr
  split at hr
  case h_2 => cases hr
  rename_i t xs hm
  split at hr
  case h_2 => cases hr
  rename_i hc
  simp only [Bool.and_eq_true, Nat.ble_eq] at hc
  split at hr
  case h_2 => cases hr
  rename_i ns hns
  obtain ⟨hrg, obs2, hr⟩ := needs_run hr ho
  simp only [T.run] at hr
  cases hr
  obtain rfl : t = ti := Nat.eq_of_beq_eq_true hc.1
  obtain rfl : m = xs.length := Nat.eq_of_beq_eq_true hc.2.1
  obtain ⟨hl, hrow⟩ := hA.row hm
  have hden := ints1_den ρ hns
  rw [hden] at hrow
  have hlen : ns.length = xs.length := by
    have := hrow.1
    simp only [List.length_map, Nat.mul_one] at this
    exact this
  have hpos : 0 < xs.length := by have := hc.2.2.1; rw [blt_dec] at this; exact of_decide_eq_true this
  obtain ⟨h1, h2⟩ := hrow
  rcases h2 with ⟨_, hz⟩ | ⟨g, cp, cur, e, _, hh, hcp, _, hsz, hcur⟩
  · omega
  have hcell : ∀ k (h : k < ns.length), w.cell? ⟨g, k, none⟩ = some (.int .i64 ns[k]) := fun k h => by
    have h5 : (cur.toList.take (xs.length * 1))[k]? = some (.int .i64 ns[k]) := by rw [hcur]; simp [List.getElem?_map, List.getElem?_eq_getElem h]
    rw [List.getElem?_take, if_pos (by omega), Array.getElem?_toList] at h5
    simp [World.cell?, hh, h5]
  have hkk : k = 1 ∨ k = 2 ∨ k = 4 := by
    simp only [okK, Bool.or_eq_true] at hk
    rcases hk with h | h | h
    · exact .inl (Nat.eq_of_beq_eq_true h)
    · exact .inr (.inl (Nat.eq_of_beq_eq_true h))
    · exact .inr (.inr (Nat.eq_of_beq_eq_true h))
  have hv : (V.sl n 1 0 xs.length).den ρ = .slice (some ⟨g, 0, none⟩) ns.length cp := by
    simp only [V.den, e, subOf, hlen]
    simp
  refine call_ret (v := .str true ⟨(putL k ns).toArray⟩) hA hM trivial hK hQ (show Calls P f (denL ρ [V.int s0 .i64 (Int.ofNat k), V.sl n 1 0 xs.length]).toArray w _ from by
    simp only [denL, hv]
    exact hit k ns g cp w hkk (by omega) (by rw [hlen]; exact hc.2.2.2) (fun n hn => rgB_iff (hrg n hn)) hcell)
def csC (args : List V) : T A := match args with
  | [.str _ x] => .need (Nat.ble (bL x).length 100000) (.ret (rv (.int true .i64 (ckF x))))
  | _ => .fail 826
theorem csC_ok {f : FuncId} (hit : ∀ (s : ByteArray), s.size ≤ 100000 → ∀ w, Calls P f #[.string s] w fun e w' => e = .returned (.int .i64 (ckF s)) ∧ Below w.heap.size w w')
    (args : List V) : CallOK ar P f args (csC args : T A) := by
  intro ch M obs lg r M' ch' obs' lg' hr ho B ρ w0 D w K hB hA hM hs hK Q hQ
  unfold csC at hr
  split at hr
  case h_2 => cases hr
  rename_i s0 x
  have hb := run_obs _ (show (T.ret _ : T A).run ch M (_ :: obs) lg = _ from hr) ho _ List.mem_cons_self
  simp only [T.run] at hr
  cases hr
  have hl : x.size ≤ 100000 := by rw [← bL_size]; exact Nat.le_of_ble_eq_true hb
  exact call_ret (v := .int true .i64 (ckF x)) hA hM trivial hK hQ (hit x hl w)
def gtC (args : List V) : T A := match args with
  | [.str _ x, .int _ .i64 (.ofNat p), .int _ .i64 (.ofNat k)] => (match okK k with
    | true => .need (Nat.ble (p + k) (bL x).length && Nat.ble (bL x).length 100000) (.ret (rv (.tup [.int true .i64 (beD (((bL x).drop p).take k)), .int false .i64 0])))
    | false => .fail 827)
  | _ => .fail 828
theorem gtC_ok {f : FuncId} (hit : ∀ (s : ByteArray) (p k : Nat), k = 1 ∨ k = 2 ∨ k = 4 → p + k ≤ s.size → s.size ≤ 100000 → ∀ w, Calls P f #[.string s, .int .i64 p, .int .i64 k] w fun e w' => e = .returned (.tuple #[.int .i64 (beD ((s.data.toList.drop p).take k)), .int .i64 0]) ∧ Below w.heap.size w w')
    (args : List V) : CallOK ar P f args (gtC args : T A) := by
  intro ch M obs lg r M' ch' obs' lg' hr ho B ρ w0 D w K hB hA hM hs hK Q hQ
  unfold gtC at hr
  split at hr
  case h_2 => cases hr
  rename_i s0 x s1 p s2 k
  split at hr
  case h_2 => cases hr
  rename_i hk
  have hb := run_obs _ (show (T.ret _ : T A).run ch M (_ :: obs) lg = _ from hr) ho _ List.mem_cons_self
  simp only [T.run] at hr
  cases hr
  simp only [Bool.and_eq_true] at hb
  have hl : x.size ≤ 100000 := by rw [← bL_size]; exact Nat.le_of_ble_eq_true hb.2
  have hp : p + k ≤ x.size := by rw [← bL_size]; exact Nat.le_of_ble_eq_true hb.1
  have hkk : k = 1 ∨ k = 2 ∨ k = 4 := by
    simp only [okK, Bool.or_eq_true] at hk
    rcases hk with h | h | h
    · exact .inl (Nat.eq_of_beq_eq_true h)
    · exact .inr (.inl (Nat.eq_of_beq_eq_true h))
    · exact .inr (.inr (Nat.eq_of_beq_eq_true h))
  exact call_ret (v := .tup [.int true .i64 (beD (((bL x).drop p).take k)), .int false .i64 0]) hA hM ⟨trivial, trivial, trivial⟩ hK hQ (hit x p k hkk hp hl w)
end
end Go.Proofs.YthdnonoheochhaaGreatDoor
namespace Go.Proofs.YthdnonoheochhaaGreatDoor
open Go.RowKit
set_option linter.unusedVariables false
theorem own_one {w : World} {F : Nat → Prop} {R : Res} (h : R.P w F) : Own w F w [R] := by
  refine ⟨Upd.refl F w, fun _ => F, fun i Q hi => ?_, fun i j hi hj hij => ?_⟩
  · cases i with
    | zero =>
      cases hi
      exact ⟨h, fun b hb => .inl hb⟩
    | succ i => cases hi
  · simp at hi hj; omega
section
variable {ar : Nat → List Value → Value → Res} {P : Program}
def wsB (n : Nat) (x y : ByteArray) (a2 : Nat) : T Nat := .need (Nat.ble ((bL y).length + (bL x).length) 100000) (.put n (.abs a2 [.str true (mkB (bL y ++ bL x))]) (.ret (rv (.tup [.int true .i64 (Int.ofNat (bL x).length), .lit .nilIface]))))
def wsT (tb a2 n : Nat) (x : ByteArray) (p : Pl Nat) : T Nat := match p with
  | .blk [.lit (.pointer none), .lit (.slice none 0 0)] t => (match Nat.beq t tb with
    | true => wsB n x ⟨#[]⟩ a2
    | false => .fail 831)
  | .abs a [.str _ y] => (match Nat.beq a a2 with
    | true => wsB n x y a2
    | false => .fail 832)
  | _ => .fail 833
def wsC (tb a2 : Nat) (args : List V) : T Nat := match args with
  | [.ptr n 0, .str _ x] => .get n (wsT tb a2 n x)
  | _ => .fail 834
theorem wsB_ok {f : FuncId} {a2 n : Nat} {s0 : Bool} {x y : ByteArray} (har : ∀ z v, ar a2 [.string z] v = resB (blkOf v) (bL z))
    (hit : ∀ (D : Nat → Prop) (w : World) (b : Nat) (bs : List UInt8) (s : ByteArray), Own w D w [resB b bs] → bs.length + s.size ≤ 1000000 → Calls P f #[.pointer (some ⟨b, 0, none⟩), .string s] w (OPost w D [resB b (bs ++ bL s)] (.tuple #[.int .i64 s.size, .nilIface]) w))
    {ch : List Bool} {M : List (Pl Nat)} {obs : Obs} {lg : Lg} {r M' ch' obs' lg'} (hr : (wsB n x y a2).run ch M obs lg = .ok r M' ch' obs' lg') (ho : okObs obs') {B : Nat → Prop} {ρ : En} {w0 w : World} {D : Nat → Prop} {K : RT → En → World → Prop}
    (hA : At ar w0 D w ρ M) (hM : scM B M) (hn : n < M.length)
    (hown : ∀ F, (denP ar ρ n (Mget M n)).P w F → Own w F w [resB (blkOf (ρ n)) (bL y)])
    (hK : ∀ ρ' w', Ext M.length M'.length ρ ρ' → At ar w0 D w' ρ' M' → scR (wid B M.length M'.length) r → scM (wid B M.length M'.length) M' → K r ρ' w')
    {Q : Ending → World → Prop} (hQ : ∀ r ρ' w' u, r = rv u → K r ρ' w' → Q (.returned (u.den ρ')) w') : Calls P f (denL ρ [.ptr n 0, .str s0 x]).toArray w Q := by
  unfold wsB at hr
  have hb := run_obs _ (show (T.put n _ _ : T Nat).run ch M (_ :: obs) lg = _ from hr) ho _ List.mem_cons_self
  simp only [T.run] at hr
  split at hr
  case h_2 => cases hr
  cases hr
  have hl : (bL y).length + (bL x).length ≤ 100000 := Nat.le_of_ble_eq_true hb
  obtain ⟨F, h1, h2, h3⟩ := hA.chg hn
  refine Calls.mono (hit F w (blkOf (ρ n)) (bL y) x (hown F h1) (by rw [← bL_size x]; omega)) fun ev w' hw => ?_
  obtain ⟨rfl, hO, hsz⟩ := hw
  obtain ⟨F', g1, g2, _⟩ := hO.step (i := 0) rfl
  have hat := h3 (p := .abs a2 [.str true (mkB (bL y ++ bL x))]) (F' := F') (w' := w') (by
    show (ar a2 [.string (mkB (bL y ++ bL x))] (ρ n)).P w' F'
    rw [har]
    exact g1) g2 hO.upd
  have hv : (V.tup [.int true .i64 (Int.ofNat (bL x).length), .lit .nilIface]).den ρ = .tuple #[.int .i64 x.size, .nilIface] := by
    simp only [V.den, denL, bL_size]
    rfl
  rw [← hv]
  exact hQ _ ρ w' _ rfl (hK ρ w' (by rw [List.length_set]; exact Ext.rfl') hat ⟨⟨⟨trivial, trivial, trivial⟩, trivial⟩, trivial, fun m hm => by cases hm⟩ (by rw [List.length_set]; exact scM_set (fun i => Pl.sc_mono wid_l _ (hM i)) ⟨trivial, trivial⟩))
theorem wsC_ok {f : FuncId} {tb a2 : Nat} (har : ∀ z v, ar a2 [.string z] v = resB (blkOf v) (bL z))
    (hnew : ∀ (D : Nat → Prop) (w : World) (b : Nat), Own w D w [blkR b (.cells #[.pointer none, .slice none 0 0] tb)] → Own w D w [resB b []])
    (hit : ∀ (D : Nat → Prop) (w : World) (b : Nat) (bs : List UInt8) (s : ByteArray), Own w D w [resB b bs] → bs.length + s.size ≤ 1000000 → Calls P f #[.pointer (some ⟨b, 0, none⟩), .string s] w (OPost w D [resB b (bs ++ bL s)] (.tuple #[.int .i64 s.size, .nilIface]) w))
    (args : List V) : CallOK ar P f args (wsC tb a2 args) := by
  intro ch M obs lg r M' ch' obs' lg' hr ho B ρ w0 D w K hB hA hM hs hK Q hQ
  unfold wsC at hr
  split at hr
  case h_2 => cases hr
  rename_i n s0 x
  simp only [T.run] at hr
  unfold wsT at hr
  split at hr
  · rename_i t hm
    split at hr
    case h_2 => cases hr
    rename_i ht
    obtain rfl := Nat.eq_of_beq_eq_true ht
    refine wsB_ok har hit hr ho hA hM (At.lt hm) (fun F hF => ?_) hK hQ
    rw [hm] at hF
    exact hnew F w _ (own_one hF)
  · rename_i a s1 y hm
    split at hr
    case h_2 => cases hr
    rename_i ht
    obtain rfl := Nat.eq_of_beq_eq_true ht
    refine wsB_ok har hit hr ho hA hM (At.lt' hm (by intro e; cases e)) (fun F hF => ?_) hK hQ
    rw [hm] at hF
    simp only [denP, denL, V.den, har] at hF
    exact own_one hF
  · cases hr
def bsT (a2 n : Nat) (p : Pl Nat) : T Nat := match p with
  | .abs a [.str _ y] => (match Nat.beq a a2 with
    | true => .need (Nat.blt 0 (bL y).length && Nat.ble (bL y).length 100000) (.put n .none (.ret (rv (.str true y))))
    | false => .fail 835)
  | _ => .fail 836
def bsC (a2 : Nat) (args : List V) : T Nat := match args with
  | [.ptr n 0] => .get n (bsT a2 n)
  | _ => .fail 837
theorem bsC_ok {f : FuncId} {a2 : Nat} (har : ∀ z v, ar a2 [.string z] v = resB (blkOf v) (bL z))
    (hit : ∀ (D : Nat → Prop) (w : World) (b : Nat) (bs : List UInt8), Own w D w [resB b bs] → bs.length ≤ 1000000 → bs ≠ [] → Calls P f #[.pointer (some ⟨b, 0, none⟩)] w (OPost w D [junkR] (.string ⟨bs.toArray⟩) w))
    (args : List V) : CallOK ar P f args (bsC a2 args) := by
  intro ch M obs lg r M' ch' obs' lg' hr ho B ρ w0 D w K hB hA hM hs hK Q hQ
  unfold bsC at hr
  split at hr
  case h_2 => cases hr
  rename_i n
  simp only [T.run] at hr
  unfold bsT at hr
  split at hr
  case h_2 => cases hr
  rename_i a s1 y hm
  split at hr
  case h_2 => cases hr
  rename_i ht
  obtain rfl := Nat.eq_of_beq_eq_true ht
  have hb := run_obs _ (show (T.put n _ _ : T Nat).run ch M (_ :: obs) _ = _ from hr) ho _ List.mem_cons_self
  simp only [T.run] at hr
  split at hr
  case h_2 => cases hr
  cases hr
  simp only [Bool.and_eq_true, Nat.ble_eq] at hb
  have hn := At.lt' hm (by intro e; cases e)
  obtain ⟨F, h1, h2, h3⟩ := hA.chg hn
  rw [hm] at h1
  simp only [denP, denL, V.den, har] at h1
  have hO : Own w F w [resB (blkOf (ρ n)) (bL y)] := own_one h1
  have h0 : bL y ≠ [] := fun e => by rw [e] at hb; simp at hb
  refine Calls.mono (hit F w _ _ hO (by omega) h0) fun ev w' hw => ?_
  obtain ⟨rfl, hO, hsz⟩ := hw
  have hat := h3 (p := .none) (F' := fun _ => False) (w' := w') (fun b hb => hb) (fun b hb => hb.elim) hO.upd
  exact hQ _ ρ w' (.str true y) rfl (hK ρ w' (by rw [List.length_set]; exact Ext.rfl') hat ⟨⟨trivial, trivial⟩, trivial, fun m hm => by cases hm⟩ (by rw [List.length_set]; exact scM_set (fun i => Pl.sc_mono wid_l _ (hM i)) trivial))
end
end Go.Proofs.YthdnonoheochhaaGreatDoor
namespace Go.Proofs.YthdnonoheochhaaGreatDoor
open Go.RowKit
set_option linter.unusedVariables false
theorem okO_nil : okObs [] := fun p hp => by cases hp
theorem okO_cons {a b : Bool} {l : Obs} (h : a = b) (hl : okObs l) : okObs ((a, b) :: l) := fun p hp => by
  rcases List.mem_cons.1 hp with rfl | hp
  · exact h
  · exact hl p hp
section
variable {A : Type} {ar : A → List Value → Value → Res} {P : Program}
def pureC (g : List V → Option (Bool × V)) (args : List V) : T A := match g args with
  | some p => .need p.1 (.ret (rv p.2))
  | none => .fail 850
theorem pureC_ok {f : FuncId} {g : List V → Option (Bool × V)} (hit : ∀ args c v, g args = some (c, v) → c = true → v.cl = true ∧ ∀ ρ w, Calls P f (denL ρ args).toArray w fun e w' => e = .returned (v.den ρ) ∧ Below w.heap.size w w')
    (args : List V) : CallOK ar P f args (pureC g args : T A) := by
  intro ch M obs lg r M' ch' obs' lg' hr ho B ρ w0 D w K hB hA hM hs hK Q hQ
  unfold pureC at hr
  split at hr
  case h_2 => cases hr
  rename_i p hp
  obtain ⟨c, v⟩ := p
  have hb := run_obs _ (show (T.ret _ : T A).run ch M (_ :: obs) lg = _ from hr) ho _ List.mem_cons_self
  simp only [T.run] at hr
  cases hr
  obtain ⟨h1, h2⟩ := hit args c v hp hb
  exact call_ret hA hM (V.cl_sc _ h1) hK hQ (h2 ρ w)
end
def fB (sy fi rs ha sa : Bool) : Int := (((((0 + if sy then 1 else 0) + if fi then 2 else 0) + if rs then 4 else 0) + if ha then 8 else 0) + if sa then 16 else 0)
structure Sg where
  fp : Int
  tp : Int
  sq : Int
  ak : Int
  sy : Bool
  fi : Bool
  rs : Bool
  ha : Bool
  wn : Int
  ms : Int
  sa : Bool
  d : ByteArray
def Sg.cells (s : Sg) : List Value := [.int .i64 s.fp, .int .i64 s.tp, .int .i64 s.sq, .int .i64 s.ak, .bool s.sy, .bool s.fi, .bool s.rs, .bool s.ha, .int .i64 s.wn, .int .i64 s.ms, .bool s.sa, .slice none 0 0, .string s.d]
def Sg.vs (s : Sg) : List V := [.int true .i64 s.fp, .int true .i64 s.tp, .int true .i64 s.sq, .int true .i64 s.ak, .bool true s.sy, .bool true s.fi, .bool true s.rs, .bool true s.ha, .int true .i64 s.wn, .int true .i64 s.ms, .bool true s.sa, .lit (.slice none 0 0), .str true s.d]
def sgOf (l : List V) : Option Sg := match l with
  | [.int _ .i64 fp, .int _ .i64 tp, .int _ .i64 sq, .int _ .i64 ak, .bool _ sy, .bool _ fi, .bool _ rs, .bool _ ha, .int _ .i64 wn, .int _ .i64 ms, .bool _ sa, .lit (.slice none 0 0), .str _ d] => some ⟨fp, tp, sq, ak, sy, fi, rs, ha, wn, ms, sa, d⟩
  | _ => none
theorem sgOf_den {l : List V} {s : Sg} (h : sgOf l = some s) (ρ : En) : denL ρ l = s.cells := by
  unfold sgOf at h
  split at h
  · cases h; rfl
  · cases h
def rgI (a b n : Int) : Bool := !ilt n a && !ilt b n
theorem rgI_iff {a b n : Int} : rgI a b n = true ↔ a ≤ n ∧ n ≤ b := by
  simp only [rgI, ilt_dec, Bool.and_eq_true, Bool.not_eq_true', decide_eq_false_iff_not, Int.not_lt]
def Sg.okB (s : Sg) : Bool := rgI 1 65535 s.fp && (rgI 1 65535 s.tp && (rgI 0 4294967295 s.sq && (rgI 0 4294967295 s.ak && ((match s.ha with | true => true | false => ieq s.ak 0) && (rgI 0 65535 s.wn && (
  (match s.sy with | true => !s.fi && (!s.rs && (rgI 28 1024 s.ms && Nat.beq (bL s.d).length 0)) | false => !(s.fi && s.rs) && (!s.sa && ieq s.ms 0)) && (
  (match s.rs with | true => Nat.beq (bL s.d).length 0 | false => true) && Nat.ble (bL s.d).length 1024)))))))
structure Sg.ok (s : Sg) : Prop where
  fp : 1 ≤ s.fp ∧ s.fp ≤ 65535
  tp : 1 ≤ s.tp ∧ s.tp ≤ 65535
  sq : 0 ≤ s.sq ∧ s.sq ≤ 4294967295
  ak : 0 ≤ s.ak ∧ s.ak ≤ 4294967295
  ha : s.ha = false → s.ak = 0
  wn : 0 ≤ s.wn ∧ s.wn ≤ 65535
  sy : s.sy = true → s.fi = false ∧ s.rs = false ∧ 28 ≤ s.ms ∧ s.ms ≤ 1024 ∧ (bL s.d).length = 0
  ns : s.sy = false → (s.fi && s.rs) = false ∧ s.sa = false ∧ s.ms = 0
  rs : s.rs = true → (bL s.d).length = 0
  d : (bL s.d).length ≤ 1024
theorem Sg.ok_iff {s : Sg} : s.okB = true ↔ s.ok := by
  unfold Sg.okB
  simp only [Bool.and_eq_true, rgI_iff, Nat.ble_eq]
  constructor
  · rintro ⟨h1, h2, h3, h4, h5, h6, h7, h8, h9⟩
    refine ⟨h1, h2, h3, h4, fun h => ?_, h6, fun h => ?_, fun h => ?_, fun h => ?_, h9⟩
    · rw [h] at h5; rw [ieq_dec] at h5; exact of_decide_eq_true h5
    · rw [h] at h7
      simp only [Bool.and_eq_true, Bool.not_eq_true', rgI_iff] at h7
      exact ⟨h7.1, h7.2.1, h7.2.2.1.1, h7.2.2.1.2, Nat.eq_of_beq_eq_true h7.2.2.2⟩
    · rw [h] at h7
      simp only [Bool.and_eq_true, Bool.not_eq_true', ieq_dec, decide_eq_true_eq] at h7
      exact ⟨h7.1, h7.2.1, h7.2.2⟩
    · rw [h] at h8; exact Nat.eq_of_beq_eq_true h8
  · rintro ⟨h1, h2, h3, h4, h5, h6, h7, h8, h9, h10⟩
    refine ⟨h1, h2, h3, h4, ?_, h6, ?_, ?_, h10⟩
    · cases h : s.ha with
      | true => rfl
      | false => rw [h5 h]; rfl
    · cases h : s.sy with
      | true =>
        obtain ⟨a, b, c, d, e⟩ := h7 h
        simp only [a, b, e, rgI_iff.2 ⟨c, d⟩]; rfl
      | false =>
        obtain ⟨a, b, c⟩ := h8 h
        simp only [a, b, c]; rfl
    · cases h : s.rs with
      | true => simp only [h9 h]; rfl
      | false => rfl
def segL (s : Sg) (sum : Int) : List UInt8 := ((((([] ++ putL 2 [s.fp, s.tp]) ++ putL 4 [s.sq, s.ak]) ++ putL 1 [fB s.sy s.fi s.rs s.ha s.sa, 0]) ++ putL 2 [s.wn, s.ms, sum]) ++ bL s.d)
noncomputable def coverL (fr to : Int) (s : Sg) : List UInt8 := (putL 4 [fr, to] ++ putL 2 [6, Int.ofNat (rlen (segL s 0))]) ++ segL s 0
noncomputable def encS (fr to : Int) (s : Sg) : ByteArray := mkB (segL s (ckF (mkB (coverL fr to s))))
def fbG (args : List V) : Option (Bool × V) := match args with
  | [.agg l] => (match sgOf l with
    | some s => some (true, .int true .i64 (fB s.sy s.fi s.rs s.ha s.sa))
    | none => none)
  | _ => none
def vlG (args : List V) : Option (Bool × V) := match args with
  | [.agg l] => (match sgOf l with
    | some s => some (s.okB, .bool false true)
    | none => none)
  | _ => none
def wrG (args : List V) : Option (Bool × V) := match args with
  | [.agg l, .int _ .i64 n] => (match sgOf l with
    | some s => some (s.okB && rgI 0 65535 n, .str true (mkB (segL s n)))
    | none => none)
  | _ => none
noncomputable def enG (args : List V) : Option (Bool × V) := match args with
  | [.int _ .i64 fr, .int _ .i64 to, .agg l] => (match sgOf l with
    | some s => some (s.okB && (rgI 0 4294967295 fr && rgI 0 4294967295 to), .tup [.str true (encS fr to s), .int false .i64 0])
    | none => none)
  | _ => none
section
variable {P : Program} {f : FuncId}
theorem fbG_hit (hit : ∀ (s : Sg) w, Calls P f #[.agg s.cells.toArray] w fun e w' => e = .returned (.int .i64 (fB s.sy s.fi s.rs s.ha s.sa)) ∧ Below w.heap.size w w') (args : List V) (c : Bool) (v : V) (h : fbG args = some (c, v)) (hc : c = true) :
    v.cl = true ∧ ∀ ρ w, Calls P f (denL ρ args).toArray w fun e w' => e = .returned (v.den ρ) ∧ Below w.heap.size w w' := by
  unfold fbG at h
  split at h
  case h_2 => cases h
  split at h
  case h_2 => cases h
  rename_i s hs
  cases h
  exact ⟨rfl, fun ρ w => by simp only [denL, V.den, sgOf_den hs]; exact hit s w⟩
theorem vlG_hit (hit : ∀ (s : Sg) w, s.ok → Calls P f #[.agg s.cells.toArray] w fun e w' => e = .returned (.bool true) ∧ Below w.heap.size w w') (args : List V) (c : Bool) (v : V) (h : vlG args = some (c, v)) (hc : c = true) :
    v.cl = true ∧ ∀ ρ w, Calls P f (denL ρ args).toArray w fun e w' => e = .returned (v.den ρ) ∧ Below w.heap.size w w' := by
  unfold vlG at h
  split at h
  case h_2 => cases h
  split at h
  case h_2 => cases h
  rename_i s hs
  simp only [Option.some.injEq, Prod.mk.injEq] at h
  obtain ⟨h1, rfl⟩ := h
  exact ⟨rfl, fun ρ w => by simp only [denL, V.den, sgOf_den hs]; exact hit s w (Sg.ok_iff.1 (h1.trans hc))⟩
theorem wrG_hit (hit : ∀ (s : Sg) (n : Int) w, s.ok → 0 ≤ n → n ≤ 65535 → Calls P f #[.agg s.cells.toArray, .int .i64 n] w fun e w' => e = .returned (.string (mkB (segL s n))) ∧ Below w.heap.size w w') (args : List V) (c : Bool) (v : V) (h : wrG args = some (c, v)) (hc : c = true) :
    v.cl = true ∧ ∀ ρ w, Calls P f (denL ρ args).toArray w fun e w' => e = .returned (v.den ρ) ∧ Below w.heap.size w w' := by
  unfold wrG at h
  split at h
  case h_2 => cases h
  split at h
  case h_2 => cases h
  rename_i s hs
  simp only [Option.some.injEq, Prod.mk.injEq] at h
  obtain ⟨h1, rfl⟩ := h
  have h1 := h1.trans hc
  simp only [Bool.and_eq_true, rgI_iff] at h1
  exact ⟨rfl, fun ρ w => by simp only [denL, V.den, sgOf_den hs]; exact hit s _ w (Sg.ok_iff.1 h1.1) h1.2.1 h1.2.2⟩
theorem enG_hit (hit : ∀ (fr to : Int) (s : Sg) w, s.ok → 0 ≤ fr → fr ≤ 4294967295 → 0 ≤ to → to ≤ 4294967295 → Calls P f #[.int .i64 fr, .int .i64 to, .agg s.cells.toArray] w fun e w' => e = .returned (.tuple #[.string (encS fr to s), .int .i64 0]) ∧ Below w.heap.size w w') (args : List V) (c : Bool) (v : V) (h : enG args = some (c, v)) (hc : c = true) :
    v.cl = true ∧ ∀ ρ w, Calls P f (denL ρ args).toArray w fun e w' => e = .returned (v.den ρ) ∧ Below w.heap.size w w' := by
  unfold enG at h
  split at h
  case h_2 => cases h
  split at h
  case h_2 => cases h
  rename_i s hs
  simp only [Option.some.injEq, Prod.mk.injEq] at h
  obtain ⟨h1, rfl⟩ := h
  have h1 := h1.trans hc
  simp only [Bool.and_eq_true, rgI_iff] at h1
  exact ⟨rfl, fun ρ w => by simp only [denL, V.den, sgOf_den hs]; exact hit _ _ s w (Sg.ok_iff.1 h1.1) h1.2.1.1 h1.2.1.2 h1.2.2.1 h1.2.2.2⟩
end
end Go.Proofs.YthdnonoheochhaaGreatDoor
