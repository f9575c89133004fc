/- A machine of symbolic values: a call between two memories that are told. -/
import Derived.Test.YtockaipodnapjaaGreatDoorVf
namespace Go.Proofs.YtockaipodnapjaaGreatDoor
open Go.RowKit
set_option linter.unusedVariables false
mutual
def V.ren (σ : Nat → Nat) : V → V
  | .ptr n o => .ptr (σ n) o
  | .el n sz i o => .el (σ n) sz i o
  | .nm n => .nm (σ n)
  | .sl n sz i m => .sl (σ n) sz i m
  | .sq n o => .sq (σ n) o
  | .yl n => .yl (σ n)
  | .ns n => .ns (σ n)
  | .fn f a b => .fn f (renL σ a) (renL σ b)
  | .ifc t v => .ifc t (v.ren σ)
  | .agg l => .agg (renL σ l)
  | .tup l => .tup (renL σ l)
  | .int s k n => .int s k n
  | .bool s b => .bool s b
  | .str s x => .str s x
  | .lit v => .lit v
def renL (σ : Nat → Nat) : List V → List V
  | [] => []
  | v :: l => v.ren σ :: renL σ l
end
mutual
theorem V.den_ren {σ : Nat → Nat} {A : Nat → Prop} {ρ ρo : En} (h : ∀ n, A n → ρo n = ρ (σ n)) : ∀ v : V, v.sc A → (v.ren σ).den ρ = v.den ρo
  | .int _ _ _, _ | .bool _ _, _ | .str _ _, _ | .lit _, _ => rfl
  | .ptr n o, hs => by simp only [V.ren, V.den, h n hs]
  | .el n sz i o, hs => by simp only [V.ren, V.den, h n hs]
  | .nm n, hs => (h n hs).symm
  | .sl n sz i m, hs => by simp only [V.ren, V.den, h n hs]
  | .sq n o, hs => by simp only [V.ren, V.den, h n hs]
  | .yl n, hs => by simp only [V.ren, V.den, h n hs]
  | .ns n, hs => by simp only [V.ren, V.den, h n hs]
  | .fn f a b, hs => by simp only [V.ren, V.den, denL_ren h a hs.1, denL_ren h b hs.2]
  | .ifc t v, hs => by simp only [V.ren, V.den, V.den_ren h v hs]
  | .agg l, hs => by simp only [V.ren, V.den, denL_ren h l hs]
  | .tup l, hs => by simp only [V.ren, V.den, denL_ren h l hs]
theorem denL_ren {σ : Nat → Nat} {A : Nat → Prop} {ρ ρo : En} (h : ∀ n, A n → ρo n = ρ (σ n)) : ∀ l : List V, scL A l → denL ρ (renL σ l) = denL ρo l
  | [], _ => rfl
  | v :: l, hs => by simp only [renL, denL, V.den_ren h v hs.1, denL_ren h l hs.2]
end
theorem renL_map (σ : Nat → Nat) : ∀ l : List V, renL σ l = l.map (V.ren σ)
  | [] => rfl
  | v :: l => by simp only [renL, List.map_cons, renL_map σ l]
theorem flat_ren (σ : Nat → Nat) : ∀ xs : List (List V), (xs.map (renL σ)).flatten = renL σ xs.flatten
  | [] => rfl
  | x :: l => by simp only [List.map_cons, List.flatten_cons, flat_ren σ l, renL_map, List.map_append]
section
variable {A : Type} (ar : A → List Value → Value → Res)
def Pl.ren (σ : Nat → Nat) : Pl A → Pl A
  | .blk cs t => .blk (renL σ cs) t
  | .row t sz xs => .row t sz (xs.map (renL σ))
  | .map kd es => .map kd (es.map fun e => (e.1, e.2.ren σ))
  | .abs a l => .abs a (renL σ l)
  | .glb g cs t => .glb g (renL σ cs) t
  | .rng r kd es d => .rng (σ r) kd (es.map fun e => (e.1, e.2.ren σ)) d
  | .rowo t xs => .rowo t (renL σ xs)
  | p => p
def Pl.mv : Pl A → Bool
  | .loop _ _ _ _ _ _ _ => false
  | _ => true
theorem denE_ren {σ : Nat → Nat} {B : Nat → Prop} {ρ ρo : En} (h : ∀ n, B n → ρo n = ρ (σ n)) {es : List (Key × V)} (hs : scL B (es.map (·.2))) : denE ρ (es.map fun e => (e.1, e.2.ren σ)) = denE ρo es := by
  unfold denE
  rw [List.map_map]
  refine List.map_congr_left fun e he => ?_
  simp only [Function.comp]
  rw [V.den_ren h e.2 (scL_iff.1 hs e.2 (List.mem_map.2 ⟨e, he, rfl⟩))]
theorem keys_ren (σ : Nat → Nat) (es : List (Key × V)) : (es.map fun e => (e.1, e.2.ren σ)).map (·.1) = es.map (·.1) := by rw [List.map_map]; rfl
theorem denP_ren {σ : Nat → Nat} {B : Nat → Prop} {ρ ρo : En} (h : ∀ n, B n → ρo n = ρ (σ n)) {n : Nat} (hn : ρo n = ρ (σ n)) (p : Pl A) (hm : p.mv = true) (hp : p.sc B) : denP ar ρ (σ n) (p.ren σ) = denP ar ρo n p := by
  have hk : ∀ (es : List (Key × V)) (kd : Nat), (∀ e ∈ es.map (fun e => (e.1, e.2.ren σ)), e.1.kind = kd) = (∀ e ∈ es, e.1.kind = kd) := fun es kd => by
    apply propext
    constructor
    · intro hh e he
      exact hh (e.1, e.2.ren σ) (List.mem_map.2 ⟨e, he, rfl⟩)
    · intro hh e he
      obtain ⟨x, hx, rfl⟩ := List.mem_map.1 he
      exact hh x hx
  cases p with
  | none => rfl
  | mark => simp only [Pl.ren, denP, hn]
  | itr n => rfl
  | esl => simp only [Pl.ren, denP, hn]
  | rowo t xs =>
    have hl : (renL σ xs).length = xs.length := by rw [renL_map, List.length_map]
    simp only [Pl.ren, denP, hn, hl, denL_ren h _ hp]
  | blk cs t => simp only [Pl.ren, denP, hn, denL_ren h _ hp]
  | glb g cs t => simp only [Pl.ren, denP, hn, denL_ren h _ hp]
  | abs a l => simp only [Pl.ren, denP, hn, denL_ren h _ hp]
  | row t sz xs =>
    have hx : (∀ x ∈ xs.map (renL σ), x.length = sz) = (∀ x ∈ xs, x.length = sz) := by
      apply propext
      constructor
      · intro hh x hx
        have := hh (renL σ x) (List.mem_map.2 ⟨x, hx, rfl⟩)
        rwa [renL_map, List.length_map] at this
      · intro hh x hx
        obtain ⟨y, hy, rfl⟩ := List.mem_map.1 hx
        rw [renL_map, List.length_map]
        exact hh y hy
    simp only [Pl.ren, denP, hn, List.length_map, flat_ren, denL_ren h _ hp, hx]
  | map kd es => simp only [Pl.ren, denP, hn, denE_ren h hp, hk, keys_ren]
  | rng r kd es d => simp only [Pl.ren, denP, hn, h r hp.1, denE_ren h hp.2, hk, keys_ren]
  | loop st pe N tm ps ag bd => cases hm
end
theorem OwnN.re {w0 w : World} {D : Nat → Prop} {N N' : Nat} {R R' : Nat → Res} (h : OwnN w0 D w N R) (τ : Nat → Nat) (live : Nat → Prop) (hinj : ∀ i j, i < N' → j < N' → live i → live j → τ i = τ j → i = j)
    (e : ∀ i, i < N' → (live i ∧ τ i < N ∧ R' i = R (τ i)) ∨ (¬ live i ∧ R' i = noR)) : OwnN w0 D w N' R' := by
  obtain ⟨h1, Fs, h2, h3⟩ := h
  refine ⟨h1, fun i b => live i ∧ τ i < N ∧ Fs (τ i) b, fun i hi => ?_, fun i j hi hj hij b hb hc => h3 (τ i) (τ j) hb.2.1 hc.2.1 (fun e => hij (hinj i j hi hj hb.1 hc.1 e)) b hb.2.2 hc.2.2⟩
  rcases e i hi with ⟨a, b, c⟩ | ⟨a, b⟩
  · have ef : (fun x => live i ∧ τ i < N ∧ Fs (τ i) x) = Fs (τ i) := by funext x; simp [a, b]
    dsimp only
    rw [ef, c]
    exact ⟨(h2 _ b).1, fun x hx => (h2 _ b).2 x hx.2.2⟩
  · rw [b]
    exact ⟨fun x hx => a hx.1, fun x hx => (a hx.1).elim⟩
end Go.Proofs.YtockaipodnapjaaGreatDoor
namespace Go.Proofs.YtockaipodnapjaaGreatDoor
open Go.RowKit
set_option linter.unusedVariables false
section
variable {A : Type} {ar : A → List Value → Value → Res} {P : Program} {kof : TypeId → Option (Nat × Bool)} {tbl : FuncId → Option (List V → T A)}
def Mpre (c0 : Nat) : List (Nat × Pl A) → List (Pl A)
  | [] => List.replicate c0 .none
  | e :: l => (Mpre c0 l).set e.1 e.2
noncomputable def trS : List (Nat × Pl A) → Nd (Pl A)
  | [] => .z
  | e :: l => (trS l).put e.2 5 e.1
theorem Mpre_len (c0 : Nat) : ∀ l : List (Nat × Pl A), (Mpre c0 l).length = c0
  | [] => by simp [Mpre]
  | e :: l => by simp [Mpre, Mpre_len c0 l]
theorem Mget_rep (c0 i : Nat) : Mget (List.replicate c0 (.none : Pl A)) i = .none := by
  unfold Mget
  rw [List.getD_eq_getElem?_getD, List.getElem?_replicate]
  split <;> rfl
theorem tri_pre {c0 : Nat} (h0 : c0 ≤ 32768) : ∀ {l : List (Nat × Pl A)}, (∀ e ∈ l, e.1 < c0) → Tri (Mpre c0 l) c0 (trS l)
  | [], _ => ⟨by simp [Mpre], by simpa [Mpre] using h0, fun n hn => by
      show (Nd.z : Nd (Pl A)).get .none 5 n = Mget (List.replicate c0 .none) n
      rw [get_z, Mget_rep]⟩
  | e :: l, h => (tri_pre h0 fun x hx => h x (List.mem_cons_of_mem _ hx)).put (by rw [Mpre_len]; exact h e List.mem_cons_self) e.2
theorem Mpre_out {c0 i : Nat} : ∀ {l : List (Nat × Pl A)}, i ∉ l.map (·.1) → Mget (Mpre c0 l) i = .none
  | [], _ => Mget_rep c0 i
  | e :: l, h => by
    simp only [List.map_cons, List.mem_cons, not_or] at h
    show Mget ((Mpre c0 l).set e.1 e.2) i = _
    rw [Mget_set_ne (Ne.symm h.1)]
    exact Mpre_out h.2
theorem Mpre_in {c0 : Nat} : ∀ {l : List (Nat × Pl A)}, (∀ e ∈ l, e.1 < c0) → (l.map (·.1)).Nodup → ∀ e ∈ l, Mget (Mpre c0 l) e.1 = e.2
  | [], _, _, e, he => by cases he
  | x :: l, h, hn, e, he => by
    show Mget ((Mpre c0 l).set x.1 x.2) e.1 = _
    rw [List.map_cons, List.nodup_cons] at hn
    rcases List.mem_cons.1 he with rfl | he
    · exact Mget_set (by rw [Mpre_len]; exact h _ List.mem_cons_self)
    · have hne : x.1 ≠ e.1 := fun e' => hn.1 (List.mem_map.2 ⟨e, he, e'.symm⟩)
      rw [Mget_set_ne hne]
      exact Mpre_in (fun y hy => h y (List.mem_cons_of_mem _ hy)) hn.2 e he
open Classical in
/-- Two things are the same (noted, not reckoned). -/
noncomputable def eqC {α : Type} (a b : α) : Bool := decide (a = b)
theorem eqC_self {α : Type} (a : α) : eqC a a = true := by simp [eqC]
theorem eqC_eq {α : Type} {a b : α} (h : eqC a b = true) : a = b := by simpa [eqC] using h
noncomputable def ckGet (t : T A) : List (Nat × Pl A) → T A
  | [] => t
  | e :: l => .get e.1 fun q => .need (eqC q e.2) (ckGet t l)
def ckPut (t : T A) : List (Nat × Pl A) → T A
  | [] => t
  | e :: l => .put e.1 e.2 (ckPut t l)
def ckNew (t : T A) : List (Pl A) → Nat → T A
  | [], _ => t
  | p :: l, c => .new p fun N => (match Nat.beq N c with
    | true => ckNew t l (Nat.succ c)
    | false => .fail 861)
theorem ckGet_run {t : T A} : ∀ {l : List (Nat × Pl A)} {ch : List Bool} {M : List (Pl A)} {obs : Obs} {lg : Lg} {r M' ch' obs' lg'}, (ckGet t l).run ch M obs lg = .ok r M' ch' obs' lg' → okObs obs' →
    (∀ e ∈ l, Mget M e.1 = e.2) ∧ ∃ obs2 lg2, t.run ch M obs2 lg2 = .ok r M' ch' obs' lg'
  | [], ch, M, obs, lg, r, M', ch', obs', lg', h, _ => ⟨fun e he => (by cases he), _, _, h⟩
  | x :: l, ch, M, obs, lg, r, M', ch', obs', lg', h, ho => by
    have h := get_ok h
    have h1 : (ckGet t l).run ch M ((eqC (Mget M x.1) x.2, true) :: obs) (lg.rd x.1) = .ok r M' ch' obs' lg' := h
    have hc := run_obs _ h1 ho (eqC (Mget M x.1) x.2, true) List.mem_cons_self
    obtain ⟨h2, h3⟩ := ckGet_run h1 ho
    refine ⟨fun e he => ?_, h3⟩
    rcases List.mem_cons.1 he with rfl | he
    · exact eqC_eq hc
    · exact h2 e he
def sets (M : List (Pl A)) : List (Nat × Pl A) → List (Pl A)
  | [] => M
  | e :: l => sets (M.set e.1 e.2) l
theorem sets_len : ∀ (l : List (Nat × Pl A)) (M : List (Pl A)), (sets M l).length = M.length
  | [], M => rfl
  | e :: l, M => by rw [sets, sets_len l, List.length_set]
theorem sets_out {i : Nat} : ∀ {l : List (Nat × Pl A)} {M : List (Pl A)}, i ∉ l.map (·.1) → Mget (sets M l) i = Mget M i
  | [], M, _ => rfl
  | e :: l, M, h => by
    simp only [List.map_cons, List.mem_cons, not_or] at h
    rw [sets, sets_out h.2, Mget_set_ne (Ne.symm h.1)]
theorem sets_in : ∀ {l : List (Nat × Pl A)} {M : List (Pl A)}, (∀ e ∈ l, e.1 < M.length) → (l.map (·.1)).Nodup → ∀ e ∈ l, Mget (sets M l) e.1 = e.2
  | [], M, _, _, e, he => by cases he
  | x :: l, M, h, hn, e, he => by
    rw [List.map_cons, List.nodup_cons] at hn
    rw [sets]
    rcases List.mem_cons.1 he with rfl | he
    · rw [sets_out hn.1, Mget_set (h _ List.mem_cons_self)]
    · exact sets_in (fun y hy => by rw [List.length_set]; exact h y (List.mem_cons_of_mem _ hy)) hn.2 e he
theorem ckPut_run {t : T A} : ∀ {l : List (Nat × Pl A)} {ch : List Bool} {M : List (Pl A)} {obs : Obs} {lg : Lg} {r M' ch' obs' lg'}, (ckPut t l).run ch M obs lg = .ok r M' ch' obs' lg' → (∀ e ∈ l, e.1 < M.length) ∧ ∃ lg2, t.run ch (sets M l) obs lg2 = .ok r M' ch' obs' lg'
  | [], ch, M, obs, lg, r, M', ch', obs', lg', h => ⟨fun e he => (by cases he), _, h⟩
  | x :: l, ch, M, obs, lg, r, M', ch', obs', lg', h => by
    obtain ⟨h1, h2⟩ := put_ok h
    obtain ⟨h3, h4⟩ := ckPut_run h2
    refine ⟨fun e he => ?_, h4⟩
    rcases List.mem_cons.1 he with rfl | he
    · exact h1
    · have := h3 e he
      rwa [List.length_set] at this
theorem ckNew_run {t : T A} : ∀ {l : List (Pl A)} {c : Nat} {ch : List Bool} {M : List (Pl A)} {obs : Obs} {lg : Lg} {r M' ch' obs' lg'}, (ckNew t l c).run ch M obs lg = .ok r M' ch' obs' lg' → (l ≠ [] → M.length = c) ∧ ∃ lg2, t.run ch (M ++ l) obs lg2 = .ok r M' ch' obs' lg'
  | [], c, ch, M, obs, lg, r, M', ch', obs', lg', h => ⟨fun h => (h rfl).elim, _, by rw [List.append_nil]; exact h⟩
  | p :: l, c, ch, M, obs, lg, r, M', ch', obs', lg', h => by
    have h1 : (match Nat.beq M.length c with | true => ckNew t l (Nat.succ c) | false => .fail 861 : T A).run ch (M ++ [p]) obs (lg.wr M.length) = .ok r M' ch' obs' lg' := h
    split at h1
    case h_2 => cases h1
    rename_i hc
    have hc := Nat.eq_of_beq_eq_true hc
    obtain ⟨_, lg2, h3⟩ := ckNew_run h1
    exact ⟨fun _ => hc, lg2, by rw [List.append_assoc] at h3; exact h3⟩
end
end Go.Proofs.YtockaipodnapjaaGreatDoor
namespace Go.Proofs.YtockaipodnapjaaGreatDoor
open Go.RowKit
set_option linter.unusedVariables false
mutual
def V.ltB (k : Nat) : V → Bool
  | .ptr n _ | .nm n | .el n _ _ _ | .sl n _ _ _ | .sq n _ | .yl n | .ns n => Nat.blt n k
  | .fn _ a b => ltL k a && ltL k b
  | .ifc _ v => v.ltB k
  | .agg l | .tup l => ltL k l
  | .int _ _ _ | .bool _ _ | .str _ _ | .lit _ => true
def ltL (k : Nat) : List V → Bool
  | [] => true
  | v :: l => v.ltB k && ltL k l
end
mutual
theorem V.lt_sc {k : Nat} : ∀ v : V, v.ltB k = true → v.sc (fun n => n < k)
  | .ptr n _, h | .nm n, h | .el n _ _ _, h | .sl n _ _ _, h | .sq n _, h | .yl n, h | .ns n, h => Nat.le_of_ble_eq_true h
  | .fn _ a b, h => by
    simp only [V.ltB, Bool.and_eq_true] at h
    exact ⟨ltL_sc a h.1, ltL_sc b h.2⟩
  | .ifc _ v, h => V.lt_sc v h
  | .agg l, h => ltL_sc l h
  | .tup l, h => ltL_sc l h
  | .int _ _ _, _ | .bool _ _, _ | .str _ _, _ | .lit _, _ => trivial
theorem ltL_sc {k : Nat} : ∀ l : List V, ltL k l = true → scL (fun n => n < k) l
  | [], _ => trivial
  | v :: l, h => by
    simp only [ltL, Bool.and_eq_true] at h
    exact ⟨V.lt_sc v h.1, ltL_sc l h.2⟩
end
mutual
theorem V.sc_and {A B : Nat → Prop} : ∀ v : V, v.sc A → v.sc B → v.sc (fun n => A n ∧ B n)
  | .ptr n _, h, g | .nm n, h, g | .el n _ _ _, h, g | .sl n _ _ _, h, g | .sq n _, h, g | .yl n, h, g | .ns n, h, g => ⟨h, g⟩
  | .fn _ a b, h, g => ⟨scL_and a h.1 g.1, scL_and b h.2 g.2⟩
  | .ifc _ v, h, g => V.sc_and v h g
  | .agg l, h, g => scL_and l h g
  | .tup l, h, g => scL_and l h g
  | .int _ _ _, _, _ | .bool _ _, _, _ | .str _ _, _, _ | .lit _, _, _ => trivial
theorem scL_and {A B : Nat → Prop} : ∀ l : List V, scL A l → scL B l → scL (fun n => A n ∧ B n) l
  | [], _, _ => trivial
  | v :: l, h, g => ⟨V.sc_and v h.1 g.1, scL_and l h.2 g.2⟩
end
mutual
theorem V.sc_ren {X : Nat → Prop} {σ : Nat → Nat} : ∀ v : V, (v.ren σ).sc X → v.sc (fun n => X (σ n))
  | .ptr n _, h | .nm n, h | .el n _ _ _, h | .sl n _ _ _, h | .sq n _, h | .yl n, h | .ns n, h => h
  | .fn _ a b, h => ⟨scL_ren a h.1, scL_ren b h.2⟩
  | .ifc _ v, h => V.sc_ren v h
  | .agg l, h => scL_ren l h
  | .tup l, h => scL_ren l h
  | .int _ _ _, _ | .bool _ _, _ | .str _ _, _ | .lit _, _ => trivial
theorem scL_ren {X : Nat → Prop} {σ : Nat → Nat} : ∀ l : List V, scL X (renL σ l) → scL (fun n => X (σ n)) l
  | [], _ => trivial
  | v :: l, h => ⟨V.sc_ren v h.1, scL_ren l h.2⟩
end
section
variable {A : Type} {ar : A → List Value → Value → Res} {P : Program} {kof : TypeId → Option (Nat × Bool)} {tbl : FuncId → Option (List V → T A)}
def Pl.ltB (k : Nat) : Pl A → Bool
  | .blk cs _ => ltL k cs
  | .row _ _ xs => ltL k xs.flatten
  | .map _ es => ltL k (es.map (·.2))
  | .abs _ l => ltL k l
  | .glb _ cs _ => ltL k cs
  | .rng r _ es _ => Nat.blt r k && ltL k (es.map (·.2))
  | .loop _ _ _ _ _ _ _ => false
  | .none | .mark | .itr _ | .esl => true
  | .rowo _ xs => ltL k xs
theorem Pl.lt_sc {k : Nat} (p : Pl A) (h : p.ltB k = true) : p.mv = true ∧ p.sc (fun n => n < k) := by
  cases p with
  | blk cs t => exact ⟨rfl, ltL_sc _ h⟩
  | row t sz xs => exact ⟨rfl, ltL_sc _ h⟩
  | map kd es => exact ⟨rfl, ltL_sc _ h⟩
  | abs a l => exact ⟨rfl, ltL_sc _ h⟩
  | glb g cs t => exact ⟨rfl, ltL_sc _ h⟩
  | rng r kd es d =>
    simp only [Pl.ltB, Bool.and_eq_true] at h
    exact ⟨rfl, by simpa using h.1, ltL_sc _ h.2⟩
  | loop st pe N tm ps ag bd => cases h
  | none => exact ⟨rfl, trivial⟩
  | mark => exact ⟨rfl, trivial⟩
  | itr n => exact ⟨rfl, trivial⟩
  | esl => exact ⟨rfl, trivial⟩
  | rowo t xs => exact ⟨rfl, ltL_sc _ h⟩
theorem Pl.sc_and {B C : Nat → Prop} (p : Pl A) (hm : p.mv = true) (h : p.sc B) (g : p.sc C) : p.sc (fun n => B n ∧ C n) := by
  cases p with
  | blk cs t => exact scL_and _ h g
  | row t sz xs => exact scL_and _ h g
  | map kd es => exact scL_and _ h g
  | abs a l => exact scL_and _ h g
  | glb g' cs t => exact scL_and _ h g
  | rng r kd es d => exact ⟨⟨h.1, g.1⟩, scL_and _ h.2 g.2⟩
  | loop st pe N tm ps ag bd => cases hm
  | none => trivial
  | mark => trivial
  | itr n => trivial
  | esl => trivial
  | rowo t xs => exact scL_and _ h g
theorem Pl.sc_ren {X : Nat → Prop} {σ : Nat → Nat} (p : Pl A) (hm : p.mv = true) (h : (p.ren σ).sc X) : p.sc (fun n => X (σ n)) := by
  have hes : ∀ es : List (Key × V), scL X ((es.map fun e => (e.1, e.2.ren σ)).map (·.2)) → scL (fun n => X (σ n)) (es.map (·.2)) := fun es h => by
    refine scL_ren _ ?_
    rw [renL_map, List.map_map]
    rw [List.map_map] at h
    exact h
  cases p with
  | blk cs t => exact scL_ren _ h
  | row t sz xs => exact scL_ren _ (by rw [← flat_ren]; exact h)
  | map kd es => exact hes es h
  | abs a l => exact scL_ren _ h
  | glb g' cs t => exact scL_ren _ h
  | rng r kd es d => exact ⟨h.1, hes es h.2⟩
  | loop st pe N tm ps ag bd => cases hm
  | none => trivial
  | mark => trivial
  | itr n => trivial
  | esl => trivial
  | rowo t xs => exact scL_ren _ h
end
structure Chp (A : Type) where
  c0 : Nat
  pre : List (Nat × Pl A)
  post : List (Pl A)
  news : List (Pl A)
  sg : List Nat
  val : V
def incB (c : Nat) : List Nat → Bool
  | [] => true
  | n :: l => Nat.ble c n && incB (Nat.succ n) l
theorem incB_ge : ∀ {l : List Nat} {c : Nat}, incB c l = true → ∀ n ∈ l, c ≤ n
  | [], c, _, n, hn => by cases hn
  | x :: l, c, h, n, hn => by
    simp only [incB, Bool.and_eq_true, Nat.ble_eq] at h
    rcases List.mem_cons.1 hn with rfl | hn
    · exact h.1
    · have := incB_ge h.2 n hn; omega
theorem incB_lt : ∀ {l : List Nat} {c : Nat}, incB c l = true → ∀ i j (hi : i < l.length) (hj : j < l.length), i < j → l[i] < l[j]
  | [], c, _, i, j, hi, _, _ => by simp at hi
  | x :: l, c, h, i, j, hi, hj, hij => by
    simp only [incB, Bool.and_eq_true] at h
    match i, j, hij with
    | 0, j + 1, _ =>
      have := incB_ge h.2 (l[j]'(by simpa using hj)) (List.getElem_mem _)
      show x < l[j]'_
      omega
    | i + 1, j + 1, hij => exact incB_lt h.2 i j (by simpa using hi) (by simpa using hj) (by omega)
theorem incB_nodup {l : List Nat} {c : Nat} (h : incB c l = true) : l.Nodup := List.pairwise_iff_getElem.2 fun i j hi hj hij e => by
  have := incB_lt h i j hi hj hij
  omega
section
variable {A : Type}
def Chp.sig (c : Chp A) (n : Nat) : Nat := match Nat.blt n c.c0 with
  | true => n
  | false => c.sg.getD (Nat.sub n c.c0) 0
def Chp.out (c : Chp A) : List Nat := c.pre.map (·.1) ++ c.sg
def Chp.aft (c : Chp A) : List (Pl A) := c.post ++ c.news
def Chp.okB (c : Chp A) (args : List V) : Bool := Nat.ble c.c0 32768 && (incB 0 (c.pre.map (·.1)) && (c.pre.all (fun e => Nat.blt e.1 c.c0 && e.2.ltB c.c0) && (incB c.c0 c.sg && (Nat.beq c.sg.length c.news.length && (Nat.beq c.post.length c.pre.length &&
  (c.aft.all (fun p => p.ltB (c.c0 + c.news.length)) && (c.val.ltB (c.c0 + c.news.length) && ltL c.c0 args)))))))
noncomputable def ckT (c : Chp A) (args0 args : List V) : T A := .need (eqC args args0) (ckGet (ckPut (ckNew (.ret (rv c.val)) c.news c.c0) ((c.pre.map (·.1)).zip c.post)) c.pre)
noncomputable def endK (c : Chp A) : RK A (Option (Obs × List V × List (Pl A))) := fun r _ len tr obs _ _ => match c.sg.all (fun n => Nat.blt n len) with
  | true => some (obs, r.l, c.out.map (gM tr))
  | false => none
end
end Go.Proofs.YtockaipodnapjaaGreatDoor
namespace Go.Proofs.YtockaipodnapjaaGreatDoor
open Go.RowKit
set_option linter.unusedVariables false
section
variable {A : Type} {ar : A → List Value → Value → Res} {P : Program} {kof : TypeId → Option (Nat × Bool)} {tbl : FuncId → Option (List V → T A)}
theorem need_run {c : Bool} {k : T A} {ch : List Bool} {M : List (Pl A)} {obs : Obs} {lg : Lg} {r M' ch' obs' lg'} (h : (T.need c k).run ch M obs lg = .ok r M' ch' obs' lg') (ho : okObs obs') : c = true ∧ k.run ch M ((c, true) :: obs) lg = .ok r M' ch' obs' lg' := ⟨run_obs k h ho (c, true) List.mem_cons_self, h⟩
theorem map_get {α β γ : Type} {f : α → γ} {g : β → γ} {l : List α} {k : List β} (h : l.map f = k.map g) {t : Nat} {a : α} (ha : l[t]? = some a) : ∃ b, k[t]? = some b ∧ f a = g b := by
  have h1 := congrArg (fun l => l[t]?) h
  simp only [List.getElem?_map, ha, Option.map_some] at h1
  cases hb : k[t]? with
  | none => rw [hb] at h1; cases h1
  | some b => rw [hb] at h1; exact ⟨b, rfl, by simpa using h1⟩
theorem ck_ok (hE : Entr P kof) (htbl : ∀ f s, tbl f = some s → ∀ args, CallOK ar P f args (s args)) {c : Chp A} {n : Nat} {f : FuncId} {args0 : List V} {ch : List Bool} {L : Obs} (hok : c.okB args0 = true)
    (hrun : runF (fun _ => none) ((evF P kof tbl n).call f args0 rt) ch c.c0 (trS c.pre) [] 0 0 (endK c) = some (L, [c.val.ren c.sig], c.aft.map (Pl.ren c.sig))) (hL : okObs L) (args : List V) : CallOK ar P f args (ckT c args0 args : T A) := by
  intro ch0 M obs lg r M' ch' obs' lg' hr ho B ρ w0 D w K hB hA hM hs hK Q hQ
  unfold ckT at hr
  obtain ⟨hca, hr⟩ := need_run hr ho
  obtain rfl := eqC_eq hca
  obtain ⟨hpre, obs2, lg2, hr⟩ := ckGet_run hr ho
  obtain ⟨hplt, lg3, hr⟩ := ckPut_run hr
  obtain ⟨hnew, lg4, hr⟩ := ckNew_run hr
  cases hr
  simp only [Chp.okB, Bool.and_eq_true, Nat.ble_eq, List.all_eq_true] at hok
  obtain ⟨h1, h2, h3, h4, h5, h6, h7, h8, h9⟩ := hok
  have h5 := Nat.eq_of_beq_eq_true h5
  have h6 := Nat.eq_of_beq_eq_true h6
  obtain ⟨nm, hnm⟩ : ∃ l, c.pre.map (·.1) = l := ⟨_, rfl⟩
  have hnl : nm.length = c.post.length := by rw [← hnm, List.length_map, h6]
  rw [hnm] at h2 hplt hnew hB hK
  have hnd := incB_nodup h2
  have hzip : (nm.zip c.post).map (·.1) = nm := List.map_fst_zip (by omega)
  have hlt0 : ∀ i ∈ nm, i < c.c0 := fun i hi => by
    rw [← hnm] at hi
    obtain ⟨e, he, rfl⟩ := List.mem_map.1 hi
    simpa using (h3 e he).1
  have hltM : ∀ i ∈ nm, i < M.length := fun i hi => by
    rw [← hzip] at hi
    obtain ⟨e, he, rfl⟩ := List.mem_map.1 hi
    exact hplt e he
  have hpin : ∀ i ∈ nm, ∃ p, Mget M i = p ∧ Mget (Mpre c.c0 c.pre) i = p ∧ p.mv = true ∧ p.sc (fun n => n < c.c0) := fun i hi => by
    rw [← hnm] at hi
    obtain ⟨e, he, rfl⟩ := List.mem_map.1 hi
    have := Pl.lt_sc e.2 (h3 e he).2
    exact ⟨e.2, hpre e he, Mpre_in (fun e he => by simpa using (h3 e he).1) (by rw [hnm]; exact hnd) e he, this.1, this.2⟩
  have hpout : ∀ i, i ∉ nm → Mget (Mpre c.c0 c.pre) i = .none := fun i hi => Mpre_out (by rw [hnm]; exact hi)
  obtain ⟨G, l1, l2⟩ := OwnN.loc hA (fun i => i ∈ nm)
  have hA1 : At ar w G w ρ (Mpre c.c0 c.pre) := l1.any fun i hi => by
    by_cases hm : i ∈ nm
    · obtain ⟨p, e1, e2, _⟩ := hpin i hm
      exact .inl ⟨hltM i hm, by rw [if_pos hm, e1, e2]⟩
    · refine .inr ?_
      rw [hpout i hm]
      rfl
  have hsc1 : scM (fun n => B n ∧ n < c.c0) (Mpre c.c0 c.pre) := fun i => by
    by_cases hm : i ∈ nm
    · obtain ⟨p, e1, e2, e3, e4⟩ := hpin i hm
      rw [e2]
      exact Pl.sc_and p e3 (by have := hM i; rwa [e1] at this) e4
    · rw [hpout i hm]; trivial
  have hsa := scL_and args hs (ltL_sc args h9)
  have htri := tri_pre (A := A) h1 (l := c.pre) (fun e he => by simpa using (h3 e he).1)
  rcases fast_call (R := Option (Obs × List V × List (Pl A))) (fun _ => none) (P := P) (kof := kof) (tbl := tbl) (n := n) (f := f) (args := args) (ch := ch) htri (K := endK c) with ⟨m, h⟩ | ⟨v, M1, ch1, obs1, lg1, len', tr', e1, e2, u, e3, e4⟩
  · rw [h] at hrun; cases hrun
  rw [e4] at hrun
  unfold endK at hrun
  split at hrun
  case h_2 => cases hrun
  rename_i hsgl
  simp only [Option.some.injEq, Prod.mk.injEq] at hrun
  obtain ⟨rfl, hv, hout⟩ := hrun
  have hu : u = c.val.ren c.sig := (List.cons.inj hv).1
  have hlen := run_len _ e1
  rw [Mpre_len] at hlen
  have hsg1 : ∀ n ∈ c.sg, n < M1.length := fun n hn => by
    have := List.all_eq_true.1 hsgl n hn
    rw [e2.len] at this
    simpa using this
  unfold Chp.out Chp.aft at hout
  rw [hnm, List.map_append, List.map_append] at hout
  obtain ⟨hout1, hout2⟩ := List.append_inj hout (by rw [List.length_map, List.length_map, hnl])
  have hget : ∀ i, i < M1.length → gM tr' i = Mget M1 i := fun i hi => by rw [gM_eq, e2.at_ i hi]
  have hk5 : c.sg.length = c.news.length := h5
  refine (allOK hE htbl n).call f args ch (Mpre c.c0 c.pre) [] .nil _ M1 ch1 obs1 _ e1 hL (fun n => B n ∧ n < c.c0) ρ w G w
    (fun r ρ' w' => r = v ∧ Ext c.c0 M1.length ρ ρ' ∧ At ar w G w' ρ' M1 ∧ u.sc (wid (fun n => B n ∧ n < c.c0) c.c0 M1.length) ∧ scM (wid (fun n => B n ∧ n < c.c0) c.c0 M1.length) M1) (fun n hn => .inl (by rw [Mpre_len]; exact hn.2)) hA1 hsc1 hsa
    (fun ρ' w' a b c' d => ⟨rfl, by rw [Mpre_len] at a; exact a, b, by have := c'.1; rw [e3, Mpre_len] at this; exact this.1, by rw [Mpre_len] at d; exact d⟩) _ fun r ρ' w' x hx hk2 => ?_
  obtain ⟨er, hE2, hA2, hsu, hsM⟩ := hk2
  have hxu : x = u := by
    have h5 : r.l = [x] := by rw [hx]
    rw [er, e3] at h5
    exact ((List.cons.inj h5).1).symm
  obtain ⟨k, hk⟩ : ∃ k, c.news.length = k := ⟨_, rfl⟩
  rw [hk] at h7 h8 hk5
  obtain ⟨ρo, hρo⟩ : ∃ ρo : En, ρo = fun n => if n < M.length then ρ n else if n < M.length + k then ρ' (c.sg.getD (n - M.length) 0) else ρ n := ⟨_, rfl⟩
  have hMl : (sets M (nm.zip c.post) ++ c.news).length = M.length + k := by rw [List.length_append, sets_len, hk]
  have hN0 : k ≠ 0 → M.length = c.c0 := fun h => by
    have := hnew (by intro e; rw [e] at hk; exact h hk.symm)
    rwa [sets_len] at this
  obtain ⟨X, hX⟩ : ∃ X : Nat → Prop, X = fun m => m < c.c0 + k ∧ wid (fun n => B n ∧ n < c.c0) c.c0 M1.length (c.sig m) := ⟨_, rfl⟩
  have hsig : ∀ i, i < c.c0 → c.sig i = i := fun i hi => by
    unfold Chp.sig
    rw [blt_dec, decide_eq_true hi]
  have hsig2 : ∀ i, ¬ i < c.c0 → c.sig i = c.sg.getD (i - c.c0) 0 := fun i hi => by
    unfold Chp.sig
    rw [blt_dec, decide_eq_false hi]
    rfl
  have hXB : ∀ m, X m → m < c.c0 → B m := fun m h hm => by
    rw [hX] at h
    have h := h.2
    rw [hsig m hm] at h
    rcases h with h | h
    · exact h.1
    · omega
  have hXρ : ∀ m, X m → ρo m = ρ' (c.sig m) := fun m h => by
    by_cases hm : m < c.c0
    · have hBm := hB m (hXB m h hm)
      rw [hMl] at hBm
      rw [hsig m hm, hE2 m (.inl hm), hρo]
      dsimp only
      rcases hBm with h | h
      · rw [if_pos h]
      · rw [if_neg (by omega), if_neg (by omega)]
    · rw [hX] at h
      have h := h.1
      have hn0 := hN0 (by omega)
      rw [hsig2 m hm, hρo]
      dsimp only
      rw [if_neg (by omega), if_pos (by omega), hn0]
  have hXw : ∀ m, X m → wid B M.length (M.length + k) m := fun m h => by
    by_cases hm : m < c.c0
    · exact .inl (hXB m h hm)
    · rw [hX] at h
      have h := h.1
      have hn0 := hN0 (by omega)
      exact .inr ⟨by omega, by omega⟩
  have hval : c.val.sc X := by
    rw [hX]
    refine V.sc_and _ (V.lt_sc _ h8) (V.sc_ren (X := wid (fun n => B n ∧ n < c.c0) c.c0 M1.length) (σ := c.sig) _ ?_)
    rw [← hu]; exact hsu
  have hpl : ∀ p i, p ∈ c.post ++ c.news → Mget M1 i = p.ren c.sig → p.mv = true ∧ p.sc X := fun p i hp hi => by
    obtain ⟨a, b⟩ := Pl.lt_sc p (h7 p hp)
    refine ⟨a, ?_⟩
    rw [hX]
    refine Pl.sc_and p a b (Pl.sc_ren (X := wid (fun n => B n ∧ n < c.c0) c.c0 M1.length) (σ := c.sig) p a ?_)
    have := hsM i
    rwa [hi] at this
  have hpost : ∀ i ∈ nm, ∃ p, Mget (sets M (nm.zip c.post) ++ c.news) i = p ∧ Mget M1 i = p.ren c.sig ∧ p.mv = true ∧ p.sc X := fun i hi => by
    obtain ⟨t, ht⟩ := List.getElem?_of_mem hi
    obtain ⟨p, hp, hg⟩ := map_get hout1 ht
    have hi1 : i < M1.length := by have := hlt0 i hi; omega
    rw [hget i hi1] at hg
    have hz : (i, p) ∈ nm.zip c.post := List.mem_of_getElem? (List.getElem?_zip_eq_some.2 ⟨ht, hp⟩)
    have hs1 := sets_in (M := M) (fun e he => hplt e he) (by rw [hzip]; exact hnd) (i, p) hz
    refine ⟨p, ?_, hg, hpl p i (List.mem_append_left _ (List.mem_of_getElem? hp)) hg⟩
    rw [Mget_app (by rw [sets_len]; exact hltM i hi)]
    exact hs1
  have hnews : ∀ j, j < k → ∃ p, Mget (sets M (nm.zip c.post) ++ c.news) (M.length + j) = p ∧ Mget M1 (c.sg.getD j 0) = p.ren c.sig ∧ c.sg.getD j 0 < M1.length ∧ c.sg.getD j 0 ∈ c.sg ∧ p.mv = true ∧ p.sc X := fun j hj => by
    have ht : c.sg[j]? = some (c.sg.getD j 0) := by
      rw [List.getD_eq_getElem?_getD, List.getElem?_eq_getElem (by omega)]
      rfl
    obtain ⟨p, hp, hg⟩ := map_get hout2 ht
    have hmem := List.mem_of_getElem? ht
    have hi1 := hsg1 _ hmem
    rw [hget _ hi1] at hg
    refine ⟨p, ?_, hg, hi1, hmem, hpl p _ (List.mem_append_right _ (List.mem_of_getElem? hp)) hg⟩
    unfold Mget
    rw [List.getD_eq_getElem?_getD, List.getElem?_append_right (by rw [sets_len]; omega), sets_len, Nat.add_sub_cancel_left, hp]
    rfl
  have hfin : At ar w0 D w' ρo (sets M (nm.zip c.post) ++ c.news) := by
    have hre : OwnN w G w' (M.length + k) (fun i => if (i < M.length ∧ i ∈ nm) ∨ M.length ≤ i then denP ar ρo i (Mget (sets M (nm.zip c.post) ++ c.news) i) else noR) := by
      refine OwnN.re hA2 (fun i => if i < M.length then i else c.sg.getD (i - M.length) 0) (fun i => (i < M.length ∧ i ∈ nm) ∨ M.length ≤ i) ?_ ?_
      · intro i j hi hj li lj e
        by_cases ci : i < M.length
        · by_cases cj : j < M.length
          · rwa [if_pos ci, if_pos cj] at e
          · rw [if_pos ci, if_neg cj] at e
            have him : i ∈ nm := by rcases li with h | h; exact h.2; omega
            obtain ⟨_, _, _, _, hm, _⟩ := hnews (j - M.length) (by omega)
            have := incB_ge h4 _ hm
            have := hlt0 i him
            omega
        · by_cases cj : j < M.length
          · rw [if_neg ci, if_pos cj] at e
            have hjm : j ∈ nm := by rcases lj with h | h; exact h.2; omega
            obtain ⟨_, _, _, _, hm, _⟩ := hnews (i - M.length) (by omega)
            have := incB_ge h4 _ hm
            have := hlt0 j hjm
            omega
          · rw [if_neg ci, if_neg cj] at e
            have gi : c.sg.getD (i - M.length) 0 = c.sg[i - M.length]'(by omega) := by rw [List.getD_eq_getElem?_getD, List.getElem?_eq_getElem (by omega)]; rfl
            have gj : c.sg.getD (j - M.length) 0 = c.sg[j - M.length]'(by omega) := by rw [List.getD_eq_getElem?_getD, List.getElem?_eq_getElem (by omega)]; rfl
            rw [gi, gj] at e
            rcases Nat.lt_trichotomy (i - M.length) (j - M.length) with h | h | h
            · have := incB_lt h4 _ _ (by omega) (by omega) h; omega
            · omega
            · have := incB_lt h4 _ _ (by omega) (by omega) h; omega
      · intro i hi
        by_cases li : (i < M.length ∧ i ∈ nm) ∨ M.length ≤ i
        · refine .inl ⟨li, ?_⟩
          rw [if_pos li]
          by_cases ci : i < M.length
          · have him : i ∈ nm := by rcases li with h | h; exact h.2; omega
            obtain ⟨p, e1, e2, e3, e4⟩ := hpost i him
            have hi0 := hlt0 i him
            rw [if_pos ci]
            refine ⟨by omega, ?_⟩
            rw [e1, e2]
            have hn : ρo i = ρ' (c.sig i) := by
              rw [hsig i hi0, hE2 i (.inl hi0), hρo]
              dsimp only
              rw [if_pos ci]
            have := denP_ren ar hXρ hn p e3 e4
            rw [hsig i hi0] at this
            exact this.symm
          · rw [if_neg ci]
            obtain ⟨p, e1, e2, e5, _, e3, e4⟩ := hnews (i - M.length) (by omega)
            refine ⟨e5, ?_⟩
            rw [show M.length + (i - M.length) = i by omega] at e1
            rw [e1, e2]
            have hn0 := hN0 (by omega)
            have hs2 := hsig2 i (by omega)
            rw [← hn0] at hs2
            have hn : ρo i = ρ' (c.sig i) := by
              rw [hs2, hρo]
              dsimp only
              rw [if_neg ci, if_pos hi]
            have := denP_ren ar hXρ hn p e3 e4
            rw [hs2] at this
            exact this.symm
        · exact .inr ⟨li, if_neg li⟩
    have h3 := l2 w' (M.length + k) _ (by omega) hre (fun i hi hc => if_neg (by rintro (h | h); exact hc h.2; omega))
    unfold At
    rw [hMl]
    refine OwnN.congr h3 fun i hi => ?_
    by_cases hc : i < M.length ∧ ¬ i ∈ nm
    · rw [if_pos hc, Mget_app (by rw [sets_len]; exact hc.1), sets_out (by rw [hzip]; exact hc.2)]
      refine denP_eq ar (B := B) (fun j hj => ?_) ?_ _ (hM i)
      · have := hB j hj
        rw [hMl] at this
        rw [hρo]
        dsimp only
        rcases this with h | h
        · rw [if_pos h]
        · rw [if_neg (by omega), if_neg (by omega)]
      · rw [hρo]
        dsimp only
        rw [if_pos hc.1]
    · rw [if_neg hc, if_pos (by
        by_cases c1 : i < M.length
        · exact .inl ⟨c1, Decidable.byContradiction fun h => hc ⟨c1, h⟩⟩
        · exact .inr (by omega))]
  have hden : x.den ρ' = c.val.den ρo := by rw [hxu, hu]; exact V.den_ren hXρ _ hval
  rw [hden]
  refine hQ _ ρo w' c.val rfl (hK ρo w' (fun n hn => ?_) hfin ⟨⟨?_, trivial⟩, trivial, fun m hm => by cases hm⟩ fun i => ?_)
  · rw [hMl] at hn
    rw [hρo]
    dsimp only
    rcases hn with h | h
    · rw [if_pos h]
    · rw [if_neg (by omega), if_neg (by omega)]
  · rw [hMl]; exact V.sc_mono hXw _ hval
  · rw [hMl]
    by_cases ci : i < M.length
    · by_cases him : i ∈ nm
      · obtain ⟨p, e1, _, _, e4⟩ := hpost i him
        rw [e1]
        exact Pl.sc_mono hXw p e4
      · rw [Mget_app (by rw [sets_len]; exact ci), sets_out (by rw [hzip]; exact him)]
        exact Pl.sc_mono wid_l _ (hM i)
    · by_cases ck : i < M.length + k
      · obtain ⟨p, e1, _, _, _, _, e4⟩ := hnews (i - M.length) (by omega)
        rw [show M.length + (i - M.length) = i by omega] at e1
        rw [e1]
        exact Pl.sc_mono hXw p e4
      · have : Mget (sets M (nm.zip c.post) ++ c.news) i = .none := by
          unfold Mget
          rw [List.getD_eq_getElem?_getD, List.getElem?_eq_none (by rw [hMl]; omega)]
          rfl
        rw [this]; trivial
end
end Go.Proofs.YtockaipodnapjaaGreatDoor
namespace Go.Proofs.YtockaipodnapjaaGreatDoor
open Go.RowKit
set_option linter.unusedVariables false
section
variable {A : Type} {ar : A → List Value → Value → Res} {P : Program}
end
end Go.Proofs.YtockaipodnapjaaGreatDoor
namespace Go.Proofs.YtockaipodnapjaaGreatDoor
open Go.RowKit
set_option linter.unusedVariables false
mutual
def V.fl : V → V
  | .int _ k n => .int false k n
  | .bool _ b => .bool false b
  | .str _ x => .str false x
  | .fn f a b => .fn f (flL a) (flL b)
  | .ifc t v => .ifc t v.fl
  | .agg l => .agg (flL l)
  | .tup l => .tup (flL l)
  | .ptr n o => .ptr n o
  | .el n sz i o => .el n sz i o
  | .nm n => .nm n
  | .sl n sz i m => .sl n sz i m
  | .sq n o => .sq n o
  | .yl n => .yl n
  | .lit v => .lit v
  | .ns n => .ns n
def flL : List V → List V
  | [] => []
  | v :: l => v.fl :: flL l
end
section
variable {A : Type} (ar : A → List Value → Value → Res)
def Pl.fl : Pl A → Pl A
  | .blk cs t => .blk (flL cs) t
  | .row t sz xs => .row t sz (xs.map flL)
  | .map kd es => .map kd (es.map fun e => (e.1, e.2.fl))
  | .abs a l => .abs a (flL l)
  | .glb g cs t => .glb g (flL cs) t
  | .rng r kd es d => .rng r kd (es.map fun e => (e.1, e.2.fl)) d
  | .rowo t xs => .rowo t (flL xs)
  | p => p
omit ar
end
end Go.Proofs.YtockaipodnapjaaGreatDoor
namespace Go.Proofs.YtockaipodnapjaaGreatDoor
open Go.RowKit
set_option linter.unusedVariables false
section
variable {A : Type} {ar : A → List Value → Value → Res} {P : Program} {kof : TypeId → Option (Nat × Bool)} {tbl : FuncId → Option (List V → T A)}
theorem evF_callOK (hE : Entr P kof) (htbl : ∀ f s, tbl f = some s → ∀ args, CallOK ar P f args (s args)) (n : Nat) (f : FuncId) (args : List V) : CallOK ar P f args ((evF P kof tbl n).call f args rt : T A) := by
  intro ch M obs lg r M' ch' obs' lg' hr ho B ρ w0 D w K hB hA hM hs hK Q hQ
  rw [evF_call] at hr
  obtain ⟨r1, M1, ch1, obs1, lg1, g1, g2⟩ := bind_ok hr
  have : ∃ u, r1.l = [u] ∧ r = rv u ∧ M' = M1 ∧ ch' = ch1 ∧ obs' = obs1 ∧ lg' = lg1 := by
    unfold kv at g2
    split at g2
    · rename_i u e
      cases g2
      exact ⟨u, e, rfl, rfl, rfl, rfl, rfl⟩
    · cases g2
  obtain ⟨u, e, rfl, rfl, rfl, rfl, rfl⟩ := this
  refine (allOK hE htbl n).call f args ch M obs lg r1 M' ch' obs' lg' g1 ho B ρ w0 D w (fun r' ρ' w' => r' = r1 ∧ K (rv u) ρ' w') hB hA hM hs (fun ρ' w' a b c d => ⟨rfl, hK ρ' w' a b ⟨by have := c.1; rwa [e] at this, trivial, fun m hm => by cases hm⟩ d⟩) Q fun r' ρ' w' v hv hk => ?_
  obtain ⟨h1, h2⟩ := hk
  have : r1.l = [v] := by rw [← h1, hv]
  rw [e] at this
  cases this
  exact hQ _ ρ' w' u rfl h2
end
end Go.Proofs.YtockaipodnapjaaGreatDoor
namespace Go.Proofs.YtockaipodnapjaaGreatDoor
open Go.RowKit
set_option linter.unusedVariables false
section
variable {A : Type} {ar : A → List Value → Value → Res} {P : Program} {kof : TypeId → Option (Nat × Bool)} {tbl : FuncId → Option (List V → T A)}
end
end Go.Proofs.YtockaipodnapjaaGreatDoor
namespace Go.Proofs.YtockaipodnapjaaGreatDoor
open Go.RowKit
set_option linter.unusedVariables false
section
variable {A : Type} {ar : A → List Value → Value → Res} {P : Program}
def reT (t : T A) (g : V → Option (Bool × V)) : T A := t.bind fun r => match r.l with
  | [v] => (match g v with
    | some cv => .need cv.1 (.ret (rv cv.2))
    | none => .ret (rv v))
  | _ => .fail 880
theorem reT_ok {f : FuncId} {args : List V} {t : T A} {g : V → Option (Bool × V)} (h : CallOK ar P f args t) (hg : ∀ v c v', g v = some (c, v') → c = true → (∀ ρ, v'.den ρ = v.den ρ) ∧ ∀ B : Nat → Prop, v.sc B → v'.sc B) : CallOK ar P f args (reT t g) := by
  intro ch M obs lg r M' ch' obs' lg' hr ho B ρ w0 D w K hB hA hM hs hK Q hQ
  obtain ⟨r1, M1, ch1, obs1, lg1, g1, g2⟩ := bind_ok hr
  have key : ∃ u v', r1.l = [u] ∧ r = rv v' ∧ M' = M1 ∧ okObs obs1 ∧ (∀ ρ, v'.den ρ = u.den ρ) ∧ ∀ B : Nat → Prop, u.sc B → v'.sc B := by
    split at g2
    · rename_i u e
      split at g2
      · rename_i cv hcv
        have hc := run_obs _ (show (T.ret _ : T A).run ch1 M1 ((cv.1, true) :: obs1) lg1 = _ from g2) ho
        have hc1 : cv.1 = true := hc _ List.mem_cons_self
        cases g2
        obtain ⟨a, b⟩ := hg u cv.1 cv.2 hcv hc1
        exact ⟨u, cv.2, e, rfl, rfl, fun p hp => hc p (List.mem_cons_of_mem _ hp), a, b⟩
      · cases g2
        exact ⟨u, u, e, rfl, rfl, ho, fun _ => rfl, fun _ h => h⟩
    · cases g2
  obtain ⟨u, v', e, rfl, rfl, ho1, hden, hsc⟩ := key
  refine h ch M obs lg r1 M' ch1 obs1 lg1 g1 ho1 B ρ w0 D w (fun r' ρ' w' => r' = r1 ∧ K (rv v') ρ' w') hB hA hM hs (fun ρ' w' a b c d => ⟨rfl, hK ρ' w' a b ⟨⟨hsc _ (by have := c.1; rw [e] at this; exact this.1), trivial⟩, trivial, fun m hm => by cases hm⟩ d⟩) Q fun r' ρ' w' v hv hk => ?_
  obtain ⟨h1, h2⟩ := hk
  have : r1.l = [v] := by rw [← h1, hv]
  rw [e] at this
  cases this
  rw [← hden ρ']
  exact hQ _ ρ' w' v' rfl h2
theorem cAsk_ok {f : FuncId} {args : List V} {c : Bool} {k : Bool → T A} (h : ∀ b, CallOK ar P f args (k b)) : CallOK ar P f args (.ask c k) := by
  intro ch M obs lg r M' ch' obs' lg' hr ho
  match ch, hr with
  | b :: ch, hr => exact h b ch M _ lg r M' ch' obs' lg' hr ho
theorem cFail_ok {f : FuncId} {args : List V} {n : Nat} : CallOK ar P f args (.fail n : T A) := by
  intro ch M obs lg r M' ch' obs' lg' hr ho
  cases hr
end
end Go.Proofs.YtockaipodnapjaaGreatDoor
