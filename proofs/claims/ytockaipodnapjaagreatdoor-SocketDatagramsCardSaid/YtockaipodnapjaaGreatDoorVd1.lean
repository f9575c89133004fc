/- A machine of symbolic values: SocketDatagrams: what its runs note. -/
import Derived.Test.YtockaipodnapjaaGreatDoorVr
import Derived.Test.YtockaipodnapjaaGreatDoorVn
namespace Go.Proofs.YtockaipodnapjaaGreatDoor
open Go Go.RowKit
set_option linter.unusedVariables false
set_option maxRecDepth 100000
/-- pick; of 13 it yields K. -/
def pkK (K : Int) (args : List V) : Option (Bool × V) := match args with
  | [.int s1 .i64 a, .int s2 .i64 n] => (match ieq n 13 with
    | true => some (inR a && ieq (pickF a n) K, .int false .i64 K)
    | false => some (inR a && ilt 0 n, .int (s1 || s2) .i64 (pickF a n)))
  | _ => none
theorem pkK_hit (K : Int) (args : List V) (c : Bool) (v : V) (h : pkK K args = some (c, v)) (hc : c = true) : v.cl = true ∧ ∀ ρ w, Calls Tryz.prog 13 (denL ρ args).toArray w fun e w' => e = .returned (v.den ρ) ∧ Below w.heap.size w w' := by
  unfold pkK at h
  split at h
  case h_2 => cases h
  split at h
  · rename_i hn
    simp only [Option.some.injEq, Prod.mk.injEq] at h
    obtain ⟨h1, rfl⟩ := h
    have h1 := h1.trans hc
    rw [ieq_dec] at hn
    have hn := of_decide_eq_true hn
    subst hn
    simp only [Bool.and_eq_true] at h1
    obtain ⟨h1, h2⟩ := h1
    rw [ieq_dec] at h2
    have h2 := of_decide_eq_true h2
    refine ⟨rfl, fun ρ w => ?_⟩
    have := pk_hit _ 13 w h1 rfl
    rw [h2] at this
    exact this
  · simp only [Option.some.injEq, Prod.mk.injEq] at h
    obtain ⟨h1, rfl⟩ := h
    have h1 := h1.trans hc
    simp only [Bool.and_eq_true] at h1
    exact ⟨rfl, fun ρ w => pk_hit _ _ w h1.1 h1.2⟩
def txG (args : List V) : Option (Bool × V) := match args with
  | [.int _ .i64 n, .int _ .i64 k] => some (rgI 0 2000 n && rgI 0 1000 k, .str true ⟨(textL n.toNat k).toArray⟩)
  | _ => none
theorem txG_hit (args : List V) (c : Bool) (v : V) (h : txG args = some (c, v)) (hc : c = true) : v.cl = true ∧ ∀ ρ w, Calls Tryz.prog 12 (denL ρ args).toArray w fun e w' => e = .returned (v.den ρ) ∧ Below w.heap.size w w' := by
  unfold txG at h
  split at h
  case h_2 => cases h
  rename_i s1 n s2 k
  simp only [Option.some.injEq, Prod.mk.injEq] at h
  obtain ⟨h1, rfl⟩ := h
  have h1 := h1.trans hc
  simp only [Bool.and_eq_true, rgI_iff] at h1
  obtain ⟨⟨a1, a2⟩, b1, b2⟩ := h1
  refine ⟨rfl, fun ρ w => ?_⟩
  have h2 := text_r n.toNat k (by omega) b1 b2 w
  rw [Int.toNat_of_nonneg a1] at h2
  exact h2
def tblD (K : Int) : FuncId → Option (List V → T Nat) := addT (addT (addT (addT (addT tblN 10 saneC) 13 (pureC (pkK K))) 12 (pureC txG)) 213 udEn) 55 udDe
theorem tblD_ok (K : Int) : TblOK arS Tryz.prog (tblD K) := addT_ok (addT_ok (addT_ok (addT_ok (addT_ok tblN_ok saneC_ok) (pureC_ok (pkK_hit K))) (pureC_ok txG_hit)) udEn_ok) udDe_ok
end Go.Proofs.YtockaipodnapjaaGreatDoor

namespace Go.Proofs.YtockaipodnapjaaGreatDoor
open Go Go.RowKit
set_option linter.unusedVariables false
set_option maxRecDepth 100000
abbrev txt (z : Int) (i : Nat) : List UInt8 := textL z.toNat (Int.ofNat i)
def dgX (z : Int) (i : Nat) : Bool × Bool := (rgI 0 2000 z && rgI 0 1000 (Int.ofNat i), true)
/-- Sending one datagram; receiving one. -/
noncomputable def dgS (z : Int) : Nat → Obs
  | 0 => []
  | i + 1 => (Nat.ble (txt z i).length 2000, true) :: (!!ilt 2000 (Int.ofNat (rlen (txt z i))), false) :: dgX z i :: dgS z i
def dgR (z : Int) : Nat → Obs
  | 0 => []
  | i + 1 => (!leqB (txt z i) (txt z i), false) :: (!leqB (txt z i) (txt z i), false) :: (!leqB (txt z i) (txt z i), false) :: (!leqB (txt z i) (txt z i), false) :: dgX z i :: dgR z i
def dgP : Nat → Obs
  | 0 => []
  | i + 1 => (true, true) :: (true, true) :: (true, true) :: dgP i
def dgA (p : Int) : Obs := [(ilt 4294967295 p, false), (ilt p 0, false), (ilt p 0, false), (ilt p 0, false)]
noncomputable def dgL (K J : Nat) (a b m s : Int) : Obs := dgR (pickF s 2001) J ++ (dgP K ++ (dgS (pickF s 2001) K ++ ((inR s && ilt 0 2001, true) :: (inR m && ieq (pickF m 13) (Int.ofNat K), true) :: (dgA (pickF b 4294967296) ++ (dgA (pickF a 4294967296) ++ [(inR b && ilt 0 4294967296, true), (inR a && ilt 0 4294967296, true)])))))
def chN (b : Bool) : Nat → List Bool → List Bool
  | 0, l => l
  | n + 1, l => b :: chN b n l
def dgC (K J : Nat) : List Bool := chN false (8 + K) (chN true K (chN false (4 * J) []))
theorem okO_app {l k : Obs} (h : okObs l) (h' : okObs k) : okObs (l ++ k) := fun p hp => (List.mem_append.1 hp).elim (h p) (h' p)
theorem dgX_ok {z : Int} (h0 : 0 ≤ z) (h1 : z ≤ 2000) {i : Nat} (hi : i ≤ 1000) : (rgI 0 2000 z && rgI 0 1000 (Int.ofNat i)) = true := by
  rw [rgI_iff.2 ⟨h0, h1⟩, rgI_iff.2 (show 0 ≤ Int.ofNat i ∧ Int.ofNat i ≤ 1000 from ⟨Int.natCast_nonneg i, Int.ofNat_le.2 hi⟩)]; rfl
theorem dgS_ok {z : Int} (h0 : 0 ≤ z) (h1 : z ≤ 2000) : ∀ n : Nat, n ≤ 1000 → okObs (dgS z n)
  | 0, _ => okO_nil
  | n + 1, h => by
    have hl : (txt z n).length ≤ 2000 := by rw [textL_len]; omega
    exact okO_cons (ble_t hl) (okO_cons (nnot_ilt (by rw [rlen_eq]; exact Int.ofNat_le.2 hl)) (okO_cons (dgX_ok h0 h1 (by omega)) (dgS_ok h0 h1 n (by omega))))
theorem dgR_ok {z : Int} (h0 : 0 ≤ z) (h1 : z ≤ 2000) : ∀ n : Nat, n ≤ 1000 → okObs (dgR z n)
  | 0, _ => okO_nil
  | n + 1, h => by
    have he : (!leqB (txt z n) (txt z n)) = false := by rw [leqB_refl]; rfl
    exact okO_cons he (okO_cons he (okO_cons he (okO_cons he (okO_cons (dgX_ok h0 h1 (by omega)) (dgR_ok h0 h1 n (by omega))))))
theorem dgP_ok : ∀ n : Nat, okObs (dgP n)
  | 0 => okO_nil
  | n + 1 => okO_cons rfl (okO_cons rfl (okO_cons rfl (dgP_ok n)))
theorem dgA_ok {p : Int} (h0 : 0 ≤ p) (h1 : p < 4294967296) : okObs (dgA p) := okO_cons (ilt_f (by omega)) (okO_cons (ilt_f h0) (okO_cons (ilt_f h0) (okO_cons (ilt_f h0) okO_nil)))
theorem dgL_ok {K J : Nat} {a b m s : Int} (ha : inR a = true) (hb : inR b = true) (hm : inR m = true) (hs : inR s = true) (hK : pickF m 13 = Int.ofNat K) (hk : K ≤ 1000) (hj : J ≤ 1000) : okObs (dgL K J a b m s) := by
  have h1 := pickF_rg s (n := 2001) (by decide)
  have h2 := pickF_rg b (n := 4294967296) (by decide)
  have h3 := pickF_rg a (n := 4294967296) (by decide)
  unfold dgL
  refine okO_app (dgR_ok h1.1 (by omega) J hj) (okO_app (dgP_ok K) (okO_app (dgS_ok h1.1 (by omega) K hk) (okO_cons ?_ (okO_cons ?_ (okO_app (dgA_ok h2.1 h2.2) (okO_app (dgA_ok h3.1 h3.2) (okO_cons ?_ (okO_cons ?_ okO_nil))))))))
  · rw [hs]; rfl
  · rw [hm, hK, ieq_t rfl]; rfl
  · rw [hb]; rfl
  · rw [ha]; rfl
end Go.Proofs.YtockaipodnapjaaGreatDoor

