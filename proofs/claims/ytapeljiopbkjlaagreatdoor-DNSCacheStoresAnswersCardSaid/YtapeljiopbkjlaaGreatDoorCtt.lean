/- DNSCacheTTL, plain and walked. Printed by wip/tools/gen20v.py. -/
import Derived.Test.YtapeljiopbkjlaaGreatDoorCng
namespace Go.Proofs.YtapeljiopbkjlaaGreatDoor
open Go.RowKit Go.Sort
set_option linter.unusedVariables false
set_option maxRecDepth 100000

/-- y is the record r, but for the TTL. -/
def mtB (r y : Rc) : Bool := (y.kd == r.kd) && ((y.ad == r.ad) && (y.to.toList == r.to.toList))
theorem mtB_key {now : Int} {r : Rc} {e : En} (h : mtB r (rcOf now e) = true) (hn : e.nm.toList = r.nm.toList) : keyE e = ownK r := by
  simp only [mtB, rcOf, Bool.and_eq_true, beq_iff_eq] at h
  obtain ⟨h1, h2, h3⟩ := h
  simp only [keyE, ownK, bytes_ext hn, h1, h2, bytes_ext h3]
theorem put_other {t : Int} {r : Rc} {l : List En} {x : En} (h : x ∈ room (l.filter fun x => !putP r x)) : keyE x ≠ ownK r := by
  have := (List.mem_filter.1 ((room_sub _).subset h)).2
  simp only [putP, Bool.not_eq_true', Bool.or_eq_false_iff] at this
  intro e
  rw [(kyEq_iff _ _).2 e] at this
  cases this.1
theorem ttl_law {t later : Int} {r : Rc} (l : List En) (hr : recB t r = true) (ht : r.tt ≠ 0) (hl : 0 ≤ later) (hl2 : later ≤ 100) :
    ((lookD (t + later) r.nm (putF t r l)).countP (mtB r) = if later < r.tt then 1 else 0) ∧ (∀ y ∈ lookD (t + later) r.nm (putF t r l), mtB r y = true → y.tt = r.tt - later) ∧ (later < r.tt → knwD (t + later) r.nm (putF t r l) = true) := by
  have hb := recB_bds hr
  have hk : r.kd ≠ 0 := by rw [recB_eq, Bool.and_eq_true] at hr; have := recA_kd hr.1; omega
  rw [putF_eq l hr ht]
  have hw : wrap64 (t + r.tt - (t + later)) = r.tt - later := by rw [wrap_sub (by omega) (by omega)]; omega
  have hh : hitB (t + later) r.nm ⟨r.nm, r.kd, r.ad, r.to, t + r.tt⟩ = decide (later < r.tt) := by
    rw [hit_self, decide_eq_decide]; omega
  refine ⟨?_, ?_, ?_⟩
  · unfold lookD
    rw [(srtR_perm _).countP_eq]
    unfold recs
    rw [List.filter_append, List.map_append, List.countP_append]
    have h0 : (((room (l.filter fun x => !putP r x)).filter fun e => hitB (t + later) r.nm e && decide (e.kd ≠ 0)).map (rcOf (t + later))).countP (mtB r) = 0 := by
      rw [List.countP_eq_zero]
      intro y hy hm
      obtain ⟨e, he, rfl⟩ := List.mem_map.1 hy
      obtain ⟨he1, he2⟩ := List.mem_filter.1 he
      rw [Bool.and_eq_true] at he2
      exact put_other (t := t) he1 (mtB_key hm (hit_nm he2.1).1)
    rw [h0, Nat.zero_add]
    by_cases hd : later < r.tt
    · rw [decide_eq_true hd] at hh
      rw [if_pos hd, List.filter_cons_of_pos (by rw [hh]; simp [hk])]
      simp [mtB, rcOf]
    · rw [decide_eq_false hd] at hh
      rw [if_neg hd, List.filter_cons_of_neg (by rw [hh]; simp)]
      rfl
  · intro y hy hm
    obtain ⟨e, he, h1, h2, rfl⟩ := lookD_mem.1 hy
    rcases List.mem_append.1 he with he | he
    · exact absurd (mtB_key hm (hit_nm h1).1) (put_other (t := t) he)
    · obtain rfl := by simpa using he
      exact hw
  · intro hd
    rw [decide_eq_true hd] at hh
    unfold knwD
    rw [List.any_append, Bool.or_eq_true]
    exact .inr (by simp [hh])
theorem pk_i64 (n k : Int) (h : 0 < k) (h2 : k ≤ 9223372036854775807) : i64B (pk n k) := by have := pk_bd n k h; unfold i64B; omega
theorem count_no {m : List Rc} {r : Rc} {k : Nat} (hk : k < m.length) (h : mtB r m[k] = false) : (m.take (k + 1)).countP (mtB r) = (m.take k).countP (mtB r) := by
  rw [List.take_succ_eq_append_getElem hk, List.countP_append]; simp [h]
theorem count_yes {m : List Rc} {r : Rc} {k : Nat} (hk : k < m.length) (h : mtB r m[k] = true) : (m.take (k + 1)).countP (mtB r) = (m.take k).countP (mtB r) + 1 := by
  rw [List.take_succ_eq_append_getElem hk, List.countP_append]; simp [h]
end Go.Proofs.YtapeljiopbkjlaaGreatDoor
