/- Append to a row that a call owns, with all that is known behind it. No program in sight. -/
import Derived.Test.YthdnonoheochhaaGreatDoorUpd
namespace Go.Proofs.YthdnonoheochhaaGreatDoor
open Go.RowKit
set_option linter.unusedVariables false
set_option maxRecDepth 100000
def near (w : World) (v v' : Value) : Prop := v'.ownBlock = none ∨ v'.ownBlock = v.ownBlock ∨ ∃ g, v'.ownBlock = some g ∧ w.heap.size ≤ g
theorem near.refl (w : World) (v : Value) : near w v v := .inr (.inl rfl)
theorem near.trans {w w1 : World} {v v1 v2 : Value} (hs : w.heap.size ≤ w1.heap.size) (h1 : near w v v1) (h2 : near w1 v1 v2) : near w v v2 := by
  rcases h2 with h | h | ⟨g, h, hg⟩
  · exact .inl h
  · rcases h1 with h' | h' | ⟨g, h', hg⟩
    · exact .inl (h.trans h')
    · exact .inr (.inl (h.trans h'))
    · exact .inr (.inr ⟨g, h.trans h', hg⟩)
  · exact .inr (.inr ⟨g, h, by omega⟩)
theorem run_append_near {P : Program} (w : World) (base : Nat) (t ty e : TypeId) (i : TypeInfo) (z : Value) (size bytes : Nat) (ht : P.underlying t = some (.slice e)) (hi : P.info? e = some i) (hz : i.zero = some z)
    (hsize : i.size = size) (hby : i.bytes = bytes) (hzs : z.cells.size = size) (hsz : 0 < size) (v : Value) (n : Nat) (xs : List Value) (hown : w.ownsRow base e size v n xs)
    (ad : Addr) (m c : Nat) (news : List Value) (hl : news.length = m * size) (hnews : ∀ j u, news[j]? = some u → w.cell? (ad.add j) = some u) (h1 : ∀ u ∈ news, u.oneCell' = true)
    (h63 : n + m ≤ maxLen) (hbytes : (n + m) * bytes ≤ 140737488355328) (hbase : base ≤ w.heap.size) :
    ∃ v' w', (Builtin.append_ #[t, t] ty #[v, .slice (some ad) m c]).run P w = .ok v' w' ∧ w'.ownsRow base e size v' (n + m) (xs ++ news) ∧ w.grownBy w' v.ownBlock ∧ near w v v' := by
  obtain ⟨v', w', hrun, r1, r2, _⟩ := run_append_own (P := P) w base t ty e i z size bytes ht hi hz hsize hby hzs hsz v n xs hown ad m c news hl hnews h1 h63 hbytes hbase
  have hold := hown.2
  rcases hold with ⟨rfl, hn⟩ | ⟨g, cap, cur, rfl, hg, hcur, hncap, hcm, hsz', htk⟩
  · subst hn
    obtain rfl : xs = [] := List.eq_nil_of_length_eq_zero (by simpa using hown.1)
    obtain ⟨v2, w2, hrun2, s1, s2, _⟩ := run_append_own (P := P) w w.heap.size t ty e i z size bytes ht hi hz hsize hby hzs hsz (.slice none 0 0) 0 [] (World.ownsRow_nil w _ e size) ad m c news hl hnews h1 h63 hbytes (Nat.le_refl _)
    rw [hrun] at hrun2
    cases hrun2
    refine ⟨_, _, hrun, r1, r2, ?_⟩
    rcases s1.2 with ⟨e', _⟩ | ⟨g, _, _, e', hg, _⟩
    · exact .inl (by rw [e']; rfl)
    · exact .inr (.inr ⟨g, by rw [e']; rfl, hg⟩)
  · by_cases hroom : n + m ≤ cap
    · subst hsize
      have hrun2 := run_append_room_cells (P := P) w t ty e i ht hi g 0 n cap ad m c news hl hnews h1 hroom (fun j hj => by
        have : n * i.size + j < cur.size := by
          rw [hsz']
          have := Nat.mul_le_mul_right i.size hroom
          rw [Nat.add_mul] at this
          omega
        simp [World.cell?, hcur, this]) (fun j hj => by simp [World.frozen?, hcur])
      rw [hrun] at hrun2
      cases hrun2
      exact ⟨_, _, hrun, r1, r2, .inr (.inl rfl)⟩
    · have hcells : ∀ j u, xs[j]? = some u → w.cell? ((⟨g, 0, none⟩ : Addr).add j) = some u := fun j u hj => by
        have hjl : j < n * size := by
          rcases Nat.lt_or_ge j (n * size) with h | h
          · exact h
          · rw [List.getElem?_eq_none (by rw [hown.1]; exact h)] at hj; cases hj
        have ea : (⟨g, 0, none⟩ : Addr).add j = ⟨g, j, none⟩ := by
          unfold Addr.add
          split
          · rename_i h; have : j = 0 := by simpa using h
            subst this; rfl
          · simp
        rw [ea]
        rw [← htk, List.getElem?_take, if_pos hjl] at hj
        simpa [World.cell?, hcur] using hj
      obtain ⟨v2, w2, hrun2, s1, s2⟩ := run_append_arg_grows (P := P) w t ty e i z size bytes ht hi hz hsize hby hzs hsz ⟨g, 0, none⟩ n cap xs hown.1 hcells ad m c news hl hnews (by omega) h63 hbytes
      rw [hrun] at hrun2
      cases hrun2
      refine ⟨_, _, hrun, r1, r2, ?_⟩
      rcases s1.2 with ⟨e', _⟩ | ⟨g, _, _, e', hg, _⟩
      · exact .inl (by rw [e']; rfl)
      · exact .inr (.inr ⟨g, by rw [e']; rfl, hg⟩)
theorem upd_of_grown {w w' : World} {row : Option Nat} (h : w.grownBy w' row) : Upd (fun b => row = some b) w w' :=
  ⟨h.os, h.tape, h.output, h.size, fun k hk hn => h.block k hk (fun e => hn e.symm)⟩
end Go.Proofs.YthdnonoheochhaaGreatDoor
