/- (Printed by wip/tools/gen21A.py out of XOpnG.) The arguments of laws, opened: small integers, and slices of elements of n cells. -/
import Derived.Test.YtbolfkojebbejaaGreatDoorBb
import Derived.Test.YtbolfkojebbejaaGreatDoorOpn21
import Derived.Test.YtbolfkojebbejaaGreatDoorProg
import Derived.Deep.Slices
import Derived.Deep.Strs
import Derived.Lib.SmallJoins
import Derived.Test.YtbolfkojebbejaaGreatDoorBp
set_option linter.unusedVariables false
set_option maxRecDepth 100000
set_option maxHeartbeats 32000000
namespace Go.Proofs.YtbolfkojebbejaaGreatDoor
open Go.RowKit Go.Sort Go.Deep
open Go.ChangeShapes Go.WideShapes

variable {w : World} {v : Value}
theorem spot_none {a : Addr} (h : w.cell? a = some v) : a = ⟨a.block, a.off, none⟩ := by
 obtain ⟨b, o, s⟩ := a
 cases s with
 | none => rfl
 | some s =>
  simp only [World.cell?] at h
  split at h
  ·
   simp at h
  ·
   cases h
theorem wf_u8 {n : Int} (h : (Lit.int .u8 n).wf = true) : 0 ≤ n ∧ n ≤ 255 := by
 simpa [Lit.wf, IntKind.min, IntKind.max, IntKind.signed, IntKind.bits] using h
theorem add_mk (b o j : Nat) : (⟨b, o, none⟩ : Addr).add j = ⟨b, o + j, none⟩ := by
 unfold Addr.add
 split
 ·
  rename_i h; have : j = 0 := by simpa using h
  subst this; rfl
 ·
  rfl
theorem cells_at {b o n : Nat} {cs : List Value} (h : w.cells? 0 ⟨b, o, none⟩ n = some cs) : cs.length = n ∧ ∀ j, j < n → w.cell? ⟨b, o + j, none⟩ = cs[j]? := by
 obtain ⟨_, h2, h3⟩ := World.cells?_some h
 exact ⟨h2, fun j hj => by have := h3 j hj; rwa [add_mk] at this⟩
theorem cellsI : Tryz.prog.cellsOf 3 = 1 := by kernel_rfl

def RdV (w : World) (v : Value) (len n : Nat) (f : Nat → List Value) : Prop :=
 ∃ a cap, v = .slice a len cap ∧ len ≤ cap ∧ len ≤ 9223372036854775807 ∧ (len ≠ 0 → ∃ b o, a = some ⟨b, o, none⟩ ∧ ∀ i, i < len → ∀ j, j < n → w.cell? ⟨b, o + i * n + j, none⟩ = (f i)[j]?)
theorem RdV.stay {w w' : World} {len n : Nat} {f : Nat → List Value} (h : RdV w v len n f) (hl : ∀ i, i < len → (f i).length = n) (hb : Below w.heap.size w w') : RdV w' v len n f := by
 obtain ⟨a, cap, rfl, h1, h2, h3⟩ := h
 refine ⟨a, cap, rfl, h1, h2, fun hn => ?_⟩
 obtain ⟨b, o, rfl, hc⟩ := h3 hn
 refine ⟨b, o, rfl, fun i hi j hj => ?_⟩
 have := hc i hi j hj
 rw [List.getElem?_eq_getElem (by rw [hl i hi]; exact hj)] at this ⊢
 exact keep hb this

theorem open_rows {H : Type} {enc : TypeId × Value → H} {W : World} {a : Option Addr} {len cap fuel n : Nat} {x : DataW H × List MemPlace} {t e : TypeId} (ht : Tryz.prog.underlying t = some (.slice e)) (hc2 : Tryz.prog.cellsOf e = n) (hn : 0 < n)
  (Q : List Value → Prop) (hop : ∀ {fuel : Nat} {cs : List Value} {x : DataW H × List MemPlace}, cs.length = n → DataW.trod enc Tryz.prog W 0 (fun _ => true) true fuel e cs = some x → Q cs)
  (h : DataW.trod enc Tryz.prog W 0 (fun _ => true) true fuel t [.slice a len cap] = some x) : ∃ f, RdV W (.slice a len cap) len n f ∧ ∀ i, i < len → (f i).length = n ∧ Q (f i) := by
 rcases open_slice ht h with ⟨hcs, _⟩ | ⟨ad, l, c, m, n', D, Pl, hcs, _, hl, hm, hmm, _, hel⟩
 ·
  simp at hcs
  obtain ⟨rfl, rfl, rfl⟩ := hcs
  exact ⟨fun _ => [], ⟨none, 0, rfl, Nat.le_refl _, by simp, fun h => absurd rfl h⟩, fun i hi => absurd hi (by omega)⟩
 ·
  simp at hcs
  obtain ⟨rfl, rfl, rfl⟩ := hcs
  simp only [if_true] at hmm
  subst hmm
  rw [hc2] at hel
  by_cases h0 : len = 0
  ·
   subst h0
   exact ⟨fun _ => [], ⟨some ad, m, rfl, Nat.zero_le _, by simp, fun h => absurd rfl h⟩, fun i hi => absurd hi (by omega)⟩
  ·
   obtain ⟨cs0, hc0, _⟩ := hel 0 (by omega)
   have hsp := spot_none (w := W) (a := ad) (v := cs0.getD 0 undef) (by
    obtain ⟨_, h2, h3⟩ := World.cells?_some hc0
    have := h3 0 (by omega)
    have e : (ad.add (0 * n)).add 0 = ad := by simp [Addr.add]
    rw [e] at this
    rw [this]
    simp [List.getElem?_eq_getElem (show 0 < cs0.length by omega)])
   have key : ∀ i, i < len → ∃ cs : List Value, (cs.length = n ∧ Q cs) ∧ ∀ j, j < n → W.cell? ⟨ad.block, ad.off + i * n + j, none⟩ = cs[j]? := by
    intro i hi
    obtain ⟨cs, hc, ht⟩ := hel i (by omega)
    have e : ad.add (i * n) = ⟨ad.block, ad.off + i * n, none⟩ := by
     have := add_mk ad.block ad.off (i * n)
     rwa [← hsp] at this
    rw [e] at hc
    obtain ⟨hlen, hcell⟩ := cells_at hc
    exact ⟨cs, ⟨hlen, hop hlen ht⟩, hcell⟩
   obtain ⟨f, hf⟩ := @choose_lt (List Value) ⟨[]⟩ len _ key
   exact ⟨f, ⟨some ad, m, rfl, hl, by unfold maxLen at hm; omega, fun _ => ⟨ad.block, ad.off, by rw [hsp], fun i hi => (hf i hi).2⟩⟩, fun i hi => (hf i hi).1⟩
theorem cellsBo : Tryz.prog.cellsOf 4 = 1 := by kernel_rfl
theorem cells_rq : Tryz.prog.cellsOf 173 = 4 := by kernel_rfl
theorem open_rq {H : Type} {enc : TypeId × Value → H} {W : World} {fuel : Nat} {cs : List Value} {x : DataW H × List MemPlace} (hl : cs.length = 4)
  (h : DataW.trod enc Tryz.prog W 0 (fun _ => true) true fuel 173 cs = some x) : ∃ c : Rq, RqOk c ∧ cs = (rqA c).toList := by
 match cs, hl with
 | [v0, v1, v2, v3], _ =>
  obtain ⟨xs, n, _, _, _, hl, hf⟩ := DataW.trod_struct Tryz.underlying173 h
  have hl2 : xs.length = 4 := hl
  match xs, hl2 with
  | [y0, y1, y2, y3], _ =>
   have t0 : DataW.trod enc Tryz.prog W 0 (fun _ => true) true n 3 (([v0, v1, v2, v3].drop 0).take (Tryz.prog.cellsOf 3)) = [y0, y1, y2, y3][0]? := hf 0 _ rfl
   have t1 : DataW.trod enc Tryz.prog W 0 (fun _ => true) true n 4 (([v0, v1, v2, v3].drop 1).take (Tryz.prog.cellsOf 4)) = [y0, y1, y2, y3][1]? := hf 1 _ rfl
   have t2 : DataW.trod enc Tryz.prog W 0 (fun _ => true) true n 3 (([v0, v1, v2, v3].drop 2).take (Tryz.prog.cellsOf 3)) = [y0, y1, y2, y3][2]? := hf 2 _ rfl
   have t3 : DataW.trod enc Tryz.prog W 0 (fun _ => true) true n 3 (([v0, v1, v2, v3].drop 3).take (Tryz.prog.cellsOf 3)) = [y0, y1, y2, y3][3]? := hf 3 _ rfl
   simp only [cellsBo, cellsI] at t0 t1 t2 t3
   obtain ⟨p0, e0, _, w0⟩ := DataW.trod_int Tryz.underlying3 t0
   obtain ⟨p1, e1, _⟩ := DataW.trod_bool Tryz.underlying4 t1
   obtain ⟨p2, e2, _, w2⟩ := DataW.trod_int Tryz.underlying3 t2
   obtain ⟨p3, e3, _, w3⟩ := DataW.trod_int Tryz.underlying3 t3
   simp at e0 e1 e2 e3
   exact ⟨⟨p0, p1, p2, p3⟩, ⟨wf_i64 w0, wf_i64 w2, wf_i64 w3⟩, by simp [e0, e1, e2, e3]⟩
theorem open_rqs {H : Type} {enc : TypeId × Value → H} {W : World} {a : Option Addr} {len cap fuel : Nat} {x : DataW H × List MemPlace}
  (h : DataW.trod enc Tryz.prog W 0 (fun _ => true) true fuel 78 [.slice a len cap] = some x) : ∃ g, RdRq W (.slice a len cap) len g := by
 obtain ⟨f, ⟨a', cap', e, h1, h2, h3⟩, hq⟩ := open_rows Tryz.underlying78 cells_rq (by decide) (fun cs => ∃ c : Rq, RqOk c ∧ cs = (rqA c).toList) (fun hl ht => open_rq hl ht) h
 cases e
 obtain ⟨g, hg⟩ := @choose_lt Rq ⟨⟨0, false, 0, 0⟩⟩ len _ (fun i hi => (hq i hi).2)
 refine ⟨g, a, cap, rfl, h1, h2, fun i hi => (hg i hi).1, fun hn => ?_⟩
 obtain ⟨b, o, rfl, hc⟩ := h3 hn
 exact ⟨b, o, rfl, fun i hi j hj => by rw [hc i hi j hj, (hg i hi).2]; simp⟩
structure Cw where
 kd : Int
 nm : Int
 wh : Int
 cd : Int
 rv : Value
 tt : Int
 ot : Int
 fp : Int
 tp : Int
 s : ByteArray
abbrev cwA (c : Cw) : Array Value := #[.int .u8 c.kd, .int .i64 c.nm, .int .i64 c.wh, .int .i64 c.cd, c.rv, .int .i64 c.tt, .int .i64 c.ot, .int .i64 c.fp, .int .i64 c.tp, .string c.s]
structure CwOk (w : World) (c : Cw) : Prop where
 kd : 0 ≤ c.kd ∧ c.kd ≤ 255
 nm : i64B c.nm
 wh : i64B c.wh
 cd : i64B c.cd
 rv : ∃ n g, RdRq w c.rv n g
 tt : i64B c.tt
 ot : i64B c.ot
theorem CwOk.stay {w w' : World} {c : Cw} (h : CwOk w c) (hb : Below w.heap.size w w') : CwOk w' c :=
 ⟨h.kd, h.nm, h.wh, h.cd, by obtain ⟨n, g, h1⟩ := h.rv; exact ⟨n, g, h1.stay hb⟩, h.tt, h.ot⟩
def RdCw (w : World) (v : Value) (len : Nat) (g : Nat → Cw) : Prop :=
 ∃ a cap, v = .slice a len cap ∧ len ≤ cap ∧ len ≤ 9223372036854775807 ∧ (∀ i, i < len → CwOk w (g i)) ∧ (len ≠ 0 → ∃ b o, a = some ⟨b, o, none⟩ ∧ ∀ i, i < len → ∀ j, j < 10 → w.cell? ⟨b, o + i * 10 + j, none⟩ = (cwA (g i))[j]?)
theorem cellsU8 : Tryz.prog.cellsOf 5 = 1 := by kernel_rfl
theorem cellsStCl : Tryz.prog.cellsOf 9 = 1 := by kernel_rfl
theorem cellsRqs : Tryz.prog.cellsOf 78 = 1 := by kernel_rfl
theorem cellsUd : Tryz.prog.cellsOf 56 = 3 := by kernel_rfl
theorem cells_cw : Tryz.prog.cellsOf 103 = 10 := by kernel_rfl
theorem open_cw {H : Type} {enc : TypeId × Value → H} {W : World} {fuel : Nat} {cs : List Value} {x : DataW H × List MemPlace} (hl : cs.length = 10)
  (h : DataW.trod enc Tryz.prog W 0 (fun _ => true) true fuel 103 cs = some x) : ∃ c : Cw, CwOk W c ∧ cs = (cwA c).toList := by
 match cs, hl with
 | [v0, v1, v2, v3, v4, v5, v6, v7, v8, v9], _ =>
  obtain ⟨xs, n, _, _, _, hl, hf⟩ := DataW.trod_struct Tryz.underlying103 h
  have hl2 : xs.length = 8 := hl
  match xs, hl2 with
  | [y0, y1, y2, y3, y4, y5, y6, y7], _ =>
   have t0 : DataW.trod enc Tryz.prog W 0 (fun _ => true) true n 5 (([v0, v1, v2, v3, v4, v5, v6, v7, v8, v9].drop 0).take (Tryz.prog.cellsOf 5)) = [y0, y1, y2, y3, y4, y5, y6, y7][0]? := hf 0 _ rfl
   have t1 : DataW.trod enc Tryz.prog W 0 (fun _ => true) true n 3 (([v0, v1, v2, v3, v4, v5, v6, v7, v8, v9].drop 1).take (Tryz.prog.cellsOf 3)) = [y0, y1, y2, y3, y4, y5, y6, y7][1]? := hf 1 _ rfl
   have t2 : DataW.trod enc Tryz.prog W 0 (fun _ => true) true n 3 (([v0, v1, v2, v3, v4, v5, v6, v7, v8, v9].drop 2).take (Tryz.prog.cellsOf 3)) = [y0, y1, y2, y3, y4, y5, y6, y7][2]? := hf 2 _ rfl
   have t3 : DataW.trod enc Tryz.prog W 0 (fun _ => true) true n 3 (([v0, v1, v2, v3, v4, v5, v6, v7, v8, v9].drop 3).take (Tryz.prog.cellsOf 3)) = [y0, y1, y2, y3, y4, y5, y6, y7][3]? := hf 3 _ rfl
   have t4 : DataW.trod enc Tryz.prog W 0 (fun _ => true) true n 78 (([v0, v1, v2, v3, v4, v5, v6, v7, v8, v9].drop 4).take (Tryz.prog.cellsOf 78)) = [y0, y1, y2, y3, y4, y5, y6, y7][4]? := hf 4 _ rfl
   have t5 : DataW.trod enc Tryz.prog W 0 (fun _ => true) true n 3 (([v0, v1, v2, v3, v4, v5, v6, v7, v8, v9].drop 5).take (Tryz.prog.cellsOf 3)) = [y0, y1, y2, y3, y4, y5, y6, y7][5]? := hf 5 _ rfl
   have t6 : DataW.trod enc Tryz.prog W 0 (fun _ => true) true n 3 (([v0, v1, v2, v3, v4, v5, v6, v7, v8, v9].drop 6).take (Tryz.prog.cellsOf 3)) = [y0, y1, y2, y3, y4, y5, y6, y7][6]? := hf 6 _ rfl
   have t7 : DataW.trod enc Tryz.prog W 0 (fun _ => true) true n 56 (([v0, v1, v2, v3, v4, v5, v6, v7, v8, v9].drop 7).take (Tryz.prog.cellsOf 56)) = [y0, y1, y2, y3, y4, y5, y6, y7][7]? := hf 7 _ rfl
   simp only [cellsI, cellsU8, cellsRqs, cellsUd] at t0 t1 t2 t3 t4 t5 t6 t7
   obtain ⟨p0, e0, _, w0⟩ := DataW.trod_int Tryz.underlying5 t0
   obtain ⟨p1, e1, _, w1⟩ := DataW.trod_int Tryz.underlying3 t1
   obtain ⟨p2, e2, _, w2⟩ := DataW.trod_int Tryz.underlying3 t2
   obtain ⟨p3, e3, _, w3⟩ := DataW.trod_int Tryz.underlying3 t3
   obtain ⟨p5, e5, _, w5⟩ := DataW.trod_int Tryz.underlying3 t5
   obtain ⟨p6, e6, _, w6⟩ := DataW.trod_int Tryz.underlying3 t6
   simp at e0 e1 e2 e3 e5 e6
   have t4' : DataW.trod enc Tryz.prog W 0 (fun _ => true) true n 78 [v4] = some y4 := t4
   have hv4 : ∃ a len cap, v4 = .slice a len cap := by
    rcases open_slice Tryz.underlying78 t4' with ⟨e, _⟩ | ⟨a, len, cap, _, _, _, _, e, _⟩
    ·
     exact ⟨none, 0, 0, by simpa using e⟩
    ·
     exact ⟨some a, len, cap, by simpa using e⟩
   obtain ⟨a4, l4, c4, rfl⟩ := hv4
   obtain ⟨g4, hg4⟩ := open_rqs t4'
   have t7' : DataW.trod enc Tryz.prog W 0 (fun _ => true) true n 56 [v7, v8, v9] = some y7 := t7
   obtain ⟨xs7, n7, _, _, _, hl7, hf7⟩ := DataW.trod_struct Tryz.underlying56 t7'
   have hl72 : xs7.length = 3 := hl7
   match xs7, hl72 with
   | [u0, u1, u2], _ =>
    have s0 : DataW.trod enc Tryz.prog W 0 (fun _ => true) true n7 3 (([v7, v8, v9].drop 0).take (Tryz.prog.cellsOf 3)) = [u0, u1, u2][0]? := hf7 0 _ rfl
    have s1 : DataW.trod enc Tryz.prog W 0 (fun _ => true) true n7 3 (([v7, v8, v9].drop 1).take (Tryz.prog.cellsOf 3)) = [u0, u1, u2][1]? := hf7 1 _ rfl
    have s2 : DataW.trod enc Tryz.prog W 0 (fun _ => true) true n7 9 (([v7, v8, v9].drop 2).take (Tryz.prog.cellsOf 9)) = [u0, u1, u2][2]? := hf7 2 _ rfl
    simp only [cellsI, cellsStCl] at s0 s1 s2
    obtain ⟨q0, f0, _, _⟩ := DataW.trod_int Tryz.underlying3 s0
    obtain ⟨q1, f1, _, _⟩ := DataW.trod_int Tryz.underlying3 s1
    obtain ⟨q2, f2, _, _⟩ := DataW.trod_string Tryz.underlying9 s2
    simp at f0 f1 f2
    exact ⟨⟨p0, p1, p2, p3, .slice a4 l4 c4, p5, p6, q0, q1, q2⟩, ⟨wf_u8 w0, wf_i64 w1, wf_i64 w2, wf_i64 w3, ⟨l4, g4, hg4⟩, wf_i64 w5, wf_i64 w6⟩, by simp [e0, e1, e2, e3, e5, e6, f0, f1, f2]⟩
theorem open_cws {H : Type} {enc : TypeId × Value → H} {W : World} {a : Option Addr} {len cap fuel : Nat} {x : DataW H × List MemPlace}
  (h : DataW.trod enc Tryz.prog W 0 (fun _ => true) true fuel 90 [.slice a len cap] = some x) : ∃ g, RdCw W (.slice a len cap) len g := by
 obtain ⟨f, ⟨a', cap', e, h1, h2, h3⟩, hq⟩ := open_rows Tryz.underlying90 cells_cw (by decide) (fun cs => ∃ c : Cw, CwOk W c ∧ cs = (cwA c).toList) (fun hl ht => open_cw hl ht) h
 cases e
 obtain ⟨g, hg⟩ := @choose_lt Cw ⟨⟨0, 0, 0, 0, .slice none 0 0, 0, 0, 0, 0, ⟨#[]⟩⟩⟩ len _ (fun i hi => (hq i hi).2)
 refine ⟨g, a, cap, rfl, h1, h2, fun i hi => (hg i hi).1, fun hn => ?_⟩
 obtain ⟨b, o, rfl, hc⟩ := h3 hn
 exact ⟨b, o, rfl, fun i hi j hj => by rw [hc i hi j hj, (hg i hi).2]; simp⟩
end Go.Proofs.YtbolfkojebbejaaGreatDoor
