/- The resolver's resolve. Printed by wip/tools/gen21h.py. -/
import Derived.Test.YtbhglemolpfnkaaGreatDoorBv
import Derived.Test.YtbhglemolpfnkaaGreatDoorBu
import Derived.Test.YtbhglemolpfnkaaGreatDoorBt
import Derived.Test.YtbhglemolpfnkaaGreatDoorBb
set_option linter.unusedVariables false
set_option maxRecDepth 100000
set_option maxHeartbeats 32000000
namespace Go.Proofs.YtbhglemolpfnkaaGreatDoor
open Go.RowKit Go.Sort Go.Lib Go.Shelf

variable {w0 w : World} {D : Nat → Prop} {v : Value}
def adF (rs : List Rc) : List Int := (rs.filter fun r => r.kd == 1).map fun r => r.ad
def nxS (nx : ByteArray) (r : Rc) : ByteArray := if (r.kd == 1) = true then nx else if nx.toList.isEmpty = true then r.to else if Op.bytesLess r.to.toList nx.toList = true then r.to else nx
def nxF (rs : List Rc) : ByteArray := rs.foldl nxS ⟨#[]⟩
inductive RO where
 | addrs (l : List Int)
 | ask
 | fail (n : Int)
def lastN (ch : List ByteArray) : ByteArray := ch.getLastD ⟨#[]⟩
def foundF (now : Int) (es : List En) (rs : List Rc) (nm : ByteArray) : List Rc := if (ofN nm rs).isEmpty then lookD now nm es else ofN nm rs
def knownF (now : Int) (es : List En) (rs : List Rc) (nm : ByteArray) : Bool := if (ofN nm rs).isEmpty then knwD now nm es else false
def rslF (now : Int) (es : List En) (rs : List Rc) : Nat → List ByteArray → List ByteArray × RO
 | 0, ch => (ch, .fail 212)
 | f + 1, ch =>
  if adF (foundF now es rs (lastN ch)) ≠ [] then (ch, .addrs (compZ (sortZ (adF (foundF now es rs (lastN ch))))))
  else if (nxF (foundF now es rs (lastN ch))).toList.isEmpty = true then (if knownF now es rs (lastN ch) = true then (ch, .fail 211) else (ch, .ask))
  else if hasS (nxF (foundF now es rs (lastN ch))) ch = true ∨ 4 < ch.length then (ch, .fail 212)
  else rslF now es rs f (ch ++ [nxF (foundF now es rs (lastN ch))])
section
variable {now : Int} {es : List En} {rs : List Rc} {f : Nat} {ch ch' : List ByteArray} {ro : RO} {nm : ByteArray} {fo : List Rc} {kn : Bool}
theorem rslF_addrs (h : rslF now es rs (f + 1) ch = (ch', ro)) (hn : lastN ch = nm) (hf : foundF now es rs nm = fo) (ha : adF fo ≠ []) : ch' = ch ∧ ro = .addrs (compZ (sortZ (adF fo))) := by
 subst hn hf
 unfold rslF at h
 rw [if_pos ha] at h
 cases h; exact ⟨rfl, rfl⟩
theorem rslF_known (h : rslF now es rs (f + 1) ch = (ch', ro)) (hn : lastN ch = nm) (hf : foundF now es rs nm = fo) (ha : adF fo = []) (hx : (nxF fo).toList.isEmpty = true) (hk : knownF now es rs nm = true) : ch' = ch ∧ ro = .fail 211 := by
 subst hn hf
 unfold rslF at h
 rw [if_neg (fun h => h ha), if_pos hx, if_pos hk] at h
 cases h; exact ⟨rfl, rfl⟩
theorem rslF_ask (h : rslF now es rs (f + 1) ch = (ch', ro)) (hn : lastN ch = nm) (hf : foundF now es rs nm = fo) (ha : adF fo = []) (hx : (nxF fo).toList.isEmpty = true) (hk : knownF now es rs nm = false) : ch' = ch ∧ ro = .ask := by
 subst hn hf
 unfold rslF at h
 rw [if_neg (fun h => h ha), if_pos hx, if_neg (by rw [hk]; decide)] at h
 cases h; exact ⟨rfl, rfl⟩
theorem rslF_loop (h : rslF now es rs (f + 1) ch = (ch', ro)) (hn : lastN ch = nm) (hf : foundF now es rs nm = fo) (ha : adF fo = []) (hx : (nxF fo).toList.isEmpty = false) (hk : hasS (nxF fo) ch = true ∨ 4 < ch.length) : ch' = ch ∧ ro = .fail 212 := by
 subst hn hf
 unfold rslF at h
 rw [if_neg (fun h => h ha), if_neg (by rw [hx]; decide), if_pos hk] at h
 cases h; exact ⟨rfl, rfl⟩
theorem rslF_on (h : rslF now es rs (f + 1) ch = (ch', ro)) (hn : lastN ch = nm) (hf : foundF now es rs nm = fo) (ha : adF fo = []) (hx : (nxF fo).toList.isEmpty = false) (hk : ¬ (hasS (nxF fo) ch = true ∨ 4 < ch.length)) : rslF now es rs f (ch ++ [nxF fo]) = (ch', ro) := by
 subst hn hf
 unfold rslF at h
 rwa [if_neg (fun h => h ha), if_neg (by rw [hx]; decide), if_neg hk] at h
end
def failV (n : Int) : Value := .iface 188 (.agg #[.int .i64 n])
def roV : RO → Value → List Res → Prop
 | .addrs l, v, L => ∃ u, v = .tuple #[u, .bool true, .nilIface] ∧ L = [rowR u 3 1 l.length (l.map cIn)]
 | .ask, v, L => v = .tuple #[.slice none 0 0, .bool false, .nilIface] ∧ L = []
 | .fail n, v, L => v = .tuple #[.slice none 0 0, .bool false, failV n] ∧ L = []
def ResPost (w0 : World) (D : Nat → Prop) (a b : Nat) (vr : Value) (st : Rv) (rs : List Rc) (k' : Lk) (ro : RO) (e : Ending) (w' : World) : Prop := ∃ v L', roV ro v L' ∧ e = .returned v ∧ Own w0 D w' (resV a st :: resK b k' :: rowRc vr rs :: L')
theorem nx_snoc (rs : List Rc) (r : Rc) : nxF (rs ++ [r]) = nxS (nxF rs) r := by simp [nxF, List.foldl_append]
theorem ad_snoc (rs : List Rc) (r : Rc) : adF (rs ++ [r]) = if (r.kd == 1) = true then adF rs ++ [r.ad] else adF rs := by
 unfold adF
 rw [List.filter_append, List.map_append]
 cases h : (r.kd == 1) <;> simp [h]
theorem take_snoc {α : Type} {l : List α} {k : Nat} (h : k < l.length) : l.take (k + 1) = l.take k ++ [l[k]] := List.take_succ_eq_append_getElem h
theorem ad_len (rs : List Rc) : (adF rs).length ≤ rs.length := by unfold adF; rw [List.length_map]; exact List.length_filter_le _ _
theorem comp_le (l : List Int) : (compZ l).length ≤ l.length := Lib.compact_length_le l
theorem res_close {a b : Nat} {x : RvX} {st : Rv} {k : Lk} {r : Res} (h : Own w0 D w [blkK b v k, rowK v k.ch, blkV a x.vs x.c x.vw x.vd st.sd st.tk st.qn, rowVs x.vs st.sv, resC x.c st.es, rowVw x.vw st.wt, rowVd x.vd st.dl st.dn, r]) : Own w0 D w [resV a st, resK b k, r] := by
 have h1 := shutK (L := [blkV a x.vs x.c x.vw x.vd st.sd st.tk st.qn, rowVs x.vs st.sv, resC x.c st.es, rowVw x.vw st.wt, rowVd x.vd st.dl st.dn, r]) h
 have h2 : Own w0 D w (partsV a x st ++ [resK b k, r]) := h1.toEnd 7 [1, 2, 3, 4, 5, 0, 6] rfl rfl
 exact shutV h2
theorem res_close4 {a b : Nat} {x : RvX} {st : Rv} {k : Lk} {r q : Res} (h : Own w0 D w [blkK b v k, rowK v k.ch, blkV a x.vs x.c x.vw x.vd st.sd st.tk st.qn, rowVs x.vs st.sv, resC x.c st.es, rowVw x.vw st.wt, rowVd x.vd st.dl st.dn, r, q]) : Own w0 D w [resV a st, resK b k, r, q] := by
 have h1 := shutK (L := [blkV a x.vs x.c x.vw x.vd st.sd st.tk st.qn, rowVs x.vs st.sv, resC x.c st.es, rowVw x.vw st.wt, rowVd x.vd st.dl st.dn, r, q]) h
 have h2 : Own w0 D w (partsV a x st ++ [resK b k, r, q]) := h1.toEnd 8 [1, 2, 3, 4, 5, 0, 6, 7] rfl rfl
 exact shutV h2
theorem res_open {a b : Nat} {st : Rv} {k : Lk} {r : Res} (h : Own w0 D w [resV a st, resK b k, r]) : ∃ (x : RvX) (v : Value), Own w0 D w [blkK b v k, rowK v k.ch, blkV a x.vs x.c x.vw x.vd st.sd st.tk st.qn, rowVs x.vs st.sv, resC x.c st.es, rowVw x.vw st.wt, rowVd x.vd st.dl st.dn, r] := by
 obtain ⟨x, h1⟩ := openV h
 have h2 : Own w0 D w (resK b k :: [blkV a x.vs x.c x.vw x.vd st.sd st.tk st.qn, rowVs x.vs st.sv, resC x.c st.es, rowVw x.vw st.wt, rowVd x.vd st.dl st.dn, r]) := h1.toEnd 7 [5, 0, 1, 2, 3, 4, 6] rfl rfl
 obtain ⟨v, h3⟩ := openK h2
 exact ⟨x, v, h3⟩
theorem run_bs1I (n : Int) (w : World) : (Instr.buildSlice 31 1 #[(0, .int .i64 n)]).run Tryz.prog w = .ok (.slice (some ⟨w.heap.size, 0, none⟩) 1 1) (w.alloc (.cells #[.int .i64 n] 3)) := by kernel_rfl
theorem run_bs1S (s : ByteArray) (w : World) : (Instr.buildSlice 63 1 #[(0, .string s)]).run Tryz.prog w = .ok (.slice (some ⟨w.heap.size, 0, none⟩) 1 1) (w.alloc (.cells #[.string s] 9)) := by kernel_rfl
theorem infoSt : (Tryz.prog.info? 9).map (fun i => (i.zero, i.size, i.bytes)) = some (some (.string ⟨#[]⟩), 1, 16) := by kernel_rfl
theorem run_bdFl (n : Int) (w : World) : (Instr.build 188 #[(0, .int .i64 n)]).run Tryz.prog w = .ok (.agg #[.int .i64 n]) w := by kernel_rfl
theorem lastN_get {ch : List ByteArray} {mi : Nat} (h : mi + 1 = ch.length) : ch[mi]? = some (lastN ch) := by
 unfold lastN
 rw [List.getLastD_eq_getLast?, List.getLast?_eq_getElem?]
 have : ch.length - 1 = mi := by omega
 rw [this]
 rw [List.getElem?_eq_getElem (by omega)]; rfl
theorem resolve_o {a b : Nat} {sv : List Int} {sd : Int} {es : List En} {tk qn : Int} {wt : List Nat} {dl : Nat} {dn : List Value} {lt tr nu se s0 now : Int} {vr : Value} {rs : List Rc} (hl : rs.length ≤ 1000) (hes : es.length ≤ 32) (hap : es.Pairwise aprt) :
  ∀ (f : Nat) (w0 w : World) (D : Nat → Prop) (ch ch' : List ByteArray) (ro : RO), ch.length + f = 6 → 0 < ch.length ∧ ch.length ≤ 5 → rslF now es rs f ch = (ch', ro) → Own w0 D w [resV a ⟨sv, sd, es, tk, qn, wt, dl, dn⟩, resK b ⟨lt, ch, tr, nu, se, s0⟩, rowRc vr rs] →
  Calls Tryz.prog 81 #[.pointer (some ⟨a, 0, none⟩), .int .i64 now, .pointer (some ⟨b, 0, none⟩), vr] w (ResPost w0 D a b vr ⟨sv, sd, es, tk, qn, wt, dl, dn⟩ rs ⟨lt, ch', tr, nu, se, s0⟩ ro) := by
 have HRL := Hi hl
 have HES := Hi hes
 have HAP := Hi hap
 clear hl hes hap
 intro f
 induction f with
 | zero =>
  intro w0 w D ch ch' ro h1 h2 h3 h
  omega
 | succ f ih =>
  intro w0 w D ch ch' ro h1 h2 h3 h
  have HIH := Hi ih
  have HRF := Hi h3
  have HF := Hi h1
  clear ih h3
  obtain ⟨⟨vs, c, vw, vd⟩, vk, hO⟩ := res_open h
  have hrk := hO.row 1 rfl
  have hrr := hO.row 7 rfl
  obtain ⟨ka, kc, rfl⟩ := row_shape hrk
  obtain ⟨m, hm⟩ : ∃ m, ch.length = m := ⟨_, rfl⟩
  have HM := Hi hm
  obtain ⟨mi, hmi⟩ : ∃ mi, mi + 1 = m := ⟨m - 1, by omega⟩
  have HMI := Hi hmi
  have HLN := Hi (lastN_get (ch := ch) (mi := mi) (by omega))
  have HML := Hi (show 0 < m ∧ m ≤ 5 by omega)
  rw [hm] at hrk
  obtain ⟨gk, rfl⟩ := row_some hrk (by omega)
  obtain ⟨ra, rcp, rfl⟩ := row_shape hrr
  obtain ⟨rn, hrn⟩ : ∃ rn, rs.length = rn := ⟨_, rfl⟩
  have HRN := Hi hrn
  rw [hrn] at hO HIH ⊢
  rw [hm] at hO
  have bm0 : (m : Int) ≤ 5 := by omega
  generalize hnm : lastN ch = nm at *
  have HNM := Hi hnm
  clear hrk hrr h1 h2 hm hmi h hnm hrn
  have HO := Hi (show Own w0 D w [blkR b (.cells #[.int .i64 lt, .slice (some ⟨gk, 0, none⟩) m kc, .int .i64 tr, .int .i64 nu, .int .i64 se, .int .i64 s0] 107), rowR (.slice (some ⟨gk, 0, none⟩) m kc) 9 1 m (ch.map cSt), blkR a (.cells #[vs, .int .i64 sd, .pointer (some ⟨c, 0, none⟩), .int .i64 tk, .int .i64 qn, vw, vd] 103), rowVs vs sv, resC c es, rowVw vw wt, rowVd vd dl dn, rowRc (.slice ra rn rcp) rs] by rw [← HM.out]; rw [← HM.out] at hO; exact hO)
  clear hO
  go_enter Tryz.func81, Tryz.ntmps81
  have z0_1 : w.cell? _ = some (.slice (some ⟨gk, 0, none⟩) m kc) := HO.out.cell 0 rfl 1 rfl
  go_wp2_with fail
  refine (o_still HO.out (current_r (i := mi) _ (HO.out.cell 0 rfl 1 rfl) (HO.out.row 1 rfl) HMI.out (by have := HML.out; omega) (by rw [List.getElem?_map, HLN.out]; rfl))).mono ?_
  rintro e x1 ⟨rfl, hO, -⟩
  replace HO := Hi hO
  clear hO
  clear z0_1
  go_wp2_with fail
  refine (o_frameV [blkR b (.cells #[.int .i64 lt, .slice (some ⟨gk, 0, none⟩) m kc, .int .i64 tr, .int .i64 nu, .int .i64 se, .int .i64 s0] 107), rowR (.slice (some ⟨gk, 0, none⟩) m kc) 9 1 m (ch.map cSt), blkR a (.cells #[vs, .int .i64 sd, .pointer (some ⟨c, 0, none⟩), .int .i64 tk, .int .i64 qn, vw, vd] 103), rowVs vs sv, resC c es, rowVw vw wt, rowVd vd dl dn] [rowRc (.slice ra rn rcp) rs] _ HO.out (fun D' hD => named_o nm hD HRL.out)).mono ?_
  rintro e x2 ⟨u, rfl, hO, -⟩
  replace HO := Hi (show Own _ _ _ [_, _, _, _, _, _, _, _, rowRc u (ofN nm rs)] from hO)
  clear hO
  obtain ⟨ua, uc, rfl⟩ := row_shape (HO.out.row 8 rfl)
  obtain ⟨n, hn⟩ : ∃ n, (ofN nm rs).length = n := ⟨_, rfl⟩
  have HN := Hi hn
  have HNL := Hi (show n ≤ 1000 by rw [← hn]; exact Nat.le_trans (List.length_filter_le _ _) HRL.out)
  rw [hn] at HO ⊢
  clear hn
  by_cases hz : n = 0
  ·
   obtain rfl : n = 0 := hz
   have HFO := Hi (show foundF now es rs nm = lookD now nm es ∧ knownF now es rs nm = knwD now nm es by
    have : (ofN nm rs).isEmpty = true := by
     cases hh : ofN nm rs with
     | nil => rfl
     | cons x l => have := HN.out; rw [hh] at this; cases this
    unfold foundF knownF
    rw [this]; exact ⟨rfl, rfl⟩)
   obtain ⟨fo, hfo⟩ : ∃ fo, lookD now nm es = fo := ⟨_, rfl⟩
   obtain ⟨kn, hkn⟩ : ∃ kn, knwD now nm es = kn := ⟨_, rfl⟩
   have HFL := Hi (show fo.length ≤ 1000 by
    rw [← hfo, lookD_len]
    have := recs_len_le now nm es
    have := HES.out
    omega)
   have HLK := Hi (And.intro hfo hkn)
   rw [hfo, hkn] at HFO
   clear hfo hkn
   have z2_2 : x2.cell? _ = some (.pointer (some ⟨c, 0, none⟩)) := HO.out.cell 2 rfl 2 rfl
   go_wp2_with fail
   refine (look_d (m := fo) (k := kn) now nm HO.out 4 rfl HES.out HAP.out HLK.out.1 HLK.out.2).mono ?_
   rintro e x3 ⟨fa, fc, rfl, hO, -⟩
   replace hO := hO.toEnd 10 [0, 1, 2, 3, 4, 5, 6, 7, 9] rfl rfl
   clear HN HNL
   obtain ⟨n, hn⟩ : ∃ n, fo.length = n := ⟨_, rfl⟩
   have HN := Hi hn
   have HNL := Hi (show n ≤ 1000 by rw [← hn]; exact HFL.out)
   rw [hn] at hO ⊢
   clear hn
   clear z2_2
   replace HO := Hi (show Own w0 D x3 [blkR b (.cells #[.int .i64 lt, .slice (some ⟨gk, 0, none⟩) m kc, .int .i64 tr, .int .i64 nu, .int .i64 se, .int .i64 s0] 107), rowR (.slice (some ⟨gk, 0, none⟩) m kc) 9 1 m (ch.map cSt), blkR a (.cells #[vs, .int .i64 sd, .pointer (some ⟨c, 0, none⟩), .int .i64 tk, .int .i64 qn, vw, vd] 103), rowVs vs sv, resC c es, rowVw vw wt, rowVd vd dl dn, rowRc (.slice ra rn rcp) rs, rowRc (.slice fa n fc) fo] from by rw [← HN.out]; rw [← HN.out] at hO; exact hO)
   clear hO
   clear HFL
   go_wp2
   go_loopw [14, 15, 38] (fun av nv iv wr => ∃ k : Nat, k ≤ n ∧ iv = .int .i64 k ∧ nv = .string (nxF (fo.take k)) ∧ Own w0 D wr [blkR b (.cells #[.int .i64 lt, .slice (some ⟨gk, 0, none⟩) m kc, .int .i64 tr, .int .i64 nu, .int .i64 se, .int .i64 s0] 107), rowR (.slice (some ⟨gk, 0, none⟩) m kc) 9 1 m (ch.map cSt), blkR a (.cells #[vs, .int .i64 sd, .pointer (some ⟨c, 0, none⟩), .int .i64 tk, .int .i64 qn, vw, vd] 103), rowVs vs sv, resC c es, rowVw vw wt, rowVd vd dl dn, rowRc (.slice ra rn rcp) rs, rowRc (.slice fa n fc) fo, rowR av 3 1 (adF (fo.take k)).length ((adF (fo.take k)).map cIn)]) (fun _ _ iv _ => n - (intOf iv).toNat)
   case atStart => exact ⟨0, Nat.zero_le _, rfl, rfl, HO.out.rowNew _ _⟩
   case round =>
    obtain ⟨k, hk, rfl, rfl, hO⟩ := hrel
    replace HO := Hi hO
    obtain ⟨aa, ac, rfl⟩ := row_shape (hO.row 9 rfl)
    clear hO
    have hb1 : (n : Int) ≤ 1000 := by have := HNL.out; omega
    have HKL := Hi (show (adF (fo.take k)).length ≤ k from Nat.le_trans (ad_len _) (List.length_take_le _ _))
    by_cases hlt : k < n
    ·
     have hkl : k < fo.length := by rw [HN.out]; exact hlt
     have hrw := HO.out.row 8 rfl
     rw [HN.out] at hrw
     obtain ⟨g, rfl⟩ := row_some hrw (by omega)
     have yc : ∀ q u, q < 5 → (cRc fo[k])[q]? = some u → wr.cell? ⟨g, k * 5 + q, none⟩ = some u := fun q u hq hu => (row_cells hrw).1 _ _ (by rw [flat_getR cRc 5 (fun _ => rfl) fo k hkl q hq]; exact hu)
     have HTK := Hi (take_snoc hkl)
     generalize fo[k] = r at *
     obtain ⟨nm2, kd, tt, ad, to⟩ := r
     have HAS := Hi (ad_snoc (fo.take k) ⟨nm2, kd, tt, ad, to⟩)
     have HNS := Hi (nx_snoc (fo.take k) ⟨nm2, kd, tt, ad, to⟩)
     rw [← HTK.out] at HAS HNS
     clear HTK
     obtain ⟨q, hq⟩ : ∃ q, (adF (fo.take k)).length = q := ⟨_, rfl⟩
     have HQ := Hi hq
     rw [hq] at HO HKL ⊢
     generalize hnx : nxF (fo.take k) = nx at *
     clear hq hnx
     have y0 : wr.cell? ⟨g, k * 5, none⟩ = some (.string nm2) := yc 0 _ (by decide) rfl
     have y1 : wr.cell? ⟨g, k * 5 + 1, none⟩ = some (.int .i64 kd) := yc 1 _ (by decide) rfl
     have y2 : wr.cell? ⟨g, k * 5 + 2, none⟩ = some (.int .i64 tt) := yc 2 _ (by decide) rfl
     have y3 : wr.cell? ⟨g, k * 5 + 3, none⟩ = some (.int .i64 ad) := yc 3 _ (by decide) rfl
     have y4 : wr.cell? ⟨g, k * 5 + 4, none⟩ = some (.string to) := yc 4 _ (by decide) rfl
     clear yc hrw hkl
     replace HO := Hi (show Own w0 D wr [blkR b (.cells #[.int .i64 lt, .slice (some ⟨gk, 0, none⟩) m kc, .int .i64 tr, .int .i64 nu, .int .i64 se, .int .i64 s0] 107), rowR (.slice (some ⟨gk, 0, none⟩) m kc) 9 1 m (ch.map cSt), blkR a (.cells #[vs, .int .i64 sd, .pointer (some ⟨c, 0, none⟩), .int .i64 tk, .int .i64 qn, vw, vd] 103), rowVs vs sv, resC c es, rowVw vw wt, rowVd vd dl dn, rowRc (.slice ra rn rcp) rs, rowRc (.slice (some ⟨g, 0, none⟩) n fc) fo, rowR (.slice aa q ac) 3 1 q ((adF (fo.take k)).map cIn)] from by rw [← HQ.out]; have := HO.out; rw [← HQ.out] at this; exact this)
     obtain ⟨x24, hx24, bx, hbx, hO⟩ := HO.out.allocE (.cells #[.string ⟨#[]⟩, .int .i64 0, .int .i64 0, .int .i64 0, .string ⟨#[]⟩] 131)
     replace HO := Hi (show Own _ _ _ [_, _, _, _, _, _, _, _, _, _, blkR bx (.cells #[.string ⟨#[]⟩, .int .i64 0, .int .i64 0, .int .i64 0, .string ⟨#[]⟩] 131)] from hO)
     clear hO
     obtain ⟨x30, x35, x39, x42, x44, hx30, hx35, hx39, hx42, hx44, k10_0_25, lk10_0_25, k10_1_31, lk10_1_31, k10_2_36, lk10_2_36, k10_3_40, lk10_3_40, k10_4_43, lk10_4_43, hO⟩ := HO.out.steps5 10 rfl (.string nm2) (.int .i64 kd) (.int .i64 tt) (.int .i64 ad) (.string to)
     replace HO := Hi (show Own _ _ _ [_, _, _, _, _, _, _, _, _, _, blkR bx (.cells #[.string nm2, .int .i64 kd, .int .i64 tt, .int .i64 ad, .string to] 131)] from hO)
     clear hO
     obtain ⟨z10_0, z10_1, z10_2, z10_3, z10_4⟩ := HO.out.c5 10 rfl
     cases he : (kd == 1) with
     | true =>
      have rb := run_bs1I ad
      have HA2 := Hi (show adF (fo.take (k + 1)) = adF (fo.take k) ++ [ad] by rw [HAS.out, if_pos he])
      have HX2 := Hi (show nxF (fo.take (k + 1)) = nx by rw [HNS.out]; unfold nxS; rw [if_pos he])
      clear HAS HNS
      obtain ⟨x45, hx45, bn, hbn, hO⟩ := HO.out.allocE (.cells #[.int .i64 ad] 3)
      replace HO := Hi (show Own _ _ _ [_, _, _, _, _, _, _, _, _, _, _, blkR bn (.cells #[.int .i64 ad] 3)] from hO)
      clear hO
      go_wp2_with ((at_builtin; refine (show _ = True → _ from fun h => of_eq_true h) ?_))
      refine eq_true ?_
      refine wpList_appO rfl (.tmp 46) (.tmp 49) 31 rfl Tryz.underlying31 info_I rfl (by decide) HO.out 9 rfl rfl 11 1 1 [.int .i64 ad] rfl rfl rfl (fun u hu => by simp at hu; subst hu; rfl) (by have := HKL.out; have := HNL.out; unfold maxLen; omega) (by have := HKL.out; have := HNL.out; omega) ?_
      intro v9 x9 hO
      clear hx24 hbx k10_0_25 lk10_0_25 hx30 k10_1_31 lk10_1_31 hx35 k10_2_36 lk10_2_36 hx39 k10_3_40 lk10_3_40 hx42 k10_4_43 lk10_4_43 hx44 z10_0 z10_1 z10_2 z10_3 z10_4 hx45 hbn
      clear rb y0 y1 y2 y3 y4 he
      simp only [l_S, l_Z] at hO
      have HO9 := Hi (show Own w0 D x9 [blkR b (.cells #[.int .i64 lt, .slice (some ⟨gk, 0, none⟩) m kc, .int .i64 tr, .int .i64 nu, .int .i64 se, .int .i64 s0] 107), rowR (.slice (some ⟨gk, 0, none⟩) m kc) 9 1 m (ch.map cSt), blkR a (.cells #[vs, .int .i64 sd, .pointer (some ⟨c, 0, none⟩), .int .i64 tk, .int .i64 qn, vw, vd] 103), rowVs vs sv, resC c es, rowVw vw wt, rowVd vd dl dn, rowRc (.slice ra rn rcp) rs, rowRc (.slice (some ⟨g, 0, none⟩) n fc) fo, rowR v9 3 1 (adF (fo.take (k + 1))).length ((adF (fo.take (k + 1))).map cIn)] by
       rw [HA2.out, List.length_append, List.map_append, HQ.out]
       exact hO.take 10)
      clear hO
      go_wp2
      go_roundw
      case rel => exact ⟨k + 1, by omega, by go_num, by rw [HX2.out], HO9.out⟩
      case measure => simp [intOf]; omega
     | false =>
      have HA2 := Hi (show adF (fo.take (k + 1)) = adF (fo.take k) by rw [HAS.out, if_neg (by simp [he])])
      have HO9 := Hi (show Own w0 D x44 [blkR b (.cells #[.int .i64 lt, .slice (some ⟨gk, 0, none⟩) m kc, .int .i64 tr, .int .i64 nu, .int .i64 se, .int .i64 s0] 107), rowR (.slice (some ⟨gk, 0, none⟩) m kc) 9 1 m (ch.map cSt), blkR a (.cells #[vs, .int .i64 sd, .pointer (some ⟨c, 0, none⟩), .int .i64 tk, .int .i64 qn, vw, vd] 103), rowVs vs sv, resC c es, rowVw vw wt, rowVd vd dl dn, rowRc (.slice ra rn rcp) rs, rowRc (.slice (some ⟨g, 0, none⟩) n fc) fo, rowR (.slice aa q ac) 3 1 (adF (fo.take (k + 1))).length ((adF (fo.take (k + 1))).map cIn)] by
       rw [HA2.out, HQ.out]
       exact HO.out.take 10)
      cases hz : nx.toList.isEmpty with
      | true =>
       have hz1 : nx.toList = [] := by simpa using hz
       have HX2 := Hi (show nxF (fo.take (k + 1)) = to by rw [HNS.out]; unfold nxS; rw [if_neg (by rw [he]; decide), if_pos hz])
       clear HAS HNS
       go_wp2
       go_roundw
       case rel => exact ⟨k + 1, by omega, by go_num, by rw [HX2.out], HO9.out⟩
       case measure => simp [intOf]; omega
      | false =>
       have hz1 : ¬ nx.toList = [] := by simpa using hz
       cases hq : Op.bytesLess to.toList nx.toList with
       | true =>
        have HX2 := Hi (show nxF (fo.take (k + 1)) = to by rw [HNS.out]; unfold nxS; rw [if_neg (by rw [he]; decide), if_neg (by rw [hz]; decide), if_pos hq])
        clear HAS HNS
        go_wp2
        go_roundw
        case rel => exact ⟨k + 1, by omega, by go_num, by rw [HX2.out], HO9.out⟩
        case measure => simp [intOf]; omega
       | false =>
        have HX2 := Hi (show nxF (fo.take (k + 1)) = nx by rw [HNS.out]; unfold nxS; rw [if_neg (by rw [he]; decide), if_neg (by rw [hz]; decide), if_neg (by rw [hq]; decide)])
        clear HAS HNS
        go_wp2
        go_roundw
        case rel => exact ⟨k + 1, by omega, by go_num, by rw [HX2.out], HO9.out⟩
        case measure => simp [intOf]; omega
    ·
     obtain rfl : n = k := by omega
     have hd : decide ((n : Int) < (n : Int)) = false := decide_eq_false (by omega)
     have HT := Hi (show fo.take n = fo by rw [← HN.out]; exact List.take_length)
     rw [HT.out] at HO HKL ⊢
     clear HT
     obtain ⟨q, hq⟩ : ∃ q, (adF fo).length = q := ⟨_, rfl⟩
     have HQ := Hi hq
     rw [hq] at HO HKL ⊢
     obtain ⟨nx, hnx⟩ : ∃ nx, nxF fo = nx := ⟨_, rfl⟩
     have HNX := Hi hnx
     rw [hnx]
     have hbq : (q : Int) ≤ 1000 := by have := HKL.out; have := HNL.out; omega
     clear hq hnx
     replace HO := Hi (show Own w0 D wr [blkR b (.cells #[.int .i64 lt, .slice (some ⟨gk, 0, none⟩) m kc, .int .i64 tr, .int .i64 nu, .int .i64 se, .int .i64 s0] 107), rowR (.slice (some ⟨gk, 0, none⟩) m kc) 9 1 m (ch.map cSt), blkR a (.cells #[vs, .int .i64 sd, .pointer (some ⟨c, 0, none⟩), .int .i64 tk, .int .i64 qn, vw, vd] 103), rowVs vs sv, resC c es, rowVw vw wt, rowVd vd dl dn, rowRc (.slice ra rn rcp) rs, rowRc (.slice fa n fc) fo, rowR (.slice aa q ac) 3 1 q ((adF fo).map cIn)] from by rw [← HQ.out]; have := HO.out; rw [← HQ.out] at this; exact this)
     by_cases hq0 : q = 0
     ·
      have HA0 := Hi (show adF fo = [] from List.eq_nil_of_length_eq_zero (by rw [HQ.out]; exact hq0))
      have hdq : decide ((q : Int) > 0) = false := decide_eq_false (by omega)
      have hdq2 : decide ((0 : Int) < (q : Int)) = false := decide_eq_false (by omega)
      cases hz : nx.toList.isEmpty with
      | true =>
       have hz1 : nx.toList = [] := by simpa using hz
       cases kn with
       | true =>
        have HRR := Hi (rslF_known HRF.out HNM.out HFO.out.1 HA0.out (by rw [HNX.out]; exact hz) HFO.out.2)
        have hrb := run_bdFl
        go_wp2
        go_ret3
        obtain ⟨hr1, hr2⟩ := HRR.out
        rw [hr1, hr2]
        exact ⟨_, [], ⟨rfl, rfl⟩, rfl, res_close (x := ⟨vs, c, vw, vd⟩) (v := .slice (some ⟨gk, 0, none⟩) ch.length kc) (k := ⟨lt, ch, tr, nu, se, s0⟩) (by have := HO.out.take 8; rw [← HM.out] at this; exact this)⟩
       | false =>
        have HRR := Hi (rslF_ask HRF.out HNM.out HFO.out.1 HA0.out (by rw [HNX.out]; exact hz) HFO.out.2)
        have hrb := run_bdFl
        go_wp2
        go_ret3
        obtain ⟨hr1, hr2⟩ := HRR.out
        rw [hr1, hr2]
        exact ⟨_, [], ⟨rfl, rfl⟩, rfl, res_close (x := ⟨vs, c, vw, vd⟩) (v := .slice (some ⟨gk, 0, none⟩) ch.length kc) (k := ⟨lt, ch, tr, nu, se, s0⟩) (by have := HO.out.take 8; rw [← HM.out] at this; exact this)⟩
      | false =>
       have hz1 : ¬ nx.toList = [] := by simpa using hz
       have z0_1 : wr.cell? _ = some (.slice (some ⟨gk, 0, none⟩) m kc) := HO.out.cell 0 rfl 1 rfl
       cases hs : hasS nx ch with
       | true =>
        go_wp2_with fail
        refine (containsS_r _ (HO.out.row 1 rfl) HML.out.1 (by have := HML.out; omega) hs).mono ?_
        rintro e xp ⟨rfl, rfl⟩
        have HRR := Hi (rslF_loop HRF.out HNM.out HFO.out.1 HA0.out (by rw [HNX.out]; exact hz) (.inl (by rw [HNX.out]; exact hs)))
        have hrb := run_bdFl
        go_wp2
        go_ret3
        obtain ⟨hr1, hr2⟩ := HRR.out
        rw [hr1, hr2]
        exact ⟨_, [], ⟨rfl, rfl⟩, rfl, res_close (x := ⟨vs, c, vw, vd⟩) (v := .slice (some ⟨gk, 0, none⟩) ch.length kc) (k := ⟨lt, ch, tr, nu, se, s0⟩) (by have := HO.out.take 8; rw [← HM.out] at this; exact this)⟩
       | false =>
        go_wp2_with fail
        refine (containsS_r _ (HO.out.row 1 rfl) HML.out.1 (by have := HML.out; omega) hs).mono ?_
        rintro e xp ⟨rfl, rfl⟩
        by_cases h4 : 4 < m
        ·
         have h41 : decide ((m : Int) > 4) = true := decide_eq_true (by omega)
         have h42 : decide ((4 : Int) < (m : Int)) = true := decide_eq_true (by omega)
         have HRR := Hi (rslF_loop HRF.out HNM.out HFO.out.1 HA0.out (by rw [HNX.out]; exact hz) (.inr (by rw [HM.out]; exact h4)))
         have hrb := run_bdFl
         go_wp2
         go_ret3
         obtain ⟨hr1, hr2⟩ := HRR.out
         rw [hr1, hr2]
         exact ⟨_, [], ⟨rfl, rfl⟩, rfl, res_close (x := ⟨vs, c, vw, vd⟩) (v := .slice (some ⟨gk, 0, none⟩) ch.length kc) (k := ⟨lt, ch, tr, nu, se, s0⟩) (by have := HO.out.take 8; rw [← HM.out] at this; exact this)⟩
        ·
         have h41 : decide ((m : Int) > 4) = false := decide_eq_false (by omega)
         have h42 : decide ((4 : Int) < (m : Int)) = false := decide_eq_false (by omega)
         have HON := Hi (rslF_on HRF.out HNM.out HFO.out.1 HA0.out (by rw [HNX.out]; exact hz) (by rw [HNX.out, HM.out]; intro h; rcases h with h | h; rw [hs] at h; cases h; exact h4 h))
         have H4 := Hi (show m ≤ 4 by omega)
         rw [HNX.out] at HON
         have rb := run_bs1S nx
         obtain ⟨x44, hx44, bn, hbn, hO⟩ := HO.out.allocE (.cells #[.string nx] 9)
         replace HO := Hi (show Own w0 D x44 [blkR b (.cells #[.int .i64 lt, .slice (some ⟨gk, 0, none⟩) m kc, .int .i64 tr, .int .i64 nu, .int .i64 se, .int .i64 s0] 107), rowR (.slice (some ⟨gk, 0, none⟩) m kc) 9 1 m (ch.map cSt), blkR a (.cells #[vs, .int .i64 sd, .pointer (some ⟨c, 0, none⟩), .int .i64 tk, .int .i64 qn, vw, vd] 103), rowVs vs sv, resC c es, rowVw vw wt, rowVd vd dl dn, rowRc (.slice ra rn rcp) rs, rowRc (.slice fa n fc) fo, rowR (.slice aa q ac) 3 1 q ((adF fo).map cIn), blkR bn (.cells #[.string nx] 9)] from hO)
         clear hO
         go_wp2_with ((at_builtin; refine (show _ = True → _ from fun h => of_eq_true h) ?_))
         refine eq_true ?_
         refine wpList_appO rfl (.tmp 94) (.tmp 96) 63 rfl Tryz.underlying63 infoSt rfl (by decide) HO.out 1 rfl rfl 10 1 1 [.string nx] rfl rfl rfl (fun u hu => by simp at hu; subst hu; rfl) (by have := HML.out; unfold maxLen; omega) (by have := HML.out; omega) ?_
         intro v9 x9 hO
         clear z0_1 hx44 hbn
         clear rb hs hz hz1 h4 h41 h42 hdq hdq2
         simp only [l_S, l_Z] at hO
         replace HO := Hi (show Own w0 D x9 [_, rowR v9 9 1 (m + 1) (ch.map cSt ++ [.string nx]), _, _, _, _, _, _] from Own.take hO 8)
         clear hO
         obtain ⟨va, vc, rfl⟩ := row_shape (HO.out.row 1 rfl)
         have y0_1 := HO.out.frz 0 rfl 1
         have z0_1 : x9.cell? _ = some (.slice (some ⟨gk, 0, none⟩) m kc) := HO.out.cell 0 rfl 1 rfl
         obtain ⟨x45, hx45, hO⟩ := HO.out.setE 0 rfl 1 (.slice va (m + 1) vc)
         replace HO := Hi (show Own _ _ _ [blkR b (.cells #[.int .i64 lt, .slice va (m + 1) vc, .int .i64 tr, .int .i64 nu, .int .i64 se, .int .i64 s0] 107), rowR (.slice va (m + 1) vc) 9 1 (m + 1) (ch.map cSt ++ [.string nx]), _, _, _, _, _, _] from hO)
         clear hO
         have HC := Hi (res_close (x := ⟨vs, c, vw, vd⟩) (v := .slice va (m + 1) vc) (k := ⟨lt, ch ++ [nx], tr, nu, se, s0⟩) (st := ⟨sv, sd, es, tk, qn, wt, dl, dn⟩) (a := a) (b := b) (r := rowRc (.slice ra rn rcp) rs) (by
          have e1 : rowK (.slice va (m + 1) vc) (ch ++ [nx]) = rowR (.slice va (m + 1) vc) 9 1 (m + 1) (ch.map cSt ++ [.string nx]) := by
           show rowR _ _ _ _ _ = _
           rw [List.length_append, List.map_append, HM.out]; rfl
          rw [e1]
          exact HO.out))
         have HCC := Hi (HIH.out w0 x45 D (ch ++ [nx]) ch' ro (by rw [List.length_append]; have := HF.out; show ch.length + 1 + f = 6; omega) (by rw [List.length_append, HM.out]; have := H4.out; show 0 < m + 1 ∧ m + 1 ≤ 5; omega) HON.out HC.out)
         clear HON H4 HC HIH HRF HNX HA0 hd
         go_wp2_with fail
         refine HCC.out.mono ?_
         rintro e x8 ⟨v8, L8, h8, rfl, hO⟩
         have HO8 := Hi hO
         clear hO
         cases ro with
         | addrs l =>
          obtain ⟨u, rfl, rfl⟩ := h8
          go_wp2
          go_ret3
          exact ⟨_, _, ⟨u, rfl, rfl⟩, rfl, HO8.out⟩
         | ask =>
          obtain ⟨rfl, rfl⟩ := h8
          go_wp2
          go_ret3
          exact ⟨_, _, ⟨rfl, rfl⟩, rfl, HO8.out⟩
         | fail n =>
          obtain ⟨rfl, rfl⟩ := h8
          go_wp2
          go_ret3
          exact ⟨_, _, ⟨rfl, rfl⟩, rfl, HO8.out⟩
     ·
      have HA0 := Hi (show adF fo ≠ [] from fun h => hq0 (by rw [← HQ.out, h]; rfl))
      have hdq : decide ((q : Int) > 0) = true := decide_eq_true (by omega)
      have hdq2 : decide ((0 : Int) < (q : Int)) = true := decide_eq_true (by omega)
      have HRR := Hi (rslF_addrs HRF.out HNM.out HFO.out.1 HA0.out)
      have HQN := Hi (show q ≤ 1000 by have := HKL.out; have := HNL.out; omega)
      go_wp2_with fail
      refine (sortI_o HO.out 9 rfl HQ.out (by omega) HQN.out).mono ?_
      rintro e x44 ⟨rfl, hO, -⟩
      replace HO := Hi (show Own _ _ _ [_, _, _, _, _, _, _, _, _, rowR (.slice aa q ac) 3 1 q ((sortZ (adF fo)).map cIn)] from hO)
      clear hO
      obtain ⟨m2, hm2⟩ : ∃ m2, (compZ (sortZ (adF fo))).length = m2 := ⟨_, rfl⟩
      have HM2 := Hi hm2
      have HSL := Hi (show (sortZ (adF fo)).length = q by unfold sortZ; rw [List.length_mergeSort]; exact HQ.out)
      clear hm2
      go_wp2_with fail
      refine (compI_o HO.out 9 rfl HSL.out (by omega) HQN.out HM2.out (by rw [← HM2.out, ← HSL.out]; exact comp_le _)).mono ?_
      rintro e x45 ⟨u9, rfl, hO, -⟩
      replace HO := Hi (show Own _ _ _ [_, _, _, _, _, _, _, _, _, rowR u9 3 1 m2 ((compZ (sortZ (adF fo))).map cIn)] from hO)
      clear hO
      obtain ⟨u9a, u9c, rfl⟩ := row_shape (HO.out.row 9 rfl)
      go_wp2
      go_ret3
      obtain ⟨hr1, hr2⟩ := HRR.out
      rw [hr1, hr2]
      exact ⟨_, [_], ⟨_, rfl, rfl⟩, rfl, res_close4 (x := ⟨vs, c, vw, vd⟩) (v := .slice (some ⟨gk, 0, none⟩) ch.length kc) (k := ⟨lt, ch, tr, nu, se, s0⟩) (by rw [HM2.out]; have := HO.out.toEnd 10 [0, 1, 2, 3, 4, 5, 6, 7, 9] rfl rfl; rw [← HM.out] at this; exact this)⟩
  ·
   have hne : ((n : Int) == 0) = false := by simp; omega
   have HFO := Hi (show foundF now es rs nm = ofN nm rs ∧ knownF now es rs nm = false by
    have : (ofN nm rs).isEmpty = false := by
     cases hh : ofN nm rs with
     | nil => have := HN.out; rw [hh] at this; exact absurd this.symm hz
     | cons x l => rfl
    unfold foundF knownF
    rw [this]; exact ⟨rfl, rfl⟩)
   obtain ⟨fo, hfo⟩ : ∃ fo, ofN nm rs = fo := ⟨_, rfl⟩
   rw [hfo] at HN HO HFO
   clear hfo
   go_wp2
   go_loopw [14, 15, 38] (fun av nv iv wr => ∃ k : Nat, k ≤ n ∧ iv = .int .i64 k ∧ nv = .string (nxF (fo.take k)) ∧ Own w0 D wr [blkR b (.cells #[.int .i64 lt, .slice (some ⟨gk, 0, none⟩) m kc, .int .i64 tr, .int .i64 nu, .int .i64 se, .int .i64 s0] 107), rowR (.slice (some ⟨gk, 0, none⟩) m kc) 9 1 m (ch.map cSt), blkR a (.cells #[vs, .int .i64 sd, .pointer (some ⟨c, 0, none⟩), .int .i64 tk, .int .i64 qn, vw, vd] 103), rowVs vs sv, resC c es, rowVw vw wt, rowVd vd dl dn, rowRc (.slice ra rn rcp) rs, rowRc (.slice ua n uc) fo, rowR av 3 1 (adF (fo.take k)).length ((adF (fo.take k)).map cIn)]) (fun _ _ iv _ => n - (intOf iv).toNat)
   case atStart => exact ⟨0, Nat.zero_le _, rfl, rfl, HO.out.rowNew _ _⟩
   case round =>
    obtain ⟨k, hk, rfl, rfl, hO⟩ := hrel
    replace HO := Hi hO
    obtain ⟨aa, ac, rfl⟩ := row_shape (hO.row 9 rfl)
    clear hO
    have hb1 : (n : Int) ≤ 1000 := by have := HNL.out; omega
    have HKL := Hi (show (adF (fo.take k)).length ≤ k from Nat.le_trans (ad_len _) (List.length_take_le _ _))
    by_cases hlt : k < n
    ·
     have hkl : k < fo.length := by rw [HN.out]; exact hlt
     have hrw := HO.out.row 8 rfl
     rw [HN.out] at hrw
     obtain ⟨g, rfl⟩ := row_some hrw (by omega)
     have yc : ∀ q u, q < 5 → (cRc fo[k])[q]? = some u → wr.cell? ⟨g, k * 5 + q, none⟩ = some u := fun q u hq hu => (row_cells hrw).1 _ _ (by rw [flat_getR cRc 5 (fun _ => rfl) fo k hkl q hq]; exact hu)
     have HTK := Hi (take_snoc hkl)
     generalize fo[k] = r at *
     obtain ⟨nm2, kd, tt, ad, to⟩ := r
     have HAS := Hi (ad_snoc (fo.take k) ⟨nm2, kd, tt, ad, to⟩)
     have HNS := Hi (nx_snoc (fo.take k) ⟨nm2, kd, tt, ad, to⟩)
     rw [← HTK.out] at HAS HNS
     clear HTK
     obtain ⟨q, hq⟩ : ∃ q, (adF (fo.take k)).length = q := ⟨_, rfl⟩
     have HQ := Hi hq
     rw [hq] at HO HKL ⊢
     generalize hnx : nxF (fo.take k) = nx at *
     clear hq hnx
     have y0 : wr.cell? ⟨g, k * 5, none⟩ = some (.string nm2) := yc 0 _ (by decide) rfl
     have y1 : wr.cell? ⟨g, k * 5 + 1, none⟩ = some (.int .i64 kd) := yc 1 _ (by decide) rfl
     have y2 : wr.cell? ⟨g, k * 5 + 2, none⟩ = some (.int .i64 tt) := yc 2 _ (by decide) rfl
     have y3 : wr.cell? ⟨g, k * 5 + 3, none⟩ = some (.int .i64 ad) := yc 3 _ (by decide) rfl
     have y4 : wr.cell? ⟨g, k * 5 + 4, none⟩ = some (.string to) := yc 4 _ (by decide) rfl
     clear yc hrw hkl
     replace HO := Hi (show Own w0 D wr [blkR b (.cells #[.int .i64 lt, .slice (some ⟨gk, 0, none⟩) m kc, .int .i64 tr, .int .i64 nu, .int .i64 se, .int .i64 s0] 107), rowR (.slice (some ⟨gk, 0, none⟩) m kc) 9 1 m (ch.map cSt), blkR a (.cells #[vs, .int .i64 sd, .pointer (some ⟨c, 0, none⟩), .int .i64 tk, .int .i64 qn, vw, vd] 103), rowVs vs sv, resC c es, rowVw vw wt, rowVd vd dl dn, rowRc (.slice ra rn rcp) rs, rowRc (.slice (some ⟨g, 0, none⟩) n uc) fo, rowR (.slice aa q ac) 3 1 q ((adF (fo.take k)).map cIn)] from by rw [← HQ.out]; have := HO.out; rw [← HQ.out] at this; exact this)
     obtain ⟨x23, hx23, bx, hbx, hO⟩ := HO.out.allocE (.cells #[.string ⟨#[]⟩, .int .i64 0, .int .i64 0, .int .i64 0, .string ⟨#[]⟩] 131)
     replace HO := Hi (show Own _ _ _ [_, _, _, _, _, _, _, _, _, _, blkR bx (.cells #[.string ⟨#[]⟩, .int .i64 0, .int .i64 0, .int .i64 0, .string ⟨#[]⟩] 131)] from hO)
     clear hO
     obtain ⟨x29, x34, x38, x41, x43, hx29, hx34, hx38, hx41, hx43, k10_0_24, lk10_0_24, k10_1_30, lk10_1_30, k10_2_35, lk10_2_35, k10_3_39, lk10_3_39, k10_4_42, lk10_4_42, hO⟩ := HO.out.steps5 10 rfl (.string nm2) (.int .i64 kd) (.int .i64 tt) (.int .i64 ad) (.string to)
     replace HO := Hi (show Own _ _ _ [_, _, _, _, _, _, _, _, _, _, blkR bx (.cells #[.string nm2, .int .i64 kd, .int .i64 tt, .int .i64 ad, .string to] 131)] from hO)
     clear hO
     obtain ⟨z10_0, z10_1, z10_2, z10_3, z10_4⟩ := HO.out.c5 10 rfl
     cases he : (kd == 1) with
     | true =>
      have rb := run_bs1I ad
      have HA2 := Hi (show adF (fo.take (k + 1)) = adF (fo.take k) ++ [ad] by rw [HAS.out, if_pos he])
      have HX2 := Hi (show nxF (fo.take (k + 1)) = nx by rw [HNS.out]; unfold nxS; rw [if_pos he])
      clear HAS HNS
      obtain ⟨x44, hx44, bn, hbn, hO⟩ := HO.out.allocE (.cells #[.int .i64 ad] 3)
      replace HO := Hi (show Own _ _ _ [_, _, _, _, _, _, _, _, _, _, _, blkR bn (.cells #[.int .i64 ad] 3)] from hO)
      clear hO
      go_wp2_with ((at_builtin; refine (show _ = True → _ from fun h => of_eq_true h) ?_))
      refine eq_true ?_
      refine wpList_appO rfl (.tmp 46) (.tmp 49) 31 rfl Tryz.underlying31 info_I rfl (by decide) HO.out 9 rfl rfl 11 1 1 [.int .i64 ad] rfl rfl rfl (fun u hu => by simp at hu; subst hu; rfl) (by have := HKL.out; have := HNL.out; unfold maxLen; omega) (by have := HKL.out; have := HNL.out; omega) ?_
      intro v9 x9 hO
      clear hx23 hbx k10_0_24 lk10_0_24 hx29 k10_1_30 lk10_1_30 hx34 k10_2_35 lk10_2_35 hx38 k10_3_39 lk10_3_39 hx41 k10_4_42 lk10_4_42 hx43 z10_0 z10_1 z10_2 z10_3 z10_4 hx44 hbn
      clear rb y0 y1 y2 y3 y4 he
      simp only [l_S, l_Z] at hO
      have HO9 := Hi (show Own w0 D x9 [blkR b (.cells #[.int .i64 lt, .slice (some ⟨gk, 0, none⟩) m kc, .int .i64 tr, .int .i64 nu, .int .i64 se, .int .i64 s0] 107), rowR (.slice (some ⟨gk, 0, none⟩) m kc) 9 1 m (ch.map cSt), blkR a (.cells #[vs, .int .i64 sd, .pointer (some ⟨c, 0, none⟩), .int .i64 tk, .int .i64 qn, vw, vd] 103), rowVs vs sv, resC c es, rowVw vw wt, rowVd vd dl dn, rowRc (.slice ra rn rcp) rs, rowRc (.slice (some ⟨g, 0, none⟩) n uc) fo, rowR v9 3 1 (adF (fo.take (k + 1))).length ((adF (fo.take (k + 1))).map cIn)] by
       rw [HA2.out, List.length_append, List.map_append, HQ.out]
       exact hO.take 10)
      clear hO
      go_wp2
      go_roundw
      case rel => exact ⟨k + 1, by omega, by go_num, by rw [HX2.out], HO9.out⟩
      case measure => simp [intOf]; omega
     | false =>
      have HA2 := Hi (show adF (fo.take (k + 1)) = adF (fo.take k) by rw [HAS.out, if_neg (by simp [he])])
      have HO9 := Hi (show Own w0 D x43 [blkR b (.cells #[.int .i64 lt, .slice (some ⟨gk, 0, none⟩) m kc, .int .i64 tr, .int .i64 nu, .int .i64 se, .int .i64 s0] 107), rowR (.slice (some ⟨gk, 0, none⟩) m kc) 9 1 m (ch.map cSt), blkR a (.cells #[vs, .int .i64 sd, .pointer (some ⟨c, 0, none⟩), .int .i64 tk, .int .i64 qn, vw, vd] 103), rowVs vs sv, resC c es, rowVw vw wt, rowVd vd dl dn, rowRc (.slice ra rn rcp) rs, rowRc (.slice (some ⟨g, 0, none⟩) n uc) fo, rowR (.slice aa q ac) 3 1 (adF (fo.take (k + 1))).length ((adF (fo.take (k + 1))).map cIn)] by
       rw [HA2.out, HQ.out]
       exact HO.out.take 10)
      cases hz : nx.toList.isEmpty with
      | true =>
       have hz1 : nx.toList = [] := by simpa using hz
       have HX2 := Hi (show nxF (fo.take (k + 1)) = to by rw [HNS.out]; unfold nxS; rw [if_neg (by rw [he]; decide), if_pos hz])
       clear HAS HNS
       go_wp2
       go_roundw
       case rel => exact ⟨k + 1, by omega, by go_num, by rw [HX2.out], HO9.out⟩
       case measure => simp [intOf]; omega
      | false =>
       have hz1 : ¬ nx.toList = [] := by simpa using hz
       cases hq : Op.bytesLess to.toList nx.toList with
       | true =>
        have HX2 := Hi (show nxF (fo.take (k + 1)) = to by rw [HNS.out]; unfold nxS; rw [if_neg (by rw [he]; decide), if_neg (by rw [hz]; decide), if_pos hq])
        clear HAS HNS
        go_wp2
        go_roundw
        case rel => exact ⟨k + 1, by omega, by go_num, by rw [HX2.out], HO9.out⟩
        case measure => simp [intOf]; omega
       | false =>
        have HX2 := Hi (show nxF (fo.take (k + 1)) = nx by rw [HNS.out]; unfold nxS; rw [if_neg (by rw [he]; decide), if_neg (by rw [hz]; decide), if_neg (by rw [hq]; decide)])
        clear HAS HNS
        go_wp2
        go_roundw
        case rel => exact ⟨k + 1, by omega, by go_num, by rw [HX2.out], HO9.out⟩
        case measure => simp [intOf]; omega
    ·
     obtain rfl : n = k := by omega
     have hd : decide ((n : Int) < (n : Int)) = false := decide_eq_false (by omega)
     have HT := Hi (show fo.take n = fo by rw [← HN.out]; exact List.take_length)
     rw [HT.out] at HO HKL ⊢
     clear HT
     obtain ⟨q, hq⟩ : ∃ q, (adF fo).length = q := ⟨_, rfl⟩
     have HQ := Hi hq
     rw [hq] at HO HKL ⊢
     obtain ⟨nx, hnx⟩ : ∃ nx, nxF fo = nx := ⟨_, rfl⟩
     have HNX := Hi hnx
     rw [hnx]
     have hbq : (q : Int) ≤ 1000 := by have := HKL.out; have := HNL.out; omega
     clear hq hnx
     replace HO := Hi (show Own w0 D wr [blkR b (.cells #[.int .i64 lt, .slice (some ⟨gk, 0, none⟩) m kc, .int .i64 tr, .int .i64 nu, .int .i64 se, .int .i64 s0] 107), rowR (.slice (some ⟨gk, 0, none⟩) m kc) 9 1 m (ch.map cSt), blkR a (.cells #[vs, .int .i64 sd, .pointer (some ⟨c, 0, none⟩), .int .i64 tk, .int .i64 qn, vw, vd] 103), rowVs vs sv, resC c es, rowVw vw wt, rowVd vd dl dn, rowRc (.slice ra rn rcp) rs, rowRc (.slice ua n uc) fo, rowR (.slice aa q ac) 3 1 q ((adF fo).map cIn)] from by rw [← HQ.out]; have := HO.out; rw [← HQ.out] at this; exact this)
     by_cases hq0 : q = 0
     ·
      have HA0 := Hi (show adF fo = [] from List.eq_nil_of_length_eq_zero (by rw [HQ.out]; exact hq0))
      have hdq : decide ((q : Int) > 0) = false := decide_eq_false (by omega)
      have hdq2 : decide ((0 : Int) < (q : Int)) = false := decide_eq_false (by omega)
      cases hz : nx.toList.isEmpty with
      | true =>
       have hz1 : nx.toList = [] := by simpa using hz
       have HRR := Hi (rslF_ask HRF.out HNM.out HFO.out.1 HA0.out (by rw [HNX.out]; exact hz) HFO.out.2)
       have hrb := run_bdFl
       go_wp2
       go_ret3
       obtain ⟨hr1, hr2⟩ := HRR.out
       rw [hr1, hr2]
       exact ⟨_, [], ⟨rfl, rfl⟩, rfl, res_close (x := ⟨vs, c, vw, vd⟩) (v := .slice (some ⟨gk, 0, none⟩) ch.length kc) (k := ⟨lt, ch, tr, nu, se, s0⟩) (by have := HO.out.take 8; rw [← HM.out] at this; exact this)⟩
      | false =>
       have hz1 : ¬ nx.toList = [] := by simpa using hz
       have z0_1 : wr.cell? _ = some (.slice (some ⟨gk, 0, none⟩) m kc) := HO.out.cell 0 rfl 1 rfl
       cases hs : hasS nx ch with
       | true =>
        go_wp2_with fail
        refine (containsS_r _ (HO.out.row 1 rfl) HML.out.1 (by have := HML.out; omega) hs).mono ?_
        rintro e xp ⟨rfl, rfl⟩
        have HRR := Hi (rslF_loop HRF.out HNM.out HFO.out.1 HA0.out (by rw [HNX.out]; exact hz) (.inl (by rw [HNX.out]; exact hs)))
        have hrb := run_bdFl
        go_wp2
        go_ret3
        obtain ⟨hr1, hr2⟩ := HRR.out
        rw [hr1, hr2]
        exact ⟨_, [], ⟨rfl, rfl⟩, rfl, res_close (x := ⟨vs, c, vw, vd⟩) (v := .slice (some ⟨gk, 0, none⟩) ch.length kc) (k := ⟨lt, ch, tr, nu, se, s0⟩) (by have := HO.out.take 8; rw [← HM.out] at this; exact this)⟩
       | false =>
        go_wp2_with fail
        refine (containsS_r _ (HO.out.row 1 rfl) HML.out.1 (by have := HML.out; omega) hs).mono ?_
        rintro e xp ⟨rfl, rfl⟩
        by_cases h4 : 4 < m
        ·
         have h41 : decide ((m : Int) > 4) = true := decide_eq_true (by omega)
         have h42 : decide ((4 : Int) < (m : Int)) = true := decide_eq_true (by omega)
         have HRR := Hi (rslF_loop HRF.out HNM.out HFO.out.1 HA0.out (by rw [HNX.out]; exact hz) (.inr (by rw [HM.out]; exact h4)))
         have hrb := run_bdFl
         go_wp2
         go_ret3
         obtain ⟨hr1, hr2⟩ := HRR.out
         rw [hr1, hr2]
         exact ⟨_, [], ⟨rfl, rfl⟩, rfl, res_close (x := ⟨vs, c, vw, vd⟩) (v := .slice (some ⟨gk, 0, none⟩) ch.length kc) (k := ⟨lt, ch, tr, nu, se, s0⟩) (by have := HO.out.take 8; rw [← HM.out] at this; exact this)⟩
        ·
         have h41 : decide ((m : Int) > 4) = false := decide_eq_false (by omega)
         have h42 : decide ((4 : Int) < (m : Int)) = false := decide_eq_false (by omega)
         have HON := Hi (rslF_on HRF.out HNM.out HFO.out.1 HA0.out (by rw [HNX.out]; exact hz) (by rw [HNX.out, HM.out]; intro h; rcases h with h | h; rw [hs] at h; cases h; exact h4 h))
         have H4 := Hi (show m ≤ 4 by omega)
         rw [HNX.out] at HON
         have rb := run_bs1S nx
         obtain ⟨x43, hx43, bn, hbn, hO⟩ := HO.out.allocE (.cells #[.string nx] 9)
         replace HO := Hi (show Own w0 D x43 [blkR b (.cells #[.int .i64 lt, .slice (some ⟨gk, 0, none⟩) m kc, .int .i64 tr, .int .i64 nu, .int .i64 se, .int .i64 s0] 107), rowR (.slice (some ⟨gk, 0, none⟩) m kc) 9 1 m (ch.map cSt), blkR a (.cells #[vs, .int .i64 sd, .pointer (some ⟨c, 0, none⟩), .int .i64 tk, .int .i64 qn, vw, vd] 103), rowVs vs sv, resC c es, rowVw vw wt, rowVd vd dl dn, rowRc (.slice ra rn rcp) rs, rowRc (.slice ua n uc) fo, rowR (.slice aa q ac) 3 1 q ((adF fo).map cIn), blkR bn (.cells #[.string nx] 9)] from hO)
         clear hO
         go_wp2_with ((at_builtin; refine (show _ = True → _ from fun h => of_eq_true h) ?_))
         refine eq_true ?_
         refine wpList_appO rfl (.tmp 94) (.tmp 96) 63 rfl Tryz.underlying63 infoSt rfl (by decide) HO.out 1 rfl rfl 10 1 1 [.string nx] rfl rfl rfl (fun u hu => by simp at hu; subst hu; rfl) (by have := HML.out; unfold maxLen; omega) (by have := HML.out; omega) ?_
         intro v9 x9 hO
         clear z0_1 hx43 hbn
         clear rb hs hz hz1 h4 h41 h42 hdq hdq2
         simp only [l_S, l_Z] at hO
         replace HO := Hi (show Own w0 D x9 [_, rowR v9 9 1 (m + 1) (ch.map cSt ++ [.string nx]), _, _, _, _, _, _] from Own.take hO 8)
         clear hO
         obtain ⟨va, vc, rfl⟩ := row_shape (HO.out.row 1 rfl)
         have y0_1 := HO.out.frz 0 rfl 1
         have z0_1 : x9.cell? _ = some (.slice (some ⟨gk, 0, none⟩) m kc) := HO.out.cell 0 rfl 1 rfl
         obtain ⟨x44, hx44, hO⟩ := HO.out.setE 0 rfl 1 (.slice va (m + 1) vc)
         replace HO := Hi (show Own _ _ _ [blkR b (.cells #[.int .i64 lt, .slice va (m + 1) vc, .int .i64 tr, .int .i64 nu, .int .i64 se, .int .i64 s0] 107), rowR (.slice va (m + 1) vc) 9 1 (m + 1) (ch.map cSt ++ [.string nx]), _, _, _, _, _, _] from hO)
         clear hO
         have HC := Hi (res_close (x := ⟨vs, c, vw, vd⟩) (v := .slice va (m + 1) vc) (k := ⟨lt, ch ++ [nx], tr, nu, se, s0⟩) (st := ⟨sv, sd, es, tk, qn, wt, dl, dn⟩) (a := a) (b := b) (r := rowRc (.slice ra rn rcp) rs) (by
          have e1 : rowK (.slice va (m + 1) vc) (ch ++ [nx]) = rowR (.slice va (m + 1) vc) 9 1 (m + 1) (ch.map cSt ++ [.string nx]) := by
           show rowR _ _ _ _ _ = _
           rw [List.length_append, List.map_append, HM.out]; rfl
          rw [e1]
          exact HO.out))
         have HCC := Hi (HIH.out w0 x44 D (ch ++ [nx]) ch' ro (by rw [List.length_append]; have := HF.out; show ch.length + 1 + f = 6; omega) (by rw [List.length_append, HM.out]; have := H4.out; show 0 < m + 1 ∧ m + 1 ≤ 5; omega) HON.out HC.out)
         clear HON H4 HC HIH HRF HNX HA0 hd
         go_wp2_with fail
         refine HCC.out.mono ?_
         rintro e x8 ⟨v8, L8, h8, rfl, hO⟩
         have HO8 := Hi hO
         clear hO
         cases ro with
         | addrs l =>
          obtain ⟨u, rfl, rfl⟩ := h8
          go_wp2
          go_ret3
          exact ⟨_, _, ⟨u, rfl, rfl⟩, rfl, HO8.out⟩
         | ask =>
          obtain ⟨rfl, rfl⟩ := h8
          go_wp2
          go_ret3
          exact ⟨_, _, ⟨rfl, rfl⟩, rfl, HO8.out⟩
         | fail n =>
          obtain ⟨rfl, rfl⟩ := h8
          go_wp2
          go_ret3
          exact ⟨_, _, ⟨rfl, rfl⟩, rfl, HO8.out⟩
     ·
      have HA0 := Hi (show adF fo ≠ [] from fun h => hq0 (by rw [← HQ.out, h]; rfl))
      have hdq : decide ((q : Int) > 0) = true := decide_eq_true (by omega)
      have hdq2 : decide ((0 : Int) < (q : Int)) = true := decide_eq_true (by omega)
      have HRR := Hi (rslF_addrs HRF.out HNM.out HFO.out.1 HA0.out)
      have HQN := Hi (show q ≤ 1000 by have := HKL.out; have := HNL.out; omega)
      go_wp2_with fail
      refine (sortI_o HO.out 9 rfl HQ.out (by omega) HQN.out).mono ?_
      rintro e x43 ⟨rfl, hO, -⟩
      replace HO := Hi (show Own _ _ _ [_, _, _, _, _, _, _, _, _, rowR (.slice aa q ac) 3 1 q ((sortZ (adF fo)).map cIn)] from hO)
      clear hO
      obtain ⟨m2, hm2⟩ : ∃ m2, (compZ (sortZ (adF fo))).length = m2 := ⟨_, rfl⟩
      have HM2 := Hi hm2
      have HSL := Hi (show (sortZ (adF fo)).length = q by unfold sortZ; rw [List.length_mergeSort]; exact HQ.out)
      clear hm2
      go_wp2_with fail
      refine (compI_o HO.out 9 rfl HSL.out (by omega) HQN.out HM2.out (by rw [← HM2.out, ← HSL.out]; exact comp_le _)).mono ?_
      rintro e x44 ⟨u9, rfl, hO, -⟩
      replace HO := Hi (show Own _ _ _ [_, _, _, _, _, _, _, _, _, rowR u9 3 1 m2 ((compZ (sortZ (adF fo))).map cIn)] from hO)
      clear hO
      obtain ⟨u9a, u9c, rfl⟩ := row_shape (HO.out.row 9 rfl)
      go_wp2
      go_ret3
      obtain ⟨hr1, hr2⟩ := HRR.out
      rw [hr1, hr2]
      exact ⟨_, [_], ⟨_, rfl, rfl⟩, rfl, res_close4 (x := ⟨vs, c, vw, vd⟩) (v := .slice (some ⟨gk, 0, none⟩) ch.length kc) (k := ⟨lt, ch, tr, nu, se, s0⟩) (by rw [HM2.out]; have := HO.out.toEnd 10 [0, 1, 2, 3, 4, 5, 6, 7, 9] rfl rfl; rw [← HM.out] at this; exact this)⟩
end Go.Proofs.YtbhglemolpfnkaaGreatDoor
