/- The walk of ResolverFollowsZone. Printed by wip/tools/gen21z.py. -/
import Derived.Test.YtbolfkojebbejaaGreatDoorBp
import Derived.Test.YtbolfkojebbejaaGreatDoorBb
import Derived.Test.YtbolfkojebbejaaGreatDoorLr3
namespace Go.Proofs.YtbolfkojebbejaaGreatDoor
open Go.RowKit Go.Sort
set_option linter.unusedVariables false
set_option maxRecDepth 100000
attribute [local go_sem] Oper.semAt_some

def RdI (w : World) (v : Value) (len : Nat) (g : Nat → Int) : Prop :=
 ∃ a cap, v = .slice a len cap ∧ len ≤ cap ∧ len ≤ 9223372036854775807 ∧ (∀ i, i < len → i64B (g i)) ∧ (len ≠ 0 → ∃ b o, a = some ⟨b, o, none⟩ ∧ ∀ i, i < len → w.cell? ⟨b, o + i, none⟩ = some (.int .i64 (g i)))
def setT (T : Int) (r : Rc) : Rc := ⟨r.nm, r.kd, T, r.ad, r.to⟩
def upF (T : Int) (l : List Rc) (k : Nat) : List Rc := (l.take k).map (setT T) ++ l.drop k
theorem upF_all (T : Int) (l : List Rc) : upF T l l.length = l.map (setT T) := by unfold upF; rw [List.take_length, List.drop_length, List.append_nil]
theorem flat5 (l : List Rc) : (l.flatMap cRc).length = l.length * 5 := by
 induction l with
 | nil => rfl
 | cons r l ih => rw [List.flatMap_cons, List.length_append, ih, List.length_cons]; show 5 + l.length * 5 = _; omega
theorem upF_set (T : Int) {l : List Rc} {k : Nat} (hk : k < l.length) : ((upF T l k).flatMap cRc).set (k * 5 + 2) (.int .i64 T) = (upF T l (k + 1)).flatMap cRc := by
 unfold upF
 rw [List.drop_eq_getElem_cons hk, List.take_succ_eq_append_getElem hk, List.map_append, List.flatMap_append, List.flatMap_append, List.flatMap_append, List.flatMap_cons, List.append_assoc]
 have hl : (((l.take k).map (setT T)).flatMap cRc).length = k * 5 := by rw [flat5, List.length_map, List.length_take]; omega
 rw [List.set_append_right _ _ (by rw [hl]; omega), hl, show k * 5 + 2 - k * 5 = 2 by omega]
 congr 1
theorem upF_at (T : Int) {l : List Rc} {k : Nat} (hk : k < l.length) : ((upF T l k).flatMap cRc)[k * 5 + 2]? = some (.int .i64 l[k].tt) := by
 unfold upF
 rw [List.drop_eq_getElem_cons hk, List.flatMap_append, List.flatMap_cons]
 have hl : (((l.take k).map (setT T)).flatMap cRc).length = k * 5 := by rw [flat5, List.length_map, List.length_take]; omega
 rw [List.getElem?_append_right (by rw [hl]; omega), hl, show k * 5 + 2 - k * 5 = 2 by omega]
 rfl
theorem up_zone (T : Int) (ht : T = 0 ∨ T = 500) (g : Nat → Rq) (k : Nat) (h8 : k ≤ 8) : Zone T ((rrsF g k).map (setT T)) := by
 refine ⟨by rw [List.length_map, rrsF_len]; exact h8, fun r hr => ?_⟩
 obtain ⟨x, hx, rfl⟩ := List.mem_map.1 hr
 obtain ⟨i, _, rfl⟩ := List.mem_map.1 hx
 have hv := rrF_v (g i)
 refine ⟨⟨hv.nm, by show 0 ≤ T; omega, by show T ≤ 1000; omega, hv.al⟩, rfl, ?_, ?_⟩
 ·
  show P8 (rrF (g i)).nm
  unfold rrF; split <;> exact P8_nmL _
 ·
  show (rrF (g i)).kd ≠ 1 → P8 (rrF (g i)).to
  unfold rrF; split
  ·
   exact fun _ => P8_nmL _
  ·
   exact fun h => absurd rfl h
theorem zone_ad {T : Int} {g : Nat → Rq} {k : Nat} : ∀ r ∈ (rrsF g k).map (setT T), r.kd = 1 → 1 ≤ r.ad ∧ r.ad < 20 := fun r hr h1 => by
 obtain ⟨x, hx, rfl⟩ := List.mem_map.1 hr
 obtain ⟨i, _, rfl⟩ := List.mem_map.1 hx
 have hb := pk_bd (g i).to 9 (by decide)
 have h1' : (rrF (g i)).kd = 1 := h1
 show 1 ≤ (rrF (g i)).ad ∧ (rrF (g i)).ad < 20
 revert h1'
 unfold rrF
 split
 ·
  exact fun h => absurd (show (2 : Int) = 1 from h) (by decide)
 ·
  intro _
  show 1 ≤ 1 + pk (g i).to 9 ∧ 1 + pk (g i).to 9 < 20
  omega
theorem ssZ_le (l : List Int) : (ssZ l).length ≤ l.length := by
 unfold ssZ
 rw [comp_list, List.length_map]
 refine Nat.le_trans (List.length_filter_le _ _) ?_
 rw [List.length_range, sortZ, List.length_mergeSort]
 exact Nat.le_refl _
theorem adF_le (l : List Rc) : (adF l).length ≤ l.length := by unfold adF; rw [List.length_map]; exact List.length_filter_le _ _
theorem sv35_bd : ∀ j (hj : j < ([3, 5] : List Int).length), 1 ≤ ([3, 5] : List Int)[j] ∧ ([3, 5] : List Int)[j] < 4294967295 := by decide
theorem sv35_ne : ∀ j k (hj : j < ([3, 5] : List Int).length) (hk : k < ([3, 5] : List Int).length), j < k → ([3, 5] : List Int)[j] ≠ ([3, 5] : List Int)[k] := by
 intro j k hj hk h
 have hj' : j < 2 := hj
 have hk' : k < 2 := hk
 obtain ⟨rfl, rfl⟩ : j = 0 ∧ k = 1 := by omega
 show (3 : Int) ≠ 5; decide
theorem ansM_form (l : List Rc) (all : Bool) (id : Int) (nm : ByteArray) : ∃ cd rs, ansM l all id nm = ⟨id, true, cd, nm, 1, rs⟩ := by
 unfold ansM
 split
 ·
  exact ⟨_, _, rfl⟩
 ·
  exact ⟨_, _, rfl⟩
section
variable {tt : Int} {l : List Rc} {es : List En} {now sd tk qn : Int} {a b : Nat} {want : RO} {ch : List ByteArray} {g : Glo} {w0 w : World} {D : Nat → Prop}
theorem restZ_ok {t : Int} (d0 : 0 ≤ sd) (d1 : sd ≤ 4294967295) (hq : 0 ≤ qn) (hi : CInv t es) : ZI (restZ sd es tk qn) :=
 ⟨by show 0 < 2; decide, by show 2 ≤ 4; decide, d0, d1, hq, by show 0 ≤ 100; decide, fun p hp => (by cases hp), by show 0 ≤ 1000; decide, hi.len, hi.ap, en_of hi⟩
theorem pendZ_ok {t : Int} (d0 : 0 ≤ sd) (d1 : sd ≤ 4294967295) (hq : 0 ≤ qn) (hi : CInv t es) (hp : Pend l want ch) : ZI (pendZ sd es tk qn b now ch) :=
 ⟨by show 0 < 2; decide, by show 2 ≤ 4; decide, d0, d1, hq, by show 1 ≤ 100; decide, fun p hm => by
  obtain rfl := List.mem_singleton.1 hm
  exact ⟨hp.c0, hp.c5, fun s hs => P8_v (hp.nm s hs), by show (0 : Int) ≤ 1; decide, by show (1 : Int) ≤ 12; decide⟩, by show 0 ≤ 1000; decide, hi.len, hi.ap, en_of hi⟩
/-- What stands after a lookup's start or an answer: it waits, with a chain of at least m names, or it is done. -/
def FzS (l : List Rc) (want : RO) (now sd tk bd : Int) (m b a : Nat) (g : Glo) (A : List Res) (w0 : World) (D : Nat → Prop) (w : World) (u : Value) : Prop :=
 (∃ es qn ch, Pend l want ch ∧ m ≤ ch.length ∧ ZC l es ∧ CInv now es ∧ 0 ≤ qn ∧ qn ≤ bd ∧ Own w0 D w (A ++ [resZ a (pendZ sd es tk (qn + 1) b now ch), glR g, rowQs u [qyZ sd qn 3 (lastN ch)]])) ∨
 ∃ es qn, ZC l es ∧ CInv now es ∧ 0 ≤ qn ∧ qn ≤ bd ∧ Own w0 D w (A ++ [resZ a (doneZ sd es tk qn want), glR g, rowQs u []])
def FzR (l : List Rc) (want : RO) (now sd tk bd : Int) (a : Nat) (g : Glo) (A : List Res) (w0 : World) (D : Nat → Prop) (w : World) (e : Ending) (w' : World) : Prop := ∃ b u, e = .returned (.tuple #[.int .i64 tk, u, .int .i64 0]) ∧ FzS l want now sd tk bd 1 b a g A w0 D w' u
def FzA (l : List Rc) (want : RO) (now sd tk bd : Int) (m b a : Nat) (g : Glo) (A : List Res) (w0 : World) (D : Nat → Prop) (w : World) (e : Ending) (w' : World) : Prop := ∃ u, e = .returned (.tuple #[.bool true, u]) ∧ FzS l want now sd tk bd m b a g A w0 D w' u ∧ w.heap.size ≤ w'.heap.size
theorem FzS.stay {bd : Int} {m : Nat} {A : List Res} {w' : World} {u : Value} (h : FzS l want now sd tk bd m b a g A w0 D w u) (hb : Below w.heap.size w w') : FzS l want now sd tk bd m b a g A w0 D w' u := by
 rcases h with ⟨es, qn, ch, h1, h2, h3, h4, h5, h6, h7⟩ | ⟨es, qn, h1, h2, h3, h4, h5⟩
 ·
  exact .inl ⟨es, qn, ch, h1, h2, h3, h4, h5, h6, h7.stay hb⟩
 ·
  exact .inr ⟨es, qn, h1, h2, h3, h4, h5.stay hb⟩
theorem FzS.less {bd : Int} {m : Nat} {A0 A1 : Res} {u : Value} (h : FzS l want now sd tk bd m b a g [A0, A1] w0 D w u) : FzS l want now sd tk bd m b a g [A0] w0 D w u := by
 rcases h with ⟨es, qn, ch, h1, h2, h3, h4, h5, h6, h7⟩ | ⟨es, qn, h1, h2, h3, h4, h5⟩
 ·
  exact .inl ⟨es, qn, ch, h1, h2, h3, h4, h5, h6, h7.toEnd 5 [0, 2, 3, 4] rfl rfl⟩
 ·
  exact .inr ⟨es, qn, h1, h2, h3, h4, h5.toEnd 5 [0, 2, 3, 4] rfl rfl⟩
theorem FzS.rows {bd : Int} {m : Nat} {A0 A1 : Res} {u : Value} (h : FzS l want now sd tk bd m b a g [A0, A1] w0 D w u) : Own w0 D w [A0, A1] := by
 rcases h with ⟨es, qn, ch, h1, h2, h3, h4, h5, h6, h7⟩ | ⟨es, qn, h1, h2, h3, h4, h5⟩
 ·
  exact h7.toEnd 5 [0, 1] rfl rfl
 ·
  exact h5.toEnd 5 [0, 1] rfl rfl
/-- The second of a pair that the chain has yielded. -/
def sndOf : GPred := fun x g => ∃ b, g.vs[0]? = some (.tuple #[b, x])
theorem sndOf_lasts (Γ : Ghost) : Γ.lasts sndOf := fun v g g' hg ⟨b, h⟩ hs => ⟨b, gnth_lasts Γ 0 _ g g' hg h hs⟩
theorem fz_resolve {A : List Res} {bd : Int} (h : Own w0 D w (A ++ [resZ a (restZ sd es tk qn), glR g])) (hz : Zone tt l) (hc : ZC l es) (hi : CInv now es) (h0 : 0 ≤ now) (h5 : now ≤ 5) (d0 : 0 ≤ sd) (d1 : sd ≤ 4294967295) (q0 : 0 ≤ qn) (qb : qn + 1 ≤ bd) (qm : bd ≤ 1000) (t0 : 0 ≤ tk) (t1 : tk ≤ 1000) {nm : ByteArray} (hp : P8 nm) (hw : (zoneG l 5 [nm]).2 = want) :
  Calls Tryz.prog 15 #[.pointer (some ⟨a, 0, none⟩), .int .i64 now, .string nm] w (FzR l want now sd (tk + 1) bd a g A w0 D w) := by
 refine (o_frame (A := A) (B := [resZ a (restZ sd es tk qn), glR g]) (Q := fun e B' => ∃ b u, e = .returned (.tuple #[.int .i64 (tk + 1), u, .int .i64 0]) ∧ B' = [resZ a (startZ now (restZ sd es tk qn) b nm).1, glR g, rowQs u (startZ now (restZ sd es tk qn) b nm).2]) h
  (fun D' hD => (resolve_z (now := now) (nm := nm) hD (restZ_ok d0 d1 q0 hi) (P8_v hp) (by show 0 < 8; decide) (by show qn ≤ 100000; omega) t0 (by show tk ≤ 100000; omega)).mono fun e w' ⟨b, u, h1, h2, h3⟩ => ⟨_, ⟨b, u, h1, rfl⟩, h2, h3⟩)).mono ?_
 rintro e w' ⟨B', ⟨b, u, rfl, rfl⟩, hO, -⟩
 refine ⟨b, u, rfl, ?_⟩
 rcases fz_start (sd := sd) (tk := tk) (qn := qn) (b := b) hz hc h5 hp hw with ⟨ch, e1, hP⟩ | e1
 ·
  rw [e1] at hO
  exact .inl ⟨es, qn, ch, hP, hP.c0, hc, hi, q0, by omega, hO⟩
 ·
  rw [e1] at hO
  exact .inr ⟨es, qn, hc, hi, q0, by omega, hO⟩
theorem fz_recv {A : List Res} {bd : Int} {out : ByteArray} {all : Bool} {m : Nat} (h : Own w0 D w (A ++ [resZ a (pendZ sd es tk (qn + 1) b now ch), glR g])) (hg : g.ok = true) (hz : Zone tt l) (ht : tt = 0 ∨ tt = 500) (hc : ZC l es) (hi : CInv now es) (h0 : 0 ≤ now) (h5 : now ≤ 5) (d0 : 0 ≤ sd) (d1 : sd ≤ 4294967295) (q0 : 0 ≤ qn) (qb : qn + 1 ≤ bd) (qm : bd ≤ 1000) (hp : Pend l want ch) (hm : m ≤ ch.length)
  (ho : ⟨(encM (ansM l all ((sd + 7919 * (qn + 1)) % 65536) (lastN ch))).toArray⟩ = out) {pt : Int} (hpt : 20000 + (sd + 101 * (qn + 1)) % 10000 = pt) :
  Calls Tryz.prog 24 #[.pointer (some ⟨a, 0, none⟩), .int .i64 now, .int .i64 3, .agg #[.int .i64 53, .int .i64 pt, .string out]] w (FzA l want now sd tk bd (m + 1) b a g A w0 D w) := by
 have hnm : P8 (lastN ch) := hp.nm _ (lastN_mem hp.c0)
 have hidb : 0 ≤ (sd + 7919 * (qn + 1)) % 65536 ∧ (sd + 7919 * (qn + 1)) % 65536 ≤ 65535 := by omega
 have hd := ansM_ok (all := all) hz.len (fun r hr => (hz.ok r hr).1) (P8_v hnm) hidb.1 hidb.2
 have hA := fz_ans (sd := sd) (tk := tk) (qn := qn + 1) (b := b) hz ht hc hi h0 h5 hp all
 obtain ⟨cd, rs, hf⟩ := ansM_form l all ((sd + 7919 * (qn + 1)) % 65536) (lastN ch)
 rw [hf] at hd hA ho
 rw [hpt] at hA
 obtain ⟨r, hr⟩ : ∃ r, rcvZ now (pendZ sd es tk (qn + 1) b now ch) 3 53 pt ⟨(sd + 7919 * (qn + 1)) % 65536, true, cd, lastN ch, 1, rs⟩ = r := ⟨_, rfl⟩
 rw [hr] at hA
 have hr1 : r.1 = true := by rcases hA with ⟨_, _, h, _⟩ | ⟨_, h, _⟩ <;> rw [h]
 have hms : ∀ s : ByteArray, vname s = true → s.size ≤ maxLen := fun s hs => by have := vname_sz hs; unfold maxLen; omega
 refine (o_frame (A := A) (B := [resZ a (pendZ sd es tk (qn + 1) b now ch), glR g]) (Q := fun e B' => ∃ u, e = .returned (.tuple #[.bool true, u]) ∧ B' = [resZ a r.2.1, glR g, rowQs u r.2.2]) h
  (fun D' hD => (receive_go (n := rs.length) hD rfl hd ho.symm (pendZ_ok d0 d1 (by omega) hi hp) hi hg (by show qn + 1 ≤ 100000; omega) (Nat.le_trans hd.len (by decide)) (fun x hx => by
   rcases (hd.rs x hx).al with ⟨h, _⟩ | ⟨_, h, _⟩
   ·
    exact .inl h
   ·
    exact .inr h) (fun x hx => ⟨hms _ (hd.rs x hx).nm, by
   rcases (hd.rs x hx).al with ⟨_, _, h⟩ | ⟨_, h, _⟩
   ·
    rw [eq_nil_bytes h]; unfold maxLen; decide
   ·
    exact hms _ h⟩) (fun p hm => by
   obtain rfl := List.mem_singleton.1 hm
   show 0 ≤ qn + 1 ∧ qn + 1 ≤ 1000000; omega)).mono fun e w' ⟨u, h1, h2, h3⟩ => ⟨_, ⟨u, by rw [hr, hr1] at h1; exact h1, rfl⟩, by rw [hr] at h2; exact h2, h3⟩)).mono ?_
 rintro e w' ⟨B', ⟨u, rfl, rfl⟩, hO, hsz⟩
 refine ⟨u, rfl, ?_, hsz⟩
 rcases hA with ⟨es', ch', e1, hP, hlt, hc', hi'⟩ | ⟨es', e1, hc', hi'⟩
 ·
  rw [e1] at hO
  exact .inl ⟨es', qn + 1, ch', hP, by omega, hc', hi', by omega, qb, hO⟩
 ·
  rw [e1] at hO
  exact .inr ⟨es', qn + 1, hc', hi', by omega, qb, hO⟩
end
theorem run_bdRsn (t er : Int) (x : Option Addr) (n c : Nat) (w : World) : (Instr.build 63 #[(0, .int .i64 t), (1, .int .i64 er), (2, .slice x n c)]).run Tryz.prog w = .ok (.agg #[.int .i64 t, .int .i64 er, .slice x n c]) w := by kernel_rfl
theorem run_bsRsn (t er : Int) (x : Option Addr) (n c : Nat) (w : World) : (Instr.buildSlice 58 1 #[(0, .agg #[.int .i64 t, .int .i64 er, .slice x n c])]).run Tryz.prog w = .ok (.slice (some ⟨w.heap.size, 0, none⟩) 1 1) (w.alloc (.cells #[.int .i64 t, .int .i64 er, .slice x n c] 63)) := by kernel_rfl
theorem want_len {tt : Int} {l : List Rc} {nm : ByteArray} {want : RO} (ha : ∀ r ∈ l, r.kd = 1 → 1 ≤ r.ad ∧ r.ad < 20) (hz : Zone tt l) (hw : (zoneG l 5 [nm]).2 = want) : (roA want).length ≤ 19 := by
 have key : ∀ (f : Nat) (ch : List ByteArray), (roA (zoneG l f ch).2).length ≤ 19 := by
  intro f
  induction f with
  | zero => intro ch; show 0 ≤ 19; decide
  | succ f ih =>
   intro ch
   unfold zoneG rslG
   split
   ·
    have h1 := ssZ_le (adF (ofN (lastN ch) l))
    have h2 := adF_le (ofN (lastN ch) l)
    have h3 : (ofN (lastN ch) l).length ≤ l.length := List.length_filter_le _ _
    have h4 := hz.len
    show (ssZ _).length ≤ 19
    omega
   ·
    split
    ·
     rw [if_pos rfl]; show 0 ≤ 19; decide
    ·
     split
     ·
      show 0 ≤ 19; decide
     ·
      exact ih _
 rw [← hw]; exact key 5 [nm]
section
attribute [local go_sem ↓] run_bdRsn run_bsRsn
set_option maxRecDepth 100000 in
set_option maxHeartbeats 32000000 in
theorem follows_w (len0 len1 : Nat) (gr : Nat → Rq) (gn : Nat → Int) (v0 v1 : Value) (all : Bool) (seed : Int) (w : World) (g : Glo) (h : Own w glD w [glR g]) (k1 : w.heap[errG]? = some g.o1) (k2 : w.heap[ertG]? = some g.o2) (hg : g.ok = true) (hr : RdRq w v0 len0 gr) (hn : RdI w v1 len1 gn) (hs : i64B seed) :
  Calls Tryz.prog 6 #[v0, v1, .bool all, .int .i64 seed] w (OPost w glD [glR g] (.bool true) w) := by
 have HO := Lib.hid h
 have HB := Lib.hid (fun x L (h : Own w glD x (glR g :: L)) => glo_below h k1 k2)
 clear k1 k2
 have HG := Lib.hid hg
 have HR := Lib.hid hr
 obtain ⟨p1, cap1, rfl, hcap1, hlen1, hok1, hcell1⟩ := hn
 have HNB := Lib.hid hok1
 have HNC := Lib.hid hcell1
 obtain ⟨k0, hk0⟩ : ∃ k, min len0 8 = k := ⟨_, rfl⟩
 have HK0 := Lib.hid hk0
 have hk8 : k0 ≤ 8 := by omega
 obtain ⟨sb, hsb⟩ : ∃ y, pk seed 2 = y := ⟨_, rfl⟩
 obtain ⟨sd, hsd⟩ : ∃ y, pk seed 4294967296 = y := ⟨_, rfl⟩
 have HP1 := Lib.hid (fun w => hsb ▸ pick21_b seed 2 w hs (by decide))
 have HP2 := Lib.hid (fun w => hsd ▸ pick21_b seed 4294967296 w hs (by decide))
 have b1 := pk_bd seed 2 (by decide)
 have b2 := pk_bd seed 4294967296 (by decide)
 rw [hsb] at b1
 rw [hsd] at b2
 obtain ⟨b10, b11⟩ := b1
 have HSD := Lib.hid (show 0 ≤ sd ∧ sd ≤ 4294967295 by omega)
 have HTT := Lib.hid (show sb * 500 = 0 ∨ sb * 500 = 500 by omega)
 clear h hg hr hok1 hcell1 hk0 hsb hsd hs b2
 go_enter Tryz.func6, Tryz.ntmps6
 go_wp2_with fail
 refine (sanity_o HO.out HG.out).mono ?_
 rintro e x1 ⟨rfl, hO, -⟩
 replace HO := Lib.hid (show Own w glD x1 [glR g] from hO)
 clear hO
 go_wp2_with fail
 refine (rrs_o _ (HR.out.stay (HB.out _ _ HO.out)) HK0.out).mono ?_
 rintro e x2 ⟨la, lc, rfl, hO2⟩
 have hO := HO.out.joinC hO2
 clear hO2
 replace HO := Lib.hid (show Own _ _ _ [_, rowR (.slice la k0 lc) 49 5 k0 ((rrsF gr k0).flatMap cRc)] from hO)
 clear hO
 have HL := Lib.hid (rrsF_len gr k0)
 have HZN := Lib.hid (up_zone (sb * 500) HTT.out gr k0 hk8)
 have HZA := Lib.hid (zone_ad (T := sb * 500) (g := gr) (k := k0))
 generalize rrsF gr k0 = l at *
 have hO := HO.out
 rw [show l = upF (sb * 500) l 0 by unfold upF; simp] at hO
 replace HO := Lib.hid hO
 clear hO
 go_wp2
 go_loopw [11] (fun iv wr => ∃ k : Nat, k ≤ k0 ∧ iv = .int .i64 k ∧ Own w glD wr [glR g, rowR (.slice la k0 lc) 49 5 k0 ((upF (sb * 500) l k).flatMap cRc)]) (fun iv _ => k0 - (intOf iv).toNat)
 case atStart => exact ⟨0, Nat.zero_le _, rfl, HO.out⟩
 case round =>
  obtain ⟨k, hk, rfl, hO⟩ := hrel
  clear HO
  have HO := Lib.hid hO
  clear hO
  by_cases hlt : k < k0
  ·
   have hd : decide ((k : Int) < (k0 : Int)) = true := decide_eq_true (by omega)
   obtain ⟨gl, rfl⟩ := row_some (HO.out.row 1 rfl) (by omega)
   have hkl : k < l.length := by rw [HL.out]; exact hlt
   have HUS := Lib.hid (upF_set (sb * 500) hkl)
   have HUA := Lib.hid (upF_at (sb * 500) hkl)
   obtain ⟨ot, hot⟩ : ∃ y, l[k].tt = y := ⟨_, rfl⟩
   rw [hot] at HUA
   clear hot hkl
   go_wp2_with fail
   refine (o_still HO.out (HP1.out _)).mono ?_
   rintro e x41 ⟨rfl, hO, -⟩
   replace HO := Lib.hid (show Own w glD x41 [glR g, rowR (.slice (some ⟨gl, 0, none⟩) k0 lc) 49 5 k0 ((upF (sb * 500) l k).flatMap cRc)] from hO)
   clear hO
   have y0 : x41.cell? ⟨gl, k * 5 + 2, none⟩ = some (.int .i64 ot) := (row_cells (HO.out.row 1 rfl)).1 (k * 5 + 2) _ HUA.out
   have y1 : x41.frozen? ⟨gl, k * 5 + 2, none⟩ = false := (row_cells (HO.out.row 1 rfl)).2 (k * 5 + 2)
   obtain ⟨x60, hx60⟩ : ∃ y, x41.setCell ⟨gl, k * 5 + 2, none⟩ (.int .i64 (sb * 500)) = y := ⟨_, rfl⟩
   have hO := Own.rowSet HO.out 1 rfl (k * 5 + 2) (.int .i64 (sb * 500))
   rw [hx60] at hO
   simp only [List.set_cons_succ, List.set_cons_zero, HUS.out] at hO
   replace HO := Lib.hid (show Own _ _ _ [_, rowR (.slice (some ⟨gl, 0, none⟩) k0 lc) 49 5 k0 ((upF (sb * 500) l (k + 1)).flatMap cRc)] from hO)
   clear hO
   go_wp2
   go_roundw
   case rel => exact ⟨k + 1, by omega, by go_num, HO.out⟩
   case measure => simp [intOf]; omega
  ·
   obtain rfl : k = k0 := by omega
   have hd : decide ((k : Int) < (k : Int)) = false := decide_eq_false (by omega)
   have HUA := Lib.hid (show upF (sb * 500) l k = l.map (setT (sb * 500)) by rw [← HL.out]; exact upF_all _ _)
   rw [HUA.out] at HO
   clear HUA
   have HZL := Lib.hid (show (l.map (setT (sb * 500))).length = k by rw [List.length_map, HL.out])
   generalize l.map (setT (sb * 500)) = zl at *
   generalize sb * 500 = tt at *
   clear b10 b11 hlt HL
   replace HO := Lib.hid (show Own w glD wr [glR g, rowR (.slice la k lc) 49 5 k (zl.flatMap cRc)] from HO.out)
   obtain ⟨x71, hx71, g1, hg1, hO⟩ := HO.out.allocE (.cells #[.int .i64 3, .int .i64 5] 3)
   replace HO := Lib.hid (show Own _ _ _ [_, _, blkR g1 (.cells #[.int .i64 3, .int .i64 5] 3)] from hO)
   clear hO
   have r1 := run_bsI2 3 5
   have hQ := HO.out.toRowQ 2 2 1 rfl rfl (by decide)
   replace HO := Lib.hid (show Own w glD x71 [glR g, rowR (.slice la k lc) 49 5 k (zl.flatMap cRc), rowVs (.slice (some ⟨g1, 0, none⟩) 2 2) [3, 5]] from hQ)
   clear hQ
   go_wp2_with fail
   refine (o_still HO.out (HP2.out _)).mono ?_
   rintro e x72 ⟨rfl, hO, -⟩
   replace HO := Lib.hid hO
   clear hO
   clear hx71 hg1
   clear r1
   go_wp2_with fail
   refine (rnew_o (xs := [3, 5]) (n := 2) (sd := sd) HO.out 2 rfl rfl (by decide) sv35_bd sv35_ne HSD.out.1 HSD.out.2).mono ?_
   rintro e x73 ⟨a, rfl, hO, -⟩
   replace hO := newZ hO
   replace HO := Lib.hid (show Own _ _ _ [_, _, _, resZ a (restZ sd [] 0 0)] from hO)
   clear hO
   have hO := HO.out.toEnd 4 [1, 3, 0] rfl rfl
   replace HO := Lib.hid (show Own _ _ _ [rowR (.slice la k lc) 49 5 k (zl.flatMap cRc), resZ a (restZ sd [] 0 0), glR g] from hO)
   clear hO
   go_wp2
   go_loopw [14] (fun iv wr => ∃ (i : Nat) (es : List En) (qn : Int), i ≤ 6 ∧ iv = .int .i64 i ∧ ZC zl es ∧ CInv (i : Int) es ∧ 0 ≤ qn ∧ qn ≤ 20 * (i : Int) ∧ Own w glD wr [rowR (.slice la k lc) 49 5 k (zl.flatMap cRc), resZ a (restZ sd es (i : Int) qn), glR g]) (fun iv _ => 6 - (intOf iv).toNat)
   case atStart => exact ⟨0, [], 0, by omega, rfl, ZC.nil, CInv.nil _, by decide, by decide, HO.out⟩
   case round =>
    obtain ⟨i, es, qn, hi6, rfl, hzc, hci, hq0, hq1, hO⟩ := hrel
    clear HO
    have HO := Lib.hid hO
    have HZC := Lib.hid hzc
    have HCI := Lib.hid hci
    clear hO hzc hci
    by_cases hlt : i < len1 ∧ i < 6
    ·
     obtain ⟨hl1, hl6⟩ := hlt
     have hd1 : decide ((i : Int) < (len1 : Int)) = true := decide_eq_true (by omega)
     have hd2 : decide ((i : Int) < 6) = true := decide_eq_true (by omega)
     obtain ⟨nb, no, rfl, hcc⟩ := HNC.out (by omega)
     have HCN := Lib.hid (hcc i hl1)
     have hib := HNB.out i hl1
     obtain ⟨nm, hnm⟩ : ∃ y, nmL (gn i) = y := ⟨_, rfl⟩
     have HNM := Lib.hid (fun w => name21_r hnm hib w)
     have HP8 := Lib.hid (show P8 nm from hnm ▸ P8_nmL (gn i))
     obtain ⟨want, hwant⟩ : ∃ y, (zoneG zl 5 [nm]).2 = y := ⟨_, rfl⟩
     have HW := Lib.hid hwant
     generalize gn i = ni at *
     clear hcc hnm hwant hib
     have c0 := keep (HB.out _ _ (HO.out.toEnd 3 [2, 0, 1] rfl rfl)) HCN.out
     go_wp2_with fail
     refine (o_still HO.out (HNM.out _)).mono ?_
     rintro e x101 ⟨rfl, hO, -⟩
     replace HO := Lib.hid (show Own w glD x101 [rowR (.slice la k lc) 49 5 k (zl.flatMap cRc), resZ a (restZ sd es (i : Int) qn), glR g] from hO)
     clear hO
     clear c0
     go_wp2_with fail
     refine (fz_resolve (A := [rowR (.slice la k lc) 49 5 k (zl.flatMap cRc)]) (bd := 20 * (i : Int) + 1) (want := want) HO.out HZN.out HZC.out HCI.out (by omega) (by omega) HSD.out.1 HSD.out.2 hq0 (by omega) (by omega) (by omega) (by omega) HP8.out HW.out).mono ?_
     rintro e x102 ⟨b, u, rfl, hS⟩
     have HS := Lib.hid hS
     clear hS HO HZC HCI hq0 hq1
     go_wp2
     go_loopw [16, 18] (fun qv kv wq => ∃ k2 : Nat, kv = .int .i64 k2 ∧ k2 ≤ 5 ∧ FzS zl want (i : Int) sd ((i : Int) + 1) (20 * (i : Int) + 1 + k2) (k2 + 1) b a g [rowR (.slice la k lc) 49 5 k (zl.flatMap cRc)] w glD wq qv) (fun _ kv _ => 12 - (intOf kv).toNat)
     case atStart => exact ⟨0, rfl, by decide, by have := HS.out; simpa using this⟩
     case round =>
      obtain ⟨k2, rfl, hk5, hS⟩ := hrel
      clear HS
      rcases hS with ⟨es, qn, ch, hP, hml, hzc, hci, hq0, hq1, hO⟩ | ⟨es, qn, hzc, hci, hq0, hq1, hO⟩
      ·
       have HO := Lib.hid (show Own w glD wr [rowR (.slice la k lc) 49 5 k (zl.flatMap cRc), resZ a (pendZ sd es ((i : Int) + 1) (qn + 1) b (i : Int) ch), glR g, rowQs u16 [qyZ sd qn 3 (lastN ch)]] from hO)
       have HPE := Lib.hid hP
       have HZC := Lib.hid hzc
       have HCI := Lib.hid hci
       have hc5 := hP.c5
       clear hO hP hzc hci
       obtain ⟨qa, qc, hu⟩ := row_shape (HO.out.row 3 rfl)
       have hu1 : u16 = .slice qa 1 qc := hu
       subst hu1
       obtain ⟨gq, rfl⟩ := row_some (HO.out.row 3 rfl) Nat.one_pos
       have hd3 : decide ((k2 : Int) < 12) = true := decide_eq_true (by omega)
       obtain ⟨pt, hpt⟩ : ∃ v, 20000 + (sd + 101 * (qn + 1)) % 10000 = v := ⟨_, rfl⟩
       obtain ⟨qs, hqs⟩ : ∃ v, qryS sd qn (lastN ch) = v := ⟨_, rfl⟩
       have HQC := Lib.hid (show ([qyZ sd qn 3 (lastN ch)] : List Qy).flatMap cQy = [.int .i64 3, .int .i64 pt, .string qs] by rw [← hpt, ← hqs]; rfl)
       obtain ⟨out, hout⟩ : ∃ v, (⟨(encM (ansM zl all ((sd + 7919 * (qn + 1)) % 65536) (lastN ch))).toArray⟩ : ByteArray) = v := ⟨_, rfl⟩
       have HOUT := Lib.hid hout
       have HPT := Lib.hid hpt
       have HPN := Lib.hid (P8_v (HPE.out.nm _ (lastN_mem HPE.out.c0)))
       have HQS := Lib.hid (show qs = ⟨(encM (qryD ((sd + 7919 * (qn + 1)) % 65536) (lastN ch))).toArray⟩ by rw [← hqs]; rfl)
       clear hout hpt hqs
       have k0' : wr.cell? ⟨gq, 0, none⟩ = some (.int .i64 3) := (row_cells (HO.out.row 3 rfl)).1 0 _ (by rw [HQC.out]; rfl)
       have k1' : wr.cell? ⟨gq, 1, none⟩ = some (.int .i64 pt) := (row_cells (HO.out.row 3 rfl)).1 1 _ (by rw [HQC.out]; rfl)
       have k2' : wr.cell? ⟨gq, 2, none⟩ = some (.string qs) := (row_cells (HO.out.row 3 rfl)).1 2 _ (by rw [HQC.out]; rfl)
       clear k0' k1' k2'
       go_wp2
       have HO1 := Lib.hid (show Own w glD wr [rowR (.slice la k lc) 49 5 k (zl.flatMap cRc), rowQs (.slice (some ⟨gq, 0, none⟩) 1 qc) [qyZ sd qn 3 (lastN ch)], resZ a (pendZ sd es ((i : Int) + 1) (qn + 1) b (i : Int) ch), glR g] from HO.out.toEnd 4 [0, 3, 1, 2] rfl rfl)
       clear HO
       generalize hΓ : ghP (fun vs w' => match vs with
        | [] => Own w glD w' [rowR (.slice la k lc) 49 5 k (zl.flatMap cRc), rowQs (.slice (some ⟨gq, 0, none⟩) 1 qc) [qyZ sd qn 3 (lastN ch)], resZ a (pendZ sd es ((i : Int) + 1) (qn + 1) b (i : Int) ch), glR g]
        | [v] => ∃ u, v = .tuple #[.bool true, u] ∧ FzS zl want (i : Int) sd ((i : Int) + 1) (20 * (i : Int) + 1 + ((k2 + 1 : Nat) : Int)) (k2 + 1 + 1) b a g [rowR (.slice la k lc) 49 5 k (zl.flatMap cRc), rowQs (.slice (some ⟨gq, 0, none⟩) 1 qc) [qyZ sd qn 3 (lastN ch)]] w glD w' u
        | _ => False) (fun vs w1 w2 h hb => by
         match vs, h with
         | [], h1 => exact h1.stay hb
         | [v], ⟨u, h1, h2⟩ => exact ⟨u, h1, h2.stay hb⟩) = Γ
       have HGS := Lib.hid (show Γ.inv [] wr by rw [← hΓ]; exact HO1.out)
       have HRW := Lib.hid (show ∀ vs w', Γ.inv vs w' → Own w glD w' [rowR (.slice la k lc) 49 5 k (zl.flatMap cRc), rowQs (.slice (some ⟨gq, 0, none⟩) 1 qc) [qyZ sd qn 3 (lastN ch)]] by
        rw [← hΓ]
        intro vs w' hh
        match vs, hh with
        | [], h1 => exact Own.toEnd h1 4 [0, 1] rfl rfl
        | [v], ⟨u, _, h1⟩ => exact h1.rows)
       have HTU := Lib.hid (show ∀ vs w' x, Γ.inv vs w' → vs[0]? = some x → ∃ u, x = .tuple #[.bool true, u] by
        rw [← hΓ]
        intro vs w' x hh hx
        match vs, hh with
        | [], h1 => cases hx
        | [v], ⟨u, h0, h1⟩ => cases hx; exact ⟨u, h0⟩)
       have q0 : ∀ q : Γ.Wd, q.w.cell? ⟨gq, 0, none⟩ = some (.int .i64 3) := fun q => (row_cells ((HRW.out _ _ q.h).row 1 rfl)).1 0 _ (by rw [HQC.out]; rfl)
       have q1 : ∀ q : Γ.Wd, q.w.cell? ⟨gq, 1, none⟩ = some (.int .i64 pt) := fun q => (row_cells ((HRW.out _ _ q.h).row 1 rfl)).1 1 _ (by rw [HQC.out]; rfl)
       have q2 : ∀ q : Γ.Wd, q.w.cell? ⟨gq, 2, none⟩ = some (.string qs) := fun q => (row_cells ((HRW.out _ _ q.h).row 1 rfl)).1 2 _ (by rw [HQC.out]; rfl)
       have HZV := Lib.hid (show ∀ vs w', Γ.inv vs w' → Calls Tryz.prog 25 #[.slice la k lc, .agg #[.int .i64 3, .int .i64 pt, .string qs], .bool all] w' fun e w'' => e = .returned (.agg #[.int .i64 53, .int .i64 pt, .string out]) ∧ Below w'.heap.size w' w'' from fun vs w' hh => zoneAns_r w' ((HRW.out vs w' hh).row 0 rfl) HZL.out hk8 (fun r hr => (HZN.out.ok r hr).1) HPN.out (by omega) (by omega) HQS.out HOUT.out)
       have HΓ := Lib.hid hΓ
       clear hΓ
       have ne : Nonempty Γ.Wd := ⟨⟨[], wr, HGS.out⟩⟩
       refine wp_region_H Γ 18 [12] (by kernel_rfl) (by kernel_rfl) (by kernel_rfl) (by kernel_rfl) HGS.out ?_
       simp only [List.take, List.drop]
       iterate 11 (first | (refine wpH_want (by kernel_rfl) (by kernel_rfl) rfl rfl ?_; intro K hK; go_big_quiet_op; go_big_quiet_on) | (refine wpH_is (by kernel_rfl) (by kernel_rfl) rfl _ (fun _ w _ => rfl) ?_; simp only [Act.put, List.setIfInBounds_toArray, List.set_cons_succ, List.set_cons_zero]))
       refine wpH_call (by kernel_rfl) (by kernel_rfl) rfl 25 #[.slice la k lc, .agg #[.int .i64 3, .int .i64 pt, .string qs], .bool all] (.agg #[.int .i64 53, .int .i64 pt, .string out]) (fun w => by simp [go_sem]) (fun vs w' hh => HZV.out vs w' hh) ?_
       simp only [Act.put, List.setIfInBounds_toArray, List.set_cons_succ, List.set_cons_zero]
       refine wpH_chainX 0 (gnth 0) (gnth_lasts _ _) (by kernel_rfl) (by kernel_rfl) (fun a' g' hg hgl he => ?_) (fun d hd => ?_)
       ·
        obtain ⟨h90, h91, h95, h101, _⟩ := he
        have h90' : a'.tmps.getD 90 undef = .pointer (some ⟨a, 0, none⟩) := h90
        have h91' : a'.tmps.getD 91 undef = .int .i64 (i : Int) := h91
        have h95' : a'.tmps.getD 95 undef = .int .i64 3 := h95
        have h101' : a'.tmps.getD 101 undef = .agg #[.int .i64 53, .int .i64 pt, .string out] := h101
        refine wp_callG (f := 24) (args := #[.pointer (some ⟨a, 0, none⟩), .int .i64 (i : Int), .int .i64 3, .agg #[.int .i64 53, .int .i64 pt, .string out]]) (by simp [go_sem, Act.eval, h90', h91', h95', h101']) ?_
        obtain ⟨vs, w'⟩ := g'
        obtain rfl : vs = [] := List.eq_nil_of_length_eq_zero hgl
        rw [← HΓ.out] at hg ⊢
        have hg1 : Own w glD w' ([rowR (.slice la k lc) 49 5 k (zl.flatMap cRc), rowQs (.slice (some ⟨gq, 0, none⟩) 1 qc) [qyZ sd qn 3 (lastN ch)]] ++ [resZ a (pendZ sd es ((i : Int) + 1) (qn + 1) b (i : Int) ch), glR g]) := hg
        refine (fz_recv (bd := (20 * (i : Int) + 1 + ((k2 + 1 : Nat) : Int))) (m := k2 + 1) hg1 HG.out HZN.out HTT.out HZC.out HCI.out (by omega) (by omega) HSD.out.1 HSD.out.2 hq0 (by omega) (by omega) HPE.out hml HOUT.out HPT.out).mono ?_
        rintro e w'' ⟨u, rfl, hS, hs⟩
        exact ⟨_, rfl, _, rfl, ghP_mv ⟨u, rfl, hS⟩ hs, rfl⟩
       cases hd
       simp only [List.nil_append]
       refine wpH_ex (gnth 0) (gnth_lasts _ _) (by kernel_rfl) (by kernel_rfl) (fun a' g' hg he => ?_) (fun d hd => ?_)
       ·
        obtain ⟨h102, _⟩ := he
        have h102' : g'.vs[0]? = some (a'.tmps.getD 102 undef) := h102
        simp [go_sem]
        refine ⟨_, rfl, Below.refl _ _, ?_⟩
        show g'.vs[0]? = some _
        simpa using h102'
       cases hd
       simp only [List.cons_append, List.nil_append]
       refine wpH_known (.bool true) (by kernel_rfl) (by kernel_rfl) (fun a' g' hg he => ?_) ?_
       ·
        obtain ⟨h89, _⟩ := he
        have h89' : g'.vs[0]? = some (a'.tmps.getD 89 undef) := h89
        obtain ⟨u, hu⟩ := HTU.out _ _ _ hg h89'
        simp [go_sem, hu]
        exact Below.refl _ _
       simp only [Act.put, List.setIfInBounds_toArray, List.set_cons_succ, List.set_cons_zero]
       refine wpH_ex sndOf (sndOf_lasts _) (by kernel_rfl) (by kernel_rfl) (fun a' g' hg he => ?_) (fun d hd => ?_)
       ·
        obtain ⟨h89, _⟩ := he
        have h89' : g'.vs[0]? = some (a'.tmps.getD 89 undef) := h89
        obtain ⟨u, hu⟩ := HTU.out _ _ _ hg h89'
        simp [go_sem, hu]
        exact ⟨_, rfl, Below.refl _ _, ⟨_, by rw [h89', hu]⟩⟩
       cases hd
       simp only [List.cons_append, List.nil_append]
       iterate 1 (first | (refine wpH_want (by kernel_rfl) (by kernel_rfl) rfl rfl ?_; intro K hK; go_big_quiet_op; go_big_quiet_on) | (refine wpH_is (by kernel_rfl) (by kernel_rfl) rfl _ (fun _ w _ => rfl) ?_; simp only [Act.put, List.setIfInBounds_toArray, List.set_cons_succ, List.set_cons_zero]))
       refine wpH_ex sndOf (sndOf_lasts _) (by kernel_rfl) (by kernel_rfl) (fun a' g' hg he => ?_) (fun d hd => ?_)
       ·
        obtain ⟨h104, _⟩ := he
        have h104a : sndOf (a'.eval (.tmp 104)) g' := h104
        obtain ⟨bq, h104b⟩ := h104a
        have h104' : g'.vs[0]? = some (.tuple #[bq, a'.tmps.getD 104 undef]) := h104b
        simp [go_sem]
        refine ⟨_, rfl, Below.refl _ _, bq, ?_⟩
        show g'.vs[0]? = some _
        simpa using h104'
       cases hd
       simp only [List.cons_append, List.nil_append]
       refine wpH_nil (by kernel_rfl) (by simp) ?_
       rintro ⟨vs, x202⟩ hg hgl
       simp only [gexAll]
       rintro u102 - u89 - u104 - u20 hu20
       simp only [Act.put, List.setIfInBounds_toArray, List.set_cons_succ, List.set_cons_zero]
       rw [← HΓ.out] at hg
       obtain ⟨v, rfl⟩ : ∃ v, vs = [v] := List.length_eq_one_iff.1 hgl
       obtain ⟨u2, rfl, hS⟩ := hg
       obtain ⟨bb, hb2⟩ := hu20
       have e20 : u2 = u20 := by
        have hb3 : some (Value.tuple #[.bool true, u2]) = some (.tuple #[bb, u20]) := hb2
        injection hb3 with hb3
        injection hb3 with hb3
        have := congrArg (fun x : Array Value => x[1]?) hb3
        simpa using this
       subst e20
       have HS := Lib.hid (FzS.less hS)
       simp only [List.drop]
       clear hS HGS HRW HTU q0 q1 q2 HZV HΓ ne hgl hb2 HO1 HZC HCI HPE HOUT HPT HQS HPN HQC
       go_wp2
       go_roundw
       case rel => exact ⟨k2 + 1, by go_num, by omega, HS.out⟩
       case measure => simp [intOf]; omega
      ·
       have HO := Lib.hid (show Own w glD wr [rowR (.slice la k lc) 49 5 k (zl.flatMap cRc), resZ a (doneZ sd es ((i : Int) + 1) qn want), glR g, rowQs u16 []] from hO)
       have HZC := Lib.hid hzc
       have HCI := Lib.hid hci
       clear hO hzc hci
       obtain ⟨qa, qc, hu⟩ := row_shape (HO.out.row 3 rfl)
       have hu1 : u16 = .slice qa 0 qc := hu
       subst hu1
       have c0 := keep (HB.out _ _ (HO.out.toEnd 4 [2, 0, 1, 3] rfl rfl)) HCN.out
       have hd3 : decide ((k2 : Int) < 12) = true := decide_eq_true (by omega)
       go_wp2_with fail
       refine (o_still HO.out (HNM.out _)).mono ?_
       rintro e x301 ⟨rfl, hO, -⟩
       replace HO := Lib.hid (show Own w glD x301 [rowR (.slice la k lc) 49 5 k (zl.flatMap cRc), resZ a (doneZ sd es ((i : Int) + 1) qn want), glR g, rowQs (.slice qa 0 qc) []] from hO)
       clear hO
       clear c0
       go_wp2_with fail
       refine (inZone_r _ (HO.out.row 0 rfl) HZL.out (by omega) HZA.out HZN.out.to HW.out).mono ?_
       rintro e x310 ⟨uz, rfl, hO2⟩
       have hO := HO.out.joinC hO2
       clear hO2
       replace HO := Lib.hid (show Own _ _ _ [_, _, _, _, rowA uz (roA want)] from hO)
       clear hO
       obtain ⟨er, her⟩ : ∃ y, roE want = y := ⟨_, rfl⟩
       have HER := Lib.hid her
       rw [her]
       obtain ⟨ad, had⟩ : ∃ y, roA want = y := ⟨_, rfl⟩
       have HAD := Lib.hid had
       have HAL := Lib.hid (show ad.length ≤ 19 by rw [← had]; exact want_len HZA.out HZN.out HW.out)
       have hO := HO.out
       rw [had] at hO
       have hDZ : doneZ sd es ((i : Int) + 1) qn want = ⟨[3, 5], sd, es, (i : Int) + 1, qn, [], [⟨(i : Int) + 1, er, ad⟩]⟩ := by unfold doneZ; rw [her, had]
       rw [hDZ] at hO
       clear her had hDZ
       replace HO := Lib.hid (show Own _ _ _ [_, resZ a ⟨[3, 5], sd, es, (i : Int) + 1, qn, [], [⟨(i : Int) + 1, er, ad⟩]⟩, _, _, rowA uz ad] from hO)
       clear hO
       obtain ⟨za, zc, hz⟩ := row_shape (HO.out.row 4 rfl)
       obtain ⟨zn, hzn⟩ : ∃ y, ad.length = y := ⟨_, rfl⟩
       have HZN2 := Lib.hid hzn
       rw [hzn] at hz
       subst hz
       have hzb : (zn : Int) ≤ 19 := by have := HAL.out; omega
       clear hzn
       go_wp2_with fail
       refine (o_frameV [rowR (.slice la k lc) 49 5 k (zl.flatMap cRc), glR g, rowQs (.slice qa 0 qc) [], rowA (.slice za zn zc) ad] [resZ a ⟨[3, 5], sd, es, (i : Int) + 1, qn, [], [⟨(i : Int) + 1, er, ad⟩]⟩] (fun u => [resZ a (restZ sd es ((i : Int) + 1) qn), resDn u [⟨(i : Int) + 1, er, ad⟩]]) (HO.out.toEnd 5 [0, 2, 3, 4, 1] rfl rfl) (fun D' hD => results_z hD)).mono ?_
       rintro e x311 ⟨wv, rfl, hO, -⟩
       replace HO := Lib.hid (show Own _ _ _ [_, glR g, rowQs (.slice qa 0 qc) [], rowA (.slice za zn zc) ad, resZ a (restZ sd es ((i : Int) + 1) qn), resDn wv [⟨(i : Int) + 1, er, ad⟩]] from hO)
       clear hO
       obtain ⟨x302, hx302, gr2, hgr2, hO⟩ := HO.out.allocE (.cells #[.int .i64 ((i : Int) + 1), .int .i64 er, .slice za zn zc] 63)
       replace HO := Lib.hid (show Own _ _ _ [_, _, _, _, _, _, blkR gr2 (.cells #[.int .i64 ((i : Int) + 1), .int .i64 er, .slice za zn zc] 63)] from hO)
       clear hO
       have HLT := Lib.hid (rdrn_one (w := x302) (g := gr2) (c := 1) (d := ⟨(i : Int) + 1, er, ad⟩) (HO.out.cell 6 rfl 0 rfl) (HO.out.cell 6 rfl 1 rfl) (HO.out.cell 6 rfl 2 rfl) HZN2.out (by omega) (fun j hj => by
        obtain ⟨q, e, h1, h2⟩ := row_int (HO.out.row 3 rfl) rfl
        rw [HZN2.out] at h1 h2
        cases h1
        exact h2 j hj))
       have HDN := Lib.hid (rdrn_own HO.out 5 rfl (by show ad.length ≤ 1000; have := HAL.out; omega))
       go_wp2_with fail
       refine (o_still HO.out (sameF_r _ HDN.out HLT.out (by decide))).mono ?_
       rintro e x320 ⟨rfl, hO, -⟩
       replace HO := Lib.hid hO
       clear hO HLT HDN
       clear hx302 hgr2
       have hO := HO.out.toEnd 7 [0, 4, 1] rfl rfl
       replace HO := Lib.hid (show Own _ _ _ [_, resZ a (restZ sd es (((i + 1 : Nat) : Nat) : Int) qn), glR g] from hO)
       clear hO
       have HCI2 := Lib.hid (HCI.out.later (t' := ((i + 1 : Nat) : Int)) (by omega))
       go_wp2
       go_roundw
       case rel => exact ⟨i + 1, es, qn, by omega, by go_num, HZC.out, HCI2.out, hq0, by omega, HO.out⟩
       case measure => simp [intOf]; omega
    ·
     have HS := Lib.hid (sizes_z (HO.out.toEnd 3 [1, 2] rfl rfl))
     have hes : decide ((es.length : Int) ≤ 32) = true := decide_eq_true (by have := HCI.out.len; omega)
     have HSE := Lib.hid (show (restZ sd es (i : Int) qn).es.length = es.length from rfl)
     have HSW := Lib.hid (show (restZ sd es (i : Int) qn).wl.length = 0 from rfl)
     rw [HSE.out, HSW.out] at HS
     generalize es.length = el at *
     clear HSE HSW
     by_cases hl1 : i < len1
     ·
      have hd1 : decide ((i : Int) < (len1 : Int)) = true := decide_eq_true (by omega)
      have hd2 : decide ((i : Int) < 6) = false := decide_eq_false (by omega)
      go_wp2_with fail
      refine HS.out.mono ?_
      rintro e x501 ⟨rfl, hO, -⟩
      replace HO := Lib.hid hO
      clear hO HS
      go_wp2
      go_ret
      exact ⟨rfl, HO.out.toEnd 2 [1] rfl rfl, HO.out.size⟩
     ·
      have hd1 : decide ((i : Int) < (len1 : Int)) = false := decide_eq_false (by omega)
      go_wp2_with fail
      refine HS.out.mono ?_
      rintro e x501 ⟨rfl, hO, -⟩
      replace HO := Lib.hid hO
      clear hO HS
      go_wp2
      go_ret
      exact ⟨rfl, HO.out.toEnd 2 [1] rfl rfl, HO.out.size⟩
end
end Go.Proofs.YtbolfkojebbejaaGreatDoor
