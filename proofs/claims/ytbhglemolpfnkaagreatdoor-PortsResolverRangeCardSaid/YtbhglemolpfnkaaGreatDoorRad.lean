/- The resolver's again where no query is left, and advance. Printed by wip/tools/gen21i.py. -/
import Derived.Test.YtbhglemolpfnkaaGreatDoorRre
import Derived.Test.YtbhglemolpfnkaaGreatDoorBv
import Derived.Test.YtbhglemolpfnkaaGreatDoorRfi
set_option linter.unusedVariables false
set_option maxRecDepth 100000
set_option maxHeartbeats 32000000
namespace Go.Proofs.YtbhglemolpfnkaaGreatDoor
open Go.RowKit Go.Sort Go.Lib Go.Shelf
attribute [local go_sem] Oper.semAt_some

theorem iface_nil (n : Int) (w : World) : (binOp .eql 165 (failV n) .nilIface).run Tryz.prog w = .ok (.bool false) w := by kernel_rfl
structure AskO (a b : Nat) (st : Rv) (k : Lk) (ch' : List ByteArray) (now vy : Int) (os : List (Nat × Lk)) (g : Glo) (R : Res) (w0 : World) (D : Nat → Prop) (e : Ending) (w' : World) : Prop where
 is : ∃ u, e = .returned u ∧ Own w0 D w' [resKs os, glR g, R, resV a ⟨st.sv, st.sd, st.es, st.tk, st.qn + 1, st.wt, st.dl, st.dn⟩, resK b ⟨k.tk, ch', 1, st.qn + 1, now, vy⟩, rowQ u 1 (qryC st.sd st.qn vy (lastN ch'))]
structure DoneO (a b : Nat) (st : Rv) (k : Lk) (ch' : List ByteArray) (er : Int) (ad : List Int) (os : List (Nat × Lk)) (g : Glo) (R : Res) (w0 : World) (D : Nat → Prop) (e : Ending) (w' : World) : Prop where
 is : e = .returned (.slice none 0 0) ∧ ∃ v, Own w0 D w' [R, rowR v 3 1 ad.length (ad.map cIn), resV a (finV st b k.tk er v), resK b ⟨k.tk, ch', k.tr, k.nu, k.se, k.sv⟩, resKs os, glR g]
def AdvO (a b : Nat) (st : Rv) (k : Lk) (ch' : List ByteArray) (ro : RO) (now vy : Int) (os : List (Nat × Lk)) (g : Glo) (R : Res) (w0 : World) (D : Nat → Prop) (e : Ending) (w' : World) : Prop :=
 match ro with
 | .ask => AskO a b st k ch' now vy os g R w0 D e w'
 | .addrs l => DoneO a b st k ch' 0 l os g R w0 D e w'
 | .fail n => DoneO a b st k ch' n [] os g R w0 D e w'
theorem advance_o {w : World} {D : Nat → Prop} {a b n : Nat} {sv : List Int} {sd : Int} {es : List En} {tk qn : Int} {wt : List Nat} {dl : Nat} {dn : List Value} {lt tr nu se s0 now vy : Int} {ch ch' : List ByteArray} {ro : RO} {os : List (Nat × Lk)} {g : Glo} {vr : Value} {rs : List Rc} (h : Own w D w [resV a ⟨sv, sd, es, tk, qn, wt, dl, dn⟩, resK b ⟨lt, ch, tr, nu, se, s0⟩, resKs os, glR g, rowRc vr rs])
  (hl : rs.length ≤ 1000) (hes : es.length ≤ 32) (hap : es.Pairwise aprt) (hf : ∃ f, ch.length + f = 6 ∧ rslF now es rs f ch = (ch', ro)) (hc0 : 0 < ch.length ∧ ch.length ≤ 5) (hc1 : 0 < ch'.length ∧ ch'.length ≤ 5)
  (hn : sv.length = n) (hn0 : 0 < n) (hn4 : n ≤ 4) (hy : sv[0]? = some vy) (hv : vname (lastN ch') = true) (d0 : 0 ≤ sd) (d1 : sd ≤ 4294967295) (q0 : 0 ≤ qn) (q1 : qn ≤ 100000)
  (hb : b ∈ wt) (hw : ∀ c ∈ wt, c = b ∨ ∃ p ∈ os, p.1 = c) (hwl : wt.length ≤ 100) (hdl : dl ≤ 1000) :
  Calls Tryz.prog 38 #[.pointer (some ⟨a, 0, none⟩), .int .i64 now, .pointer (some ⟨b, 0, none⟩), vr] w (AdvO a b ⟨sv, sd, es, tk, qn, wt, dl, dn⟩ ⟨lt, ch, tr, nu, se, s0⟩ ch' ro now vy os g (rowRc vr rs) w D) := by
 have HFN := Hi (fun er w' (D' : Nat → Prop) (ho : Own w' D' w' (LF a ⟨sv, sd, es, tk, qn, wt, dl, dn⟩ b ⟨lt, ch', tr, nu, se, s0⟩ os g)) => finish_no (er := er) (x := none) (n := 0) (cap := 0) ho hb hw hwl hdl)
 have HFK := Hi (fun x n cap w' (D' : Nat → Prop) (ho : Own w' D' w' (LF a ⟨sv, sd, es, tk, qn, wt, dl, dn⟩ b ⟨lt, ch', tr, nu, se, s0⟩ os g)) => finish_ok (er := 0) (x := x) (n := n) (cap := cap) ho hb hw hwl hdl)
 have HRE := Hi (show ∀ w' (D' : Nat → Prop), Own w' D' w' [resV a ⟨sv, sd, es, tk, qn, wt, dl, dn⟩, resK b ⟨lt, ch, tr, nu, se, s0⟩, rowRc vr rs] → Calls Tryz.prog 81 #[.pointer (some ⟨a, 0, none⟩), .int .i64 now, .pointer (some ⟨b, 0, none⟩), vr] w' (ResPost w' D' a b vr ⟨sv, sd, es, tk, qn, wt, dl, dn⟩ rs ⟨lt, ch', tr, nu, se, s0⟩ ro) from fun w' D' ho => by
  obtain ⟨f, h1, h2⟩ := hf
  exact resolve_o (a := a) (b := b) (sv := sv) (sd := sd) (tk := tk) (qn := qn) (wt := wt) (dl := dl) (dn := dn) (lt := lt) (tr := tr) (nu := nu) (se := se) (s0 := s0) (now := now) (vr := vr) hl hes hap f w' w' D' ch ch' ro h1 hc0 h2 ho)
 have HAQ := Hi (fun w' (D' : Nat → Prop) (ho : Own w' D' w' [resV a ⟨sv, sd, es, tk, qn, wt, dl, dn⟩, resK b ⟨lt, ch', ((0 : Nat) : Int), nu, se, s0⟩]) => again_q (now := now) (t := 0) (j := 0) (mi := ch'.length - 1) (m := ch'.length) ho rfl (by omega) (by omega) (lastN_get (by omega)) hn hn0 hn4 (by omega) (by simp) hy hv d0 d1 q0 q1)
 have HO := Hi h
 obtain ⟨ra, rcp, rfl⟩ := row_shape (h.row 4 rfl)
 have hin := iface_nil
 clear hl hes hap hf hc0 hc1 hn hn0 hn4 hy hv d0 d1 q0 q1 hb hw hwl hdl h
 go_enter Tryz.func38, Tryz.ntmps38
 go_wp2_with fail
 refine (o_frame (A := [resKs os, glR g]) (B := [resV a ⟨sv, sd, es, tk, qn, wt, dl, dn⟩, resK b ⟨lt, ch, tr, nu, se, s0⟩, rowRc (.slice ra rs.length rcp) rs]) (Q := fun e B' => ∃ v L', roV ro v L' ∧ e = .returned v ∧ B' = resV a ⟨sv, sd, es, tk, qn, wt, dl, dn⟩ :: resK b ⟨lt, ch', tr, nu, se, s0⟩ :: rowRc (.slice ra rs.length rcp) rs :: L') (HO.out.toEnd 5 [2, 3, 0, 1, 4] rfl rfl) (fun D' hD => (HRE.out w D' hD).mono fun e w' ⟨v, L', h1, h2, h3⟩ => ⟨_, ⟨v, L', h1, h2, rfl⟩, h3, h3.size⟩)).mono ?_
 rintro e y1 ⟨B', ⟨v, L', hro, rfl, rfl⟩, hO, -⟩
 replace HO := Hi hO
 clear hO HRE
 cases ro with
 | ask =>
  obtain ⟨rfl, rfl⟩ := hro
  obtain ⟨vk, hO⟩ := openK (L := [resKs os, glR g, resV a ⟨sv, sd, es, tk, qn, wt, dl, dn⟩, rowRc (.slice ra rs.length rcp) rs]) (HO.out.toEnd 5 [3, 0, 1, 2, 4] rfl rfl)
  replace HO := Hi hO
  clear hO
  have ⟨c1, f1⟩ : y1.cell? _ = some (.int .i64 tr) ∧ _ := HO.out.cf 0 rfl 2 rfl
  obtain ⟨y2, hy2, hO⟩ := HO.out.setE 0 rfl 2 (.int .i64 0)
  have HO2 := Hi ((shutK (k := ⟨lt, ch', 0, nu, se, s0⟩) (v := vk) (L := [resKs os, glR g, resV a ⟨sv, sd, es, tk, qn, wt, dl, dn⟩, rowRc (.slice ra rs.length rcp) rs]) hO).toEnd 5 [1, 2, 4, 3, 0] rfl rfl)
  clear hO HFN HFK
  go_wp2_with fail
  refine (o_frameV [resKs os, glR g, rowRc (.slice ra rs.length rcp) rs] [resV a ⟨sv, sd, es, tk, qn, wt, dl, dn⟩, resK b ⟨lt, ch', 0, nu, se, s0⟩] (fun u => [resV a ⟨sv, sd, es, tk, qn + 1, wt, dl, dn⟩, resK b ⟨lt, ch', ((0 + 1 : Nat) : Int), qn + 1, now, vy⟩, rowQ u 1 (qryC sd qn vy (lastN ch'))]) HO2.out (fun D' hD => (HAQ.out y2 D' hD).mono fun e w' ⟨v, h1, h2, h3⟩ => ⟨v, h1, h2, h3⟩)).mono ?_
  rintro e y3 ⟨u, rfl, hO, -⟩
  have HO3 := Hi (show Own w D y3 [resKs os, glR g, rowRc (.slice ra rs.length rcp) rs, resV a ⟨sv, sd, es, tk, qn + 1, wt, dl, dn⟩, resK b ⟨lt, ch', 1, qn + 1, now, vy⟩, rowQ u 1 (qryC sd qn vy (lastN ch'))] from hO)
  clear hO HAQ
  go_wp2
  go_ret
  exact ⟨_, rfl, HO3.out⟩
 | addrs l =>
  obtain ⟨u, rfl, rfl⟩ := hro
  have hO := HO.out.toEnd 6 [4, 5, 2, 3, 0, 1] rfl rfl
  obtain ⟨ua, uc, rfl⟩ := row_shape (hO.row 1 rfl)
  obtain ⟨un, hun⟩ : ∃ un, l.length = un := ⟨_, rfl⟩
  have HUN := Hi hun
  rw [hun] at hO ⊢
  have HO2 := Hi (show Own w D y1 ([rowRc (.slice ra rs.length rcp) rs, rowR (.slice ua un uc) 3 1 un (l.map cIn)] ++ LF a ⟨sv, sd, es, tk, qn, wt, dl, dn⟩ b ⟨lt, ch', tr, nu, se, s0⟩ os g) from hO)
  clear hO HFN HAQ hun
  go_wp2_with fail
  refine (o_frameO [rowRc (.slice ra rs.length rcp) rs, rowR (.slice ua un uc) 3 1 un (l.map cIn)] _ _ HO2.out (fun D' hD => HFK.out ua un uc y1 D' hD)).mono ?_
  rintro e y2 ⟨rfl, hO, -⟩
  have HO3 := Hi hO
  clear hO HFK
  go_wp2
  go_ret
  exact ⟨⟨rfl, _, by rw [HUN.out]; exact HO3.out⟩⟩
 | fail n =>
  obtain ⟨rfl, rfl⟩ := hro
  have hO := HO.out.toEnd 5 [4, 2, 3, 0, 1] rfl rfl
  have hin2 := hin n
  unfold failV at hin2 ⊢
  have HO2 := Hi (show Own w D y1 ([rowRc (.slice ra rs.length rcp) rs] ++ LF a ⟨sv, sd, es, tk, qn, wt, dl, dn⟩ b ⟨lt, ch', tr, nu, se, s0⟩ os g) from hO)
  clear hO HFK HAQ hin
  go_wp2_with fail
  refine (o_frameO [rowRc (.slice ra rs.length rcp) rs] _ _ HO2.out (fun D' hD => HFN.out n y1 D' hD)).mono ?_
  rintro e y2 ⟨rfl, hO, -⟩
  have hO3 := (hO.rowNew 3 1).toEnd 6 [0, 5, 1, 2, 3, 4] rfl rfl
  have HO3 := Hi hO3
  clear hO hO3 HFN
  go_wp2
  go_ret
  exact ⟨⟨rfl, _, HO3.out⟩⟩
end Go.Proofs.YtbhglemolpfnkaaGreatDoor
