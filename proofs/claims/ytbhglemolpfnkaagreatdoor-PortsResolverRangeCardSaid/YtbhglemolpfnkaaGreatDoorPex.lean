/- The examples that every law of chapter 23 begins with. Printed by wip/tools/gen23b.py. -/
import Derived.Test.YtbhglemolpfnkaaGreatDoorPw4
set_option linter.unusedVariables false
set_option maxRecDepth 100000
set_option maxHeartbeats 32000000
namespace Go.Proofs.YtbhglemolpfnkaaGreatDoor
open Go.RowKit Go.Sort

structure Ob (w0 w : World) (p : Nat) (st : PSt) (F : Nat → Prop) : Prop where
 «at» : PAt w p st F
 low : ∀ b, F b → w0.heap.size ≤ b
def Sep (F G : Nat → Prop) : Prop := ∀ b, F b → ¬ G b
theorem Sep.symm {F G : Nat → Prop} (h : Sep F G) : Sep G F := fun b hg hf => h b hf hg
theorem Sep.left {F F2 G : Nat → Prop} {w : World} (h : Sep F G) (hF : ∀ b, F2 b → F b ∨ w.heap.size ≤ b) (hG : ∀ b, G b → b < w.heap.size) : Sep F2 G := fun b h2 hg => by
 rcases hF b h2 with h1 | h1
 ·
  exact h b h1 hg
 ·
  have := hG b hg; omega
theorem Ob.stay {w0 w w' : World} {p : Nat} {st : PSt} {F : Nat → Prop} (h : Ob w0 w p st F) (hb : Below w.heap.size w w') : Ob w0 w' p st F := ⟨h.at.stay hb, h.low⟩
theorem Ob.other {w0 w w' : World} {p : Nat} {st : PSt} {F G : Nat → Prop} (h : Ob w0 w p st F) (hU : Upd G w w') (hd : Sep G F) : Ob w0 w' p st F := ⟨h.at.upd hU hd.symm, h.low⟩

theorem bind_l {pr po s e : Int} {st st' : PSt} (he : bindE st pr po s = e) (hs : bindS st pr po s = st') {p : Nat} {F : Nat → Prop} (w : World) (h : PAt w p st F) (hlen : st.B.length ≤ 1000000) :
  Calls Tryz.prog 14 #[.pointer (some ⟨p, 0, none⟩), .int .i64 pr, .int .i64 po, .int .i64 s] w (PPost w p st' F (.int .i64 e)) := he ▸ hs ▸ bind_any pr po s p st F w h hlen
theorem any_l {pr s n e : Int} {st st' : PSt} (he : anyR st pr s = (n, e, st')) {p : Nat} {F : Nat → Prop} (w : World) (h : PAt w p st F) (hlen : st.B.length ≤ 1000000) (hlj : st.J.length ≤ 1000000) (hg0 : 0 ≤ st.given) (hg1 : st.given ≤ 1000000) :
  Calls Tryz.prog 7 #[.pointer (some ⟨p, 0, none⟩), .int .i64 pr, .int .i64 s] w (PPost w p st' F (.tuple #[.int .i64 n, .int .i64 e])) := by
 have := bindany_any pr s p st F w h hlen hlj hg0 hg1
 rw [he] at this; exact this
theorem conn_l {s po th tp e : Int} {st st' : PSt} (he : connE st s po th tp = e) (hs : connS st s po th tp = st') {p : Nat} {F : Nat → Prop} (w : World) (h : PAt w p st F) (hlen : st.J.length ≤ 1000000) :
  Calls Tryz.prog 27 #[.pointer (some ⟨p, 0, none⟩), .int .i64 s, .int .i64 po, .int .i64 th, .int .i64 tp] w (PPost w p st' F (.int .i64 e)) := he ▸ hs ▸ connect_any s po th tp p st F w h hlen
theorem look_l {pr po th tp n : Int} {b : Bool} {st : PSt} (he : lookF st pr po th tp = (n, b)) {p : Nat} {F : Nat → Prop} (w : World) (h : PAt w p st F) (hlen : st.J.length ≤ 1000000) :
  Calls Tryz.prog 13 #[.pointer (some ⟨p, 0, none⟩), .int .i64 pr, .int .i64 po, .int .i64 th, .int .i64 tp] w fun e w' => e = .returned (.tuple #[.int .i64 n, .bool b]) ∧ Below w.heap.size w w' := by
 have := lookup_any pr po th tp p st F w h (fun s => Nat.le_trans (held_le st.J s) hlen)
 rw [he] at this; exact this
theorem rel_l {s : Int} {st st' : PSt} (hs : relS st s = st') {p : Nat} {F : Nat → Prop} (w : World) (h : PAt w p st F) (hl1 : st.B.length ≤ 1000000) (hl2 : st.J.length ≤ 1000000) :
  Calls Tryz.prog 29 #[.pointer (some ⟨p, 0, none⟩), .int .i64 s] w (PPost w p st' F (.tuple #[])) := hs ▸ release_any s p st F w h hl1 hl2
theorem len_l {n : Int} {st : PSt} (he : (st.B.length : Int) + st.J.length = n) {p : Nat} {F : Nat → Prop} (w : World) (h : PAt w p st F) (hl1 : st.B.length ≤ 1000000) (hl2 : st.J.length ≤ 1000000) :
  Calls Tryz.prog 28 #[.pointer (some ⟨p, 0, none⟩)] w fun e w' => e = .returned (.int .i64 n) ∧ Below w.heap.size w w' := he ▸ len_any p st F w h hl1 hl2

theorem examples_any (w : World) : Calls Tryz.prog 5 #[] w fun e w' => e = .returned (.bool true) ∧ Below w.heap.size w w' := by
 have B := Hi (Below.refl w.heap.size w)
 go_enter Tryz.func5, Tryz.ntmps5
 go_wp2_with fail
 refine (new_any 1 _).mono ?_
 rintro e x1 ⟨pp, rfl, hP, hge, hb⟩
 obtain ⟨Fp1, hP, hFn⟩ : ∃ F : Nat → Prop, PAt x1 pp ⟨1, 0, [], []⟩ F ∧ ∀ b, F b → b = pp := ⟨_, hP, fun _ h => h⟩
 have HQ := Hi (show Ob w x1 pp ⟨1, 0, [], []⟩ Fp1 from ⟨hP, fun b h => by have := hFn b h; have := B.out.size; omega⟩)
 replace B := Hi (below_mid B.out hb)
 have HPp := HQ
 clear hP hge hb hFn HQ
 go_wp2_with fail
 refine (any_l (st := ⟨1, 0, [], []⟩) (st' := ⟨1, 1, [(⟨6, 49153⟩, 7)], []⟩) (n := 49153) (e := 0) (by kernel_rfl) _ HPp.out.at (by decide) (by decide) (by decide) (by decide)).mono ?_
 rintro e x2 ⟨rfl, Fp2, hP, hF, hU⟩
 have HQ := Hi (Ob.mk hP (fun b h => (hF b h).elim (HPp.out.low b) (fun h => Nat.le_trans B.out.size h)))
 replace B := Hi (B.out.trans (hU.below B.out.size HPp.out.low))
 replace HPp := HQ
 clear hP hF hU HQ
 go_wp2_with fail
 refine (any_l (st := ⟨1, 1, [(⟨6, 49153⟩, 7)], []⟩) (st' := ⟨1, 2, [(⟨6, 49153⟩, 7), (⟨6, 49154⟩, 8)], []⟩) (n := 49154) (e := 0) (by kernel_rfl) _ HPp.out.at (by decide) (by decide) (by decide) (by decide)).mono ?_
 rintro e x3 ⟨rfl, Fp3, hP, hF, hU⟩
 have HQ := Hi (Ob.mk hP (fun b h => (hF b h).elim (HPp.out.low b) (fun h => Nat.le_trans B.out.size h)))
 replace B := Hi (B.out.trans (hU.below B.out.size HPp.out.low))
 replace HPp := HQ
 clear hP hF hU HQ
 go_wp2_with fail
 refine (bind_l (st := ⟨1, 2, [(⟨6, 49153⟩, 7), (⟨6, 49154⟩, 8)], []⟩) (st' := ⟨1, 2, [(⟨6, 49153⟩, 7), (⟨6, 49154⟩, 8), (⟨6, 80⟩, 1)], []⟩) (e := 0) (by kernel_rfl) (by kernel_rfl) _ HPp.out.at (by decide)).mono ?_
 rintro e x4 ⟨rfl, Fp4, hP, hF, hU⟩
 have HQ := Hi (Ob.mk hP (fun b h => (hF b h).elim (HPp.out.low b) (fun h => Nat.le_trans B.out.size h)))
 replace B := Hi (B.out.trans (hU.below B.out.size HPp.out.low))
 replace HPp := HQ
 clear hP hF hU HQ
 go_wp2_with fail
 refine (conn_l (st := ⟨1, 2, [(⟨6, 49153⟩, 7), (⟨6, 49154⟩, 8), (⟨6, 80⟩, 1)], []⟩) (st' := ⟨1, 2, [(⟨6, 49153⟩, 7), (⟨6, 49154⟩, 8), (⟨6, 80⟩, 1)], [(⟨80, 5, 900⟩, 2)]⟩) (e := 0) (by kernel_rfl) (by kernel_rfl) _ HPp.out.at (by decide)).mono ?_
 rintro e x5 ⟨rfl, Fp5, hP, hF, hU⟩
 have HQ := Hi (Ob.mk hP (fun b h => (hF b h).elim (HPp.out.low b) (fun h => Nat.le_trans B.out.size h)))
 replace B := Hi (B.out.trans (hU.below B.out.size HPp.out.low))
 replace HPp := HQ
 clear hP hF hU HQ
 go_wp2_with fail
 refine (look_l (n := 2) (b := true) (by kernel_rfl) _ HPp.out.at (by decide)).mono ?_
 rintro e x6 ⟨rfl, hb⟩
 replace HPp := Hi (HPp.out.stay hb)
 replace B := Hi (below_mid B.out hb)
 clear hb
 go_wp2_with fail
 refine (look_l (n := 1) (b := true) (by kernel_rfl) _ HPp.out.at (by decide)).mono ?_
 rintro e x7 ⟨rfl, hb⟩
 replace HPp := Hi (HPp.out.stay hb)
 replace B := Hi (below_mid B.out hb)
 clear hb
 go_wp2_with fail
 refine (bind_l (st := ⟨1, 2, [(⟨6, 49153⟩, 7), (⟨6, 49154⟩, 8), (⟨6, 80⟩, 1)], [(⟨80, 5, 900⟩, 2)]⟩) (st' := ⟨1, 2, [(⟨6, 49153⟩, 7), (⟨6, 49154⟩, 8), (⟨6, 80⟩, 1)], [(⟨80, 5, 900⟩, 2)]⟩) (e := 231) (by kernel_rfl) (by kernel_rfl) _ HPp.out.at (by decide)).mono ?_
 rintro e x8 ⟨rfl, Fp8, hP, hF, hU⟩
 have HQ := Hi (Ob.mk hP (fun b h => (hF b h).elim (HPp.out.low b) (fun h => Nat.le_trans B.out.size h)))
 replace B := Hi (B.out.trans (hU.below B.out.size HPp.out.low))
 replace HPp := HQ
 clear hP hF hU HQ
 go_wp2_with fail
 refine (conn_l (st := ⟨1, 2, [(⟨6, 49153⟩, 7), (⟨6, 49154⟩, 8), (⟨6, 80⟩, 1)], [(⟨80, 5, 900⟩, 2)]⟩) (st' := ⟨1, 2, [(⟨6, 49153⟩, 7), (⟨6, 49154⟩, 8), (⟨6, 80⟩, 1)], [(⟨80, 5, 900⟩, 2)]⟩) (e := 231) (by kernel_rfl) (by kernel_rfl) _ HPp.out.at (by decide)).mono ?_
 rintro e x9 ⟨rfl, Fp9, hP, hF, hU⟩
 have HQ := Hi (Ob.mk hP (fun b h => (hF b h).elim (HPp.out.low b) (fun h => Nat.le_trans B.out.size h)))
 replace B := Hi (B.out.trans (hU.below B.out.size HPp.out.low))
 replace HPp := HQ
 clear hP hF hU HQ
 go_wp2_with fail
 refine (new_any 0 _).mono ?_
 rintro e x10 ⟨pq, rfl, hP, hge, hb⟩
 obtain ⟨Fq10, hP, hFn⟩ : ∃ F : Nat → Prop, PAt x10 pq ⟨0, 0, [], []⟩ F ∧ ∀ b, F b → b = pq := ⟨_, hP, fun _ h => h⟩
 have Dpq := Hi (show Sep Fp9 Fq10 from fun b h h' => by have := HPp.out.at.bound b h; have := hFn b h'; omega)
 have HQ := Hi (show Ob w x10 pq ⟨0, 0, [], []⟩ Fq10 from ⟨hP, fun b h => by have := hFn b h; have := B.out.size; omega⟩)
 replace HPp := Hi (HPp.out.stay hb)
 replace B := Hi (below_mid B.out hb)
 have HPq := HQ
 clear hP hge hb hFn HQ
 go_wp2_with fail
 refine (any_l (st := ⟨0, 0, [], []⟩) (st' := ⟨0, 1, [(⟨6, 49152⟩, 3)], []⟩) (n := 49152) (e := 0) (by kernel_rfl) _ HPq.out.at (by decide) (by decide) (by decide) (by decide)).mono ?_
 rintro e x11 ⟨rfl, Fq11, hP, hF, hU⟩
 have D2p := Hi (Sep.symm (Sep.left Dpq.out.symm hF HPp.out.at.bound))
 replace HPp := Hi (HPp.out.other hU Dpq.out.symm)
 replace Dpq := D2p
 clear D2p
 have HQ := Hi (Ob.mk hP (fun b h => (hF b h).elim (HPq.out.low b) (fun h => Nat.le_trans B.out.size h)))
 replace B := Hi (B.out.trans (hU.below B.out.size HPq.out.low))
 replace HPq := HQ
 clear hP hF hU HQ
 go_wp2_with fail
 refine (conn_l (st := ⟨0, 1, [(⟨6, 49152⟩, 3)], []⟩) (st' := ⟨0, 1, [(⟨6, 49152⟩, 3)], [(⟨49152, 5, 80⟩, 3)]⟩) (e := 0) (by kernel_rfl) (by kernel_rfl) _ HPq.out.at (by decide)).mono ?_
 rintro e x12 ⟨rfl, Fq12, hP, hF, hU⟩
 have D2p := Hi (Sep.symm (Sep.left Dpq.out.symm hF HPp.out.at.bound))
 replace HPp := Hi (HPp.out.other hU Dpq.out.symm)
 replace Dpq := D2p
 clear D2p
 have HQ := Hi (Ob.mk hP (fun b h => (hF b h).elim (HPq.out.low b) (fun h => Nat.le_trans B.out.size h)))
 replace B := Hi (B.out.trans (hU.below B.out.size HPq.out.low))
 replace HPq := HQ
 clear hP hF hU HQ
 go_wp2_with fail
 refine (look_l (n := 0) (b := false) (by kernel_rfl) _ HPq.out.at (by decide)).mono ?_
 rintro e x13 ⟨rfl, hb⟩
 replace HPp := Hi (HPp.out.stay hb)
 replace HPq := Hi (HPq.out.stay hb)
 replace B := Hi (below_mid B.out hb)
 clear hb
 go_wp2_with fail
 refine (look_l (n := 3) (b := true) (by kernel_rfl) _ HPq.out.at (by decide)).mono ?_
 rintro e x14 ⟨rfl, hb⟩
 replace HPp := Hi (HPp.out.stay hb)
 replace HPq := Hi (HPq.out.stay hb)
 replace B := Hi (below_mid B.out hb)
 clear hb
 go_wp2_with fail
 refine (len_l (n := 4) (by kernel_rfl) _ HPp.out.at (by decide) (by decide)).mono ?_
 rintro e x15 ⟨rfl, hb⟩
 replace HPp := Hi (HPp.out.stay hb)
 replace HPq := Hi (HPq.out.stay hb)
 replace B := Hi (below_mid B.out hb)
 clear hb
 go_wp2_with fail
 refine (rel_l (st := ⟨1, 2, [(⟨6, 49153⟩, 7), (⟨6, 49154⟩, 8), (⟨6, 80⟩, 1)], [(⟨80, 5, 900⟩, 2)]⟩) (st' := ⟨1, 2, [(⟨6, 49153⟩, 7), (⟨6, 49154⟩, 8), (⟨6, 80⟩, 1)], []⟩) (by kernel_rfl) _ HPp.out.at (by decide) (by decide)).mono ?_
 rintro e x16 ⟨rfl, Fp16, hP, hF, hU⟩
 have D2q := Hi (Sep.left Dpq.out hF HPq.out.at.bound)
 replace HPq := Hi (HPq.out.other hU Dpq.out)
 replace Dpq := D2q
 clear D2q
 have HQ := Hi (Ob.mk hP (fun b h => (hF b h).elim (HPp.out.low b) (fun h => Nat.le_trans B.out.size h)))
 replace B := Hi (B.out.trans (hU.below B.out.size HPp.out.low))
 replace HPp := HQ
 clear hP hF hU HQ
 go_wp2_with fail
 refine (release_nil 1 _).mono ?_
 rintro e x17 ⟨rfl, hb⟩
 replace HPp := Hi (HPp.out.stay hb)
 replace HPq := Hi (HPq.out.stay hb)
 replace B := Hi (below_mid B.out hb)
 clear hb
 go_wp2_with fail
 refine (lookup_nil 6 80 5 900 _).mono ?_
 rintro e x18 ⟨rfl, hb⟩
 replace HPp := Hi (HPp.out.stay hb)
 replace HPq := Hi (HPq.out.stay hb)
 replace B := Hi (below_mid B.out hb)
 clear hb
 go_wp2_with fail
 refine (bindany_nil 6 1 _).mono ?_
 rintro e x19 ⟨rfl, hb⟩
 replace HPp := Hi (HPp.out.stay hb)
 replace HPq := Hi (HPq.out.stay hb)
 replace B := Hi (below_mid B.out hb)
 clear hb
 go_wp2_with fail
 refine (len_l (n := 3) (by kernel_rfl) _ HPp.out.at (by decide) (by decide)).mono ?_
 rintro e x20 ⟨rfl, hb⟩
 replace HPp := Hi (HPp.out.stay hb)
 replace HPq := Hi (HPq.out.stay hb)
 replace B := Hi (below_mid B.out hb)
 clear hb
 go_wp2_with fail
 refine (bind_l (st := ⟨1, 2, [(⟨6, 49153⟩, 7), (⟨6, 49154⟩, 8), (⟨6, 80⟩, 1)], []⟩) (st' := ⟨1, 2, [(⟨6, 49153⟩, 7), (⟨6, 49154⟩, 8), (⟨6, 80⟩, 1)], []⟩) (e := 230) (by kernel_rfl) (by kernel_rfl) _ HPp.out.at (by decide)).mono ?_
 rintro e x21 ⟨rfl, Fp21, hP, hF, hU⟩
 have D2q := Hi (Sep.left Dpq.out hF HPq.out.at.bound)
 replace HPq := Hi (HPq.out.other hU Dpq.out)
 replace Dpq := D2q
 clear D2q
 have HQ := Hi (Ob.mk hP (fun b h => (hF b h).elim (HPp.out.low b) (fun h => Nat.le_trans B.out.size h)))
 replace B := Hi (B.out.trans (hU.below B.out.size HPp.out.low))
 replace HPp := HQ
 clear hP hF hU HQ
 go_wp2_with fail
 refine (bind_nil 6 1 1 _).mono ?_
 rintro e x22 ⟨rfl, hb⟩
 replace HPp := Hi (HPp.out.stay hb)
 replace HPq := Hi (HPq.out.stay hb)
 replace B := Hi (below_mid B.out hb)
 clear hb
 go_wp2_with fail
 refine (connect_nil 1 1 1 1 _).mono ?_
 rintro e x23 ⟨rfl, hb⟩
 replace HPp := Hi (HPp.out.stay hb)
 replace HPq := Hi (HPq.out.stay hb)
 replace B := Hi (below_mid B.out hb)
 clear hb
 go_wp2_with fail
 refine (len_nil _).mono ?_
 rintro e x24 ⟨rfl, hb⟩
 replace HPp := Hi (HPp.out.stay hb)
 replace HPq := Hi (HPq.out.stay hb)
 replace B := Hi (below_mid B.out hb)
 clear hb
 go_wp2
 go_ret
 exact ⟨rfl, B.out⟩

end Go.Proofs.YtbhglemolpfnkaaGreatDoor
