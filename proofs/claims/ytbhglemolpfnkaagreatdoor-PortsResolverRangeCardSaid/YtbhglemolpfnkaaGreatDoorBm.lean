/- The resolver's data: a lookup in progress, a resolver; calls that change some things and make others. -/
import Derived.Test.YtbhglemolpfnkaaGreatDoorBc
import Derived.Test.YtbhglemolpfnkaaGreatDoorCdat
import Derived.Test.YtbhglemolpfnkaaGreatDoorBb
set_option linter.unusedVariables false
set_option maxRecDepth 100000
set_option maxHeartbeats 32000000
namespace Go.Proofs.YtbhglemolpfnkaaGreatDoor
open Go.RowKit Go.Sort

variable {v : Value}
structure Lk where
 tk : Int
 ch : List ByteArray
 tr : Int
 nu : Int
 se : Int
 sv : Int
abbrev cSt (s : ByteArray) : Value := .string s
abbrev blkK (b : Nat) (v : Value) (k : Lk) : Res := blkR b (.cells #[.int .i64 k.tk, v, .int .i64 k.tr, .int .i64 k.nu, .int .i64 k.se, .int .i64 k.sv] 107)
abbrev rowK (v : Value) (ch : List ByteArray) : Res := rowR v 9 1 ch.length (ch.map cSt)
def resK (b : Nat) (k : Lk) : Res := exR fun v : Value => sepR [blkK b v k, rowK v k.ch]
structure Rv where
 sv : List Int
 sd : Int
 es : List En
 tk : Int
 qn : Int
 wt : List Nat
 dl : Nat
 dn : List Value
abbrev cIn (n : Int) : Value := .int .i64 n
abbrev cPt (b : Nat) : Value := .pointer (some ⟨b, 0, none⟩)
abbrev blkV (a : Nat) (vs : Value) (c : Nat) (vw vd : Value) (sd tk qn : Int) : Res := blkR a (.cells #[vs, .int .i64 sd, .pointer (some ⟨c, 0, none⟩), .int .i64 tk, .int .i64 qn, vw, vd] 103)
abbrev rowVs (v : Value) (sv : List Int) : Res := rowR v 3 1 sv.length (sv.map cIn)
abbrev rowVw (v : Value) (wt : List Nat) : Res := rowR v 105 1 wt.length (wt.map cPt)
abbrev rowVd (v : Value) (dl : Nat) (dn : List Value) : Res := rowR v 75 3 dl dn
structure RvX where
 vs : Value
 c : Nat
 vw : Value
 vd : Value
abbrev partsV (a : Nat) (x : RvX) (st : Rv) : List Res := [blkV a x.vs x.c x.vw x.vd st.sd st.tk st.qn, rowVs x.vs st.sv, resC x.c st.es, rowVw x.vw st.wt, rowVd x.vd st.dl st.dn]
def resV (a : Nat) (st : Rv) : Res := exR fun x : RvX => sepR (partsV a x st)
section
variable {w0 w : World} {D : Nat → Prop} {L A : List Res}
theorem openK {b : Nat} {k : Lk} (h : Own w0 D w (resK b k :: L)) : ∃ v, Own w0 D w (blkK b v k :: rowK v k.ch :: L) := by
 obtain ⟨v, h⟩ := Own.openExC h
 exact ⟨v, Own.openC h⟩
theorem shutK {b : Nat} {k : Lk} (h : Own w0 D w (blkK b v k :: rowK v k.ch :: L)) : Own w0 D w (resK b k :: L) :=
 Own.shutExC (f := fun v : Value => sepR [blkK b v k, rowK v k.ch]) v (Own.shutC (Rs := [blkK b v k, rowK v k.ch]) h)
theorem openV {a : Nat} {st : Rv} (h : Own w0 D w (resV a st :: L)) : ∃ x : RvX, Own w0 D w (partsV a x st ++ L) := by
 obtain ⟨x, h⟩ := Own.openExC h
 exact ⟨x, Own.openC h⟩
theorem shutV {a : Nat} {x : RvX} {st : Rv} (h : Own w0 D w (partsV a x st ++ L)) : Own w0 D w (resV a st :: L) :=
 Own.shutExC (f := fun x : RvX => sepR (partsV a x st)) x (Own.shutC (Rs := partsV a x st) h)
end
def FPost (w0 : World) (D : Nat → Prop) (A : List Res) (Q : Ending → List Res → Prop) (w : World) (e : Ending) (w' : World) : Prop := ∃ B', Q e B' ∧ Own w0 D w' (A ++ B') ∧ w.heap.size ≤ w'.heap.size
theorem o_frame {P : Program} {f : FuncId} {args : Array Value} {w0 w : World} {D : Nat → Prop} {A B : List Res} {Q : Ending → List Res → Prop} (h : Own w0 D w (A ++ B))
  (hc : ∀ D, Own w D w B → Calls P f args w (FPost w D [] Q w)) : Calls P f args w (FPost w0 D A Q w) := by
 obtain ⟨DA, DB, s1, s2, s3, s4, s5, s6⟩ := Own.split h
 exact (hc DB s2).mono fun e w' ⟨B', h1, h2, h3⟩ => ⟨B', h1, s6 w' B' h2, h3⟩
theorem row_newsR {w : World} {E sz n : Nat} {g cap : Nat} {xs : List Value} (h : w.ownsRow 0 E sz (.slice (some ⟨g, 0, none⟩) n cap) n xs) : ∀ j u, xs[j]? = some u → w.cell? ((⟨g, 0, none⟩ : Addr).add j) = some u := by
 obtain ⟨h1, ⟨e, _⟩ | ⟨g', cp, cur, e, _, hh, hcp, _, hs, htk⟩⟩ := h
 ·
  cases e
 ·
  cases e
  intro j u hj
  rw [show (⟨g, 0, none⟩ : Addr).add j = ⟨g, j, none⟩ by
   unfold Addr.add
   split
   ·
    rename_i h; have : j = 0 := by simpa using h
    subst this; rfl
   ·
    simp]
  have hjl : j < n * sz := by
   rcases Nat.lt_or_ge j (n * sz) with h | h
   ·
    exact h
   ·
    rw [List.getElem?_eq_none (by omega)] at hj; cases hj
  rw [← htk, List.getElem?_take, if_pos hjl] at hj
  simp [World.cell?, hh]
  simpa using hj
def ClonR (w0 : World) (D : Nat → Prop) (L : List Res) (E : TypeId) (n : Nat) (xs : List Value) (w : World) (e : Ending) (w' : World) : Prop := ∃ u, e = .returned u ∧ Own w0 D w' (L ++ [rowR u E 1 n xs]) ∧ w.heap.size ≤ w'.heap.size
theorem run_bs0I (w : World) : (Instr.buildSlice 31 0 #[]).run Tryz.prog w = .ok (.slice (some ⟨w.heap.size, 0, none⟩) 0 0) (w.alloc (.cells #[] 3)) := by kernel_rfl
theorem eql_I (g n c : Nat) (w : World) : (binOp .eql 31 (.slice (some ⟨g, 0, none⟩) n c) (.slice none 0 0)).run Tryz.prog w = .ok (.bool false) w := by kernel_rfl
theorem eq0_I (w : World) : (binOp .eql 31 (.slice none 0 0) (.slice none 0 0)).run Tryz.prog w = .ok (.bool true) w := by kernel_rfl
theorem info_I : (Tryz.prog.info? 3).map (fun i => (i.zero, i.size, i.bytes)) = some (some (.int .i64 0), 1, 8) := by kernel_rfl
theorem clone_I {w0 w : World} {D : Nat → Prop} {L : List Res} {n : Nat} {xs : List Value} (h : Own w0 D w L) (i : Nat) (hi : L[i]? = some (rowR v 3 1 n xs)) (hl : n ≤ 1000) (hone : ∀ u ∈ xs, u.oneCell' = true) :
  Calls Tryz.prog 35 #[v] w (ClonR w0 D L 3 n xs w) := by
 have hr := h.row i hi
 have HO := Hi h
 have HI := Hi hi
 have HL := Hi hl
 have HN1 := Hi hone
 have HXL := Hi hr.1
 clear h hi hl hone
 obtain ⟨h1, ⟨rfl, hn⟩ | ⟨g, cp, cur, rfl, h2, h3, h4, h5, h6, h7⟩⟩ := hr
 ·
  subst hn
  have HE := Hi (show xs = [] from List.eq_nil_of_length_eq_zero (by omega))
  clear h1 HI HL
  have e0 := eq0_I
  go_enter Tryz.func35, Tryz.ntmps35
  go_wp2
  go_ret
  exact ⟨_, rfl, by rw [HE.out]; exact HO.out.rowNew _ _, Nat.le_refl _⟩
 ·
  clear h1 h2 h3 h4 h5 h6 h7
  have rb := run_bs0I
  have e0 := eql_I
  obtain ⟨x1, hx1⟩ : ∃ y, w.alloc (.cells #[] 3) = y := ⟨_, rfl⟩
  have hb := below_one w (.cells #[] 3)
  rw [hx1] at hb
  have hO := HO.out.push (w' := x1) (R := rowR (.slice (some ⟨w.heap.size, 0, none⟩) 0 0) 3 1 0 []) (F := fun b => b = w.heap.size) ⟨fun b => ⟨fun h => by rw [h]; rfl, fun h => by injection h with h; exact h.symm⟩, ⟨rfl, .inr ⟨w.heap.size, 0, #[], rfl, Nat.zero_le _, by rw [← hx1]; exact new_block _ _, Nat.le_refl _, by unfold maxLen; omega, rfl, rfl⟩⟩⟩ (fun b hb => hb ▸ Nat.le_refl _) hb
  have HO2 := Hi hO
  have HSZ := Hi hb.size
  clear hO hb
  have HI2 := Hi (show (L ++ [rowR (.slice (some ⟨w.heap.size, 0, none⟩) 0 0) 3 1 0 []])[i]? = some (rowR (.slice (some ⟨g, 0, none⟩) n cp) 3 1 n xs) by
   rw [List.getElem?_append_left (get_len HI.out), HI.out])
  have HIL := Hi (show (L ++ [rowR (.slice (some ⟨w.heap.size, 0, none⟩) 0 0) 3 1 0 []])[L.length]? = some (rowR (.slice (some ⟨w.heap.size, 0, none⟩) 0 0) 3 1 0 []) by simp)
  go_enter Tryz.func35, Tryz.ntmps35
  go_wp2_with ((at_builtin; refine (show _ = True → _ from fun h => of_eq_true h) ?_))
  refine eq_true ?_
  obtain ⟨i0, hi0, hz0, hz1, hz2⟩ := info_parts info_I
  refine wpList_app rfl (.tmp 5) (.tmp 6) 31 rfl Tryz.underlying31 hi0 hz0 hz1 hz2 rfl (by decide) rfl (HO2.out.row L.length HIL.out) xs rfl (by have := HXL.out; omega) (row_newsR (HO2.out.row i HI2.out)) HN1.out (by have := HL.out; unfold maxLen; omega) (by have := HL.out; omega) (Nat.zero_le _) ?_
  intro v' w' hown hu hnear
  have hO := HO2.out.rowTo L.length HIL.out hown hu (fun g hg => by
   rcases hnear with h2 | h2 | ⟨g2, h2, h3⟩
   ·
    rw [h2] at hg; cases hg
   ·
    exact .inl (h2 ▸ hg)
   ·
    rw [h2] at hg; cases hg; exact .inr h3)
  have HO3 := Hi (show Own w0 D w' (L ++ [rowR v' 3 1 n xs]) by
   rw [Nat.zero_add, List.nil_append] at hO
   rw [List.set_append_right _ _ (Nat.le_refl _), Nat.sub_self] at hO
   exact hO)
  have HSZ2 := Hi (Nat.le_trans HSZ.out hu.size)
  clear hO hown hu hnear hi0 hz0 hz1 hz2 rb e0
  go_wp2
  go_ret
  exact ⟨_, rfl, HO3.out, HSZ2.out⟩
theorem info_K : (Tryz.prog.info? 105).map (fun i => (i.zero, i.size, i.bytes)) = some (some (.pointer none), 1, 8) := by kernel_rfl
end Go.Proofs.YtbhglemolpfnkaaGreatDoor
