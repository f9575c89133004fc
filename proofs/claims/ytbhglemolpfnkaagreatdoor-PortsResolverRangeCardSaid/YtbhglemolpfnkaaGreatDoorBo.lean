/- A resolver with its lookups and results as one thing; again and advance of it. again and advance at a resolver that is one thing. -/
import Derived.Test.YtbhglemolpfnkaaGreatDoorRad
set_option linter.unusedVariables false
set_option maxRecDepth 100000
set_option maxHeartbeats 32000000
namespace Go.Proofs.YtbhglemolpfnkaaGreatDoor
open Go.RowKit Go.Sort

variable {v : Value}
theorem eraseK_perm {α : Type} {l : List α} {i : Nat} (h : i < l.length) : (l[i] :: l.eraseIdx i).Perm l := by
 rw [List.eraseIdx_eq_take_drop_succ]
 have h1 : (l[i] :: (l.take i ++ l.drop (i + 1))).Perm (l.take i ++ l[i] :: l.drop (i + 1)) := List.perm_middle.symm
 rwa [List.getElem_cons_drop, List.take_append_drop] at h1
structure Rn where
 tk : Int
 er : Int
 ad : List Int
structure Qy where
 sv : Int
 pt : Int
 s : ByteArray
def cQy (q : Qy) : List Value := [.int .i64 q.sv, .int .i64 q.pt, .string q.s]
abbrev rowQs (v : Value) (q : List Qy) : Res := rowR v 39 3 q.length (q.flatMap cQy)
structure Rz where
 sv : List Int
 sd : Int
 es : List En
 tk : Int
 qn : Int
 wl : List (Nat × Lk)
 dn : List Rn
def rnCs (avs : List Value) (dn : List Rn) : List Value := (List.zipWith (fun (d : Rn) v => rnC d.tk d.er v) dn avs).flatten
abbrev rowA (v : Value) (ad : List Int) : Res := rowR v 3 1 ad.length (ad.map cIn)
def rnRs (avs : List Value) (dn : List Rn) : List Res := List.zipWith (fun (d : Rn) v => rowA v d.ad) dn avs
def rvZ (z : Rz) (avs : List Value) : Rv := ⟨z.sv, z.sd, z.es, z.tk, z.qn, z.wl.map (·.1), z.dn.length, rnCs avs z.dn⟩
def resZ (a : Nat) (z : Rz) : Res := exR fun avs : List Value => factR (avs.length = z.dn.length) (sepR [resV a (rvZ z avs), resKs z.wl, sepR (rnRs avs z.dn)])
section
variable {w0 w : World} {D : Nat → Prop} {L : List Res} {a b i : Nat} {z : Rz} {k : Lk} {wl : List (Nat × Lk)} {avs : List Value}
theorem openZ (h : Own w0 D w (resZ a z :: L)) : ∃ avs : List Value, avs.length = z.dn.length ∧ Own w0 D w (resV a (rvZ z avs) :: resKs z.wl :: sepR (rnRs avs z.dn) :: L) := by
 obtain ⟨avs, h1⟩ := Own.openExC h
 obtain ⟨h2, h3⟩ := Own.openFC h1
 exact ⟨avs, h2, Own.openC h3⟩
theorem shutZ (hl : avs.length = z.dn.length) (h : Own w0 D w (resV a (rvZ z avs) :: resKs z.wl :: sepR (rnRs avs z.dn) :: L)) : Own w0 D w (resZ a z :: L) :=
 Own.shutExC (f := fun avs : List Value => factR (avs.length = z.dn.length) (sepR [resV a (rvZ z avs), resKs z.wl, sepR (rnRs avs z.dn)])) avs (Own.shutFC hl (Own.shutC (Rs := [resV a (rvZ z avs), resKs z.wl, sepR (rnRs avs z.dn)]) h))
theorem takeK (hi : wl[i]? = some (b, k)) (h : Own w0 D w (resKs wl :: L)) : Own w0 D w (resK b k :: resKs (wl.eraseIdx i) :: L) := by
 obtain ⟨hil, hie⟩ := List.getElem?_eq_some_iff.1 hi
 have hp := (eraseK_perm hil).symm.map fun p : Nat × Lk => resK p.1 p.2
 rw [List.map_cons, hie] at hp
 have h1 := (Own.openC h).perm (hp.append_right L)
 have h2 : Own w0 D w ((resK b k :: (wl.eraseIdx i).map fun p => resK p.1 p.2) ++ L) := h1
 have h3 : Own w0 D w (((wl.eraseIdx i).map fun p => resK p.1 p.2) ++ (resK b k :: L)) := h2.perm List.perm_middle.symm
 exact (Own.shutC h3).swap'
theorem putK (hi : i < wl.length) (h : Own w0 D w (resK b k :: resKs (wl.eraseIdx i) :: L)) : Own w0 D w (resKs (wl.set i (b, k)) :: L) := by
 have h1 := Own.openC (h.swap')
 have hil : i < (wl.set i (b, k)).length := by simpa using hi
 have hp := (eraseK_perm hil).map fun p : Nat × Lk => resK p.1 p.2
 rw [List.getElem_set_self, List.map_cons, List.eraseIdx_set_eq] at hp
 have h2 : Own w0 D w ((resK b k :: (wl.eraseIdx i).map fun p => resK p.1 p.2) ++ L) := h1.perm List.perm_middle
 exact Own.shutC (Rs := (wl.set i (b, k)).map fun p => resK p.1 p.2) (h2.perm (hp.append_right L))
theorem pushK (h : Own w0 D w (resKs wl :: resK b k :: L)) : Own w0 D w (resKs (wl ++ [(b, k)]) :: L) := by
 have h1 := Own.openC h
 have h2 : Own w0 D w (((wl ++ [(b, k)]).map fun p => resK p.1 p.2) ++ L) := by simpa [List.append_assoc] using h1
 exact Own.shutC h2
theorem snocS {Rs : List Res} {R : Res} (h : Own w0 D w (sepR Rs :: R :: L)) : Own w0 D w (sepR (Rs ++ [R]) :: L) := by
 have h1 := Own.openC h
 exact Own.shutC (Rs := Rs ++ [R]) (by simpa [List.append_assoc] using h1)
theorem k_ne {os : List (Nat × Lk)} (h : Own w0 D w (resK b k :: resKs os :: L)) : ∀ p ∈ os, p.1 ≠ b := by
 intro p hp e
 obtain ⟨v, h1⟩ := openK h
 obtain ⟨j, hj, rfl⟩ := List.mem_iff_getElem.1 hp
 have h2 : Own w0 D w (blkK b v k :: resKs os :: (rowK v k.ch :: L)) := by
  have := Own.swap (pre := [blkK b v k]) h1
  exact this
 have h3 := takeK (i := j) (b := os[j].1) (k := os[j].2) (List.getElem?_eq_getElem hj) h2.swap'
 obtain ⟨v2, h4⟩ := openK h3
 obtain ⟨_, Fs, h5, h6⟩ := h4
 have e0 := (h5 0 _ rfl).1.1 os[j].1
 have e3 := (h5 3 _ rfl).1.1 b
 exact h6 0 3 (by simp) (by simp) (by decide) b ((h5 0 _ rfl).1.1 b |>.2 e.symm) (e3.2 rfl)
end
theorem filt_other {wl : List (Nat × Lk)} {i b : Nat} {k : Lk} (hi : wl[i]? = some (b, k)) (hn : ∀ p ∈ wl.eraseIdx i, p.1 ≠ b) : (wl.map (·.1)).filter (fun c => !(c == b)) = (wl.eraseIdx i).map (·.1) := by
 obtain ⟨hil, hie⟩ := List.getElem?_eq_some_iff.1 hi
 have e1 : wl = wl.take i ++ (b, k) :: wl.drop (i + 1) := by
  rw [← hie, List.getElem_cons_drop, List.take_append_drop]
 have e2 : wl.eraseIdx i = wl.take i ++ wl.drop (i + 1) := List.eraseIdx_eq_take_drop_succ ..
 rw [e2] at hn ⊢
 conv => lhs; rw [e1]
 rw [List.map_append, List.filter_append, List.map_cons, List.filter_cons, List.map_append]
 have hb : (!((b, k).1 == b)) = false := by simp
 rw [if_neg (by rw [hb]; decide)]
 have hs : ∀ l : List (Nat × Lk), (∀ p ∈ l, p.1 ≠ b) → (l.map (·.1)).filter (fun c => !(c == b)) = l.map (·.1) := fun l hl => by
  rw [List.filter_eq_self]
  intro c hc
  obtain ⟨p, hp, rfl⟩ := List.mem_map.1 hc
  simpa using hl p hp
 rw [hs _ (fun p hp => hn p (List.mem_append_left _ hp)), hs _ (fun p hp => hn p (List.mem_append_right _ hp))]
theorem wl_mem {wl : List (Nat × Lk)} {i b : Nat} {k : Lk} (hi : wl[i]? = some (b, k)) : b ∈ wl.map (·.1) ∧ ∀ c ∈ wl.map (·.1), c = b ∨ ∃ p ∈ wl.eraseIdx i, p.1 = c := by
 obtain ⟨hil, hie⟩ := List.getElem?_eq_some_iff.1 hi
 refine ⟨List.mem_map.2 ⟨(b, k), List.mem_of_getElem? hi, rfl⟩, fun c hc => ?_⟩
 obtain ⟨p, hp, rfl⟩ := List.mem_map.1 hc
 have hp2 := (eraseK_perm hil).symm.mem_iff.1 hp
 rcases List.mem_cons.1 hp2 with h | h
 ·
  left; rw [h, hie]
 ·
  exact .inr ⟨p, h, rfl⟩
theorem rn_snoc {avs : List Value} {dn : List Rn} (h : avs.length = dn.length) (d : Rn) (v : Value) : rnCs (avs ++ [v]) (dn ++ [d]) = rnCs avs dn ++ rnC d.tk d.er v ∧ rnRs (avs ++ [v]) (dn ++ [d]) = rnRs avs dn ++ [rowA v d.ad] := by
 unfold rnCs rnRs
 rw [List.zipWith_append h.symm, List.zipWith_append h.symm]
 simp
def finZ (z : Rz) (i : Nat) (tk er : Int) (ad : List Int) : Rz := ⟨z.sv, z.sd, z.es, z.tk, z.qn, z.wl.eraseIdx i, z.dn ++ [⟨tk, er, ad⟩]⟩
def qyZ (sd qn vy : Int) (nm : ByteArray) : Qy := ⟨vy, 20000 + (sd + 101 * (qn + 1)) % 10000, qryS sd qn nm⟩
def srvZ (sv : List Int) (t : Int) : Int := sv.getD (t.toNat % sv.length) 0
def askZ (now : Int) (z : Rz) (i : Nat) (b : Nat) (k : Lk) : Rz × List Qy :=
 if 3 * (z.sv.length : Int) ≤ k.tr then (finZ z i k.tk 213 [], [])
 else (⟨z.sv, z.sd, z.es, z.tk, z.qn + 1, z.wl.set i (b, ⟨k.tk, k.ch, k.tr + 1, z.qn + 1, now, srvZ z.sv k.tr⟩), z.dn⟩, [qyZ z.sd z.qn (srvZ z.sv k.tr) (lastN k.ch)])
def advZ (now : Int) (z : Rz) (i : Nat) (b : Nat) (k : Lk) (rs : List Rc) : Rz × List Qy :=
 match rslF now z.es rs (6 - k.ch.length) k.ch with
 | (ch', .ask) => askZ now z i b ⟨k.tk, ch', 0, k.nu, k.se, k.sv⟩
 | (_, .addrs l) => (finZ z i k.tk 0 l, [])
 | (_, .fail n) => (finZ z i k.tk n [], [])
structure LkOk (k : Lk) : Prop where
 c0 : 0 < k.ch.length
 c1 : k.ch.length ≤ 5
 nm : ∀ s ∈ k.ch, vname s = true
 t0 : 0 ≤ k.tr
 t1 : k.tr ≤ 12
structure ZI (z : Rz) : Prop where
 s0 : 0 < z.sv.length
 s4 : z.sv.length ≤ 4
 d0 : 0 ≤ z.sd
 d1 : z.sd ≤ 4294967295
 q0 : 0 ≤ z.qn
 wl : z.wl.length ≤ 100
 lk : ∀ p ∈ z.wl, LkOk p.2
 dn : z.dn.length ≤ 1000
 es : z.es.length ≤ 32
 ap : z.es.Pairwise aprt
 en : ∀ e ∈ z.es, e.kd = 0 ∨ e.kd = 1 ∨ vname e.to = true
theorem lastN_mem {ch : List ByteArray} (h : 0 < ch.length) : lastN ch ∈ ch := by
 have := lastN_get (ch := ch) (mi := ch.length - 1) (by omega)
 exact List.mem_of_getElem? this
section
variable {w : World} {D : Nat → Prop} {a b i : Nat} {z : Rz} {k : Lk} {g : Glo}
theorem z_open {L : List Res} (h : Own w D w (resZ a z :: L)) (hi : z.wl[i]? = some (b, k)) : ∃ avs : List Value, avs.length = z.dn.length ∧ (∀ p ∈ z.wl.eraseIdx i, p.1 ≠ b) ∧ Own w D w (resV a (rvZ z avs) :: resK b k :: resKs (z.wl.eraseIdx i) :: sepR (rnRs avs z.dn) :: L) := by
 obtain ⟨avs, hl, h1⟩ := openZ h
 have h2 := takeK hi h1.swap'
 exact ⟨avs, hl, k_ne h2, by
  have h3 : Own w D w ([resK b k, resKs (z.wl.eraseIdx i)] ++ (resV a (rvZ z avs) :: (sepR (rnRs avs z.dn) :: L))) := h2
  exact h3.perm (List.perm_middle (l₁ := [resK b k, resKs (z.wl.eraseIdx i)]))⟩
theorem fin_shut {w0 : World} {L : List Res} {avs : List Value} {er : Int} {ad : List Int} (tk : Int) (hl : avs.length = z.dn.length) (hi : z.wl[i]? = some (b, k)) (hn : ∀ p ∈ z.wl.eraseIdx i, p.1 ≠ b)
  (h : Own w0 D w (resV a (finV (rvZ z avs) b tk er v) :: resKs (z.wl.eraseIdx i) :: sepR (rnRs avs z.dn) :: rowA v ad :: L)) : Own w0 D w (resZ a (finZ z i tk er ad) :: L) := by
 have h1 := snocS (Own.rot (L := [resV a (finV (rvZ z avs) b tk er v), resKs (z.wl.eraseIdx i)]) h)
 have h2 : Own w0 D w ((sepR (rnRs avs z.dn ++ [rowA v ad]) :: L) ++ [resV a (finV (rvZ z avs) b tk er v), resKs (z.wl.eraseIdx i)]) := by simpa using h1
 have h3 := Own.rot h2
 obtain ⟨e1, e2⟩ := rn_snoc hl ⟨tk, er, ad⟩ v
 refine shutZ (avs := avs ++ [v]) (z := finZ z i tk er ad) (by simp [finZ, hl]) ?_
 have e3 : finV (rvZ z avs) b tk er v = rvZ (finZ z i tk er ad) (avs ++ [v]) := by
  have e4 := filt_other hi hn
  simp only [finV, rvZ, finZ, e1, e4, List.length_append, List.length_cons, List.length_nil]
 rw [← e3, show (finZ z i tk er ad).dn = z.dn ++ [⟨tk, er, ad⟩] from rfl, e2]
 exact h3
end
theorem nxF_from (rs : List Rc) : ∀ nx : ByteArray, rs.foldl nxS nx = nx ∨ ∃ r ∈ rs, r.kd ≠ 1 ∧ rs.foldl nxS nx = r.to := by
 induction rs with
 | nil => exact fun nx => .inl rfl
 | cons r rs ih =>
  intro nx
  rw [List.foldl_cons]
  rcases ih (nxS nx r) with h | ⟨x, hx, h1, h2⟩
  ·
   rw [h]
   unfold nxS
   by_cases h1 : (r.kd == 1) = true
   ·
    rw [if_pos h1]; exact .inl rfl
   ·
    rw [if_neg h1]
    have h1' : r.kd ≠ 1 := by simpa using h1
    by_cases h2 : nx.toList.isEmpty = true
    ·
     rw [if_pos h2]; exact .inr ⟨r, List.mem_cons_self, h1', rfl⟩
    ·
     rw [if_neg h2]
     by_cases h3 : Op.bytesLess r.to.toList nx.toList = true
     ·
      rw [if_pos h3]; exact .inr ⟨r, List.mem_cons_self, h1', rfl⟩
     ·
      rw [if_neg h3]; exact .inl rfl
  ·
   exact .inr ⟨x, List.mem_cons_of_mem _ hx, h1, h2⟩
section
variable {now : Int} {es : List En} {rs : List Rc}
theorem found_ok (hr : ∀ r ∈ rs, r.kd = 1 ∨ vname r.to = true) (he : ∀ e ∈ es, e.kd = 0 ∨ e.kd = 1 ∨ vname e.to = true) (ha : es.Pairwise aprt) (nm : ByteArray) : ∀ r ∈ foundF now es rs nm, r.kd = 1 ∨ vname r.to = true := by
 intro r h
 unfold foundF at h
 split at h
 ·
  obtain ⟨e, he1, _, he2, rfl⟩ := lookD_mem.1 h
  rcases he e he1 with h | h | h
  ·
   exact absurd h he2
  ·
   exact .inl h
  ·
   exact .inr h
 ·
  exact hr r (List.mem_filter.1 h).1
theorem rslF_ok (hr : ∀ r ∈ rs, r.kd = 1 ∨ vname r.to = true) (he : ∀ e ∈ es, e.kd = 0 ∨ e.kd = 1 ∨ vname e.to = true) (ha : es.Pairwise aprt) : ∀ (f : Nat) (ch : List ByteArray), 0 < ch.length ∧ ch.length ≤ 5 → (∀ s ∈ ch, vname s = true) → (0 < (rslF now es rs f ch).1.length ∧ (rslF now es rs f ch).1.length ≤ 5) ∧ ∀ s ∈ (rslF now es rs f ch).1, vname s = true := by
 intro f
 induction f with
 | zero => exact fun ch h1 h2 => ⟨h1, h2⟩
 | succ f ih =>
  intro ch h1 h2
  unfold rslF
  split
  ·
   exact ⟨h1, h2⟩
  ·
   split
   ·
    split
    ·
     exact ⟨h1, h2⟩
    ·
     exact ⟨h1, h2⟩
   ·
    rename_i hx
    split
    ·
     exact ⟨h1, h2⟩
    ·
     rename_i hc
     refine ih _ ⟨by simp, by simp; omega⟩ fun s hs => ?_
     rcases List.mem_append.1 hs with hs | hs
     ·
      exact h2 s hs
     ·
      obtain rfl := List.mem_singleton.1 hs
      rcases nxF_from (foundF now es rs (lastN ch)) ⟨#[]⟩ with h | ⟨r, hr1, hr2, hr3⟩
      ·
       exact absurd (show (nxF (foundF now es rs (lastN ch))).toList.isEmpty = true by unfold nxF; rw [h, emp_list]; rfl) hx
      ·
       show vname (nxF _) = true
       unfold nxF
       rw [hr3]
       exact (found_ok hr he ha _ r hr1).resolve_left hr2
end
section
variable {w : World} {D : Nat → Prop} {a b i : Nat} {z z' : Rz} {k : Lk} {g : Glo} {q : List Qy} {now : Int}
theorem one_q (x : Qy) : rowQ v 1 (cQy x) = rowQs v [x] := by
 show rowR _ _ _ _ _ = rowR _ _ _ _ _
 simp
theorem ask_shut {w0 : World} {L : List Res} {avs : List Value} {k' : Lk} {qn : Int} (hl : avs.length = z.dn.length) (hi : z.wl[i]? = some (b, k))
  (h : Own w0 D w (resV a ⟨z.sv, z.sd, z.es, z.tk, qn, z.wl.map (·.1), z.dn.length, rnCs avs z.dn⟩ :: resK b k' :: resKs (z.wl.eraseIdx i) :: sepR (rnRs avs z.dn) :: L)) : Own w0 D w (resZ a ⟨z.sv, z.sd, z.es, z.tk, qn, z.wl.set i (b, k'), z.dn⟩ :: L) := by
 have hil := get_len hi
 have h1 : Own w0 D w ([resK b k', resKs (z.wl.eraseIdx i)] ++ (resV a ⟨z.sv, z.sd, z.es, z.tk, qn, z.wl.map (·.1), z.dn.length, rnCs avs z.dn⟩ :: sepR (rnRs avs z.dn) :: L)) := h.perm (List.perm_middle (l₁ := [resK b k', resKs (z.wl.eraseIdx i)])).symm
 have h2 := (putK hil h1).swap'
 refine shutZ (z := ⟨z.sv, z.sd, z.es, z.tk, qn, z.wl.set i (b, k'), z.dn⟩) hl ?_
 have e1 : (z.wl.set i (b, k')).map (·.1) = z.wl.map (·.1) := by
  rw [List.map_set]
  apply List.ext_getElem?
  intro j
  rw [List.getElem?_set]
  split
  ·
   rename_i e
   subst e
   obtain ⟨_, hie⟩ := List.getElem?_eq_some_iff.1 hi
   rw [List.getElem?_map, List.getElem?_eq_getElem hil, hie]
   simp [hil]
  ·
   rfl
 show Own w0 D w (resV a ⟨z.sv, z.sd, z.es, z.tk, qn, (z.wl.set i (b, k')).map (·.1), z.dn.length, rnCs avs z.dn⟩ :: _)
 rw [e1]
 exact h2
def AdvZP (w0 : World) (D : Nat → Prop) (w : World) (a b : Nat) (tk : Int) (z' : Rz) (g : Glo) (vr : Value) (rs : List Rc) (q : List Qy) (e : Ending) (w' : World) : Prop := ∃ u, e = .returned u ∧ Own w0 D w' [resZ a z', glR g, rowRc vr rs, rowQs u q] ∧ w'.cell? ⟨b, 0, none⟩ = some (.int .i64 tk) ∧ w.heap.size ≤ w'.heap.size
theorem tk_cell {w0 : World} {L : List Res} {k : Lk} (h : Own w0 D w (resK b k :: L)) : w.cell? ⟨b, 0, none⟩ = some (.int .i64 k.tk) := by
 obtain ⟨v, h1⟩ := openK h
 exact h1.cell 0 rfl 0 rfl
theorem advance_zk {rs : List Rc} {vr : Value} (h : Own w D w [resZ a z, glR g, rowRc vr rs]) (hz : ZI z) (q1 : z.qn ≤ 100000) (hrl : rs.length ≤ 1000) (hrs : ∀ r ∈ rs, r.kd = 1 ∨ vname r.to = true) (hi : z.wl[i]? = some (b, k)) (hr : advZ now z i b k rs = (z', q)) :
  Calls Tryz.prog 38 #[.pointer (some ⟨a, 0, none⟩), .int .i64 now, .pointer (some ⟨b, 0, none⟩), vr] w (AdvZP w D w a b k.tk z' g vr rs q) := by
 obtain ⟨avs, hl, hne, h1⟩ := z_open h hi
 obtain ⟨hm1, hm2⟩ := wl_mem hi
 have hk := hz.lk _ (List.mem_of_getElem? hi)
 obtain ⟨kt, kc, kr, ku, ks, kv⟩ := k
 have hch := hk.c0
 have hc1 := hk.c1
 obtain ⟨hF1, hF2⟩ := rslF_ok (now := now) hrs hz.en hz.ap (6 - kc.length) kc ⟨hch, hc1⟩ hk.nm
 obtain ⟨p, hp⟩ : ∃ p, rslF now z.es rs (6 - kc.length) kc = p := ⟨_, rfl⟩
 obtain ⟨ch', ro⟩ := p
 rw [hp] at hF1 hF2
 unfold advZ at hr
 rw [hp] at hr
 have hnp := hz.s0
 have hv := hF2 _ (lastN_mem hF1.1)
 have hy : z.sv[0]? = some (srvZ z.sv 0) := by unfold srvZ; simp [List.getD_eq_getElem?_getD, hnp]
 have h2 := h1.toEnd 6 [3, 0, 1, 2, 4, 5] rfl rfl
 have hadv := fun D' hD => advance_o (w := w) (D := D') (now := now) (ro := ro) (ch' := ch') (vy := srvZ z.sv 0) (a := a) (b := b) (n := z.sv.length) (sv := z.sv) (sd := z.sd) (es := z.es) (tk := z.tk) (qn := z.qn) (wt := z.wl.map (·.1)) (dl := z.dn.length) (dn := rnCs avs z.dn) (lt := kt) (tr := kr) (nu := ku) (se := ks) (s0 := kv) (ch := kc) (os := z.wl.eraseIdx i) (g := g) (vr := vr) (rs := rs) hD hrl hz.es hz.ap ⟨6 - kc.length, by simp at hc1; omega, hp⟩ ⟨hch, hc1⟩ hF1 rfl hnp hz.s4 hy hv hz.d0 hz.d1 hz.q0 q1 hm1 hm2 (by have := hz.wl; simpa using this) hz.dn
 cases ro with
 | ask =>
  have hr2 : askZ now z i b ⟨kt, ch', 0, ku, ks, kv⟩ = (z', q) := hr
  unfold askZ at hr2
  rw [if_neg (by show ¬ 3 * (z.sv.length : Int) ≤ 0; omega)] at hr2
  cases hr2
  refine (o_frameV [sepR (rnRs avs z.dn)] [resV a (rvZ z avs), resK b ⟨kt, kc, kr, ku, ks, kv⟩, resKs (z.wl.eraseIdx i), glR g, rowRc vr rs] (fun u => [resKs (z.wl.eraseIdx i), glR g, rowRc vr rs, resV a ⟨z.sv, z.sd, z.es, z.tk, z.qn + 1, z.wl.map (·.1), z.dn.length, rnCs avs z.dn⟩, resK b ⟨kt, ch', 1, z.qn + 1, now, srvZ z.sv 0⟩, rowQ u 1 (qryC z.sd z.qn (srvZ z.sv 0) (lastN ch'))]) h2 (fun D' hD => (hadv D' hD).mono fun e w' ⟨⟨u, h1, h2⟩⟩ => ⟨u, h1, h2, h2.size⟩)).mono ?_
  rintro e w' ⟨u, rfl, hO, hs⟩
  have hc := tk_cell (hO.toEnd 7 [5] rfl rfl)
  refine ⟨u, rfl, ?_, hc, hs⟩
  have h3 := ask_shut (L := [glR g, rowRc vr rs, rowQ u 1 (qryC z.sd z.qn (srvZ z.sv 0) (lastN ch'))]) hl hi (hO.toEnd 7 [4, 5, 1, 0, 2, 3, 6] rfl rfl)
  rw [show rowQ u 1 (qryC z.sd z.qn (srvZ z.sv 0) (lastN ch')) = rowQs u [qyZ z.sd z.qn (srvZ z.sv 0) (lastN ch')] from one_q (qyZ z.sd z.qn (srvZ z.sv 0) (lastN ch'))] at h3
  exact h3
 | addrs l =>
  have hr2 : (finZ z i kt 0 l, ([] : List Qy)) = (z', q) := hr
  cases hr2
  refine (o_frame (A := [sepR (rnRs avs z.dn)]) (B := [resV a (rvZ z avs), resK b ⟨kt, kc, kr, ku, ks, kv⟩, resKs (z.wl.eraseIdx i), glR g, rowRc vr rs]) (Q := fun e B' => ∃ v, e = .returned (.slice none 0 0) ∧ B' = [rowRc vr rs, rowA v l, resV a (finV (rvZ z avs) b kt 0 v), resK b ⟨kt, ch', kr, ku, ks, kv⟩, resKs (z.wl.eraseIdx i), glR g]) h2 (fun D' hD => (hadv D' hD).mono fun e w' ⟨⟨h1, v, h2⟩⟩ => ⟨_, ⟨v, h1, rfl⟩, h2, h2.size⟩)).mono ?_
  rintro e w' ⟨B', ⟨v, rfl, rfl⟩, hO, hs⟩
  have hc := tk_cell (hO.toEnd 7 [4] rfl rfl)
  refine ⟨_, rfl, ?_, hc, hs⟩
  have h3 := hO.rowNew 39 3
  exact fin_shut (v := v) kt hl hi hne (h3.toEnd 8 [3, 5, 0, 2, 6, 1, 7] rfl rfl)
 | fail n =>
  have hr2 : (finZ z i kt n [], ([] : List Qy)) = (z', q) := hr
  cases hr2
  refine (o_frame (A := [sepR (rnRs avs z.dn)]) (B := [resV a (rvZ z avs), resK b ⟨kt, kc, kr, ku, ks, kv⟩, resKs (z.wl.eraseIdx i), glR g, rowRc vr rs]) (Q := fun e B' => ∃ v, e = .returned (.slice none 0 0) ∧ B' = [rowRc vr rs, rowA v [], resV a (finV (rvZ z avs) b kt n v), resK b ⟨kt, ch', kr, ku, ks, kv⟩, resKs (z.wl.eraseIdx i), glR g]) h2 (fun D' hD => (hadv D' hD).mono fun e w' ⟨⟨h1, v, h2⟩⟩ => ⟨_, ⟨v, h1, rfl⟩, h2, h2.size⟩)).mono ?_
  rintro e w' ⟨B', ⟨v, rfl, rfl⟩, hO, hs⟩
  have hc := tk_cell (hO.toEnd 7 [4] rfl rfl)
  refine ⟨_, rfl, ?_, hc, hs⟩
  have h3 := hO.rowNew 39 3
  exact fin_shut (v := v) kt hl hi hne (h3.toEnd 8 [3, 5, 0, 2, 6, 1, 7] rfl rfl)
def ghP (P : List Value → World → Prop) (hq : ∀ vs (w w' : World), P vs w → Below w.heap.size w w' → P vs w') : Ghost where
 inv := P
 own := fun _ _ => True
 quiet := fun vs w w' h hb => hq vs w w' h hb
theorem ghP_mv {P : List Value → World → Prop} {hq : ∀ vs (w w' : World), P vs w → Below w.heap.size w w' → P vs w'} {vs : List Value} {w w' : World} {u : Value} (h : P (vs ++ [u]) w') (hs : w.heap.size ≤ w'.heap.size) : (ghP P hq).mv vs w u w' :=
 ⟨h, hs, fun b _ hn => (hn trivial).elim, fun b _ => .inl trivial⟩
end
end Go.Proofs.YtbhglemolpfnkaaGreatDoor
