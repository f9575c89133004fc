/- ResolverReportsOnce without the program: every ticket stands once among the waiting and the reported; silence ends each lookup. -/
import Derived.Test.YtbolfkojebbejaaGreatDoorBp
import Derived.Test.YtbolfkojebbejaaGreatDoorRtk
set_option linter.unusedVariables false
set_option maxRecDepth 100000
set_option maxHeartbeats 32000000
namespace Go.Proofs.YtbolfkojebbejaaGreatDoor
open Go.RowKit Go.Sort

def tks (z : Rz) : List Int := z.wl.map (fun p => p.2.tk) ++ z.dn.map fun d => d.tk
def tkl (n : Nat) : List Int := (List.range n).map fun i : Nat => (i : Int) + 1
structure RI (now : Int) (n c : Nat) (z : Rz) : Prop where
 zi : ZI z
 ci : CInv now z.es
 w8 : z.wl.length ≤ 8
 tk : z.tk = (n : Int)
 pm : (tks z).Perm (tkl n)
 qn : z.qn ≤ (c : Int)
 se : ∀ p ∈ z.wl, 0 ≤ p.2.se ∧ p.2.se ≤ now ∧ 0 ≤ p.2.nu ∧ p.2.nu ≤ z.qn
 er : ∀ d ∈ z.dn, (d.er = 0 ↔ d.ad ≠ []) ∧ d.ad.length ≤ 40
section
variable {now now' : Int} {n c c' i b : Nat} {z : Rz} {k k0 : Lk} {ch : List ByteArray} {es : List En} {rs : List Rc}
theorem RI.dnlen (h : RI now n c z) : z.wl.length + z.dn.length = n := by
 have := h.pm.length_eq
 simpa [tks, tkl] using this
theorem RI.later (h : RI now n c z) (ht : now ≤ now') (hc : c ≤ c') : RI now' n c' z := ⟨h.zi, h.ci.later ht, h.w8, h.tk, h.pm, Int.le_trans h.qn (by omega), fun p hp => by have := h.se p hp; omega, h.er⟩
theorem tks_fin (hi : z.wl[i]? = some (b, k)) (er : Int) (ad : List Int) : (tks (finZ z i k.tk er ad)).Perm (tks z) := by
 obtain ⟨hil, hie⟩ := List.getElem?_eq_some_iff.1 hi
 have h1 := (eraseK_perm hil).map (fun p : Nat × Lk => p.2.tk)
 rw [hie] at h1
 unfold tks finZ
 have h2 : ((z.wl.eraseIdx i).map (fun p => p.2.tk) ++ (z.dn ++ ([⟨k.tk, er, ad⟩] : List Rn)).map fun d : Rn => d.tk).Perm (k.tk :: ((z.wl.eraseIdx i).map (fun p => p.2.tk) ++ z.dn.map fun d => d.tk)) := by
  rw [List.map_append, ← List.append_assoc]
  exact List.perm_append_singleton _ _
 exact h2.trans (List.Perm.append_right _ h1)
theorem fin_ri (h : RI now n c z) (hn : n ≤ 900) (hi : z.wl[i]? = some (b, k)) {er : Int} {ad : List Int} (he : er = 0 ↔ ad ≠ []) (ha : ad.length ≤ 40) : RI now n c (finZ z i k.tk er ad) := by
 have hp := (tks_fin hi er ad).trans h.pm
 have hl := hp.length_eq
 have hz := h.zi
 have hd : (finZ z i k.tk er ad).dn.length ≤ n := by
  have : (tks (finZ z i k.tk er ad)).length = _ := hl
  simp [tks, tkl] at this
  omega
 exact ⟨⟨hz.s0, hz.s4, hz.d0, hz.d1, hz.q0, Nat.le_trans (List.length_eraseIdx_le _ _) hz.wl, fun p hp => hz.lk p (List.mem_of_mem_eraseIdx hp), by omega, hz.es, hz.ap, hz.en⟩, h.ci, Nat.le_trans (List.length_eraseIdx_le _ _) h.w8, h.tk, hp, h.qn, fun p hp => h.se p (List.mem_of_mem_eraseIdx hp), fun d hd => by
  rcases List.mem_append.1 hd with hd | hd
  ·
   exact h.er d hd
  ·
   rw [List.mem_singleton.1 hd]; exact ⟨he, ha⟩⟩
theorem ask_ri (h : RI now n c z) (hn : n ≤ 900) (h0 : 0 ≤ now) (hi : z.wl[i]? = some (b, k0)) (hk : k.tk = k0.tk) (ho : LkOk k) : RI now n (c + 1) (askZ now z i b k).1 := by
 unfold askZ
 split
 ·
  rw [hk]
  exact (fin_ri h hn hi ⟨fun e => absurd e (by decide), fun e => absurd rfl e⟩ (by decide)).later (Int.le_refl _) (Nat.le_succ _)
 ·
  rename_i ht
  have hz := h.zi
  have h4 := hz.s4
  obtain ⟨hil, hie⟩ := List.getElem?_eq_some_iff.1 hi
  refine ⟨⟨hz.s0, hz.s4, hz.d0, hz.d1, by have := hz.q0; show 0 ≤ z.qn + 1; omega, by show (z.wl.set i _).length ≤ 100; rw [List.length_set]; exact hz.wl, fun p hp => ?_, hz.dn, hz.es, hz.ap, hz.en⟩, h.ci, by show (z.wl.set i _).length ≤ 8; rw [List.length_set]; exact h.w8, h.tk, ?_, by have := h.qn; show z.qn + 1 ≤ ((c + 1 : Nat) : Int); omega, fun p hp => ?_, h.er⟩
  ·
   rcases List.mem_or_eq_of_mem_set hp with hp | rfl
   ·
    exact hz.lk p hp
   ·
    exact ⟨ho.c0, ho.c1, ho.nm, by have := ho.t0; show 0 ≤ k.tr + 1; omega, by show k.tr + 1 ≤ 12; omega⟩
  ·
   have e1 : (z.wl.set i (b, (⟨k.tk, k.ch, k.tr + 1, z.qn + 1, now, srvZ z.sv k.tr⟩ : Lk))).map (fun p => p.2.tk) = z.wl.map fun p => p.2.tk := by
    rw [List.map_set]
    apply List.ext_getElem?
    intro j
    rw [List.getElem?_set]
    split
    ·
     rename_i e
     subst e
     simp only [List.length_map, hil, if_true]
     rw [List.getElem?_map, List.getElem?_eq_getElem hil, hie]
     show some k.tk = some k0.tk
     rw [hk]
    ·
     rfl
   show (List.map _ (z.wl.set i _) ++ _).Perm _
   rw [e1]
   exact h.pm
  ·
   rcases List.mem_or_eq_of_mem_set hp with hp | rfl
   ·
    have := h.se p hp; show _ ∧ _ ∧ _ ∧ p.2.nu ≤ z.qn + 1; omega
   ·
    have := hz.q0; show 0 ≤ now ∧ now ≤ now ∧ 0 ≤ z.qn + 1 ∧ z.qn + 1 ≤ z.qn + 1; omega
theorem ssZ_len (l : List Int) : (ssZ l).length ≤ l.length := by
 unfold ssZ
 rw [comp_list, List.length_map]
 refine Nat.le_trans (List.length_filter_le _ _) ?_
 rw [List.length_range, sortZ, List.length_mergeSort]
 exact Nat.le_refl _
theorem adF_len (l : List Rc) : (adF l).length ≤ l.length := by unfold adF; rw [List.length_map]; exact List.length_filter_le _ _
theorem found_len (nm : ByteArray) (h : rs.length ≤ 32) (he : es.length ≤ 32) : (foundF now es rs nm).length ≤ 32 := by
 unfold foundF
 split
 ·
  rw [lookD_len]; exact Nat.le_trans (recs_len_le _ _ _) he
 ·
  exact Nat.le_trans (List.length_filter_le _ _) h
theorem rslF_out (h : rs.length ≤ 32) (he : es.length ≤ 32) : ∀ (f : Nat) (ch : List ByteArray), (∀ l, (rslF now es rs f ch).2 = .addrs l → l ≠ [] ∧ l.length ≤ 40) ∧ (∀ m, (rslF now es rs f ch).2 = .fail m → m ≠ 0)
 | 0, ch => ⟨fun l e => (by cases e), fun m e => (by cases e; decide)⟩
 | f + 1, ch => by
  unfold rslF
  split
  ·
   rename_i ha
   refine ⟨fun l e => ?_, fun m e => by cases e⟩
   cases e
   refine ⟨fun e => ha ?_, ?_⟩
   ·
    have h2 : ssZ (adF (foundF now es rs (lastN ch))) = [] := e
    cases hc : adF (foundF now es rs (lastN ch)) with
    | nil => rfl
    | cons x l =>
     have := (ssZ_mem (adF (foundF now es rs (lastN ch))) x).2 (by rw [hc]; exact List.mem_cons_self)
     rw [h2] at this; cases this
   ·
    have h1 := ssZ_len (adF (foundF now es rs (lastN ch)))
    have h2 := adF_len (foundF now es rs (lastN ch))
    have h3 := found_len (now := now) (lastN ch) h he
    show (ssZ _).length ≤ 40
    omega
  ·
   split
   ·
    split
    ·
     exact ⟨fun l e => (by cases e), fun m e => (by cases e; decide)⟩
    ·
     exact ⟨fun l e => (by cases e), fun m e => (by cases e)⟩
   ·
    split
    ·
     exact ⟨fun l e => (by cases e), fun m e => (by cases e; decide)⟩
    ·
     exact rslF_out h he f _
theorem adv_ri (h : RI now n c z) (hn : n ≤ 900) (h0 : 0 ≤ now) (hi : z.wl[i]? = some (b, k)) (hl : rs.length ≤ 32) (hr : ∀ r ∈ rs, r.kd = 1 ∨ vname r.to = true) : RI now n (c + 1) (advZ now z i b k rs).1 := by
 have hk := h.zi.lk _ (List.mem_of_getElem? hi)
 have ho := rslF_out (now := now) hl h.zi.es (6 - k.ch.length) k.ch
 have hc := rslF_ok (now := now) hr h.zi.en h.zi.ap (6 - k.ch.length) k.ch ⟨hk.c0, hk.c1⟩ hk.nm
 unfold advZ
 obtain ⟨⟨ch', ro⟩, hp⟩ : ∃ p, rslF now z.es rs (6 - k.ch.length) k.ch = p := ⟨_, rfl⟩
 rw [hp] at ho hc ⊢
 cases ro with
 | ask => exact ask_ri h hn h0 hi rfl ⟨hc.1.1, hc.1.2, hc.2, by show (0 : Int) ≤ 0; decide, by show (0 : Int) ≤ 12; decide⟩
 | addrs l =>
  have := ho.1 l rfl
  exact (fin_ri h hn hi ⟨fun _ => this.1, fun _ => rfl⟩ this.2).later (Int.le_refl _) (Nat.le_succ _)
 | fail m =>
  have := ho.2 m rfl
  exact (fin_ri h hn hi ⟨fun e => absurd e this, fun e => absurd rfl e⟩ (by show 0 ≤ 40; decide)).later (Int.le_refl _) (Nat.le_succ _)
theorem tkl_succ (n : Nat) : tkl (n + 1) = tkl n ++ [(n : Int) + 1] := by unfold tkl; rw [List.range_succ, List.map_append]; rfl
theorem push_ri (h : RI now n c z) (h0 : 0 ≤ now) (h8 : z.wl.length < 8) {nm : ByteArray} (hv : vname nm = true) : RI now (n + 1) c (pushZ z b nm) := by
 have hz := h.zi
 refine ⟨push_ok hz hv h8, h.ci, by show (z.wl ++ [_]).length ≤ 8; rw [List.length_append]; show z.wl.length + 1 ≤ 8; omega, by show z.tk + 1 = _; rw [h.tk]; rfl, ?_, h.qn, fun p hp => ?_, h.er⟩
 ·
  unfold tks pushZ
  rw [tkl_succ, List.map_append, List.append_assoc]
  refine (List.perm_append_comm_assoc _ _ _).trans ?_
  refine List.Perm.trans ?_ List.perm_append_comm
  show ([z.tk + 1] ++ tks z).Perm ([(n : Int) + 1] ++ tkl n)
  rw [h.tk]
  exact List.Perm.append_left _ h.pm
 ·
  rcases List.mem_append.1 hp with hp | hp
  ·
   exact h.se p hp
  ·
   rw [List.mem_singleton.1 hp]
   have := hz.q0
   exact ⟨Int.le_refl _, h0, Int.le_refl _, this⟩
theorem start_ri (h : RI now n c z) (hn : n < 900) (h0 : 0 ≤ now) (h8 : z.wl.length < 8) {nm : ByteArray} (hv : vname nm = true) : RI now (n + 1) (c + 1) (startZ now z b nm).1 :=
 adv_ri (push_ri h h0 h8 hv) (by omega) h0 (by show (z.wl ++ [_])[z.wl.length]? = _; simp) (by show 0 ≤ 32; decide) (fun r hr => by cases hr)
theorem es_ri (h : RI now n c z) (hc : CInv now es) : RI now n c (esZ z es) := ⟨esZ_ok h.zi hc, hc, h.w8, h.tk, h.pm, h.qn, h.se, h.er⟩
theorem rcv_to {r : Rc} (h : RcV r) : r.kd = 1 ∨ vname r.to = true := by
 rcases h.al with ⟨h, _⟩ | ⟨_, h, _⟩
 ·
  exact .inl h
 ·
  exact .inr h
theorem ans_ri (h : RI now n c z) (hn : n ≤ 900) (h0 : 0 ≤ now) (hi : z.wl[i]? = some (b, k)) {cd : Int} (hl : rs.length ≤ 32) (hr : ∀ r ∈ rs, RcV r) : RI now n (c + 1) (ansZ now z i b k cd rs).1 := by
 unfold ansZ
 split
 ·
  exact (fin_ri (es_ri h (h.ci.neg _ _)) hn (show (esZ z _).wl[i]? = _ from hi) ⟨fun e => absurd e (by decide), fun e => absurd rfl e⟩ (by show 0 ≤ 40; decide)).later (Int.le_refl _) (Nat.le_succ _)
 ·
  split
  ·
   exact ask_ri h hn h0 hi rfl (h.zi.lk _ (List.mem_of_getElem? hi))
  ·
   exact adv_ri (es_ri h (puts_ok _ h.ci)) hn h0 (show (esZ z _).wl[i]? = _ from hi) (Nat.le_trans (List.length_filter_le _ _) hl) fun r hr' => rcv_to (hr r (List.mem_filter.1 hr').1)
theorem rcv_ri (h : RI now n c z) (hn : n ≤ 900) (h0 : 0 ≤ now) {d : Dm} (hd : DmV d) (fr fp tp : Int) : RI now n (c + 1) (rcvZ now z fr fp tp d).2.1 := by
 unfold rcvZ
 split
 ·
  split
  ·
   exact h.later (Int.le_refl _) (Nat.le_succ _)
  ·
   split
   ·
    exact h.later (Int.le_refl _) (Nat.le_succ _)
   ·
    rename_i hp
    exact ans_ri h hn h0 hp (Nat.le_trans hd.len (by decide)) hd.rs
 ·
  exact h.later (Int.le_refl _) (Nat.le_succ _)
end
def renL (f : Nat → Nat) (wl : List (Nat × Lk)) : List (Nat × Lk) := wl.map fun p => (f p.1, p.2)
def ren (f : Nat → Nat) (z : Rz) : Rz := ⟨z.sv, z.sd, z.es, z.tk, z.qn, renL f z.wl, z.dn⟩
def ren2 (f : Nat → Nat) (r : Rz × List Qy) : Rz × List Qy := (ren f r.1, r.2)
section
variable {f : Nat → Nat} {now tk er sd fr fp tp : Int} {ad : List Int} {z : Rz} {i b : Nat} {k : Lk} {rs : List Rc} {wl : List (Nat × Lk)} {nm : ByteArray} {es : List En}
theorem renL_erase : renL f (wl.eraseIdx i) = (renL f wl).eraseIdx i := by
 unfold renL
 rw [List.eraseIdx_eq_take_drop_succ, List.eraseIdx_eq_take_drop_succ, List.map_append, List.map_take, List.map_drop]
theorem renL_set : renL f (wl.set i (b, k)) = (renL f wl).set i (f b, k) := by unfold renL; rw [List.map_set]
theorem ren_fin : finZ (ren f z) i tk er ad = ren f (finZ z i tk er ad) := by
 unfold ren finZ
 simp only [renL_erase]
theorem ren_ask : askZ now (ren f z) i (f b) k = ren2 f (askZ now z i b k) := by
 unfold askZ
 show (if 3 * (z.sv.length : Int) ≤ k.tr then _ else _) = _
 split
 ·
  rw [ren_fin]; rfl
 ·
  unfold ren2 ren
  simp only [renL_set]
theorem ren_adv : advZ now (ren f z) i (f b) k rs = ren2 f (advZ now z i b k rs) := by
 unfold advZ
 show (match rslF now z.es rs (6 - k.ch.length) k.ch with
  | (ch', .ask) => askZ now (ren f z) i (f b) ⟨k.tk, ch', 0, k.nu, k.se, k.sv⟩
  | (_, .addrs l) => (finZ (ren f z) i k.tk 0 l, [])
  | (_, .fail n) => (finZ (ren f z) i k.tk n [], [])) = _
 obtain ⟨ch', ro⟩ := rslF now z.es rs (6 - k.ch.length) k.ch
 cases ro with
 | addrs l => show (finZ (ren f z) i k.tk 0 l, []) = _; rw [ren_fin]; rfl
 | ask => exact ren_ask
 | fail n => show (finZ (ren f z) i k.tk n [], []) = _; rw [ren_fin]; rfl
theorem ren_es : esZ (ren f z) es = ren f (esZ z es) := rfl
theorem ren_ans {cd : Int} : ansZ now (ren f z) i (f b) k cd rs = ren2 f (ansZ now z i b k cd rs) := by
 unfold ansZ
 show (if cd = 1 then (finZ (esZ (ren f z) (negF now (lastN k.ch) 30 z.es)) i k.tk 211 [], []) else if cd = 2 ∨ ofN (lastN k.ch) rs = [] then askZ now (ren f z) i (f b) k else advZ now (esZ (ren f z) (putsF now (relF rs (lastN k.ch)) z.es)) i (f b) k (relF rs (lastN k.ch))) = _
 split
 ·
  rw [ren_es, ren_fin]; rfl
 ·
  split
  ·
   exact ren_ask
  ·
   rw [ren_es]; exact ren_adv
theorem ren_rcv {d : Dm} : rcvZ now (ren f z) fr fp tp d = ((rcvZ now z fr fp tp d).1, ren2 f (rcvZ now z fr fp tp d).2) := by
 unfold rcvZ
 have h1 : (renL f z.wl).findIdx? (hitK z.sd fr tp d.id d.nm) = z.wl.findIdx? (hitK z.sd fr tp d.id d.nm) := by
  unfold renL
  rw [List.findIdx?_map]
  rfl
 split
 ·
  show (match (renL f z.wl).findIdx? (hitK z.sd fr tp d.id d.nm) with
   | none => (false, ren f z, [])
   | some i => match (renL f z.wl)[i]? with
    | none => (false, ren f z, [])
    | some p => (true, ansZ now (ren f z) i p.1 p.2 d.cd d.rs)) = _
  rw [h1]
  cases z.wl.findIdx? (hitK z.sd fr tp d.id d.nm) with
  | none => rfl
  | some i =>
   show (match (renL f z.wl)[i]? with
    | none => (false, ren f z, [])
    | some p => (true, ansZ now (ren f z) i p.1 p.2 d.cd d.rs)) = _
   have h2 : (renL f z.wl)[i]? = (z.wl[i]?).map fun p => (f p.1, p.2) := by unfold renL; rw [List.getElem?_map]
   rw [h2]
   cases hp : z.wl[i]? with
   | none => simp only [Option.map_none, hp]; rfl
   | some p => simp only [Option.map_some, hp]; rw [ren_ans]
 ·
  rfl
theorem ren_tickL : ∀ (rest : List (Nat × Lk)) (z : Rz) (i : Nat), tickL now (ren f z) i (renL f rest) = ren2 f (tickL now z i rest)
 | [], z, i => rfl
 | (b, k) :: rest, z, i => by
  show tickL now (ren f z) i ((f b, k) :: renL f rest) = _
  unfold tickL
  split
  ·
   rw [ren_ask]
   have h := fun j => ren_tickL rest (askZ now z i b k).1 j
   show ((tickL now (ren f (askZ now z i b k).1) (if 3 * (z.sv.length : Int) ≤ k.tr then i else i + 1) (renL f rest)).1, (askZ now z i b k).2 ++ (tickL now (ren f (askZ now z i b k).1) (if 3 * (z.sv.length : Int) ≤ k.tr then i else i + 1) (renL f rest)).2) = _
   rw [h]; rfl
  ·
   exact ren_tickL rest z (i + 1)
theorem ren_tick : tickZ now (ren f z) = ren2 f (tickZ now z) := by
 unfold tickZ
 exact ren_tickL z.wl (agedZ now z) 0
theorem fg_start : startZ 0 (restZ sd [] 0 0) b nm = (pendZ sd [] 1 1 b 0 [nm], [qyZ sd 0 3 nm]) := by
 have h1 : rslF 0 [] [] 5 [nm] = ([nm], .ask) := by
  simp [rslF, foundF, knownF, ofN, lookD, recs, srtR, knwD, adF, nxF]
 show (match rslF 0 [] [] 5 [nm] with
  | (ch', .ask) => askZ 0 (pushZ (restZ sd [] 0 0) b nm) 0 b ⟨1, ch', 0, 0, 0, 0⟩
  | (_, .addrs l) => (finZ (pushZ (restZ sd [] 0 0) b nm) 0 1 0 l, [])
  | (_, .fail n) => (finZ (pushZ (restZ sd [] 0 0) b nm) 0 1 n [], [])) = _
 rw [h1]
 rfl
def fgBad (sd : Int) (nm : ByteArray) (fr fp tp : Int) (d : Dm) : Prop := fp ≠ 53 ∨ d.an = false ∨ tp ≠ 20000 + (sd + 101) % 10000 ∨ fr ≠ 3 ∨ d.id ≠ (sd + 7919) % 65536 ∨ d.nm ≠ nm
theorem fg_miss {d : Dm} {t : Int} (h : fgBad sd nm fr fp tp d) : rcvZ now (pendZ sd es tk 1 b t [nm]) fr fp tp d = (false, pendZ sd es tk 1 b t [nm], []) := by
 unfold rcvZ
 by_cases hc : fp = 53 ∧ d.an = true ∧ d.kd = 1
 ·
  rw [if_pos hc]
  have hh : hitK (pendZ sd es tk 1 b t [nm]).sd fr tp d.id d.nm (b, ⟨tk, [nm], 1, 1, t, 3⟩) = false := by
   show ((tp == 20000 + (sd + 101 * 1) % 10000) && (fr == 3) && (d.id == (sd + 7919 * 1) % 65536) && (d.nm.toList == nm.toList)) = false
   rcases h with h | h | h | h | h | h
   ·
    exact absurd hc.1 h
   ·
    rw [hc.2.1] at h; cases h
   ·
    have : (tp == 20000 + (sd + 101 * 1) % 10000) = false := beq_eq_false_iff_ne.2 (by simpa using h)
    rw [this]; rfl
   ·
    have : (fr == (3 : Int)) = false := beq_eq_false_iff_ne.2 h
    rw [this]; simp
   ·
    have : (d.id == (sd + 7919 * 1) % 65536) = false := beq_eq_false_iff_ne.2 (by simpa using h)
    rw [this]; simp
   ·
    have : (d.nm.toList == nm.toList) = false := beq_eq_false_iff_ne.2 (fun e => h (bytes_ext e))
    rw [this]; simp
  have hf : (pendZ sd es tk 1 b t [nm]).wl.findIdx? (hitK (pendZ sd es tk 1 b t [nm]).sd fr tp d.id d.nm) = none := find_idx_none fun x hx => by
   obtain rfl := List.mem_singleton.1 hx
   exact hh
  rw [hf]
 ·
  rw [if_neg hc]
theorem fg_hit {d : Dm} {t : Int} (h1 : d.an = true) (h2 : d.kd = 1) (h3 : d.id = (sd + 7919) % 65536) (h4 : d.nm = nm) : (rcvZ now (pendZ sd es tk 1 b t [nm]) 3 53 (20000 + (sd + 101) % 10000) d).1 = true := by
 unfold rcvZ
 rw [if_pos ⟨rfl, h1, h2⟩]
 have hf : (pendZ sd es tk 1 b t [nm]).wl.findIdx? (hitK (pendZ sd es tk 1 b t [nm]).sd 3 (20000 + (sd + 101) % 10000) d.id d.nm) = some 0 := by
  show List.findIdx? _ [(b, (⟨tk, [nm], 1, 1, t, 3⟩ : Lk))] = some 0
  rw [List.findIdx?_cons, if_pos]
  show ((20000 + (sd + 101) % 10000 == 20000 + (sd + 101 * 1) % 10000) && ((3 : Int) == 3) && (d.id == (sd + 7919 * 1) % 65536) && (d.nm.toList == nm.toList)) = true
  rw [h3, h4]
  simp
 rw [hf]
 rfl
end
section
variable {now fr fp tp : Int} {z : Rz} {i b : Nat} {k : Lk} {rs : List Rc}
theorem ask_q : (askZ now z i b k).2.length ≤ 1 := by
 unfold askZ
 split
 ·
  exact Nat.zero_le _
 ·
  exact Nat.le_refl _
theorem adv_q : (advZ now z i b k rs).2.length ≤ 1 := by
 unfold advZ
 split
 ·
  exact ask_q
 ·
  exact Nat.zero_le _
 ·
  exact Nat.zero_le _
theorem ans_q {cd : Int} : (ansZ now z i b k cd rs).2.length ≤ 1 := by
 unfold ansZ
 split
 ·
  exact Nat.zero_le _
 ·
  split
  ·
   exact ask_q
  ·
   exact adv_q
theorem rcv_q {d : Dm} : (rcvZ now z fr fp tp d).2.2.length ≤ 1 := by
 unfold rcvZ
 split
 ·
  split
  ·
   exact Nat.zero_le _
  ·
   split
   ·
    exact Nat.zero_le _
   ·
    exact ans_q
 ·
  exact Nat.zero_le _
theorem tickL_q : ∀ (rest : List (Nat × Lk)) (z : Rz) (i : Nat), (tickL now z i rest).2.length ≤ rest.length
 | [], z, i => Nat.le_refl _
 | (b, k) :: rest, z, i => by
  unfold tickL
  split
  ·
   rw [List.length_append]
   have h1 := ask_q (now := now) (z := z) (i := i) (b := b) (k := k)
   have h2 := tickL_q rest (askZ now z i b k).1 (if 3 * (z.sv.length : Int) ≤ k.tr then i else i + 1)
   rw [List.length_cons]
   omega
  ·
   exact Nat.le_succ_of_le (tickL_q rest z (i + 1))
theorem tick_q : (tickZ now z).2.length ≤ z.wl.length := tickL_q z.wl _ 0
end
def takenZ (z : Rz) : Rz := ⟨z.sv, z.sd, z.es, z.tk, z.qn, z.wl, []⟩
theorem fg_ri0 (sd : Int) (d0 : 0 ≤ sd) (d1 : sd ≤ 4294967295) : RI 0 0 0 (restZ sd [] 0 0) where
 zi := ⟨by show 0 < 2; decide, by show 2 ≤ 4; decide, d0, d1, by show (0 : Int) ≤ 0; decide, by show 0 ≤ 100; decide, fun p hp => (by cases hp), by show 0 ≤ 1000; decide, by show 0 ≤ 32; decide, List.Pairwise.nil, fun e he => (by cases he)⟩
 ci := CInv.nil 0
 w8 := by show 0 ≤ 8; decide
 tk := rfl
 pm := by show ([] : List Int).Perm []; exact List.Perm.refl _
 qn := by show (0 : Int) ≤ ((0 : Nat) : Int); decide
 se := fun p hp => by cases hp
 er := fun d hd => by cases hd
theorem fg_ri1 {sd : Int} {b : Nat} {nm : ByteArray} (d0 : 0 ≤ sd) (d1 : sd ≤ 4294967295) (hv : vname nm = true) : RI 0 1 1 (pendZ sd [] 1 1 b 0 [nm]) := by
 have h := start_ri (b := b) (fg_ri0 sd d0 d1) (by decide) (by decide) (by show 0 < 8; decide) hv
 rw [fg_start] at h
 exact h
end Go.Proofs.YtbolfkojebbejaaGreatDoor
