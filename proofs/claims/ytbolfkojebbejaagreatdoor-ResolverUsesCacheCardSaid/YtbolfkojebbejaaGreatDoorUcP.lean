/- ResolverUsesCache without the program: one record, or a refusal, in the cache. -/
import Derived.Test.YtbolfkojebbejaaGreatDoorBp
import Derived.Test.YtbolfkojebbejaaGreatDoorKc
set_option linter.unusedVariables false
set_option maxRecDepth 100000
set_option maxHeartbeats 32000000
namespace Go.Proofs.YtbolfkojebbejaaGreatDoor
open Go.RowKit Go.Sort

def ucR (nm : ByteArray) (T A : Int) : Rc := ⟨nm, 1, T, A, ⟨#[]⟩⟩
def ucE (nm : ByteArray) (T A : Int) : Bool → En
 | true => ⟨nm, 0, 0, ⟨#[]⟩, 31⟩
 | false => ⟨nm, 1, A, ⟨#[]⟩, 1 + T⟩
def ucL (nm : ByteArray) (T A : Int) : Bool → List Rc
 | true => []
 | false => [ucR nm T A]
def ucX : Bool → Int
 | true => 211
 | false => 0
def ucA (A : Int) : Bool → List Int
 | true => []
 | false => [A]
def uc0 : Rz := ⟨[3], 5, [], 0, 0, [], []⟩
def uc1 (nm : ByteArray) (b : Nat) : Rz := ⟨[3], 5, [], 1, 1, [(b, ⟨1, [nm], 1, 1, 0, 3⟩)], []⟩
def uc2 (e : En) (dn : List Rn) : Rz := ⟨[3], 5, [e], 1, 1, [], dn⟩
def uc3 (e : En) (dn : List Rn) : Rz := ⟨[3], 5, [e], 2, 1, [], dn⟩
def uc4 (e : En) (nm : ByteArray) (at_ : Int) (b : Nat) : Rz := ⟨[3], 5, [e], 2, 2, [(b, ⟨2, [nm], 1, 2, at_, 3⟩)], []⟩
section
variable {nm : ByteArray} {T A at_ : Int} {b : Nat} {rf : Bool}
theorem ssZ_one (A : Int) : ssZ [A] = [A] := ss_ext (ssZ_ss _) (List.pairwise_singleton _ _) fun x => ssZ_mem _ x
theorem uc_start : startZ 0 uc0 b nm = (uc1 nm b, [qyZ 5 0 3 nm]) := by
 have h1 : rslF 0 [] [] 5 [nm] = ([nm], .ask) := by
  simp [rslF, foundF, knownF, ofN, lookD, recs, srtR, knwD, adF, nxF]
 show (match rslF 0 [] [] 5 [nm] with
  | (ch', .ask) => askZ 0 (pushZ uc0 b nm) 0 b ⟨1, ch', 0, 0, 0, 0⟩
  | (_, .addrs l) => (finZ (pushZ uc0 b nm) 0 1 0 l, [])
  | (_, .fail n) => (finZ (pushZ uc0 b nm) 0 1 n [], [])) = _
 rw [h1]
 rfl
theorem ucR_v (hv : vname nm = true) (hT : 1 ≤ T ∧ T ≤ 50) (hA : 1 ≤ A ∧ A ≤ 9) : RcV (ucR nm T A) :=
 ⟨hv, by show 0 ≤ T; omega, by show T ≤ 1000; omega, .inl ⟨rfl, by show adrOk A = true; simp [adrOk]; omega, emp_list⟩⟩
theorem ucL_v (hv : vname nm = true) (hT : 1 ≤ T ∧ T ≤ 50) (hA : 1 ≤ A ∧ A ≤ 9) : ∀ r ∈ ucL nm T A rf, RcV r := fun r hr => by
 cases rf with
 | true => cases hr
 | false => rw [List.mem_singleton.1 hr]; exact ucR_v hv hT hA
theorem uc_put (hv : vname nm = true) (hT : 1 ≤ T ∧ T ≤ 50) (hA : 1 ≤ A ∧ A ≤ 9) : putF 1 (ucR nm T A) [] = [ucE nm T A false] := by
 have h1 := rc_rec (now := 1) (ucR_v hv hT hA) (by decide) (by decide)
 rw [putF_eq [] h1 (by show T ≠ 0; omega)]
 rfl
theorem uc_putR (hv : vname nm = true) (hT : 1 ≤ T ∧ T ≤ 50) (hA : 1 ≤ A ∧ A ≤ 9) : putRF 1 (ucR nm T A) [] = [ucE nm T A false] := by
 have h1 := rc_rec (now := 1) (ucR_v hv hT hA) (by decide) (by decide)
 unfold putRF
 rw [h1, if_pos (by show (true && decide (T ≠ 0)) = true; simp; omega)]
 rfl
theorem uc_neg (hv : vname nm = true) : negF 1 nm 30 [] = [ucE nm T A true] := by
 rw [negF_eq [] (chkF_ok (by decide) (by decide) hv (by decide) (by decide)) (by decide)]
 rfl
theorem of_one : ofN nm [ucR nm T A] = [ucR nm T A] := by unfold ofN; rw [List.filter_cons, if_pos (by simp [ucR])]; rfl
theorem ad_one : adF [ucR nm T A] = [A] := rfl
theorem uc_ans (hv : vname nm = true) (hT : 1 ≤ T ∧ T ≤ 50) (hA : 1 ≤ A ∧ A ≤ 9) : rcvZ 1 (uc1 nm b) 3 53 20106 (ansM (ucL nm T A rf) false 7924 nm) = (true, uc2 (ucE nm T A rf) [⟨1, ucX rf, ucA A rf⟩], []) := by
 have hhit : ∀ d : Dm, d.an = true → d.kd = 1 → d.id = 7924 → d.nm = nm → rcvZ 1 (uc1 nm b) 3 53 20106 d = (true, ansZ 1 (uc1 nm b) 0 b ⟨1, [nm], 1, 1, 0, 3⟩ d.cd d.rs) := by
  intro d a1 a2 a3 a4
  unfold rcvZ
  rw [if_pos ⟨rfl, a1, a2⟩]
  have hf : (uc1 nm b).wl.findIdx? (hitK (uc1 nm b).sd 3 20106 d.id d.nm) = some 0 := by
   show List.findIdx? _ [(b, (⟨1, [nm], 1, 1, 0, 3⟩ : Lk))] = some 0
   rw [List.findIdx?_cons, if_pos]
   show (((20106 : Int) == 20000 + (5 + 101 * 1) % 10000) && ((3 : Int) == 3) && (d.id == (5 + 7919 * 1) % 65536) && (d.nm.toList == nm.toList)) = true
   rw [a3, a4]
   simp
  rw [hf]
  rfl
 cases rf with
 | true =>
  show rcvZ 1 (uc1 nm b) 3 53 20106 (ansM [] false 7924 nm) = _
  rw [ansM_no rfl, hhit _ rfl rfl rfl rfl]
  unfold ansZ
  rw [if_pos rfl]
  show (true, finZ (esZ _ (negF 1 nm 30 [])) 0 1 211 [], []) = _
  rw [uc_neg (T := T) (A := A) hv]
  rfl
 | false =>
  show rcvZ 1 (uc1 nm b) 3 53 20106 (ansM [ucR nm T A] false 7924 nm) = _
  have hz : zaF nm false [ucR nm T A] = [ucR nm T A] := by unfold zaF; rw [List.filter_cons, if_pos (by simp [ucR])]; rfl
  rw [ansM_yes (by unfold zaB; simp [ucR]), hz, hhit _ rfl rfl rfl rfl]
  have hrel : relF [ucR nm T A] nm = [ucR nm T A] := by
   unfold relF
   rw [List.filter_cons, if_pos (relN_has _ _ (by simp [hasS, ucR]))]
   rfl
  show (true, ansZ 1 (uc1 nm b) 0 b ⟨1, [nm], 1, 1, 0, 3⟩ 0 [ucR nm T A]) = _
  unfold ansZ
  rw [if_neg (by decide), if_neg (by
   rintro (h | h)
   ·
    exact absurd h (by decide)
   ·
    have h' : ofN nm [ucR nm T A] = [] := h
    rw [of_one] at h'; cases h')]
  show (true, advZ 1 (esZ (uc1 nm b) (putsF 1 (relF [ucR nm T A] nm) [])) 0 b _ (relF [ucR nm T A] nm)) = _
  rw [hrel]
  have hp : putsF 1 [ucR nm T A] [] = [ucE nm T A false] := uc_put hv hT hA
  rw [hp]
  have hr : rslF 1 [ucE nm T A false] [ucR nm T A] 5 [nm] = ([nm], .addrs [A]) := by
   have hf : foundF 1 [ucE nm T A false] [ucR nm T A] (lastN [nm]) = [ucR nm T A] := by
    show foundF 1 _ _ nm = _
    unfold foundF
    rw [of_one]; rfl
   unfold rslF
   rw [hf, ad_one, if_pos (by simp)]
   show ([nm], RO.addrs (ssZ [A])) = _
   rw [ssZ_one]
  unfold advZ
  show (true, (match rslF 1 [ucE nm T A false] [ucR nm T A] 5 [nm] with
   | (ch', .ask) => _
   | (_, .addrs l) => _
   | (_, .fail n) => _)) = _
  rw [hr]
  rfl
theorem uc_hit (h : at_ < (ucE nm T A rf).ex) : hitB at_ nm (ucE nm T A rf) = true := by
 unfold hitB liveB
 have : (ucE nm T A rf).nm = nm := by cases rf <;> rfl
 rw [this]; simp; exact h
theorem uc_miss (h : ¬ at_ < (ucE nm T A rf).ex) : hitB at_ nm (ucE nm T A rf) = false := by
 unfold hitB liveB
 rw [Bool.and_eq_false_iff]; exact .inr (decide_eq_false h)
theorem uc_look : lookD at_ nm [ucE nm T A rf] = (if at_ < (ucE nm T A rf).ex then (match rf with | true => [] | false => [rcOf at_ (ucE nm T A false)]) else []) ∧ knwD at_ nm [ucE nm T A rf] = decide (at_ < (ucE nm T A rf).ex) := by
 by_cases h : at_ < (ucE nm T A rf).ex
 ·
  rw [if_pos h, decide_eq_true h]
  have hh := uc_hit h
  refine ⟨?_, by unfold knwD; rw [List.any_cons, hh]; rfl⟩
  unfold lookD recs
  rw [List.filter_cons]
  cases rf with
  | true => rw [if_neg (by rw [hh]; simp [ucE])]; simp [srtR]
  | false => rw [if_pos (by rw [hh]; simp [ucE])]; simp [srtR]
 ·
  rw [if_neg h, decide_eq_false h]
  have hh := uc_miss h
  refine ⟨?_, by unfold knwD; rw [List.any_cons, hh]; rfl⟩
  unfold lookD recs
  rw [List.filter_cons, if_neg (by rw [hh]; simp)]
  simp [srtR]
theorem uc_yes (h : at_ < (ucE nm T A rf).ex) : startZ at_ (uc2 (ucE nm T A rf) []) b nm = (uc3 (ucE nm T A rf) [⟨2, ucX rf, ucA A rf⟩], []) := by
 obtain ⟨h1, h2⟩ := uc_look (nm := nm) (T := T) (A := A) (at_ := at_) (rf := rf)
 rw [if_pos h] at h1
 rw [decide_eq_true h] at h2
 have hr : (rslF at_ [ucE nm T A rf] [] 5 [nm]) = ([nm], match rf with | true => .fail 211 | false => .addrs [A]) := by
  have e1 : foundF at_ [ucE nm T A rf] [] (lastN [nm]) = lookD at_ nm [ucE nm T A rf] := rfl
  have e2 : knownF at_ [ucE nm T A rf] [] (lastN [nm]) = knwD at_ nm [ucE nm T A rf] := rfl
  unfold rslF
  rw [e1, e2, h1, h2]
  cases rf with
  | true => simp [adF, nxF]
  | false =>
   have e3 : adF [rcOf at_ (ucE nm T A false)] = [A] := rfl
   show (if adF [rcOf at_ (ucE nm T A false)] ≠ [] then ([nm], RO.addrs (ssZ (adF [rcOf at_ (ucE nm T A false)]))) else _) = _
   rw [e3, if_pos (by simp), ssZ_one]
 show (match rslF at_ [ucE nm T A rf] [] 5 [nm] with
  | (ch', .ask) => askZ at_ (pushZ (uc2 (ucE nm T A rf) []) b nm) 0 b ⟨2, ch', 0, 0, 0, 0⟩
  | (_, .addrs l) => (finZ (pushZ (uc2 (ucE nm T A rf) []) b nm) 0 2 0 l, [])
  | (_, .fail n) => (finZ (pushZ (uc2 (ucE nm T A rf) []) b nm) 0 2 n [], [])) = _
 rw [hr]
 cases rf <;> rfl
theorem uc_no (h : ¬ at_ < (ucE nm T A rf).ex) : startZ at_ (uc2 (ucE nm T A rf) []) b nm = (uc4 (ucE nm T A rf) nm at_ b, [qyZ 5 1 3 nm]) := by
 obtain ⟨h1, h2⟩ := uc_look (nm := nm) (T := T) (A := A) (at_ := at_) (rf := rf)
 rw [if_neg h] at h1
 rw [decide_eq_false h] at h2
 have hr : (rslF at_ [ucE nm T A rf] [] 5 [nm]) = ([nm], .ask) := by
  have e1 : foundF at_ [ucE nm T A rf] [] (lastN [nm]) = lookD at_ nm [ucE nm T A rf] := rfl
  have e2 : knownF at_ [ucE nm T A rf] [] (lastN [nm]) = knwD at_ nm [ucE nm T A rf] := rfl
  unfold rslF
  rw [e1, e2, h1, h2]
  simp [adF, nxF]
 show (match rslF at_ [ucE nm T A rf] [] 5 [nm] with
  | (ch', .ask) => askZ at_ (pushZ (uc2 (ucE nm T A rf) []) b nm) 0 b ⟨2, ch', 0, 0, 0, 0⟩
  | (_, .addrs l) => (finZ (pushZ (uc2 (ucE nm T A rf) []) b nm) 0 2 0 l, [])
  | (_, .fail n) => (finZ (pushZ (uc2 (ucE nm T A rf) []) b nm) 0 2 n [], [])) = _
 rw [hr]
 rfl
theorem ucE_ok (hv : vname nm = true) (hT : 1 ≤ T ∧ T ≤ 50) (hA : 1 ≤ A ∧ A ≤ 9) : CInv 1 [ucE nm T A rf] := by
 cases rf with
 | true => rw [← uc_neg (T := T) (A := A) hv]; exact (CInv.nil 1).neg nm 30
 | false => rw [← uc_put hv hT hA]; exact (CInv.nil 1).put _
end

end Go.Proofs.YtbolfkojebbejaaGreatDoor
