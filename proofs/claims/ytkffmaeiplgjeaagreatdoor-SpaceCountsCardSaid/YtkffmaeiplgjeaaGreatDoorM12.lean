/- Texts of this claim, one behind the other: SpJ, SpK, SpL, SpM. -/
import Derived.Test.YtkffmaeiplgjeaaGreatDoorM11
/- Plain: deeds on kernels, and what holds of each kernel that comes of them. -/
namespace Go.Proofs.YtkffmaeiplgjeaaGreatDoor.SpJ
open Go.RowKit Go.Proofs.YtkffmaeiplgjeaaGreatDoor.Bv Go.Proofs.YtkffmaeiplgjeaaGreatDoor.VaSpec Go.Proofs.YtkffmaeiplgjeaaGreatDoor.Base Go.Proofs.YtkffmaeiplgjeaaGreatDoor.MemL Go.Proofs.YtkffmaeiplgjeaaGreatDoor.RegR Go.Proofs.YtkffmaeiplgjeaaGreatDoor.Ax Go.Proofs.YtkffmaeiplgjeaaGreatDoor.MemC Go.Proofs.YtkffmaeiplgjeaaGreatDoor.PutC Go.Proofs.YtkffmaeiplgjeaaGreatDoor.MemC3 Go.Proofs.YtkffmaeiplgjeaaGreatDoor.TzC Go.Proofs.YtkffmaeiplgjeaaGreatDoor.OkS Go.Proofs.YtkffmaeiplgjeaaGreatDoor.SpA Go.Proofs.YtkffmaeiplgjeaaGreatDoor.SpB Go.Proofs.YtkffmaeiplgjeaaGreatDoor.SpC Go.Proofs.YtkffmaeiplgjeaaGreatDoor.SpD Go.Proofs.YtkffmaeiplgjeaaGreatDoor.IterC Go.Proofs.YtkffmaeiplgjeaaGreatDoor.SpE Go.Proofs.YtkffmaeiplgjeaaGreatDoor.SpF Go.Proofs.YtkffmaeiplgjeaaGreatDoor.SpG Go.Proofs.YtkffmaeiplgjeaaGreatDoor.SpI
open Go.Proofs.YtkffmaeiplgjeaaGreatDoor.BitsC Go.Proofs.YtkffmaeiplgjeaaGreatDoor.PteSpec
set_option linter.unusedVariables false
set_option linter.unusedSimpArgs false
noncomputable def createR (k : Kr) : Kr × Int × Int :=
  if 32 ≤ k.ss.length then (k, 0, 1) else if k.af = 0 then (k, 0, 9) else if k.pf = 0 then (k, 0, 8)
  else if getI k.ao (tzI k.af) 1 == 1 then (fenceK (createK k) [aFe (tzI k.af + 1)], (k.ss.length : Int), 0) else (createK k, (k.ss.length : Int), 0)
def spAt (k : Kr) (id : Int) : Sp := (k.ss[id.toNat]?).getD zSp
noncomputable def destroyR (k : Kr) (id : Int) : Kr × Int :=
  if livesB k id = false then (k, 4) else if id = k.now then (k, 10) else (destroyK k id (spAt k id), 0)
def switchR (k : Kr) (id : Int) : Kr × Int :=
  if id = -1 then (offK k, 0) else if livesB k id = false then (k, 4) else (swK k id (spAt k id), 0)
theorem lives_at {k : Kr} {id : Int} (h : livesB k id = true) : 0 ≤ id ∧ id < k.ss.length ∧ k.ss[id.toNat]? = some (spAt k id) ∧ (spAt k id).live = true := by
  unfold livesB at h
  simp only [Bool.and_eq_true, decide_eq_true_eq] at h
  obtain ⟨h0, h1⟩ := h
  split at h1
  · rename_i s hs
    have e : spAt k id = s := by unfold spAt; rw [hs]; rfl
    have := (List.getElem?_eq_some_iff.1 hs).1
    exact ⟨h0, by omega, by rw [e]; exact hs, by rw [e]; exact h1⟩
  · cases h1
structure Inv (n : Nat) (k : Kr) : Prop where
  cd : 1 ≤ k.cd ∧ k.cd ≤ 524288
  cp : 1 ≤ k.cp ∧ k.cp ≤ 64
  ca : 1 ≤ k.ca ∧ k.ca ≤ 16
  cs : k.cs = k.tn ∧ k.tn ≤ 16
  sz : k.sz = (k.cd + k.cp) * 4096
  pb : k.pb = k.cd
  pm : k.pm = k.cp
  am : k.am = k.ca
  pf : 0 ≤ k.pf ∧ k.pf < 2 ^ k.cp.toNat
  af : 0 ≤ k.af ∧ k.af < 2 ^ k.ca.toNat
  ao : 0 ≤ k.ao ∧ k.ao < 2 ^ k.ca.toNat
  sh : k.cd ≤ k.sh ∧ k.sh < k.cd + k.cp
  ts : k.ts = zsL k.tn
  m : Srt k.m
  mc : ∀ c ∈ k.m, COk k.cd (k.cd + k.cp) c
  ml : k.m.length ≤ n
  fl : k.fs.length ≤ n
  sl : k.ss.length ≤ 32
  ss : ∀ s ∈ k.ss, s.live = true → (k.cd ≤ s.root ∧ s.root < k.cd + k.cp) ∧ (1 ≤ s.asid ∧ s.asid ≤ 16)
  nw : (k.now = -1 ∧ k.sm = 0 ∧ k.sa = 0 ∧ k.sp = 0) ∨ (livesB k k.now = true ∧ k.sm = 8 ∧ k.sa = (spAt k k.now).asid ∧ k.sp = (spAt k k.now).root)
theorem Inv.upf {n : Nat} {k : Kr} (h : Inv n k) : U k.pf := U_fit h.pf.1 h.pf.2 (by have := h.cp; omega)
theorem Inv.uaf {n : Nat} {k : Kr} (h : Inv n k) : U k.af := U_fit h.af.1 h.af.2 (by have := h.ca; omega)
theorem Inv.uao {n : Nat} {k : Kr} (h : Inv n k) : U k.ao := U_fit h.ao.1 h.ao.2 (by have := h.ca; omega)
theorem kA_idx : idx kA 2 = 511 := by rw [kA_eq]; decide
/-! ### With -/
theorem with_cases (sz : Int) (xs : List (Int × Int)) (t i : Int) (p : Pte) : withM sz xs t i p = xs ∨ ∃ v, U v ∧ withM sz xs t i p = putM xs (t * 512 + i) v := by
  unfold withM storeM
  by_cases hw : wrongI sz (t * 4096 + i * 8) 8 = 0
  · rw [if_pos hw, if_pos hw]
    refine .inr ⟨setI (wordM sz xs (t * 4096 + i * 8)) ((t * 4096 + i * 8) % 8 * 8) (8 * 8) (PteC.putE p), setI_U _ _ _ _, ?_⟩
    rw [show (t * 4096 + i * 8) / 8 = t * 512 + i by omega]
  · rw [if_neg hw]; exact .inl rfl
theorem with_srt {sz : Int} {xs : List (Int × Int)} {t i : Int} {p : Pte} (h : Srt xs) : Srt (withM sz xs t i p) := by
  rcases with_cases sz xs t i p with e | ⟨v, _, e⟩ <;> rw [e]
  · exact h
  · exact putM_srt _ _ _ h
theorem with_len (sz : Int) (xs : List (Int × Int)) (t i : Int) (p : Pte) : (withM sz xs t i p).length ≤ xs.length + 1 := by
  rcases with_cases sz xs t i p with e | ⟨v, _, e⟩ <;> rw [e]
  · omega
  · exact putM_len _ _ _
theorem with_mem {sz : Int} {xs : List (Int × Int)} {t : Int} {p : Pte} {lo hi : Int} (h : ∀ c ∈ xs, COk lo hi c) (h0 : lo ≤ t) (h1 : t < hi) : ∀ c ∈ withM sz xs t 511 p, COk lo hi c := fun c hc => by
  rcases with_cases sz xs t 511 p with e | ⟨v, hv, e⟩ <;> rw [e] at hc
  · exact h c hc
  · rcases putM_mem _ _ _ _ hc with hc | ⟨rfl, _⟩
    · exact h c hc
    · exact ⟨by show lo * 512 ≤ t * 512 + 511; omega, by show t * 512 + 511 < hi * 512; omega, by show (t * 512 + 511) % 512 = 511; omega, hv⟩
theorem set_all (a v : Int) (hv : U v) : setI a 0 64 v = v := by
  unfold setI
  rw [show (0 : Int).toNat = 0 from rfl, show (64 : Int).toNat = 64 from rfl]
  have : setB (X a) 0 64 (X v) = X v := by
    apply BitVec.eq_of_getLsbD_eq
    intro i hi
    rw [setB_bit, decide_eq_true hi, Bool.true_and, if_pos ⟨Nat.zero_le _, by omega⟩, Nat.sub_zero]
  rw [this, B_X hv]
theorem wrong0 {sz t i : Int} (h0 : 0 ≤ t) (hi : 0 ≤ i ∧ i < 512) (hs : t * 4096 + i * 8 < sz) : wrongI sz (t * 4096 + i * 8) 8 = 0 := by
  unfold wrongI
  rw [if_pos (by rfl), if_pos, if_pos hs]
  unfold evenI
  rw [if_neg (by omega)]
  simp; omega
theorem with_is {sz : Int} {xs : List (Int × Int)} {t i : Int} {p : Pte} (hp : p.U) (h0 : 0 ≤ t) (hi : 0 ≤ i ∧ i < 512) (hs : t * 4096 + i * 8 < sz) : withM sz xs t i p = putM xs (t * 512 + i) (PteC.putE p) := by
  unfold withM storeM
  have hw := wrong0 h0 hi hs
  rw [if_pos hw, if_pos hw, show (t * 4096 + i * 8) / 8 = t * 512 + i by omega, show (t * 4096 + i * 8) % 8 * 8 = 0 by omega, show (8 : Int) * 8 = 64 by rfl, set_all _ _ (putE_U p hp)]
theorem putE_z : PteC.putE zP = 0 := by decide
theorem offM_is {n : Nat} {k : Kr} (h : Inv n k) {s : Sp} (hr : k.cd ≤ s.root ∧ s.root < k.cd + k.cp) : offM k s = putM k.m (s.root * 512 + 511) 0 := by
  unfold offM
  rw [kA_idx, with_is zP_U (by have := h.cd; omega) (by omega) (by rw [h.sz]; omega), putE_z]
theorem off_zero {n : Nat} {k : Kr} (h : Inv n k) {s : Sp} (hr : k.cd ≤ s.root ∧ s.root < k.cd + k.cp) (i : Int) (h0 : 0 ≤ i) (h1 : i < 512) : wordM k.sz (offM k s) (s.root * 4096 + i * 8) = 0 := by
  unfold wordM
  split
  · rw [offM_is h hr]
    refine look_none fun c hc e => ?_
    have e1 := put0_ne _ _ _ h.m hc
    rcases putM_mem _ _ _ _ hc with hc | ⟨_, hv⟩
    · obtain ⟨_, _, h3, _⟩ := h.mc c hc
      omega
    · exact hv rfl
  · rfl
theorem sw_inv {n : Nat} {k : Kr} {id : Int} (h : Inv n k) : Inv n (switchR k id).1 := by
  unfold switchR
  split
  · exact { h with nw := .inl ⟨rfl, rfl, rfl, rfl⟩ }
  · split
    · exact h
    · rename_i h1 h2
      have h3 : livesB k id = true := by simpa using h2
      exact { h with nw := .inr ⟨h3, rfl, rfl, rfl⟩ }
theorem lives_app {k k' : Kr} {s : Sp} {id : Int} (e : k'.ss = k.ss ++ [s]) (h : livesB k id = true) : livesB k' id = true ∧ spAt k' id = spAt k id := by
  obtain ⟨h0, h1, h2, h3⟩ := lives_at h
  have hk : k'.ss[id.toNat]? = some (spAt k id) := by rw [e, List.getElem?_append_left (by omega)]; exact h2
  have e2 : spAt k' id = spAt k id := by show (k'.ss[id.toNat]?).getD zSp = _; rw [hk]; rfl
  refine ⟨?_, e2⟩
  unfold livesB
  rw [hk, decide_eq_true h0]; exact h3
theorem createK_inv {n : Nat} {k : Kr} (h : Inv n k) (hl : k.ss.length < 32) (ha : k.af ≠ 0) (hp : k.pf ≠ 0) : Inv (n + 1) (createK k) := by
  have t1 := tz_fit h.upf h.pf.2 hp
  have t2 := tz_fit h.uaf h.af.2 ha
  have c1 := h.cp
  have c2 := h.ca
  have hpb := h.pb
  refine { cd := h.cd, cp := h.cp, ca := h.ca, cs := h.cs, sz := h.sz, pb := h.pb, pm := h.pm, am := h.am, pf := ?_, af := ?_, ao := ?_, sh := h.sh, ts := h.ts, m := ?_, mc := ?_, ml := ?_, fl := ?_, sl := ?_, ss := ?_, nw := ?_ }
  · exact ⟨(setI_U _ _ _ _).1, fit_set h.upf h.pf.2 t1.1 t1.2⟩
  · exact ⟨(setI_U _ _ _ _).1, fit_set h.uaf h.af.2 t2.1 t2.2⟩
  · exact ⟨(setI_U _ _ _ _).1, fit_set h.uao h.ao.2 t2.1 t2.2⟩
  · exact with_srt (wipe_srt _ h.m)
  · show ∀ c ∈ newM k, _
    unfold newM
    rw [kA_idx]
    exact with_mem (fun c hc => h.mc c (wipe_mem hc)) (by show k.cd ≤ _; omega) (by show _ < k.cd + k.cp; omega)
  · have e1 := with_len k.sz (TableC.wipeM k.m (k.pb + tzI k.pf)) (k.pb + tzI k.pf) (idx kA 2) (gP k.sh)
    have e2 := wipe_len k.m (k.pb + tzI k.pf)
    have e3 := h.ml
    show (newM k).length ≤ n + 1
    unfold newM; omega
  · have := h.fl; show k.fs.length ≤ n + 1; omega
  · show (k.ss ++ [_]).length ≤ 32
    simp; omega
  · intro s hs hlv
    have hs : s ∈ k.ss ++ [⟨k.pb + tzI k.pf, tzI k.af + 1, true⟩] := hs
    rcases List.mem_append.1 hs with hs | hs
    · exact h.ss s hs hlv
    · rw [List.mem_singleton.1 hs]
      exact ⟨⟨by show k.cd ≤ k.pb + tzI k.pf; omega, by show k.pb + tzI k.pf < k.cd + k.cp; omega⟩, by show 1 ≤ tzI k.af + 1; omega, by show tzI k.af + 1 ≤ 16; omega⟩
  · rcases h.nw with x | ⟨x1, x2, x3, x4⟩
    · exact .inl x
    · obtain ⟨y1, y2⟩ := lives_app (k' := createK k) rfl x1
      exact .inr ⟨y1, x2, by rw [show (createK k).now = k.now from rfl, y2]; exact x3, by rw [show (createK k).now = k.now from rfl, y2]; exact x4⟩
theorem Inv.mono {n n' : Nat} {k : Kr} (h : Inv n k) (e : n ≤ n') : Inv n' k := { h with ml := Nat.le_trans h.ml e, fl := Nat.le_trans h.fl e }
theorem fence_inv {n : Nat} {k : Kr} (h : Inv n k) (l : List Fe) (e : k.fs.length + l.length ≤ n) : Inv n (fenceK k l) := { h with fl := by show (k.fs ++ l).length ≤ n; simpa using e }
theorem create_inv {n : Nat} {k : Kr} (h : Inv n k) : Inv (n + 1) (createR k).1 := by
  unfold createR
  split
  · exact h.mono (by omega)
  · split
    · exact h.mono (by omega)
    · split
      · exact h.mono (by omega)
      · rename_i h1 h2 h3
        have hc := createK_inv h (by omega) h2 h3
        split
        · refine fence_inv hc _ ?_
          have := h.fl
          show k.fs.length + 1 ≤ n + 1; omega
        · exact hc
theorem destroyK_inv {n : Nat} {k : Kr} {id : Int} (h : Inv n k) (hl : livesB k id = true) (hn : id ≠ k.now) : Inv (n + 1) (destroyK k id (spAt k id)) := by
  obtain ⟨h0, h1, h2, h3⟩ := lives_at hl
  obtain ⟨hr, ha⟩ := h.ss _ (List.mem_of_getElem? h2) h3
  have c1 := h.cp
  have c2 := h.ca
  have hpb := h.pb
  have hpm := h.pm
  have ham := h.am
  refine { cd := h.cd, cp := h.cp, ca := h.ca, cs := h.cs, sz := h.sz, pb := h.pb, pm := h.pm, am := h.am, pf := ?_, af := ?_, ao := h.ao, sh := h.sh, ts := h.ts, m := ?_, mc := ?_, ml := ?_, fl := ?_, sl := ?_, ss := ?_, nw := ?_ }
  · show 0 ≤ TableC2.giveF k.pb k.pm k.pf (spAt k id).root ∧ TableC2.giveF k.pb k.pm k.pf (spAt k id).root < 2 ^ k.cp.toNat
    unfold TableC2.giveF
    split
    · exact ⟨(setI_U _ _ _ _).1, fit_set h.upf h.pf.2 (by omega) (by omega)⟩
    · exact h.pf
  · show 0 ≤ giveA k.am k.af (spAt k id).asid ∧ giveA k.am k.af (spAt k id).asid < 2 ^ k.ca.toNat
    unfold giveA
    split
    · rename_i ht
      unfold AsidC2.takenA at ht
      simp only [Bool.and_eq_true, decide_eq_true_eq] at ht
      exact ⟨(setI_U _ _ _ _).1, fit_set h.uaf h.af.2 (by omega) (by omega)⟩
    · exact h.af
  · show Srt (TableC.wipeM (offM k (spAt k id)) (spAt k id).root)
    rw [offM_is h hr]
    exact wipe_srt _ (putM_srt _ _ _ h.m)
  · show ∀ c ∈ TableC.wipeM (offM k (spAt k id)) (spAt k id).root, _
    rw [offM_is h hr]
    intro c hc
    rcases putM_mem _ _ _ _ (wipe_mem hc) with hc | ⟨_, hv⟩
    · exact h.mc c hc
    · exact absurd rfl hv
  · have e1 := wipe_len (offM k (spAt k id)) (spAt k id).root
    have e2 := h.ml
    show (TableC.wipeM (offM k (spAt k id)) (spAt k id).root).length ≤ n + 1
    rw [offM_is h hr] at e1 ⊢
    have := putM_len k.m ((spAt k id).root * 512 + 511) 0
    omega
  · have := h.fl; show k.fs.length ≤ n + 1; omega
  · show (k.ss.set id.toNat zSp).length ≤ 32
    rw [List.length_set]; exact h.sl
  · intro s hs hlv
    have hs : s ∈ k.ss.set id.toNat zSp := hs
    rcases List.mem_or_eq_of_mem_set hs with hs | rfl
    · exact h.ss s hs hlv
    · cases hlv
  · rcases h.nw with x | ⟨x1, x2, x3, x4⟩
    · exact .inl x
    · obtain ⟨y0, y1, y2, y3⟩ := lives_at x1
      have hk : (k.ss.set id.toNat zSp)[k.now.toNat]? = some (spAt k k.now) := by rw [List.getElem?_set_ne (by omega)]; exact y2
      have e2 : spAt (destroyK k id (spAt k id)) k.now = spAt k k.now := by show ((k.ss.set id.toNat zSp)[k.now.toNat]?).getD zSp = _; rw [hk]; rfl
      refine .inr ⟨?_, x2, by rw [show (destroyK k id (spAt k id)).now = k.now from rfl, e2]; exact x3, by rw [show (destroyK k id (spAt k id)).now = k.now from rfl, e2]; exact x4⟩
      show livesB (destroyK k id (spAt k id)) k.now = true
      unfold livesB
      rw [show (destroyK k id (spAt k id)).ss = k.ss.set id.toNat zSp from rfl, hk, decide_eq_true y0]; exact y3
theorem destroy_inv {n : Nat} {k : Kr} {id : Int} (h : Inv n k) : Inv (n + 1) (destroyR k id).1 := by
  unfold destroyR
  split
  · exact h.mono (by omega)
  · split
    · exact h.mono (by omega)
    · rename_i h1 h2
      exact destroyK_inv h (by simpa using h1) h2
/-- a deed: its kind and its space -/
noncomputable def doR (k : Kr) (d : Int × Int) : Kr × Int × Int :=
  if d.1 % 3 = 0 then createR k
  else if d.1 % 3 = 1 then ((destroyR k (d.2 % 33)).1, 0, (destroyR k (d.2 % 33)).2)
  else ((switchR k (if d.2 % 33 = 32 then -1 else d.2 % 33)).1, 0, (switchR k (if d.2 % 33 = 32 then -1 else d.2 % 33)).2)
theorem do_inv {n : Nat} {k : Kr} {d : Int × Int} (h : Inv n k) : Inv (n + 1) (doR k d).1 := by
  unfold doR
  split
  · exact create_inv h
  · split
    · exact destroy_inv h
    · exact (sw_inv h).mono (by omega)
end Go.Proofs.YtkffmaeiplgjeaaGreatDoor.SpJ
/- The abstract walk: Create, Destroy, Switch of a kernel that holds the invariant; deeds; numbers of free frames. -/
namespace Go.Proofs.YtkffmaeiplgjeaaGreatDoor.SpK
open Go.RowKit Go.Proofs.YtkffmaeiplgjeaaGreatDoor.Bv Go.Proofs.YtkffmaeiplgjeaaGreatDoor.VaSpec Go.Proofs.YtkffmaeiplgjeaaGreatDoor.Base Go.Proofs.YtkffmaeiplgjeaaGreatDoor.MemL Go.Proofs.YtkffmaeiplgjeaaGreatDoor.RegR Go.Proofs.YtkffmaeiplgjeaaGreatDoor.Ax Go.Proofs.YtkffmaeiplgjeaaGreatDoor.MemC Go.Proofs.YtkffmaeiplgjeaaGreatDoor.PutC Go.Proofs.YtkffmaeiplgjeaaGreatDoor.MemC3 Go.Proofs.YtkffmaeiplgjeaaGreatDoor.TzC Go.Proofs.YtkffmaeiplgjeaaGreatDoor.OkS Go.Proofs.YtkffmaeiplgjeaaGreatDoor.SpA Go.Proofs.YtkffmaeiplgjeaaGreatDoor.SpB Go.Proofs.YtkffmaeiplgjeaaGreatDoor.SpC Go.Proofs.YtkffmaeiplgjeaaGreatDoor.SpD Go.Proofs.YtkffmaeiplgjeaaGreatDoor.IterC Go.Proofs.YtkffmaeiplgjeaaGreatDoor.SpE Go.Proofs.YtkffmaeiplgjeaaGreatDoor.SpF Go.Proofs.YtkffmaeiplgjeaaGreatDoor.SpG Go.Proofs.YtkffmaeiplgjeaaGreatDoor.SpH Go.Proofs.YtkffmaeiplgjeaaGreatDoor.SpI Go.Proofs.YtkffmaeiplgjeaaGreatDoor.SpJ
open Go.Proofs.YtkffmaeiplgjeaaGreatDoor.BitsC Go.Proofs.YtkffmaeiplgjeaaGreatDoor.PteSpec
set_option linter.unusedVariables false
set_option linter.unusedSimpArgs false
set_option maxRecDepth 10000
set_option maxHeartbeats 800000
attribute [local irreducible] Go.Proofs.YtkffmaeiplgjeaaGreatDoor.Ax.CallOk
theorem create_all {n : Nat} {k : Kr} (h : Inv n k) (hn : n ≤ 100000) : Ok 24 [.ag k.ce] (.tu [.ag (createR k).1.ce, ii (createR k).2.1, ii (createR k).2.2]) := by
  have h1 := h.cd
  have h2 := h.cp
  have h3 := h.pb
  have h4 := h.pm
  have h5 := h.ml
  have h6 := h.sl
  have h7 := h.fl
  have h8 := h.sh
  have hpb : 0 ≤ k.pb ∧ k.pb ≤ 268435456 := by omega
  have hpm : 0 ≤ k.pm ∧ k.pm ≤ 64 := by omega
  unfold createR
  by_cases c1 : 32 ≤ k.ss.length
  · rw [if_pos c1]; exact create_full k c1 (by omega)
  rw [if_neg c1]
  by_cases c2 : k.af = 0
  · rw [if_pos c2]; exact create_noasid k (by omega) c2
  rw [if_neg c2]
  by_cases c3 : k.pf = 0
  · rw [if_pos c3]; exact create_noframe k (by omega) h.uaf h.uao c2 c3 hpb hpm
  rw [if_neg c3]
  have t1 := tz_fit h.upf h.pf.2 c3
  have w1 := wipe_len k.m (k.pb + tzI k.pf)
  have hP : (gP k.sh).U := ⟨by show (0 : Int) ≤ 0 ∧ (0 : Int) < _; omega, by show 0 ≤ k.sh ∧ k.sh < _; omega, by show (0 : Int) ≤ 0 ∧ (0 : Int) < _; omega⟩
  have hu : Uw (TableC.wipeM k.m (k.pb + tzI k.pf)) := fun c hc => cok_uw h.mc (by omega) (by omega) c (wipe_mem hc)
  by_cases c4 : (getI k.ao (tzI k.af) 1 == 1) = true
  · rw [if_pos c4]
    exact create_owned k (by omega) h.uaf h.uao c2 h.upf c3 hpb hpm h.m (by omega) hP (wipe_srt _ h.m) hu (by omega) c4 h.ts h.cs.2 (by omega) (by omega)
  · rw [if_neg c4]
    show Ok _ _ (.tu [.ag (createK k).ce, _, _])
    rw [createK_ce]
    exact create_plain k (by omega) h.uaf h.uao c2 h.upf c3 hpb hpm h.m (by omega) hP (wipe_srt _ h.m) hu (by omega) (by simpa using c4) (by omega)
theorem destroy_all {n : Nat} {k : Kr} (h : Inv n k) (hn : n ≤ 100000) (id : Int) : Ok 22 [.ag k.ce, ii id] (.tu [.ag (destroyR k id).1.ce, ii (destroyR k id).2]) := by
  unfold destroyR
  by_cases c1 : livesB k id = false
  · rw [if_pos c1]; exact destroy_no k id c1
  rw [if_neg c1]
  have c1 : livesB k id = true := by simpa using c1
  by_cases c2 : id = k.now
  · rw [if_pos c2]; exact destroy_busy k id c1 c2
  rw [if_neg c2]
  obtain ⟨y0, y1, y2, y3⟩ := lives_at c1
  obtain ⟨hr, ha⟩ := h.ss _ (List.mem_of_getElem? y2) y3
  have h1 := h.cd
  have h2 := h.cp
  have h3 := h.pb
  have h4 := h.pm
  have h5 := h.ml
  have h6 := h.sl
  have h7 := h.am
  have h8 := h.ca
  have e := offM_is h hr
  have l1 := putM_len k.m ((spAt k id).root * 512 + 511) 0
  exact destroy_ok k id (spAt k id) c1 c2 y0 y2 y1 (by omega) (by omega) ⟨by omega, by omega⟩ h.m (cok_uw h.mc (by omega) (by omega)) (by omega) (by rw [e]; exact putM_srt _ _ _ h.m) (by rw [e]; omega) (off_zero h hr) ⟨by omega, by omega⟩ (by omega) h.upf (by omega) h.uaf h.uao
theorem switch_all (k : Kr) (id : Int) : Ok 21 [.ag k.ce, ii id] (.tu [.ag (switchR k id).1.ce, ii (switchR k id).2]) := by
  unfold switchR
  by_cases c1 : id = -1
  · rw [if_pos c1, c1]; exact switch_off k
  rw [if_neg c1]
  by_cases c2 : livesB k id = false
  · rw [if_pos c2]; exact switch_no k id c1 c2
  rw [if_neg c2]
  have c2 : livesB k id = true := by simpa using c2
  obtain ⟨y0, y1, y2, y3⟩ := lives_at c2
  exact switch_yes k id (spAt k id) c1 y0 y2 y1 c2
end Go.Proofs.YtkffmaeiplgjeaaGreatDoor.SpK
/- The abstract walk: the document's Same and Copied. -/
namespace Go.Proofs.YtkffmaeiplgjeaaGreatDoor.SpL
open Go.RowKit Go.Proofs.YtkffmaeiplgjeaaGreatDoor.Bv Go.Proofs.YtkffmaeiplgjeaaGreatDoor.VaSpec Go.Proofs.YtkffmaeiplgjeaaGreatDoor.Base Go.Proofs.YtkffmaeiplgjeaaGreatDoor.MemL Go.Proofs.YtkffmaeiplgjeaaGreatDoor.RegR Go.Proofs.YtkffmaeiplgjeaaGreatDoor.Ax Go.Proofs.YtkffmaeiplgjeaaGreatDoor.MemC Go.Proofs.YtkffmaeiplgjeaaGreatDoor.PutC Go.Proofs.YtkffmaeiplgjeaaGreatDoor.MemC3 Go.Proofs.YtkffmaeiplgjeaaGreatDoor.TzC Go.Proofs.YtkffmaeiplgjeaaGreatDoor.OkS Go.Proofs.YtkffmaeiplgjeaaGreatDoor.SpA Go.Proofs.YtkffmaeiplgjeaaGreatDoor.SpB Go.Proofs.YtkffmaeiplgjeaaGreatDoor.SpC Go.Proofs.YtkffmaeiplgjeaaGreatDoor.SpD Go.Proofs.YtkffmaeiplgjeaaGreatDoor.IterC Go.Proofs.YtkffmaeiplgjeaaGreatDoor.SpE
open Go.Proofs.YtkffmaeiplgjeaaGreatDoor.BitsC Go.Proofs.YtkffmaeiplgjeaaGreatDoor.PteSpec
set_option linter.unusedVariables false
set_option linter.unusedSimpArgs false
set_option maxRecDepth 10000
set_option maxHeartbeats 800000
theorem eq_cell (w : World) (x0 x1 y0 y1 : Int) :
    (Op.equalIn 10000 116 (.agg #[.int .u64 x0, .int .u64 x1]) (.agg #[.int .u64 y0, .int .u64 y1])).run Tryz.prog w = .ok (x0 == y0 && (x1 == y1 && true)) w := by
  refine PoolC4.struct_of Tryz.underlying116 (by kernel_rfl) ?_
  refine PoolC4.fields_cons (by rfl) (by go_simp; rfl) (by go_simp; rfl) (by go_simp) ?_
  exact PoolC4.fields_cons (by rfl) (by go_simp; rfl) (by go_simp; rfl) (by go_simp) PoolC4.fields_nil
theorem eq_conf (w : World) (x0 x1 x2 x3 y0 y1 y2 y3 : Int) :
    (Op.equalIn 10000 23 (.agg #[.int .i64 x0, .int .i64 x1, .int .i64 x2, .int .i64 x3]) (.agg #[.int .i64 y0, .int .i64 y1, .int .i64 y2, .int .i64 y3])).run Tryz.prog w = .ok (x0 == y0 && (x1 == y1 && (x2 == y2 && (x3 == y3 && true)))) w := by
  refine PoolC4.struct_of Tryz.underlying23 (by kernel_rfl) ?_
  refine PoolC4.fields_cons (by rfl) (by go_simp; rfl) (by go_simp; rfl) (by go_simp) ?_
  refine PoolC4.fields_cons (by rfl) (by go_simp; rfl) (by go_simp; rfl) (by go_simp) ?_
  refine PoolC4.fields_cons (by rfl) (by go_simp; rfl) (by go_simp; rfl) (by go_simp) ?_
  exact PoolC4.fields_cons (by rfl) (by go_simp; rfl) (by go_simp; rfl) (by go_simp) PoolC4.fields_nil
theorem eq_satp (w : World) (x0 x1 x2 y0 y1 y2 : Int) :
    (Op.equalIn 10000 34 (.agg #[.int .u64 x0, .int .u64 x1, .int .u64 x2]) (.agg #[.int .u64 y0, .int .u64 y1, .int .u64 y2])).run Tryz.prog w = .ok (x0 == y0 && (x1 == y1 && (x2 == y2 && true))) w := by
  refine PoolC4.struct_of Tryz.underlying34 (by kernel_rfl) ?_
  refine PoolC4.fields_cons (by rfl) (by go_simp; rfl) (by go_simp; rfl) (by go_simp) ?_
  refine PoolC4.fields_cons (by rfl) (by go_simp; rfl) (by go_simp; rfl) (by go_simp) ?_
  exact PoolC4.fields_cons (by rfl) (by go_simp; rfl) (by go_simp; rfl) (by go_simp) PoolC4.fields_nil
theorem eq_space (w : World) (x0 x1 y0 y1 : Int) (x2 y2 : Bool) :
    (Op.equalIn 10000 65 (.agg #[.int .u64 x0, .int .u64 x1, .bool x2]) (.agg #[.int .u64 y0, .int .u64 y1, .bool y2])).run Tryz.prog w = .ok (x0 == y0 && (x1 == y1 && (x2 == y2 && true))) w := by
  refine PoolC4.struct_of Tryz.underlying65 (by kernel_rfl) ?_
  refine PoolC4.fields_cons (by rfl) (by go_simp; rfl) (by go_simp; rfl) (by go_simp) ?_
  refine PoolC4.fields_cons (by rfl) (by go_simp; rfl) (by go_simp; rfl) (by go_simp) ?_
  exact PoolC4.fields_cons (by rfl) (by go_simp; rfl) (by go_simp; rfl) (by go_simp) PoolC4.fields_nil
theorem eq_fence (w : World) (x1 x3 y1 y3 : Int) (x0 x2 y0 y2 : Bool) :
    (Op.equalIn 10000 73 (.agg #[.bool x0, .int .u64 x1, .bool x2, .int .u64 x3]) (.agg #[.bool y0, .int .u64 y1, .bool y2, .int .u64 y3])).run Tryz.prog w = .ok (x0 == y0 && (x1 == y1 && (x2 == y2 && (x3 == y3 && true)))) w := by
  refine PoolC4.struct_of Tryz.underlying73 (by kernel_rfl) ?_
  refine PoolC4.fields_cons (by rfl) (by go_simp; rfl) (by go_simp; rfl) (by go_simp) ?_
  refine PoolC4.fields_cons (by rfl) (by go_simp; rfl) (by go_simp; rfl) (by go_simp) ?_
  refine PoolC4.fields_cons (by rfl) (by go_simp; rfl) (by go_simp; rfl) (by go_simp) ?_
  exact PoolC4.fields_cons (by rfl) (by go_simp; rfl) (by go_simp; rfl) (by go_simp) PoolC4.fields_nil
theorem eq_set0 (w : World) : (Op.equalIn 10000 163 (.agg zS.toArray) (.agg zS.toArray)).run Tryz.prog w = .ok true w := by kernel_rfl
theorem fl_at2 {l : List (Int × Int)} {k : Nat} {c : Int × Int} (h : l[k]? = some c) : ((fl l).drop (k * 2)).take 2 = [.int .u64 c.1, .int .u64 c.2] := flat_at (fun c : Int × Int => [.int .u64 c.1, .int .u64 c.2]) 2 (fun _ => rfl) l _ c h
theorem samem_ok (sz : Int) (m : List (Int × Int)) (hl : m.length ≤ 1000000) : Ok 23 [memA sz m, memA sz m] (.m (ib true)) := by
  refine callOk_of 38 Tryz.func23 rfl rfl rfl rfl ?_ GG.to
  intro W A hG
  repeat (first
    | (refine go_at rfl ?_; first
        | refine go_do (valid_mv (.inl rfl) rfl) rfl ?_
        | (refine nxt_s 1 rfl ?_; refine go_do (valid_load_p tb rfl rfl rfl rfl rfl (by first | kernel_rfl | rfl)) (by first | kernel_rfl | rfl) ?_)
        | (refine nxt_s 1 rfl ?_; refine go_do (valid_fld_p tb rfl rfl rfl (by kernel_rfl)) rfl ?_)
        | refine go_do (valid_mv (.inr rfl) rfl) rfl ?_
        | refine go_do (valid_pick rfl rfl rfl) rfl ?_
        | refine go_do (valid_cmp rfl rfl rfl rfl (by first | exact .eql1 (by omega) | exact .eql0 (by omega) | exact .neq1 (by omega) | exact .neq0 (by omega) | exact .lss1 (by omega) | exact .lss0 (by omega) | exact .leq1 (by omega) | exact .leq0 (by omega) | exact .gtr1 (by omega) | exact .gtr0 (by omega) | exact .geq1 (by omega) | exact .geq0 (by omega) | constructor)) rfl ?_
        | refine go_do (valid_box rfl rfl rfl rfl rfl rfl) rfl ?_
        | refine go_do (valid_len_s rfl rfl rfl rfl) rfl ?_)
    | (refine hK _ ?_; clear hK K)
    | refine aw_text rfl ?_
    | refine aw_cond0 rfl rfl ?_
    | refine aw_block ?_
    | refine aw_skip ?_
    | refine aw_seq_k (fun K hK => ?_))
  refine aw_loopH (α := Nat) (fun k => k ≤ m.length) (fun k => St.of [(2, .m (.c (.p 2 0))), (3, .m (.c (.p 3 0))), (5, .m (ii k))] [(2, .live (.box [cu sz, .s m.length 2 (fl m)])), (3, .live (.box [cu sz, .s m.length 2 (fl m)]))]) (fun k => m.length - k) 0 (by omega) (sub_of _ _ ⟨rfl, rfl, rfl, trivial⟩ ⟨rfl, rfl, trivial⟩ rfl) ?_
  intro k hk
  by_cases hlt : k < m.length
  · obtain ⟨c, hc⟩ : ∃ c, m[k]? = some c := ⟨_, List.getElem?_eq_getElem hlt⟩
    have hx := fl_at2 hc
    have he : ∀ w, (Op.equalIn 10000 116 (.agg #[.int .u64 c.1, .int .u64 c.2]) (.agg #[.int .u64 c.1, .int .u64 c.2])).run Tryz.prog w = .ok true w := fun w => by rw [eq_cell]; simp
    repeat (first
      | (refine go_at rfl ?_; first
          | refine go_do (valid_mv (.inl rfl) rfl) rfl ?_
          | (refine nxt_s 1 rfl ?_; refine go_do (valid_load_p tb rfl rfl rfl rfl rfl (by first | kernel_rfl | rfl)) (by first | kernel_rfl | rfl) ?_)
          | (refine nxt_s 1 rfl ?_; refine go_do (valid_fld_p tb rfl rfl rfl (by kernel_rfl)) rfl ?_)
          | refine go_do (valid_mv (.inr rfl) rfl) rfl ?_
          | refine go_do (valid_cmp rfl rfl rfl rfl (by first | exact .eql1 (by omega) | exact .eql0 (by omega) | exact .neq1 (by omega) | exact .neq0 (by omega) | exact .lss1 (by omega) | exact .lss0 (by omega) | exact .leq1 (by omega) | exact .leq0 (by omega) | exact .gtr1 (by omega) | exact .gtr0 (by omega) | exact .geq1 (by omega) | exact .geq0 (by omega) | constructor)) rfl ?_
          | refine go_do (valid_ar rfl rfl rfl rfl (by constructor) (by first | exact wr_u64 (by omega) (by omega) | exact wr_i64 (by omega) (by omega) | rfl)) rfl ?_
          | refine go_do (valid_len_s rfl rfl rfl rfl) rfl ?_
          | (refine nxt_s 3 rfl ?_; refine go_do (valid_load_q tb rfl rfl rfl rfl (by first | kernel_rfl | rfl)) rfl ?_)
          | (refine nxt_s 4 rfl ?_; refine go_do (valid_idx_s rfl rfl rfl rfl rfl rfl (by omega) (by omega) _ (by assumption)) rfl ?_)
          | refine go_do (valid_neq (us := [.int .u64 c.1, .int .u64 c.2]) (vs := [.int .u64 c.1, .int .u64 c.2]) he (by kernel_rfl) rfl rfl rfl rfl) rfl ?_)
      | (refine hK _ ?_; clear hK K)
      | refine aw_text rfl ?_
      | refine aw_any (by kernel_rfl) (by kernel_rfl) rfl ?_
      | refine aw_cond1 rfl rfl ?_
      | refine aw_cond0 rfl rfl ?_
      | refine aw_block ?_
      | refine aw_skip ?_
      | refine aw_seq_k (fun K hK => ?_))
    exact ⟨k + 1, by omega, by omega, sub_of _ _ ⟨rfl, rfl, rfl, trivial⟩ ⟨rfl, rfl, trivial⟩ rfl⟩
  · skip
    repeat (first
      | (refine go_at rfl ?_; first
          | refine go_do (valid_mv (.inl rfl) rfl) rfl ?_
          | (refine nxt_s 1 rfl ?_; refine go_do (valid_load_p tb rfl rfl rfl rfl rfl (by first | kernel_rfl | rfl)) (by first | kernel_rfl | rfl) ?_)
          | (refine nxt_s 1 rfl ?_; refine go_do (valid_fld_p tb rfl rfl rfl (by kernel_rfl)) rfl ?_)
          | refine go_do (valid_mv (.inr rfl) rfl) rfl ?_
          | refine go_do (valid_cmp rfl rfl rfl rfl (by first | exact .eql1 (by omega) | exact .eql0 (by omega) | exact .neq1 (by omega) | exact .neq0 (by omega) | exact .lss1 (by omega) | exact .lss0 (by omega) | exact .leq1 (by omega) | exact .leq0 (by omega) | exact .gtr1 (by omega) | exact .gtr0 (by omega) | exact .geq1 (by omega) | exact .geq0 (by omega) | constructor)) rfl ?_
          | refine go_do (valid_len_s rfl rfl rfl rfl) rfl ?_)
      | (refine hK _ ?_; clear hK K)
      | (rename_i K1 hK1; refine hK1 _ ?_; clear hK hK1; clear K)
      | refine aw_text rfl ?_
      | exact aw_ret (show resA _ _ _ = some _ by kernel_rfl)
      | refine aw_cond0 rfl rfl ?_
      | refine aw_exit ?_
      | refine aw_seq_k (fun K hK => ?_))
theorem samet_ok (n : Nat) (hn : n ≤ 16) : Ok 68 [.ag [.s n 45 (zsL n)], .ag [.s n 45 (zsL n)]] (.m (ib true)) := by
  refine callOk_of 31 Tryz.func68 rfl rfl rfl rfl ?_ GG.to
  intro W A hG
  repeat (first
    | (refine go_at rfl ?_; first
        | (refine nxt_s 1 rfl ?_; refine go_do (valid_load_p tb rfl rfl rfl rfl rfl (by first | kernel_rfl | rfl)) (by first | kernel_rfl | rfl) ?_)
        | (refine nxt_s 1 rfl ?_; refine go_do (valid_fld_p tb rfl rfl rfl (by kernel_rfl)) rfl ?_)
        | refine go_do (valid_mv (.inr rfl) rfl) rfl ?_
        | refine go_do (valid_cmp rfl rfl rfl rfl (by first | exact .eql1 (by omega) | exact .eql0 (by omega) | exact .neq1 (by omega) | exact .neq0 (by omega) | exact .lss1 (by omega) | exact .lss0 (by omega) | exact .leq1 (by omega) | exact .leq0 (by omega) | exact .gtr1 (by omega) | exact .gtr0 (by omega) | exact .geq1 (by omega) | exact .geq0 (by omega) | constructor)) rfl ?_
        | refine go_do (valid_box rfl rfl rfl rfl rfl rfl) rfl ?_
        | refine go_do (valid_len_s rfl rfl rfl rfl) rfl ?_)
    | (refine hK _ ?_; clear hK K)
    | refine aw_text rfl ?_
    | refine aw_cond0 rfl rfl ?_
    | refine aw_block ?_
    | refine aw_skip ?_
    | refine aw_seq_k (fun K hK => ?_))
  refine aw_loopH (α := Nat) (fun k => k ≤ n) (fun k => St.of [(2, .m (.c (.p 2 0))), (3, .m (.c (.p 3 0))), (5, .m (ii k))] [(2, .live (.box [.s n 45 (zsL n)])), (3, .live (.box [.s n 45 (zsL n)]))]) (fun k => n - k) 0 (by omega) (sub_of _ _ ⟨rfl, rfl, rfl, trivial⟩ ⟨rfl, rfl, trivial⟩ rfl) ?_
  intro k hk
  by_cases hlt : k < n
  · have hx : ((zsL n).drop (k * 45)).take 45 = zS := zsL_at n k hlt
    repeat (first
      | (refine go_at rfl ?_; first
          | refine go_do (valid_mv (.inl rfl) rfl) rfl ?_
          | (refine nxt_s 1 rfl ?_; refine go_do (valid_load_p tb rfl rfl rfl rfl rfl (by first | kernel_rfl | rfl)) (by first | kernel_rfl | rfl) ?_)
          | (refine nxt_s 1 rfl ?_; refine go_do (valid_fld_p tb rfl rfl rfl (by kernel_rfl)) rfl ?_)
          | refine go_do (valid_mv (.inr rfl) rfl) rfl ?_
          | refine go_do (valid_cmp rfl rfl rfl rfl (by first | exact .eql1 (by omega) | exact .eql0 (by omega) | exact .neq1 (by omega) | exact .neq0 (by omega) | exact .lss1 (by omega) | exact .lss0 (by omega) | exact .leq1 (by omega) | exact .leq0 (by omega) | exact .gtr1 (by omega) | exact .gtr0 (by omega) | exact .geq1 (by omega) | exact .geq0 (by omega) | constructor)) rfl ?_
          | refine go_do (valid_ar rfl rfl rfl rfl (by constructor) (by first | exact wr_u64 (by omega) (by omega) | exact wr_i64 (by omega) (by omega) | rfl)) rfl ?_
          | refine go_do (valid_len_s rfl rfl rfl rfl) rfl ?_
          | (refine nxt_s 3 rfl ?_; refine go_do (valid_load_q tb rfl rfl rfl rfl (by first | kernel_rfl | rfl)) rfl ?_)
          | (refine nxt_s 4 rfl ?_; refine go_do (valid_idx_s rfl rfl rfl rfl rfl rfl (by omega) (by omega) _ (by assumption)) rfl ?_)
          | refine go_do (valid_neq (us := zS) (vs := zS) eq_set0 (by kernel_rfl) rfl rfl rfl rfl) rfl ?_)
      | (refine hK _ ?_; clear hK K)
      | refine aw_text rfl ?_
      | refine aw_any (by kernel_rfl) (by kernel_rfl) rfl ?_
      | refine aw_cond1 rfl rfl ?_
      | refine aw_cond0 rfl rfl ?_
      | refine aw_block ?_
      | refine aw_skip ?_
      | refine aw_seq_k (fun K hK => ?_))
    exact ⟨k + 1, by omega, by omega, sub_of _ _ ⟨rfl, rfl, rfl, trivial⟩ ⟨rfl, rfl, trivial⟩ rfl⟩
  · skip
    repeat (first
      | (refine go_at rfl ?_; first
          | refine go_do (valid_mv (.inl rfl) rfl) rfl ?_
          | (refine nxt_s 1 rfl ?_; refine go_do (valid_load_p tb rfl rfl rfl rfl rfl (by first | kernel_rfl | rfl)) (by first | kernel_rfl | rfl) ?_)
          | (refine nxt_s 1 rfl ?_; refine go_do (valid_fld_p tb rfl rfl rfl (by kernel_rfl)) rfl ?_)
          | refine go_do (valid_mv (.inr rfl) rfl) rfl ?_
          | refine go_do (valid_cmp rfl rfl rfl rfl (by first | exact .eql1 (by omega) | exact .eql0 (by omega) | exact .neq1 (by omega) | exact .neq0 (by omega) | exact .lss1 (by omega) | exact .lss0 (by omega) | exact .leq1 (by omega) | exact .leq0 (by omega) | exact .gtr1 (by omega) | exact .gtr0 (by omega) | exact .geq1 (by omega) | exact .geq0 (by omega) | constructor)) rfl ?_
          | refine go_do (valid_len_s rfl rfl rfl rfl) rfl ?_)
      | (refine hK _ ?_; clear hK K)
      | (rename_i K1 hK1; refine hK1 _ ?_; clear hK hK1; clear K)
      | refine aw_text rfl ?_
      | exact aw_ret (show resA _ _ _ = some _ by kernel_rfl)
      | refine aw_cond0 rfl rfl ?_
      | refine aw_exit ?_
      | refine aw_seq_k (fun K hK => ?_))
theorem samef_ok (l : List Fe) (hl : l.length ≤ 1000000) : Ok 32 [.c (.s l.length 4 (flF l)), .c (.s l.length 4 (flF l))] (.m (ib true)) := by
  refine callOk_of 26 Tryz.func32 rfl rfl rfl rfl ?_ GG.to
  intro W A hG
  repeat (first
    | (refine go_at rfl ?_; first
        | refine go_do (valid_mv (.inl rfl) rfl) rfl ?_
        | refine go_do (valid_mv (.inr rfl) rfl) rfl ?_
        | refine go_do (valid_cmp rfl rfl rfl rfl (by first | exact .eql1 (by omega) | exact .eql0 (by omega) | exact .neq1 (by omega) | exact .neq0 (by omega) | exact .lss1 (by omega) | exact .lss0 (by omega) | exact .leq1 (by omega) | exact .leq0 (by omega) | exact .gtr1 (by omega) | exact .gtr0 (by omega) | exact .geq1 (by omega) | exact .geq0 (by omega) | constructor)) rfl ?_
        | refine go_do (valid_len_s rfl rfl rfl rfl) rfl ?_)
    | (refine hK _ ?_; clear hK K)
    | refine aw_text rfl ?_
    | refine aw_cond0 rfl rfl ?_
    | refine aw_block ?_
    | refine aw_skip ?_
    | refine aw_seq_k (fun K hK => ?_))
  refine aw_loopH (α := Nat) (fun k => k ≤ l.length) (fun k => St.of [(0, .m (.c (.s l.length 4 (flF l)))), (1, .m (.c (.s l.length 4 (flF l)))), (5, .m (ii k))] []) (fun k => l.length - k) 0 (by omega) (sub_of _ _ ⟨rfl, rfl, rfl, trivial⟩ trivial rfl) ?_
  intro k hk
  by_cases hlt : k < l.length
  · obtain ⟨f, hf⟩ : ∃ f, l[k]? = some f := ⟨_, List.getElem?_eq_getElem hlt⟩
    have hx := flF_at hf
    have he : ∀ w, (Op.equalIn 10000 73 (.agg #[.bool f.ha, .int .u64 f.ad, .bool f.hs, .int .u64 f.sn]) (.agg #[.bool f.ha, .int .u64 f.ad, .bool f.hs, .int .u64 f.sn])).run Tryz.prog w = .ok true w := fun w => by rw [eq_fence]; simp
    repeat (first
      | (refine go_at rfl ?_; first
          | refine go_do (valid_mv (.inl rfl) rfl) rfl ?_
          | refine go_do (valid_mv (.inr rfl) rfl) rfl ?_
          | refine go_do (valid_cmp rfl rfl rfl rfl (by first | exact .eql1 (by omega) | exact .eql0 (by omega) | exact .neq1 (by omega) | exact .neq0 (by omega) | exact .lss1 (by omega) | exact .lss0 (by omega) | exact .leq1 (by omega) | exact .leq0 (by omega) | exact .gtr1 (by omega) | exact .gtr0 (by omega) | exact .geq1 (by omega) | exact .geq0 (by omega) | constructor)) rfl ?_
          | refine go_do (valid_ar rfl rfl rfl rfl (by constructor) (by first | exact wr_u64 (by omega) (by omega) | exact wr_i64 (by omega) (by omega) | rfl)) rfl ?_
          | refine go_do (valid_len_s rfl rfl rfl rfl) rfl ?_
          | (refine nxt_s 3 rfl ?_; refine go_do (valid_load_q tb rfl rfl rfl rfl (by first | kernel_rfl | rfl)) rfl ?_)
          | (refine nxt_s 4 rfl ?_; refine go_do (valid_idx_s rfl rfl rfl rfl rfl rfl (by omega) (by omega) _ (by assumption)) rfl ?_)
          | refine go_do (valid_neq (us := [.bool f.ha, .int .u64 f.ad, .bool f.hs, .int .u64 f.sn]) (vs := [.bool f.ha, .int .u64 f.ad, .bool f.hs, .int .u64 f.sn]) he (by kernel_rfl) rfl rfl rfl rfl) rfl ?_)
      | (refine hK _ ?_; clear hK K)
      | refine aw_text rfl ?_
      | refine aw_any (by kernel_rfl) (by kernel_rfl) rfl ?_
      | refine aw_cond1 rfl rfl ?_
      | refine aw_cond0 rfl rfl ?_
      | refine aw_block ?_
      | refine aw_skip ?_
      | refine aw_seq_k (fun K hK => ?_))
    exact ⟨k + 1, by omega, by omega, sub_of _ _ ⟨rfl, rfl, rfl, trivial⟩ trivial rfl⟩
  · skip
    repeat (first
      | (refine go_at rfl ?_; first
          | refine go_do (valid_mv (.inl rfl) rfl) rfl ?_
          | refine go_do (valid_mv (.inr rfl) rfl) rfl ?_
          | refine go_do (valid_cmp rfl rfl rfl rfl (by first | exact .eql1 (by omega) | exact .eql0 (by omega) | exact .neq1 (by omega) | exact .neq0 (by omega) | exact .lss1 (by omega) | exact .lss0 (by omega) | exact .leq1 (by omega) | exact .leq0 (by omega) | exact .gtr1 (by omega) | exact .gtr0 (by omega) | exact .geq1 (by omega) | exact .geq0 (by omega) | constructor)) rfl ?_
          | refine go_do (valid_len_s rfl rfl rfl rfl) rfl ?_)
      | (refine hK _ ?_; clear hK K)
      | (rename_i K1 hK1; refine hK1 _ ?_; clear hK hK1; clear K)
      | refine aw_text rfl ?_
      | exact aw_ret (show resA _ _ _ = some _ by kernel_rfl)
      | refine aw_cond0 rfl rfl ?_
      | refine aw_exit ?_
      | refine aw_seq_k (fun K hK => ?_))
def hartC (n : Nat) (ts : List Value) (sm sa sp pr : Int) (su mx : Bool) (vic : Int) : List Ce := [.s n 45 ts, cu sm, cu sa, cu sp, ci pr, cb su, cb mx, ci vic]
theorem sameh_ok (n : Nat) (hn : n ≤ 16) (sm sa sp pr : Int) (su mx : Bool) (vic : Int) : Ok 31 [.ag (hartC n (zsL n) sm sa sp pr su mx vic), .ag (hartC n (zsL n) sm sa sp pr su mx vic)] (.m (ib true)) := by
  refine callOk_of 45 Tryz.func31 rfl rfl rfl rfl ?_ GG.to
  intro W A hG
  have he : ∀ w, (Op.equalIn 10000 34 (.agg #[.int .u64 sm, .int .u64 sa, .int .u64 sp]) (.agg #[.int .u64 sm, .int .u64 sa, .int .u64 sp])).run Tryz.prog w = .ok true w := fun w => by rw [eq_satp]; simp
  cases su <;> cases mx
  · skip
    repeat (first
      | (refine go_at rfl ?_; first
          | refine go_do (valid_mv (.inl rfl) rfl) rfl ?_
          | (refine nxt_s 1 rfl ?_; refine go_do (valid_load_p tb rfl rfl rfl rfl rfl (by first | kernel_rfl | rfl)) (by first | kernel_rfl | rfl) ?_)
          | (refine nxt_s 1 rfl ?_; refine go_do (valid_fld_p tb rfl rfl rfl (by kernel_rfl)) rfl ?_)
          | refine go_do (valid_mv (.inr rfl) rfl) rfl ?_
          | refine go_do (valid_pick rfl rfl rfl) rfl ?_
          | refine go_do (valid_cmp rfl rfl rfl rfl (by first | exact .eql1 (by omega) | exact .eql0 (by omega) | exact .neq1 (by omega) | exact .neq0 (by omega) | exact .lss1 (by omega) | exact .lss0 (by omega) | exact .leq1 (by omega) | exact .leq0 (by omega) | exact .gtr1 (by omega) | exact .gtr0 (by omega) | exact .geq1 (by omega) | exact .geq0 (by omega) | constructor)) rfl ?_
          | refine go_do (valid_box rfl rfl rfl rfl rfl rfl) rfl ?_
          | refine go_do (valid_eqb rfl rfl rfl rfl rfl) rfl ?_
          | refine go_do (valid_call rfl rfl rfl (samet_ok n hn) (by kernel_rfl)) rfl ?_
          | refine go_do (valid_eql (us := [.int .u64 sm, .int .u64 sa, .int .u64 sp]) (vs := [.int .u64 sm, .int .u64 sa, .int .u64 sp]) he (by kernel_rfl) rfl rfl rfl rfl) rfl ?_)
      | (refine hK _ ?_; clear hK K)
      | refine aw_text rfl ?_
      | exact aw_ret (show resA _ _ _ = some _ by kernel_rfl)
      | refine aw_seq_k (fun K hK => ?_))
  · skip
    repeat (first
      | (refine go_at rfl ?_; first
          | refine go_do (valid_mv (.inl rfl) rfl) rfl ?_
          | (refine nxt_s 1 rfl ?_; refine go_do (valid_load_p tb rfl rfl rfl rfl rfl (by first | kernel_rfl | rfl)) (by first | kernel_rfl | rfl) ?_)
          | (refine nxt_s 1 rfl ?_; refine go_do (valid_fld_p tb rfl rfl rfl (by kernel_rfl)) rfl ?_)
          | refine go_do (valid_mv (.inr rfl) rfl) rfl ?_
          | refine go_do (valid_pick rfl rfl rfl) rfl ?_
          | refine go_do (valid_cmp rfl rfl rfl rfl (by first | exact .eql1 (by omega) | exact .eql0 (by omega) | exact .neq1 (by omega) | exact .neq0 (by omega) | exact .lss1 (by omega) | exact .lss0 (by omega) | exact .leq1 (by omega) | exact .leq0 (by omega) | exact .gtr1 (by omega) | exact .gtr0 (by omega) | exact .geq1 (by omega) | exact .geq0 (by omega) | constructor)) rfl ?_
          | refine go_do (valid_box rfl rfl rfl rfl rfl rfl) rfl ?_
          | refine go_do (valid_eqb rfl rfl rfl rfl rfl) rfl ?_
          | refine go_do (valid_call rfl rfl rfl (samet_ok n hn) (by kernel_rfl)) rfl ?_
          | refine go_do (valid_eql (us := [.int .u64 sm, .int .u64 sa, .int .u64 sp]) (vs := [.int .u64 sm, .int .u64 sa, .int .u64 sp]) he (by kernel_rfl) rfl rfl rfl rfl) rfl ?_)
      | (refine hK _ ?_; clear hK K)
      | refine aw_text rfl ?_
      | exact aw_ret (show resA _ _ _ = some _ by kernel_rfl)
      | refine aw_seq_k (fun K hK => ?_))
  · skip
    repeat (first
      | (refine go_at rfl ?_; first
          | refine go_do (valid_mv (.inl rfl) rfl) rfl ?_
          | (refine nxt_s 1 rfl ?_; refine go_do (valid_load_p tb rfl rfl rfl rfl rfl (by first | kernel_rfl | rfl)) (by first | kernel_rfl | rfl) ?_)
          | (refine nxt_s 1 rfl ?_; refine go_do (valid_fld_p tb rfl rfl rfl (by kernel_rfl)) rfl ?_)
          | refine go_do (valid_mv (.inr rfl) rfl) rfl ?_
          | refine go_do (valid_pick rfl rfl rfl) rfl ?_
          | refine go_do (valid_cmp rfl rfl rfl rfl (by first | exact .eql1 (by omega) | exact .eql0 (by omega) | exact .neq1 (by omega) | exact .neq0 (by omega) | exact .lss1 (by omega) | exact .lss0 (by omega) | exact .leq1 (by omega) | exact .leq0 (by omega) | exact .gtr1 (by omega) | exact .gtr0 (by omega) | exact .geq1 (by omega) | exact .geq0 (by omega) | constructor)) rfl ?_
          | refine go_do (valid_box rfl rfl rfl rfl rfl rfl) rfl ?_
          | refine go_do (valid_eqb rfl rfl rfl rfl rfl) rfl ?_
          | refine go_do (valid_call rfl rfl rfl (samet_ok n hn) (by kernel_rfl)) rfl ?_
          | refine go_do (valid_eql (us := [.int .u64 sm, .int .u64 sa, .int .u64 sp]) (vs := [.int .u64 sm, .int .u64 sa, .int .u64 sp]) he (by kernel_rfl) rfl rfl rfl rfl) rfl ?_)
      | (refine hK _ ?_; clear hK K)
      | refine aw_text rfl ?_
      | exact aw_ret (show resA _ _ _ = some _ by kernel_rfl)
      | refine aw_seq_k (fun K hK => ?_))
  · skip
    repeat (first
      | (refine go_at rfl ?_; first
          | refine go_do (valid_mv (.inl rfl) rfl) rfl ?_
          | (refine nxt_s 1 rfl ?_; refine go_do (valid_load_p tb rfl rfl rfl rfl rfl (by first | kernel_rfl | rfl)) (by first | kernel_rfl | rfl) ?_)
          | (refine nxt_s 1 rfl ?_; refine go_do (valid_fld_p tb rfl rfl rfl (by kernel_rfl)) rfl ?_)
          | refine go_do (valid_mv (.inr rfl) rfl) rfl ?_
          | refine go_do (valid_pick rfl rfl rfl) rfl ?_
          | refine go_do (valid_cmp rfl rfl rfl rfl (by first | exact .eql1 (by omega) | exact .eql0 (by omega) | exact .neq1 (by omega) | exact .neq0 (by omega) | exact .lss1 (by omega) | exact .lss0 (by omega) | exact .leq1 (by omega) | exact .leq0 (by omega) | exact .gtr1 (by omega) | exact .gtr0 (by omega) | exact .geq1 (by omega) | exact .geq0 (by omega) | constructor)) rfl ?_
          | refine go_do (valid_box rfl rfl rfl rfl rfl rfl) rfl ?_
          | refine go_do (valid_eqb rfl rfl rfl rfl rfl) rfl ?_
          | refine go_do (valid_call rfl rfl rfl (samet_ok n hn) (by kernel_rfl)) rfl ?_
          | refine go_do (valid_eql (us := [.int .u64 sm, .int .u64 sa, .int .u64 sp]) (vs := [.int .u64 sm, .int .u64 sa, .int .u64 sp]) he (by kernel_rfl) rfl rfl rfl rfl) rfl ?_)
      | (refine hK _ ?_; clear hK K)
      | refine aw_text rfl ?_
      | exact aw_ret (show resA _ _ _ = some _ by kernel_rfl)
      | refine aw_seq_k (fun K hK => ?_))
end Go.Proofs.YtkffmaeiplgjeaaGreatDoor.SpL
/- The abstract walk: the document's Same and Copied of kernels. -/
namespace Go.Proofs.YtkffmaeiplgjeaaGreatDoor.SpM
open Go.RowKit Go.Proofs.YtkffmaeiplgjeaaGreatDoor.Bv Go.Proofs.YtkffmaeiplgjeaaGreatDoor.VaSpec Go.Proofs.YtkffmaeiplgjeaaGreatDoor.Base Go.Proofs.YtkffmaeiplgjeaaGreatDoor.MemL Go.Proofs.YtkffmaeiplgjeaaGreatDoor.RegR Go.Proofs.YtkffmaeiplgjeaaGreatDoor.Ax Go.Proofs.YtkffmaeiplgjeaaGreatDoor.MemC Go.Proofs.YtkffmaeiplgjeaaGreatDoor.PutC Go.Proofs.YtkffmaeiplgjeaaGreatDoor.MemC3 Go.Proofs.YtkffmaeiplgjeaaGreatDoor.TzC Go.Proofs.YtkffmaeiplgjeaaGreatDoor.OkS Go.Proofs.YtkffmaeiplgjeaaGreatDoor.SpA Go.Proofs.YtkffmaeiplgjeaaGreatDoor.SpB Go.Proofs.YtkffmaeiplgjeaaGreatDoor.SpC Go.Proofs.YtkffmaeiplgjeaaGreatDoor.SpD Go.Proofs.YtkffmaeiplgjeaaGreatDoor.IterC Go.Proofs.YtkffmaeiplgjeaaGreatDoor.SpE Go.Proofs.YtkffmaeiplgjeaaGreatDoor.SpL
open Go.Proofs.YtkffmaeiplgjeaaGreatDoor.BitsC Go.Proofs.YtkffmaeiplgjeaaGreatDoor.PteSpec
set_option linter.unusedVariables false
set_option linter.unusedSimpArgs false
set_option maxRecDepth 10000
set_option maxHeartbeats 800000
attribute [local irreducible] Go.Proofs.YtkffmaeiplgjeaaGreatDoor.Ax.CallOk
theorem flS_one (l : List Sp) : (flS l).all (·.oneCell') = true := by
  rw [List.all_eq_true]
  intro v hv
  obtain ⟨f, _, hv⟩ := List.mem_flatMap.1 hv
  exact List.all_eq_true.1 (show f.vs.all (·.oneCell') = true from rfl) v hv
theorem fl_one' (l : List (Int × Int)) : (fl l).all (·.oneCell') = true := List.all_eq_true.2 (fl_one l)
theorem same_ok (k : Kr) (ht : k.ts = zsL k.tn) (hn : k.tn ≤ 16) (hm : k.m.length ≤ 1000000) (hs : k.ss.length ≤ 1000000) (hf : k.fs.length ≤ 1000000) : Ok 10 [.ag k.ce, .ag k.ce] (.m (ib true)) := by
  have s1 := samem_ok k.sz k.m hm
  have s2 := sameh_ok k.tn hn k.sm k.sa k.sp k.priv k.su k.mx k.vic
  rw [← ht] at s2
  have s3 := samef_ok k.fs hf
  have e1 : ∀ w, (Op.equalIn 10000 23 (.agg #[.int .i64 k.cd, .int .i64 k.cp, .int .i64 k.ca, .int .i64 k.cs]) (.agg #[.int .i64 k.cd, .int .i64 k.cp, .int .i64 k.ca, .int .i64 k.cs])).run Tryz.prog w = .ok true w := fun w => by rw [eq_conf]; simp
  have e2 : ∀ w, (Op.equalIn 10000 38 (.agg #[.int .u64 k.pb, .int .i64 k.pm, .int .u64 k.pf]) (.agg #[.int .u64 k.pb, .int .i64 k.pm, .int .u64 k.pf])).run Tryz.prog w = .ok true w := fun w => by rw [PoolC4.eq_pool 9998]; simp
  have e3 : ∀ w, (Op.equalIn 10000 40 (.agg #[.int .i64 k.am, .int .u64 k.af, .int .u64 k.ao]) (.agg #[.int .i64 k.am, .int .u64 k.af, .int .u64 k.ao])).run Tryz.prog w = .ok true w := fun w => by rw [eq_asids]; simp
  refine callOk_of 90 Tryz.func10 rfl rfl rfl rfl ?_ GG.to
  intro W A hG
  repeat (first
    | (refine go_at rfl ?_; first
        | refine go_do (valid_mv (.inl rfl) rfl) rfl ?_
        | (refine nxt_s 1 rfl ?_; refine go_do (valid_load_p tb rfl rfl rfl rfl rfl (by first | kernel_rfl | rfl)) (by first | kernel_rfl | rfl) ?_)
        | (refine nxt_s 1 rfl ?_; refine go_do (valid_fld_p tb rfl rfl rfl (by kernel_rfl)) rfl ?_)
        | refine go_do (valid_mv (.inr rfl) rfl) rfl ?_
        | refine go_do (valid_pick rfl rfl rfl) rfl ?_
        | refine go_do (valid_cmp rfl rfl rfl rfl (by first | exact .eql1 (by omega) | exact .eql0 (by omega) | exact .neq1 (by omega) | exact .neq0 (by omega) | exact .lss1 (by omega) | exact .lss0 (by omega) | exact .leq1 (by omega) | exact .leq0 (by omega) | exact .gtr1 (by omega) | exact .gtr0 (by omega) | exact .geq1 (by omega) | exact .geq0 (by omega) | constructor)) rfl ?_
        | refine go_do (valid_box rfl rfl rfl rfl rfl rfl) rfl ?_
        | refine go_do (valid_len_s rfl rfl rfl rfl) rfl ?_
        | refine go_do (valid_not rfl rfl rfl) rfl ?_
        | refine go_do (valid_call rfl rfl rfl (s1) (by kernel_rfl)) rfl ?_
        | refine go_do (valid_call rfl rfl rfl (s2) (by kernel_rfl)) rfl ?_
        | refine go_do (valid_call rfl rfl rfl (s3) (by kernel_rfl)) rfl ?_
        | refine go_do (valid_neq (us := [.int .i64 k.cd, .int .i64 k.cp, .int .i64 k.ca, .int .i64 k.cs]) (vs := [.int .i64 k.cd, .int .i64 k.cp, .int .i64 k.ca, .int .i64 k.cs]) e1 (by kernel_rfl) rfl rfl rfl rfl) rfl ?_
        | refine go_do (valid_neq (us := [.int .u64 k.pb, .int .i64 k.pm, .int .u64 k.pf]) (vs := [.int .u64 k.pb, .int .i64 k.pm, .int .u64 k.pf]) e2 (by kernel_rfl) rfl rfl rfl rfl) rfl ?_
        | refine go_do (valid_neq (us := [.int .i64 k.am, .int .u64 k.af, .int .u64 k.ao]) (vs := [.int .i64 k.am, .int .u64 k.af, .int .u64 k.ao]) e3 (by kernel_rfl) rfl rfl rfl rfl) rfl ?_)
    | (refine hK _ ?_; clear hK K)
    | refine aw_text rfl ?_
    | refine aw_cond0 rfl rfl ?_
    | refine aw_block ?_
    | refine aw_skip ?_
    | refine aw_seq_k (fun K hK => ?_))
  refine aw_loopH (α := Nat) (fun i => i ≤ k.ss.length) (fun i => St.of [(2, .m (.c (.p 2 0))), (3, .m (.c (.p 3 0))), (5, .m (ii i))] [(2, .live (.box k.ce)), (3, .live (.box k.ce))]) (fun i => k.ss.length - i) 0 (by omega) (sub_of _ _ ⟨by kernel_rfl, by kernel_rfl, by kernel_rfl, trivial⟩ ⟨by kernel_rfl, by kernel_rfl, trivial⟩ (by kernel_rfl)) ?_
  intro i hi
  by_cases hlt : i < k.ss.length
  · obtain ⟨s, hs⟩ : ∃ s, k.ss[i]? = some s := ⟨_, List.getElem?_eq_getElem hlt⟩
    have hx : ((flS k.ss).drop (i * 3)).take 3 = [.int .u64 s.root, .int .u64 s.asid, .bool s.live] := flat_at Sp.vs 3 (fun _ => rfl) k.ss _ s hs
    have he : ∀ w, (Op.equalIn 10000 65 (.agg #[.int .u64 s.root, .int .u64 s.asid, .bool s.live]) (.agg #[.int .u64 s.root, .int .u64 s.asid, .bool s.live])).run Tryz.prog w = .ok true w := fun w => by rw [eq_space]; simp
    repeat (first
      | (refine go_at rfl ?_; first
          | refine go_do (valid_mv (.inl rfl) rfl) rfl ?_
          | (refine nxt_s 1 rfl ?_; refine go_do (valid_load_p tb rfl rfl rfl rfl rfl (by first | kernel_rfl | rfl)) (by first | kernel_rfl | rfl) ?_)
          | (refine nxt_s 1 rfl ?_; refine go_do (valid_fld_p tb rfl rfl rfl (by kernel_rfl)) rfl ?_)
          | refine go_do (valid_mv (.inr rfl) rfl) rfl ?_
          | refine go_do (valid_cmp rfl rfl rfl rfl (by first | exact .eql1 (by omega) | exact .eql0 (by omega) | exact .neq1 (by omega) | exact .neq0 (by omega) | exact .lss1 (by omega) | exact .lss0 (by omega) | exact .leq1 (by omega) | exact .leq0 (by omega) | exact .gtr1 (by omega) | exact .gtr0 (by omega) | exact .geq1 (by omega) | exact .geq0 (by omega) | constructor)) rfl ?_
          | refine go_do (valid_ar rfl rfl rfl rfl (by constructor) (by first | exact wr_u64 (by omega) (by omega) | exact wr_i64 (by omega) (by omega) | rfl)) rfl ?_
          | refine go_do (valid_len_s rfl rfl rfl rfl) rfl ?_
          | (refine nxt_s 3 rfl ?_; refine go_do (valid_load_q tb rfl rfl rfl rfl (by first | kernel_rfl | rfl)) rfl ?_)
          | (refine nxt_s 4 rfl ?_; refine go_do (valid_idx_s rfl rfl rfl rfl rfl rfl (by omega) (by omega) _ (by assumption)) rfl ?_)
          | refine go_do (valid_neq (us := [.int .u64 s.root, .int .u64 s.asid, .bool s.live]) (vs := [.int .u64 s.root, .int .u64 s.asid, .bool s.live]) he (by kernel_rfl) rfl rfl rfl rfl) rfl ?_)
      | (refine hK _ ?_; clear hK K)
      | refine aw_text rfl ?_
      | refine aw_any (by kernel_rfl) (by kernel_rfl) rfl ?_
      | refine aw_cond1 rfl rfl ?_
      | refine aw_cond0 rfl rfl ?_
      | refine aw_block ?_
      | refine aw_skip ?_
      | refine aw_seq_k (fun K hK => ?_))
    exact ⟨i + 1, by omega, by omega, sub_of _ _ ⟨rfl, rfl, rfl, trivial⟩ ⟨rfl, rfl, trivial⟩ rfl⟩
  · skip
    repeat (first
      | (refine go_at rfl ?_; first
          | refine go_do (valid_mv (.inl rfl) rfl) rfl ?_
          | (refine nxt_s 1 rfl ?_; refine go_do (valid_load_p tb rfl rfl rfl rfl rfl (by first | kernel_rfl | rfl)) (by first | kernel_rfl | rfl) ?_)
          | (refine nxt_s 1 rfl ?_; refine go_do (valid_fld_p tb rfl rfl rfl (by kernel_rfl)) rfl ?_)
          | refine go_do (valid_mv (.inr rfl) rfl) rfl ?_
          | refine go_do (valid_cmp rfl rfl rfl rfl (by first | exact .eql1 (by omega) | exact .eql0 (by omega) | exact .neq1 (by omega) | exact .neq0 (by omega) | exact .lss1 (by omega) | exact .lss0 (by omega) | exact .leq1 (by omega) | exact .leq0 (by omega) | exact .gtr1 (by omega) | exact .gtr0 (by omega) | exact .geq1 (by omega) | exact .geq0 (by omega) | constructor)) rfl ?_
          | refine go_do (valid_len_s rfl rfl rfl rfl) rfl ?_)
      | (refine hK _ ?_; clear hK K)
      | (rename_i K1 hK1; refine hK1 _ ?_; clear hK hK1; clear K)
      | refine aw_text rfl ?_
      | exact aw_ret (show resA _ _ _ = some _ by kernel_rfl)
      | refine aw_cond0 rfl rfl ?_
      | refine aw_exit ?_
      | refine aw_seq_k (fun K hK => ?_))
end Go.Proofs.YtkffmaeiplgjeaaGreatDoor.SpM
