/- Texts of this claim, one behind the other: SpH, SpI, SpJ, SpK, SpL, SpM, SpN, RfP, RfQ, LaD, SpO, LaE, LaF, LaG, RefS, RefSet, RfA. -/
import Derived.Test.YtgkodncknlankaaGreatDoorB3
import Derived.Test.YtgkodncknlankaaGreatDoorB2
import Derived.OwnWalk
/- The abstract walk: Create. -/
namespace Go.Proofs.YtgkodncknlankaaGreatDoor.SpH
open Go.RowKit Go.Proofs.YtgkodncknlankaaGreatDoor.Bv Go.Proofs.YtgkodncknlankaaGreatDoor.VaSpec Go.Proofs.YtgkodncknlankaaGreatDoor.Base Go.Proofs.YtgkodncknlankaaGreatDoor.MemL Go.Proofs.YtgkodncknlankaaGreatDoor.RegR Go.Proofs.YtgkodncknlankaaGreatDoor.Ax Go.Proofs.YtgkodncknlankaaGreatDoor.MemC Go.Proofs.YtgkodncknlankaaGreatDoor.PutC Go.Proofs.YtgkodncknlankaaGreatDoor.MemC3 Go.Proofs.YtgkodncknlankaaGreatDoor.TzC Go.Proofs.YtgkodncknlankaaGreatDoor.OkS Go.Proofs.YtgkodncknlankaaGreatDoor.SpA Go.Proofs.YtgkodncknlankaaGreatDoor.SpB Go.Proofs.YtgkodncknlankaaGreatDoor.SpC Go.Proofs.YtgkodncknlankaaGreatDoor.SpD Go.Proofs.YtgkodncknlankaaGreatDoor.IterC Go.Proofs.YtgkodncknlankaaGreatDoor.SpE Go.Proofs.YtgkodncknlankaaGreatDoor.SpF Go.Proofs.YtgkodncknlankaaGreatDoor.SpG
open Go.Proofs.YtgkodncknlankaaGreatDoor.BitsC Go.Proofs.YtgkodncknlankaaGreatDoor.PteSpec
set_option linter.unusedVariables false
set_option linter.unusedSimpArgs false
set_option maxRecDepth 10000
set_option maxHeartbeats 800000
attribute [local irreducible] Go.Proofs.YtgkodncknlankaaGreatDoor.Ax.CallOk
theorem create_owned (k : Kr) (h : k.ss.length < 32) (haf : U k.af) (hao : U k.ao) (h0 : k.af ≠ 0) (hpf : U k.pf) (hp0 : k.pf ≠ 0) (hb : 0 ≤ k.pb ∧ k.pb ≤ 268435456) (hpm : 0 ≤ k.pm ∧ k.pm ≤ 64) (hm : Srt k.m) (hbig : (k.m.length + 1) * 32 ≤ 140737488355328)
    (hP : (gP k.sh).U) (hm1 : Srt (TableC.wipeM k.m (k.pb + tzI k.pf))) (hu1 : Uw (TableC.wipeM k.m (k.pb + tzI k.pf))) (hbig1 : ((TableC.wipeM k.m (k.pb + tzI k.pf)).length + 1) * 16 ≤ 140737488355328) (hown : (getI k.ao (tzI k.af) 1 == 1) = true) (hts : k.ts = zsL k.tn) (htn : k.tn ≤ 16) (hfs : k.fs.length ≤ 1000000) (hr : 0 ≤ k.pb + tzI k.pf ∧ k.pb + tzI k.pf < 1099511627776)
    : Ok 29 [.ag k.ce] (.tu [.ag (fenceK (createK k) [aFe (tzI k.af + 1)]).ce, ii k.ss.length, ii 0]) := by
  refine callOk_of 78 Tryz.func29 rfl rfl rfl rfl ?_ GG.to
  intro W A hG
  have ht := atake_ok k.am k.af k.ao haf hao h0
  rw [hown] at ht
  have hf := fresh_ok k.sz k.m k.pb k.pm k.pf hb hpm hpf hp0 hm hbig
  have hw := with_ok k.sz (TableC.wipeM k.m (k.pb + tzI k.pf)) (k.pb + tzI k.pf) 2 zP kA (gP k.sh) kA_U hP (by omega) (by omega) hr hm1 hu1 (by omega)
  have hs : Ok 64 [.ag (({ k with m := newM k, pf := setI k.pf (tzI k.pf) 1 0, af := takeA1 k.af, ao := takeA2 k.af k.ao } : Kr).raw k.tn k.ts (k.ss.length + 1) (flS k.ss ++ (⟨k.pb + tzI k.pf, tzI k.af + 1, true⟩ : Sp).vs) k.fs.length (flF k.fs)), .c (.s 1 4 (flF [aFe (tzI k.af + 1)]))] (.m (.ag (fenceK (createK k) [aFe (tzI k.af + 1)]).ce)) := by
    rw [← createK_ce]
    exact sfence_ok (createK k) hts htn [aFe (tzI k.af + 1)] (fun f hf => by simp at hf; subst hf; exact ⟨by show (0 : Int) ≤ 0; omega, by show (0 : Int) < 18446744073709551616; omega⟩) (by simp) hfs
  have hfa := fasid_ok (tzI k.af + 1)
  have hcc : ∀ (W : World) (vb : Nat) (v1 v2 : Value), GG W → Bx W vb #[v1, v2] → Sl W v1 k.ss.length 3 (flS k.ss) → Sl W v2 1 3 (⟨k.pb + tzI k.pf, tzI k.af + 1, true⟩ : Sp).vs → Calls Tryz.prog 76 #[.slice (some ⟨vb, 0, none⟩) 2 2] W fun e w' => ∃ v', e = .returned v' ∧ w'.ownsRow W.heap.size 105 3 v' (k.ss.length + 1) (flS k.ss ++ (⟨k.pb + tzI k.pf, tzI k.af + 1, true⟩ : Sp).vs) ∧ Below W.heap.size W w' :=
    fun W vb v1 v2 _ h1 h2 h3 => Go.Proofs.YtgkodncknlankaaGreatDoor.ConcatSpace.concat_calls vb v1 v2 _ _ _ _ W h1 h2 h3 (flS_one _) (fun u hu => List.all_eq_true.1 (show (⟨k.pb + tzI k.pf, tzI k.af + 1, true⟩ : Sp).vs.all (·.oneCell') = true from rfl) u hu) (by omega)
  repeat (first
    | (refine go_at rfl ?_; first
        | refine go_do (valid_mv (.inl rfl) rfl) rfl ?_
        | (refine nxt_s 1 rfl ?_; refine go_do (valid_load_p tb rfl rfl rfl rfl rfl (by first | kernel_rfl | rfl)) (by first | kernel_rfl | rfl) ?_)
        | (refine nxt_s 1 rfl ?_; refine go_do (valid_fld_p tb rfl rfl rfl (by kernel_rfl)) rfl ?_)
        | refine go_do (valid_mv (.inr rfl) rfl) rfl ?_
        | refine go_do (valid_extract rfl rfl rfl rfl) rfl ?_
        | refine go_do (valid_cmp rfl rfl rfl rfl (by first | exact .eql1 (by omega) | exact .eql0 (by omega) | exact .neq1 (by omega) | exact .neq0 (by omega) | exact .lss1 (by omega) | exact .lss0 (by omega) | exact .leq1 (by omega) | exact .leq0 (by omega) | exact .gtr1 (by omega) | exact .gtr0 (by omega) | exact .geq1 (by omega) | exact .geq0 (by omega) | constructor)) rfl ?_
        | refine go_do (valid_box rfl rfl rfl rfl rfl rfl) rfl ?_
        | refine go_do (valid_alloc rfl rfl rfl rfl rfl) rfl ?_
        | (refine nxt_s 1 rfl ?_; refine go_do (valid_store_p rfl rfl rfl rfl rfl rfl (by first | kernel_rfl | rfl) rfl) (by first | kernel_rfl | rfl) ?_)
        | refine go_do (valid_len_s rfl rfl rfl rfl) rfl ?_
        | refine go_do (valid_build rfl rfl rfl rfl) rfl ?_
        | refine go_do (valid_bslice rfl rfl rfl rfl rfl rfl rfl rfl rfl rfl rfl) rfl ?_
        | refine go_do (valid_call rfl rfl rfl (hfa) (by kernel_rfl)) rfl ?_
        | refine go_do (valid_call rfl rfl rfl (ht) (by kernel_rfl)) rfl ?_
        | refine go_do (valid_call rfl rfl rfl (hf) (by kernel_rfl)) rfl ?_
        | refine go_do (valid_call rfl rfl rfl (kaddr_ok') (by kernel_rfl)) rfl ?_
        | refine go_do (valid_call rfl rfl rfl (hw) (by kernel_rfl)) rfl ?_
        | refine go_do (valid_bslice_ss rfl rfl rfl rfl rfl rfl (by kernel_rfl) rfl rfl rfl) rfl ?_
        | refine go_do (valid_concat rfl rfl rfl rfl rfl (by kernel_rfl) (by kernel_rfl) hcc) rfl ?_)
    | (refine hK _ ?_; clear hK K)
    | refine aw_text rfl ?_
    | refine aw_any (by kernel_rfl) (by kernel_rfl) rfl ?_
    | refine aw_cond1 rfl rfl ?_
    | refine aw_cond0 rfl rfl ?_
    | refine aw_skip ?_
    | refine aw_seq_k (fun K hK => ?_))
  refine go_at rfl ?_
  refine go_do (valid_call_d (b := 72) (l := [.ag (({ k with m := newM k, pf := setI k.pf (tzI k.pf) 1 0, af := takeA1 k.af, ao := takeA2 k.af k.ao } : Kr).raw k.tn k.ts (k.ss.length + 1) (flS k.ss ++ (⟨k.pb + tzI k.pf, tzI k.af + 1, true⟩ : Sp).vs) k.fs.length (flF k.fs)), .c (.o 72)]) rfl rfl rfl (by kernel_rfl) rfl (by kernel_rfl) (callOk_l (by kernel_rfl) hs)) (by kernel_rfl) ?_
  refine go_at rfl ?_
  refine go_do (valid_store_p rfl rfl rfl rfl rfl rfl (by kernel_rfl) rfl) (by kernel_rfl) ?_
  first
    | (refine hK _ ?_; clear hK K)
    | (rename_i K1 hK1; refine hK1 _ ?_; clear hK hK1; clear K)
    | (rename_i K1 hK1; refine hK1 _ ?_; clear hK1)
  refine aw_sub (sub_of [(1, .m (.c (.p 1 0))), (2, .m (.c (.p 2 0))), (5, .m (.c (.p 5 0)))] [(1, .live (.box k.ce)), (2, .live (.box zK)), (5, .live (.box (fenceK (createK k) [aFe (tzI k.af + 1)]).ce))] ⟨by kernel_rfl, by kernel_rfl, by kernel_rfl, trivial⟩ ⟨by kernel_rfl, by kernel_rfl, by kernel_rfl, trivial⟩ (by kernel_rfl)) ?_
  repeat (first
    | (refine go_at rfl ?_; first
        | (refine nxt_s 1 rfl ?_; refine go_do (valid_load_p tb rfl rfl rfl rfl rfl (by first | kernel_rfl | rfl)) (by first | kernel_rfl | rfl) ?_)
        | (refine nxt_s 1 rfl ?_; refine go_do (valid_fld_p tb rfl rfl rfl (by kernel_rfl)) rfl ?_)
        | refine go_do (valid_mv (.inr rfl) rfl) rfl ?_
        | (refine nxt_s 1 rfl ?_; refine go_do (valid_store_p rfl rfl rfl rfl rfl rfl (by first | kernel_rfl | rfl) rfl) (by first | kernel_rfl | rfl) ?_)
        | refine go_do (valid_len_s rfl rfl rfl rfl) rfl ?_)
    | (refine hK _ ?_; clear hK K)
    | refine aw_any (by kernel_rfl) (by kernel_rfl) rfl ?_
    | exact aw_ret (show resA _ _ _ = some _ by kernel_rfl)
    | refine aw_seq_k (fun K hK => ?_))
theorem freshno_ok (sz : Int) (xs : List (Int × Int)) (base many : Int) (hb : 0 ≤ base ∧ base ≤ 268435456) (hm : 0 ≤ many ∧ many ≤ 64) :
    Ok 70 [memA sz xs, .ag [cu base, ci many, cu 0]] (.tu [memA sz xs, .ag [cu base, ci many, cu 0], iu 0, ii 8]) :=
  callOk_calls rfl fun A W vs hG hR => by
    obtain ⟨v1, v2, rfl, h1, h2⟩ := args2 hR
    obtain ⟨u, rfl, hu'⟩ := arg_mem h1
    obtain rfl := plain_ag (xs := [.int .u64 base, .int .i64 many, .int .u64 0]) h2
    obtain ⟨a, c, rfl⟩ := sl_slice hu'.1
    refine (TableC4.fresh_none sz a _ c base many W hb hm hG.t).mono ?_
    rintro e w' ⟨rfl, hb'⟩
    exact ⟨_, rfl, hb', _, rfl, all2_two (old_s hu' hb'), ⟨_, rfl, rfl, rfl, rfl, trivial⟩, rfl, rfl, trivial⟩
theorem create_noframe (k : Kr) (h : k.ss.length < 32) (haf : U k.af) (hao : U k.ao) (h0 : k.af ≠ 0) (hp0 : k.pf = 0) (hb : 0 ≤ k.pb ∧ k.pb ≤ 268435456) (hpm : 0 ≤ k.pm ∧ k.pm ≤ 64)
    : Ok 29 [.ag k.ce] (.tu [.ag k.ce, ii 0, ii 8]) := by
  have hf : Ok 70 [memA k.sz k.m, .ag [cu k.pb, ci k.pm, cu k.pf]] (.tu [memA k.sz k.m, .ag [cu k.pb, ci k.pm, cu k.pf], iu 0, ii 8]) := by rw [hp0]; exact freshno_ok k.sz k.m k.pb k.pm hb hpm
  cases hown : (getI k.ao (tzI k.af) 1 == 1) with
  | false =>
    refine callOk_of 78 Tryz.func29 rfl rfl rfl rfl ?_ GG.to
    intro W A hG
    have ht := atake_ok k.am k.af k.ao haf hao h0
    rw [hown] at ht
    repeat (first
      | (refine go_at rfl ?_; first
          | refine go_do (valid_mv (.inl rfl) rfl) rfl ?_
          | (refine nxt_s 1 rfl ?_; refine go_do (valid_load_p tb rfl rfl rfl rfl rfl (by first | kernel_rfl | rfl)) (by first | kernel_rfl | rfl) ?_)
          | (refine nxt_s 1 rfl ?_; refine go_do (valid_fld_p tb rfl rfl rfl (by kernel_rfl)) rfl ?_)
          | refine go_do (valid_mv (.inr rfl) rfl) rfl ?_
          | refine go_do (valid_extract rfl rfl rfl rfl) rfl ?_
          | refine go_do (valid_cmp rfl rfl rfl rfl (by first | exact .eql1 (by omega) | exact .eql0 (by omega) | exact .neq1 (by omega) | exact .neq0 (by omega) | exact .lss1 (by omega) | exact .lss0 (by omega) | exact .leq1 (by omega) | exact .leq0 (by omega) | exact .gtr1 (by omega) | exact .gtr0 (by omega) | exact .geq1 (by omega) | exact .geq0 (by omega) | constructor)) rfl ?_
          | refine go_do (valid_box rfl rfl rfl rfl rfl rfl) rfl ?_
          | refine go_do (valid_alloc rfl rfl rfl rfl rfl) rfl ?_
          | (refine nxt_s 1 rfl ?_; refine go_do (valid_store_p rfl rfl rfl rfl rfl rfl (by first | kernel_rfl | rfl) rfl) (by first | kernel_rfl | rfl) ?_)
          | refine go_do (valid_len_s rfl rfl rfl rfl) rfl ?_
          | refine go_do (valid_call rfl rfl rfl (ht) (by kernel_rfl)) rfl ?_
          | refine go_do (valid_call rfl rfl rfl (hf) (by kernel_rfl)) rfl ?_)
      | (refine hK _ ?_; clear hK K)
      | refine aw_text rfl ?_
      | exact aw_ret (show resA _ _ _ = some _ by kernel_rfl)
      | refine aw_cond1 rfl rfl ?_
      | refine aw_cond0 rfl rfl ?_
      | refine aw_skip ?_
      | refine aw_seq_k (fun K hK => ?_))
  | true =>
    refine callOk_of 78 Tryz.func29 rfl rfl rfl rfl ?_ GG.to
    intro W A hG
    have ht := atake_ok k.am k.af k.ao haf hao h0
    rw [hown] at ht
    repeat (first
      | (refine go_at rfl ?_; first
          | refine go_do (valid_mv (.inl rfl) rfl) rfl ?_
          | (refine nxt_s 1 rfl ?_; refine go_do (valid_load_p tb rfl rfl rfl rfl rfl (by first | kernel_rfl | rfl)) (by first | kernel_rfl | rfl) ?_)
          | (refine nxt_s 1 rfl ?_; refine go_do (valid_fld_p tb rfl rfl rfl (by kernel_rfl)) rfl ?_)
          | refine go_do (valid_mv (.inr rfl) rfl) rfl ?_
          | refine go_do (valid_extract rfl rfl rfl rfl) rfl ?_
          | refine go_do (valid_cmp rfl rfl rfl rfl (by first | exact .eql1 (by omega) | exact .eql0 (by omega) | exact .neq1 (by omega) | exact .neq0 (by omega) | exact .lss1 (by omega) | exact .lss0 (by omega) | exact .leq1 (by omega) | exact .leq0 (by omega) | exact .gtr1 (by omega) | exact .gtr0 (by omega) | exact .geq1 (by omega) | exact .geq0 (by omega) | constructor)) rfl ?_
          | refine go_do (valid_box rfl rfl rfl rfl rfl rfl) rfl ?_
          | refine go_do (valid_alloc rfl rfl rfl rfl rfl) rfl ?_
          | (refine nxt_s 1 rfl ?_; refine go_do (valid_store_p rfl rfl rfl rfl rfl rfl (by first | kernel_rfl | rfl) rfl) (by first | kernel_rfl | rfl) ?_)
          | refine go_do (valid_len_s rfl rfl rfl rfl) rfl ?_
          | refine go_do (valid_call rfl rfl rfl (ht) (by kernel_rfl)) rfl ?_
          | refine go_do (valid_call rfl rfl rfl (hf) (by kernel_rfl)) rfl ?_)
      | (refine hK _ ?_; clear hK K)
      | refine aw_text rfl ?_
      | exact aw_ret (show resA _ _ _ = some _ by kernel_rfl)
      | refine aw_cond1 rfl rfl ?_
      | refine aw_cond0 rfl rfl ?_
      | refine aw_skip ?_
      | refine aw_seq_k (fun K hK => ?_))
end Go.Proofs.YtgkodncknlankaaGreatDoor.SpH
/- Plain facts on a kernel's memory and its bits. -/
namespace Go.Proofs.YtgkodncknlankaaGreatDoor.SpI
open Go.RowKit Go.Proofs.YtgkodncknlankaaGreatDoor.Bv Go.Proofs.YtgkodncknlankaaGreatDoor.VaSpec Go.Proofs.YtgkodncknlankaaGreatDoor.Base Go.Proofs.YtgkodncknlankaaGreatDoor.MemL Go.Proofs.YtgkodncknlankaaGreatDoor.RegR Go.Proofs.YtgkodncknlankaaGreatDoor.Ax Go.Proofs.YtgkodncknlankaaGreatDoor.MemC Go.Proofs.YtgkodncknlankaaGreatDoor.PutC Go.Proofs.YtgkodncknlankaaGreatDoor.MemC3 Go.Proofs.YtgkodncknlankaaGreatDoor.TzC Go.Proofs.YtgkodncknlankaaGreatDoor.OkS Go.Proofs.YtgkodncknlankaaGreatDoor.SpA Go.Proofs.YtgkodncknlankaaGreatDoor.SpB Go.Proofs.YtgkodncknlankaaGreatDoor.SpC Go.Proofs.YtgkodncknlankaaGreatDoor.SpD Go.Proofs.YtgkodncknlankaaGreatDoor.IterC Go.Proofs.YtgkodncknlankaaGreatDoor.SpE Go.Proofs.YtgkodncknlankaaGreatDoor.SpF Go.Proofs.YtgkodncknlankaaGreatDoor.SpG
open Go.Proofs.YtgkodncknlankaaGreatDoor.BitsC Go.Proofs.YtgkodncknlankaaGreatDoor.PteSpec
set_option linter.unusedVariables false
set_option linter.unusedSimpArgs false
/-! ### cells -/
theorem putM_mem : ∀ (xs : List (Int × Int)) (k v : Int) (c : Int × Int), c ∈ putM xs k v → c ∈ xs ∨ (c = (k, v) ∧ v ≠ 0)
  | [], k, v, c, h => by
    simp only [putM] at h
    split at h
    · simp at h
    · rename_i hv; simp at h; exact .inr ⟨h, hv⟩
  | x :: xs, k, v, c, h => by
    simp only [putM] at h
    split at h
    · rcases List.mem_cons.1 h with h | h
      · exact .inl (by simp [h])
      · exact (putM_mem xs k v c h).imp (List.mem_cons_of_mem _) id
    · split at h
      · split at h
        · exact .inl (List.mem_cons_of_mem _ h)
        · rename_i hv
          rcases List.mem_cons.1 h with h | h
          · exact .inr ⟨h, hv⟩
          · exact .inl (List.mem_cons_of_mem _ h)
      · split at h
        · exact .inl h
        · rename_i hv
          rcases List.mem_cons.1 h with h | h
          · exact .inr ⟨h, hv⟩
          · exact .inl h
theorem putM_len : ∀ (xs : List (Int × Int)) (k v : Int), (putM xs k v).length ≤ xs.length + 1
  | [], k, v => by simp only [putM]; split <;> simp
  | x :: xs, k, v => by
    have := putM_len xs k v
    simp only [putM]
    split
    · simp; omega
    · split <;> split <;> simp <;> omega
theorem putM_srt : ∀ (xs : List (Int × Int)) (k v : Int), Srt xs → Srt (putM xs k v)
  | [], k, v, _ => by simp only [putM]; split <;> simp [Srt]
  | x :: xs, k, v, h => by
    have h' := List.pairwise_cons.1 h
    simp only [putM]
    split
    · rename_i hx
      refine List.pairwise_cons.2 ⟨fun d hd => ?_, putM_srt xs k v h'.2⟩
      rcases putM_mem _ _ _ _ hd with hd | ⟨rfl, _⟩
      · exact h'.1 d hd
      · exact hx
    · split
      · rename_i hk
        split
        · exact h'.2
        · exact List.pairwise_cons.2 ⟨fun d hd => by have := h'.1 d hd; rw [hk] at this; exact this, h'.2⟩
      · split
        · exact h
        · exact List.pairwise_cons.2 ⟨fun d hd => by
            rcases List.mem_cons.1 hd with rfl | hd
            · show k < _; omega
            · have := h'.1 d hd; show k < _; omega, h⟩
theorem lb_mono : ∀ (xs : List (Int × Int)) (a b : Int), a ≤ b → lb xs a ≤ lb xs b
  | [], a, b, _ => by simp [lb]
  | x :: xs, a, b, h => by
    have := lb_mono xs a b h
    simp only [lb]
    split
    · rw [if_pos (by omega)]; omega
    · omega
theorem wipe_sub (xs : List (Int × Int)) (f : Int) : (TableC.wipeM xs f).Sublist xs := by
  unfold TableC.wipeM ClearC.clearM
  have h := lb_mono xs (f * 512) (f * 512 + 512) (by omega)
  have e : xs.drop (lb xs (f * 512 + 512)) = (xs.drop (lb xs (f * 512))).drop (lb xs (f * 512 + 512) - lb xs (f * 512)) := by
    rw [List.drop_drop]; congr 1; omega
  rw [e]
  have := List.Sublist.append (List.Sublist.refl (xs.take (lb xs (f * 512)))) (List.drop_sublist (lb xs (f * 512 + 512) - lb xs (f * 512)) (xs.drop (lb xs (f * 512))))
  rwa [List.take_append_drop] at this
theorem wipe_srt {xs : List (Int × Int)} (f : Int) (h : Srt xs) : Srt (TableC.wipeM xs f) := List.Pairwise.sublist (wipe_sub xs f) h
theorem wipe_mem {xs : List (Int × Int)} {f : Int} {c : Int × Int} (h : c ∈ TableC.wipeM xs f) : c ∈ xs := (wipe_sub xs f).subset h
theorem wipe_len (xs : List (Int × Int)) (f : Int) : (TableC.wipeM xs f).length ≤ xs.length := (wipe_sub xs f).length_le
/-- where a kernel's cells may lie -/
def COk (lo hi : Int) (c : Int × Int) : Prop := lo * 512 ≤ c.1 ∧ c.1 < hi * 512 ∧ c.1 % 512 = 511 ∧ U c.2
theorem cok_uw {lo hi : Int} {xs : List (Int × Int)} (h : ∀ c ∈ xs, COk lo hi c) (h0 : 0 ≤ lo) (h1 : hi ≤ 1099511627776) : Uw xs := fun c hc => by
  obtain ⟨a, b, d, e⟩ := h c hc
  exact ⟨⟨by omega, by omega⟩, e⟩
theorem look_none {xs : List (Int × Int)} {k : Int} (h : ∀ c ∈ xs, c.1 ≠ k) : MemC.look xs k = 0 := by
  unfold MemC.look
  split
  · rename_i c hc
    rw [if_neg (h c (List.mem_of_getElem? hc))]
  · rfl
/-! ### bits -/
theorem X_nat {a : Int} (h : U a) : (X a).toNat = a.toNat := by
  have e := B_X h
  unfold B at e; obtain ⟨h0, h1⟩ := h; omega
theorem lt_of_bits {w : BitVec 64} {n : Nat} (h : ∀ i, n ≤ i → w.getLsbD i = false) : w.toNat < 2 ^ n :=
  Nat.lt_pow_two_of_testBit _ fun i hi => by rw [BitVec.testBit_toNat]; exact h i hi
theorem bits_of_lt {w : BitVec 64} {n : Nat} (h : w.toNat < 2 ^ n) (i : Nat) (hi : n ≤ i) : w.getLsbD i = false := by
  rw [← BitVec.testBit_toNat]
  exact Nat.testBit_lt_two_pow (Nat.lt_of_lt_of_le h (Nat.pow_le_pow_right (by decide) hi))
theorem lt_int {x : Int} {n : Nat} (h0 : 0 ≤ x) : x < 2 ^ n ↔ x.toNat < 2 ^ n := by
  have e : ((2 : Int) ^ n) = ((2 ^ n : Nat) : Int) := by norm_cast
  rw [e]; omega
/-- a word whose bits from a place on are 0 -/
theorem fit_set {x i v : Int} {n : Nat} (h : U x) (hx : x < 2 ^ n) (h0 : 0 ≤ i) (hi : i < n) : setI x i 1 v < 2 ^ n := by
  rw [lt_int (setI_U _ _ _ _).1]
  rw [lt_int h.1, ← X_nat h] at hx
  unfold setI
  have : (B (setB (X x) i.toNat (1 : Int).toNat (X v))).toNat = (setB (X x) i.toNat (1 : Int).toNat (X v)).toNat := by unfold B; omega
  rw [this]
  refine lt_of_bits fun j hj => ?_
  rw [setB_bit, if_neg (by rw [show (1 : Int).toNat = 1 from rfl]; omega), bits_of_lt hx j hj, Bool.and_false]
theorem tz_fit {x : Int} {n : Nat} (h : U x) (hx : x < 2 ^ n) (h0 : x ≠ 0) : 0 ≤ tzI x ∧ tzI x < n := by
  obtain ⟨h1, h2⟩ := h
  obtain ⟨hb, _⟩ := Lib.lowest_bit 64 x.toNat (by omega) (by omega)
  have hle : 2 ^ Lib.ctz 64 x.toNat ≤ x.toNat := by rw [← hb]; exact Nat.and_le_left
  have hx := (lt_int h1).1 hx
  have := (Nat.pow_lt_pow_iff_right (show 1 < 2 by decide)).1 (Nat.lt_of_le_of_lt hle hx)
  unfold tzI
  omega
theorem U_fit {x : Int} {n : Nat} (h0 : 0 ≤ x) (h : x < 2 ^ n) (hn : n ≤ 64) : U x := by
  refine ⟨h0, Int.lt_of_lt_of_le h ?_⟩
  have : (2 : Nat) ^ n ≤ 2 ^ 64 := Nat.pow_le_pow_right (by decide) hn
  have e : ((2 : Int) ^ n) = ((2 ^ n : Nat) : Int) := by norm_cast
  rw [e]; omega
/-- a bit, as a Bool -/
def bitB (x i : Int) : Bool := getI x i 1 == 1
theorem bitB_eq {x i : Int} (h0 : 0 ≤ i) : bitB x i = (X x).getLsbD i.toNat := by
  unfold bitB getI
  have hb := fun j => getB_bit (X x) i.toNat 1 j
  rw [show (1 : Int).toNat = 1 from rfl]
  have hlt : (getB (X x) i.toNat 1).toNat < 2 ^ 1 := lt_of_bits fun j hj => by rw [hb j, decide_eq_false (by omega), Bool.false_and]
  have h0' := hb 0
  rw [← BitVec.testBit_toNat, Nat.testBit_zero] at h0'
  simp only [Nat.add_zero, show decide (0 < 1) = true from rfl, Bool.true_and] at h0'
  rw [← h0']
  have e : B (getB (X x) i.toNat 1) = ((getB (X x) i.toNat 1).toNat : Int) := rfl
  rw [e]
  rcases (by omega : (getB (X x) i.toNat 1).toNat = 0 ∨ (getB (X x) i.toNat 1).toNat = 1) with h | h <;> rw [h] <;> rfl
theorem bit_set {x i v j : Int} (h : U x) (h0 : 0 ≤ i) (h1 : i < 64) (hj : 0 ≤ j) (hj1 : j < 64) : bitB (setI x i 1 v) j = if j = i then (X v).getLsbD 0 else bitB x j := by
  rw [bitB_eq hj, bitB_eq hj]
  unfold setI
  rw [X_B, setB_bit, decide_eq_true (by omega), Bool.true_and, show (1 : Int).toNat = 1 from rfl]
  by_cases e : j = i
  · subst e
    rw [if_pos ⟨Nat.le_refl _, by omega⟩, if_pos rfl, Nat.sub_self]
  · rw [if_neg (by omega), if_neg e]
end Go.Proofs.YtgkodncknlankaaGreatDoor.SpI
/- Plain: deeds on kernels, and what holds of each kernel that comes of them. -/
namespace Go.Proofs.YtgkodncknlankaaGreatDoor.SpJ
open Go.RowKit Go.Proofs.YtgkodncknlankaaGreatDoor.Bv Go.Proofs.YtgkodncknlankaaGreatDoor.VaSpec Go.Proofs.YtgkodncknlankaaGreatDoor.Base Go.Proofs.YtgkodncknlankaaGreatDoor.MemL Go.Proofs.YtgkodncknlankaaGreatDoor.RegR Go.Proofs.YtgkodncknlankaaGreatDoor.Ax Go.Proofs.YtgkodncknlankaaGreatDoor.MemC Go.Proofs.YtgkodncknlankaaGreatDoor.PutC Go.Proofs.YtgkodncknlankaaGreatDoor.MemC3 Go.Proofs.YtgkodncknlankaaGreatDoor.TzC Go.Proofs.YtgkodncknlankaaGreatDoor.OkS Go.Proofs.YtgkodncknlankaaGreatDoor.SpA Go.Proofs.YtgkodncknlankaaGreatDoor.SpB Go.Proofs.YtgkodncknlankaaGreatDoor.SpC Go.Proofs.YtgkodncknlankaaGreatDoor.SpD Go.Proofs.YtgkodncknlankaaGreatDoor.IterC Go.Proofs.YtgkodncknlankaaGreatDoor.SpE Go.Proofs.YtgkodncknlankaaGreatDoor.SpF Go.Proofs.YtgkodncknlankaaGreatDoor.SpG Go.Proofs.YtgkodncknlankaaGreatDoor.SpI
open Go.Proofs.YtgkodncknlankaaGreatDoor.BitsC Go.Proofs.YtgkodncknlankaaGreatDoor.PteSpec
set_option linter.unusedVariables false
set_option linter.unusedSimpArgs false
noncomputable def createR (k : Kr) : Kr × Int × Int :=
  if 32 ≤ k.ss.length then (k, 0, 1) else if k.af = 0 then (k, 0, 9) else if k.pf = 0 then (k, 0, 8)
  else if getI k.ao (tzI k.af) 1 == 1 then (fenceK (createK k) [aFe (tzI k.af + 1)], (k.ss.length : Int), 0) else (createK k, (k.ss.length : Int), 0)
def spAt (k : Kr) (id : Int) : Sp := (k.ss[id.toNat]?).getD zSp
def switchR (k : Kr) (id : Int) : Kr × Int :=
  if id = -1 then (offK k, 0) else if livesB k id = false then (k, 4) else (swK k id (spAt k id), 0)
theorem lives_at {k : Kr} {id : Int} (h : livesB k id = true) : 0 ≤ id ∧ id < k.ss.length ∧ k.ss[id.toNat]? = some (spAt k id) ∧ (spAt k id).live = true := by
  unfold livesB at h
  simp only [Bool.and_eq_true, decide_eq_true_eq] at h
  obtain ⟨h0, h1⟩ := h
  split at h1
  · rename_i s hs
    have e : spAt k id = s := by unfold spAt; rw [hs]; rfl
    have := (List.getElem?_eq_some_iff.1 hs).1
    exact ⟨h0, by omega, by rw [e]; exact hs, by rw [e]; exact h1⟩
  · cases h1
structure Inv (n : Nat) (k : Kr) : Prop where
  cd : 1 ≤ k.cd ∧ k.cd ≤ 524288
  cp : 1 ≤ k.cp ∧ k.cp ≤ 64
  ca : 1 ≤ k.ca ∧ k.ca ≤ 16
  cs : k.cs = k.tn ∧ k.tn ≤ 16
  sz : k.sz = (k.cd + k.cp) * 4096
  pb : k.pb = k.cd
  pm : k.pm = k.cp
  am : k.am = k.ca
  pf : 0 ≤ k.pf ∧ k.pf < 2 ^ k.cp.toNat
  af : 0 ≤ k.af ∧ k.af < 2 ^ k.ca.toNat
  ao : 0 ≤ k.ao ∧ k.ao < 2 ^ k.ca.toNat
  sh : k.cd ≤ k.sh ∧ k.sh < k.cd + k.cp
  ts : k.ts = zsL k.tn
  m : Srt k.m
  mc : ∀ c ∈ k.m, COk k.cd (k.cd + k.cp) c
  ml : k.m.length ≤ n
  fl : k.fs.length ≤ n
  sl : k.ss.length ≤ 32
  ss : ∀ s ∈ k.ss, s.live = true → (k.cd ≤ s.root ∧ s.root < k.cd + k.cp) ∧ (1 ≤ s.asid ∧ s.asid ≤ 16)
  nw : (k.now = -1 ∧ k.sm = 0 ∧ k.sa = 0 ∧ k.sp = 0) ∨ (livesB k k.now = true ∧ k.sm = 8 ∧ k.sa = (spAt k k.now).asid ∧ k.sp = (spAt k k.now).root)
theorem Inv.upf {n : Nat} {k : Kr} (h : Inv n k) : U k.pf := U_fit h.pf.1 h.pf.2 (by have := h.cp; omega)
theorem Inv.uaf {n : Nat} {k : Kr} (h : Inv n k) : U k.af := U_fit h.af.1 h.af.2 (by have := h.ca; omega)
theorem Inv.uao {n : Nat} {k : Kr} (h : Inv n k) : U k.ao := U_fit h.ao.1 h.ao.2 (by have := h.ca; omega)
theorem kA_idx : idx kA 2 = 511 := by rw [kA_eq]; decide
/-! ### With -/
theorem with_cases (sz : Int) (xs : List (Int × Int)) (t i : Int) (p : Pte) : withM sz xs t i p = xs ∨ ∃ v, U v ∧ withM sz xs t i p = putM xs (t * 512 + i) v := by
  unfold withM storeM
  by_cases hw : wrongI sz (t * 4096 + i * 8) 8 = 0
  · rw [if_pos hw, if_pos hw]
    refine .inr ⟨setI (wordM sz xs (t * 4096 + i * 8)) ((t * 4096 + i * 8) % 8 * 8) (8 * 8) (PteC.putE p), setI_U _ _ _ _, ?_⟩
    rw [show (t * 4096 + i * 8) / 8 = t * 512 + i by omega]
  · rw [if_neg hw]; exact .inl rfl
theorem with_srt {sz : Int} {xs : List (Int × Int)} {t i : Int} {p : Pte} (h : Srt xs) : Srt (withM sz xs t i p) := by
  rcases with_cases sz xs t i p with e | ⟨v, _, e⟩ <;> rw [e]
  · exact h
  · exact putM_srt _ _ _ h
theorem with_len (sz : Int) (xs : List (Int × Int)) (t i : Int) (p : Pte) : (withM sz xs t i p).length ≤ xs.length + 1 := by
  rcases with_cases sz xs t i p with e | ⟨v, _, e⟩ <;> rw [e]
  · omega
  · exact putM_len _ _ _
theorem with_mem {sz : Int} {xs : List (Int × Int)} {t : Int} {p : Pte} {lo hi : Int} (h : ∀ c ∈ xs, COk lo hi c) (h0 : lo ≤ t) (h1 : t < hi) : ∀ c ∈ withM sz xs t 511 p, COk lo hi c := fun c hc => by
  rcases with_cases sz xs t 511 p with e | ⟨v, hv, e⟩ <;> rw [e] at hc
  · exact h c hc
  · rcases putM_mem _ _ _ _ hc with hc | ⟨rfl, _⟩
    · exact h c hc
    · exact ⟨by show lo * 512 ≤ t * 512 + 511; omega, by show t * 512 + 511 < hi * 512; omega, by show (t * 512 + 511) % 512 = 511; omega, hv⟩
theorem set_all (a v : Int) (hv : U v) : setI a 0 64 v = v := by
  unfold setI
  rw [show (0 : Int).toNat = 0 from rfl, show (64 : Int).toNat = 64 from rfl]
  have : setB (X a) 0 64 (X v) = X v := by
    apply BitVec.eq_of_getLsbD_eq
    intro i hi
    rw [setB_bit, decide_eq_true hi, Bool.true_and, if_pos ⟨Nat.zero_le _, by omega⟩, Nat.sub_zero]
  rw [this, B_X hv]
theorem wrong0 {sz t i : Int} (h0 : 0 ≤ t) (hi : 0 ≤ i ∧ i < 512) (hs : t * 4096 + i * 8 < sz) : wrongI sz (t * 4096 + i * 8) 8 = 0 := by
  unfold wrongI
  rw [if_pos (by rfl), if_pos, if_pos hs]
  unfold evenI
  rw [if_neg (by omega)]
  simp; omega
theorem with_is {sz : Int} {xs : List (Int × Int)} {t i : Int} {p : Pte} (hp : p.U) (h0 : 0 ≤ t) (hi : 0 ≤ i ∧ i < 512) (hs : t * 4096 + i * 8 < sz) : withM sz xs t i p = putM xs (t * 512 + i) (PteC.putE p) := by
  unfold withM storeM
  have hw := wrong0 h0 hi hs
  rw [if_pos hw, if_pos hw, show (t * 4096 + i * 8) / 8 = t * 512 + i by omega, show (t * 4096 + i * 8) % 8 * 8 = 0 by omega, show (8 : Int) * 8 = 64 by rfl, set_all _ _ (putE_U p hp)]
theorem putE_z : PteC.putE zP = 0 := by decide
theorem sw_inv {n : Nat} {k : Kr} {id : Int} (h : Inv n k) : Inv n (switchR k id).1 := by
  unfold switchR
  split
  · exact { h with nw := .inl ⟨rfl, rfl, rfl, rfl⟩ }
  · split
    · exact h
    · rename_i h1 h2
      have h3 : livesB k id = true := by simpa using h2
      exact { h with nw := .inr ⟨h3, rfl, rfl, rfl⟩ }
theorem lives_app {k k' : Kr} {s : Sp} {id : Int} (e : k'.ss = k.ss ++ [s]) (h : livesB k id = true) : livesB k' id = true ∧ spAt k' id = spAt k id := by
  obtain ⟨h0, h1, h2, h3⟩ := lives_at h
  have hk : k'.ss[id.toNat]? = some (spAt k id) := by rw [e, List.getElem?_append_left (by omega)]; exact h2
  have e2 : spAt k' id = spAt k id := by show (k'.ss[id.toNat]?).getD zSp = _; rw [hk]; rfl
  refine ⟨?_, e2⟩
  unfold livesB
  rw [hk, decide_eq_true h0]; exact h3
theorem createK_inv {n : Nat} {k : Kr} (h : Inv n k) (hl : k.ss.length < 32) (ha : k.af ≠ 0) (hp : k.pf ≠ 0) : Inv (n + 1) (createK k) := by
  have t1 := tz_fit h.upf h.pf.2 hp
  have t2 := tz_fit h.uaf h.af.2 ha
  have c1 := h.cp
  have c2 := h.ca
  have hpb := h.pb
  refine { cd := h.cd, cp := h.cp, ca := h.ca, cs := h.cs, sz := h.sz, pb := h.pb, pm := h.pm, am := h.am, pf := ?_, af := ?_, ao := ?_, sh := h.sh, ts := h.ts, m := ?_, mc := ?_, ml := ?_, fl := ?_, sl := ?_, ss := ?_, nw := ?_ }
  · exact ⟨(setI_U _ _ _ _).1, fit_set h.upf h.pf.2 t1.1 t1.2⟩
  · exact ⟨(setI_U _ _ _ _).1, fit_set h.uaf h.af.2 t2.1 t2.2⟩
  · exact ⟨(setI_U _ _ _ _).1, fit_set h.uao h.ao.2 t2.1 t2.2⟩
  · exact with_srt (wipe_srt _ h.m)
  · show ∀ c ∈ newM k, _
    unfold newM
    rw [kA_idx]
    exact with_mem (fun c hc => h.mc c (wipe_mem hc)) (by show k.cd ≤ _; omega) (by show _ < k.cd + k.cp; omega)
  · have e1 := with_len k.sz (TableC.wipeM k.m (k.pb + tzI k.pf)) (k.pb + tzI k.pf) (idx kA 2) (gP k.sh)
    have e2 := wipe_len k.m (k.pb + tzI k.pf)
    have e3 := h.ml
    show (newM k).length ≤ n + 1
    unfold newM; omega
  · have := h.fl; show k.fs.length ≤ n + 1; omega
  · show (k.ss ++ [_]).length ≤ 32
    simp; omega
  · intro s hs hlv
    have hs : s ∈ k.ss ++ [⟨k.pb + tzI k.pf, tzI k.af + 1, true⟩] := hs
    rcases List.mem_append.1 hs with hs | hs
    · exact h.ss s hs hlv
    · rw [List.mem_singleton.1 hs]
      exact ⟨⟨by show k.cd ≤ k.pb + tzI k.pf; omega, by show k.pb + tzI k.pf < k.cd + k.cp; omega⟩, by show 1 ≤ tzI k.af + 1; omega, by show tzI k.af + 1 ≤ 16; omega⟩
  · rcases h.nw with x | ⟨x1, x2, x3, x4⟩
    · exact .inl x
    · obtain ⟨y1, y2⟩ := lives_app (k' := createK k) rfl x1
      exact .inr ⟨y1, x2, by rw [show (createK k).now = k.now from rfl, y2]; exact x3, by rw [show (createK k).now = k.now from rfl, y2]; exact x4⟩
theorem Inv.mono {n n' : Nat} {k : Kr} (h : Inv n k) (e : n ≤ n') : Inv n' k := { h with ml := Nat.le_trans h.ml e, fl := Nat.le_trans h.fl e }
theorem fence_inv {n : Nat} {k : Kr} (h : Inv n k) (l : List Fe) (e : k.fs.length + l.length ≤ n) : Inv n (fenceK k l) := { h with fl := by show (k.fs ++ l).length ≤ n; simpa using e }
theorem create_inv {n : Nat} {k : Kr} (h : Inv n k) : Inv (n + 1) (createR k).1 := by
  unfold createR
  split
  · exact h.mono (by omega)
  · split
    · exact h.mono (by omega)
    · split
      · exact h.mono (by omega)
      · rename_i h1 h2 h3
        have hc := createK_inv h (by omega) h2 h3
        split
        · refine fence_inv hc _ ?_
          have := h.fl
          show k.fs.length + 1 ≤ n + 1; omega
        · exact hc
end Go.Proofs.YtgkodncknlankaaGreatDoor.SpJ
/- The abstract walk: Create, Destroy, Switch of a kernel that holds the invariant; deeds; numbers of free frames. -/
namespace Go.Proofs.YtgkodncknlankaaGreatDoor.SpK
open Go.RowKit Go.Proofs.YtgkodncknlankaaGreatDoor.Bv Go.Proofs.YtgkodncknlankaaGreatDoor.VaSpec Go.Proofs.YtgkodncknlankaaGreatDoor.Base Go.Proofs.YtgkodncknlankaaGreatDoor.MemL Go.Proofs.YtgkodncknlankaaGreatDoor.RegR Go.Proofs.YtgkodncknlankaaGreatDoor.Ax Go.Proofs.YtgkodncknlankaaGreatDoor.MemC Go.Proofs.YtgkodncknlankaaGreatDoor.PutC Go.Proofs.YtgkodncknlankaaGreatDoor.MemC3 Go.Proofs.YtgkodncknlankaaGreatDoor.TzC Go.Proofs.YtgkodncknlankaaGreatDoor.OkS Go.Proofs.YtgkodncknlankaaGreatDoor.SpA Go.Proofs.YtgkodncknlankaaGreatDoor.SpB Go.Proofs.YtgkodncknlankaaGreatDoor.SpC Go.Proofs.YtgkodncknlankaaGreatDoor.SpD Go.Proofs.YtgkodncknlankaaGreatDoor.IterC Go.Proofs.YtgkodncknlankaaGreatDoor.SpE Go.Proofs.YtgkodncknlankaaGreatDoor.SpF Go.Proofs.YtgkodncknlankaaGreatDoor.SpG Go.Proofs.YtgkodncknlankaaGreatDoor.SpH Go.Proofs.YtgkodncknlankaaGreatDoor.SpI Go.Proofs.YtgkodncknlankaaGreatDoor.SpJ
open Go.Proofs.YtgkodncknlankaaGreatDoor.BitsC Go.Proofs.YtgkodncknlankaaGreatDoor.PteSpec
set_option linter.unusedVariables false
set_option linter.unusedSimpArgs false
set_option maxRecDepth 10000
set_option maxHeartbeats 800000
attribute [local irreducible] Go.Proofs.YtgkodncknlankaaGreatDoor.Ax.CallOk
theorem create_all {n : Nat} {k : Kr} (h : Inv n k) (hn : n ≤ 100000) : Ok 29 [.ag k.ce] (.tu [.ag (createR k).1.ce, ii (createR k).2.1, ii (createR k).2.2]) := by
  have h1 := h.cd
  have h2 := h.cp
  have h3 := h.pb
  have h4 := h.pm
  have h5 := h.ml
  have h6 := h.sl
  have h7 := h.fl
  have h8 := h.sh
  have hpb : 0 ≤ k.pb ∧ k.pb ≤ 268435456 := by omega
  have hpm : 0 ≤ k.pm ∧ k.pm ≤ 64 := by omega
  unfold createR
  by_cases c1 : 32 ≤ k.ss.length
  · rw [if_pos c1]; exact create_full k c1 (by omega)
  rw [if_neg c1]
  by_cases c2 : k.af = 0
  · rw [if_pos c2]; exact create_noasid k (by omega) c2
  rw [if_neg c2]
  by_cases c3 : k.pf = 0
  · rw [if_pos c3]; exact create_noframe k (by omega) h.uaf h.uao c2 c3 hpb hpm
  rw [if_neg c3]
  have t1 := tz_fit h.upf h.pf.2 c3
  have w1 := wipe_len k.m (k.pb + tzI k.pf)
  have hP : (gP k.sh).U := ⟨by show (0 : Int) ≤ 0 ∧ (0 : Int) < _; omega, by show 0 ≤ k.sh ∧ k.sh < _; omega, by show (0 : Int) ≤ 0 ∧ (0 : Int) < _; omega⟩
  have hu : Uw (TableC.wipeM k.m (k.pb + tzI k.pf)) := fun c hc => cok_uw h.mc (by omega) (by omega) c (wipe_mem hc)
  by_cases c4 : (getI k.ao (tzI k.af) 1 == 1) = true
  · rw [if_pos c4]
    exact create_owned k (by omega) h.uaf h.uao c2 h.upf c3 hpb hpm h.m (by omega) hP (wipe_srt _ h.m) hu (by omega) c4 h.ts h.cs.2 (by omega) (by omega)
  · rw [if_neg c4]
    show Ok _ _ (.tu [.ag (createK k).ce, _, _])
    rw [createK_ce]
    exact create_plain k (by omega) h.uaf h.uao c2 h.upf c3 hpb hpm h.m (by omega) hP (wipe_srt _ h.m) hu (by omega) (by simpa using c4) (by omega)
end Go.Proofs.YtgkodncknlankaaGreatDoor.SpK
/- The abstract walk: the document's Same and Copied. -/
namespace Go.Proofs.YtgkodncknlankaaGreatDoor.SpL
open Go.RowKit Go.Proofs.YtgkodncknlankaaGreatDoor.Bv Go.Proofs.YtgkodncknlankaaGreatDoor.VaSpec Go.Proofs.YtgkodncknlankaaGreatDoor.Base Go.Proofs.YtgkodncknlankaaGreatDoor.MemL Go.Proofs.YtgkodncknlankaaGreatDoor.RegR Go.Proofs.YtgkodncknlankaaGreatDoor.Ax Go.Proofs.YtgkodncknlankaaGreatDoor.MemC Go.Proofs.YtgkodncknlankaaGreatDoor.PutC Go.Proofs.YtgkodncknlankaaGreatDoor.MemC3 Go.Proofs.YtgkodncknlankaaGreatDoor.TzC Go.Proofs.YtgkodncknlankaaGreatDoor.OkS Go.Proofs.YtgkodncknlankaaGreatDoor.SpA Go.Proofs.YtgkodncknlankaaGreatDoor.SpB Go.Proofs.YtgkodncknlankaaGreatDoor.SpC Go.Proofs.YtgkodncknlankaaGreatDoor.SpD Go.Proofs.YtgkodncknlankaaGreatDoor.IterC Go.Proofs.YtgkodncknlankaaGreatDoor.SpE
open Go.Proofs.YtgkodncknlankaaGreatDoor.BitsC Go.Proofs.YtgkodncknlankaaGreatDoor.PteSpec
set_option linter.unusedVariables false
set_option linter.unusedSimpArgs false
set_option maxRecDepth 10000
set_option maxHeartbeats 800000
theorem fl_at2 {l : List (Int × Int)} {k : Nat} {c : Int × Int} (h : l[k]? = some c) : ((fl l).drop (k * 2)).take 2 = [.int .u64 c.1, .int .u64 c.2] := flat_at (fun c : Int × Int => [.int .u64 c.1, .int .u64 c.2]) 2 (fun _ => rfl) l _ c h
end Go.Proofs.YtgkodncknlankaaGreatDoor.SpL
/- The abstract walk: the document's Same and Copied of kernels. -/
namespace Go.Proofs.YtgkodncknlankaaGreatDoor.SpM
open Go.RowKit Go.Proofs.YtgkodncknlankaaGreatDoor.Bv Go.Proofs.YtgkodncknlankaaGreatDoor.VaSpec Go.Proofs.YtgkodncknlankaaGreatDoor.Base Go.Proofs.YtgkodncknlankaaGreatDoor.MemL Go.Proofs.YtgkodncknlankaaGreatDoor.RegR Go.Proofs.YtgkodncknlankaaGreatDoor.Ax Go.Proofs.YtgkodncknlankaaGreatDoor.MemC Go.Proofs.YtgkodncknlankaaGreatDoor.PutC Go.Proofs.YtgkodncknlankaaGreatDoor.MemC3 Go.Proofs.YtgkodncknlankaaGreatDoor.TzC Go.Proofs.YtgkodncknlankaaGreatDoor.OkS Go.Proofs.YtgkodncknlankaaGreatDoor.SpA Go.Proofs.YtgkodncknlankaaGreatDoor.SpB Go.Proofs.YtgkodncknlankaaGreatDoor.SpC Go.Proofs.YtgkodncknlankaaGreatDoor.SpD Go.Proofs.YtgkodncknlankaaGreatDoor.IterC Go.Proofs.YtgkodncknlankaaGreatDoor.SpE Go.Proofs.YtgkodncknlankaaGreatDoor.SpL
open Go.Proofs.YtgkodncknlankaaGreatDoor.BitsC Go.Proofs.YtgkodncknlankaaGreatDoor.PteSpec
set_option linter.unusedVariables false
set_option linter.unusedSimpArgs false
set_option maxRecDepth 10000
set_option maxHeartbeats 800000
attribute [local irreducible] Go.Proofs.YtgkodncknlankaaGreatDoor.Ax.CallOk
theorem flS_one (l : List Sp) : (flS l).all (·.oneCell') = true := by
  rw [List.all_eq_true]
  intro v hv
  obtain ⟨f, _, hv⟩ := List.mem_flatMap.1 hv
  exact List.all_eq_true.1 (show f.vs.all (·.oneCell') = true from rfl) v hv
end Go.Proofs.YtgkodncknlankaaGreatDoor.SpM
/- The abstract walk: configurations, New, deeds. -/
namespace Go.Proofs.YtgkodncknlankaaGreatDoor.SpN
open Go.RowKit Go.Proofs.YtgkodncknlankaaGreatDoor.Bv Go.Proofs.YtgkodncknlankaaGreatDoor.VaSpec Go.Proofs.YtgkodncknlankaaGreatDoor.Base Go.Proofs.YtgkodncknlankaaGreatDoor.MemL Go.Proofs.YtgkodncknlankaaGreatDoor.RegR Go.Proofs.YtgkodncknlankaaGreatDoor.Ax Go.Proofs.YtgkodncknlankaaGreatDoor.MemC Go.Proofs.YtgkodncknlankaaGreatDoor.PutC Go.Proofs.YtgkodncknlankaaGreatDoor.MemC3 Go.Proofs.YtgkodncknlankaaGreatDoor.TzC Go.Proofs.YtgkodncknlankaaGreatDoor.OkS Go.Proofs.YtgkodncknlankaaGreatDoor.SpA Go.Proofs.YtgkodncknlankaaGreatDoor.SpB Go.Proofs.YtgkodncknlankaaGreatDoor.SpC Go.Proofs.YtgkodncknlankaaGreatDoor.SpD Go.Proofs.YtgkodncknlankaaGreatDoor.IterC Go.Proofs.YtgkodncknlankaaGreatDoor.SpE Go.Proofs.YtgkodncknlankaaGreatDoor.SpF Go.Proofs.YtgkodncknlankaaGreatDoor.SpG Go.Proofs.YtgkodncknlankaaGreatDoor.SpH Go.Proofs.YtgkodncknlankaaGreatDoor.SpI Go.Proofs.YtgkodncknlankaaGreatDoor.SpJ Go.Proofs.YtgkodncknlankaaGreatDoor.SpK
open Go.Proofs.YtgkodncknlankaaGreatDoor.BitsC Go.Proofs.YtgkodncknlankaaGreatDoor.PteSpec
set_option linter.unusedVariables false
set_option linter.unusedSimpArgs false
set_option maxRecDepth 10000
set_option maxHeartbeats 800000
attribute [local irreducible] Go.Proofs.YtgkodncknlankaaGreatDoor.Ax.CallOk
/-! ### less is told -/
theorem callOk_lt {P : Program} {G : World → Prop} {k : FuncId} {args : List Cm} {r r' : AV} (h : CallOk P G k args r) (hc : closedV r' = true) (hlt : r.lt r') : CallOk P G k args r' := by
  unfold CallOk at h ⊢
  obtain ⟨h1, h2, h3⟩ := h
  exact ⟨hc, h2, fun A W vs hG hR => (h3 A W vs hG hR).mono fun e w' ⟨v, he, hb, hr⟩ => ⟨v, he, hb, hlt _ _ hr⟩⟩
def ltC (c c' : Ce) : Prop := ∀ E v, c.R E v → c'.R E v
theorem ltC.rf (c : Ce) : ltC c c := fun _ _ h => h
theorem ltC.nil (k : Nat) : ltC (.v (.slice none 0 0)) (.s 0 k []) := fun E v h => by
  have h : v = .slice none 0 0 := h
  subst h
  exact ⟨⟨by simp, .inl ⟨rfl, rfl⟩⟩, fun a l c e => by cases e⟩
theorem all2_lt {E : En} : ∀ (cs cs' : List Ce) (vs : List Value), All2 ltC cs cs' → All2 (Ce.R E) cs vs → All2 (Ce.R E) cs' vs
  | [], [], _, _, h => h
  | c :: cs, c' :: cs', [], _, h => h.elim
  | c :: cs, c' :: cs', v :: vs, k, h => ⟨k.1 _ _ h.1, all2_lt cs cs' vs k.2 h.2⟩
  | [], _ :: _, _, k, _ => k.elim
  | _ :: _, [], _, k, _ => k.elim
theorem tu_lt {cs cs' : List Ce} {l : List Cm} (h : All2 ltC cs cs') : AV.lt (.tu (.ag cs :: l)) (.tu (.ag cs' :: l)) := fun E v ⟨vs, e, k⟩ => by
  refine ⟨vs, e, ?_⟩
  generalize vs.toList = xs at k
  cases xs with
  | nil => exact k.elim
  | cons x xs =>
    obtain ⟨⟨us, e', k1⟩, k2⟩ := k
    exact ⟨⟨us, e', all2_lt _ _ _ h k1⟩, k2⟩
theorem m_lt {cs cs' : List Ce} (h : All2 ltC cs cs') : AV.lt (.m (.ag cs)) (.m (.ag cs')) := fun E v ⟨vs, e, k⟩ => ⟨vs, e, all2_lt _ _ _ h k⟩
/-! ### configurations -/
def confB (a b c d : Int) : Bool := decide (1 ≤ a) && (decide (a ≤ 524288) && (decide (1 ≤ b) && (decide (b ≤ 64) && (decide (1 ≤ c) && (decide (c ≤ 16) && (decide (0 ≤ d) && decide (d ≤ 16)))))))
theorem confB_iff {a b c d : Int} : confB a b c d = true ↔ (1 ≤ a ∧ a ≤ 524288) ∧ (1 ≤ b ∧ b ≤ 64) ∧ (1 ≤ c ∧ c ≤ 16) ∧ (0 ≤ d ∧ d ≤ 16) := by
  unfold confB; simp only [Bool.and_eq_true, decide_eq_true_eq]; omega
theorem confB_no {a b c d : Int} (h : ¬ ((1 ≤ a ∧ a ≤ 524288) ∧ (1 ≤ b ∧ b ≤ 64) ∧ (1 ≤ c ∧ c ≤ 16) ∧ (0 ≤ d ∧ d ≤ 16))) : confB a b c d = false := by
  cases e : confB a b c d with
  | false => rfl
  | true => exact absurd (confB_iff.1 e) h
def confA (a b c d : Int) : Cm := .ag [ci a, ci b, ci c, ci d]
theorem rmay_ok (a b c d : Int) : Ok 8 [confA a b c d] (.m (ib (confB a b c d))) := by
  by_cases h1 : 1 ≤ a
  · by_cases h2 : a ≤ 524288
    · by_cases h3 : 1 ≤ b
      · by_cases h4 : b ≤ 64
        · by_cases h5 : 1 ≤ c
          · by_cases h6 : c ≤ 16
            · by_cases h7 : 0 ≤ d
              · by_cases h8 : d ≤ 16
                · rw [confB_iff.2 (by omega)]
                  refine callOk_of 41 Tryz.func8 rfl rfl rfl rfl ?_ GG.to
                  intro W A hG
                  repeat (first
                    | (refine go_at rfl ?_; first
                        | refine go_do (valid_mv (.inl rfl) rfl) rfl ?_
                        | (refine nxt_s 1 rfl ?_; refine go_do (valid_load_p tb rfl rfl rfl rfl rfl (by first | kernel_rfl | rfl)) (by first | kernel_rfl | rfl) ?_)
                        | (refine nxt_s 1 rfl ?_; refine go_do (valid_fld_p tb rfl rfl rfl (by kernel_rfl)) rfl ?_)
                        | refine go_do (valid_mv (.inr rfl) rfl) rfl ?_
                        | refine go_do (valid_pick rfl rfl rfl) rfl ?_
                        | refine go_do (valid_cmp rfl rfl rfl rfl (by first | exact .eql1 (by omega) | exact .eql0 (by omega) | exact .neq1 (by omega) | exact .neq0 (by omega) | exact .lss1 (by omega) | exact .lss0 (by omega) | exact .leq1 (by omega) | exact .leq0 (by omega) | exact .gtr1 (by omega) | exact .gtr0 (by omega) | exact .geq1 (by omega) | exact .geq0 (by omega) | constructor)) rfl ?_
                        | refine go_do (valid_box rfl rfl rfl rfl rfl rfl) rfl ?_)
                    | (refine hK _ ?_; clear hK K)
                    | refine aw_text rfl ?_
                    | exact aw_ret (show resA _ _ _ = some _ by kernel_rfl)
                    | refine aw_seq_k (fun K hK => ?_))
                · rw [confB_no (by omega)]
                  refine callOk_of 41 Tryz.func8 rfl rfl rfl rfl ?_ GG.to
                  intro W A hG
                  repeat (first
                    | (refine go_at rfl ?_; first
                        | refine go_do (valid_mv (.inl rfl) rfl) rfl ?_
                        | (refine nxt_s 1 rfl ?_; refine go_do (valid_load_p tb rfl rfl rfl rfl rfl (by first | kernel_rfl | rfl)) (by first | kernel_rfl | rfl) ?_)
                        | (refine nxt_s 1 rfl ?_; refine go_do (valid_fld_p tb rfl rfl rfl (by kernel_rfl)) rfl ?_)
                        | refine go_do (valid_mv (.inr rfl) rfl) rfl ?_
                        | refine go_do (valid_pick rfl rfl rfl) rfl ?_
                        | refine go_do (valid_cmp rfl rfl rfl rfl (by first | exact .eql1 (by omega) | exact .eql0 (by omega) | exact .neq1 (by omega) | exact .neq0 (by omega) | exact .lss1 (by omega) | exact .lss0 (by omega) | exact .leq1 (by omega) | exact .leq0 (by omega) | exact .gtr1 (by omega) | exact .gtr0 (by omega) | exact .geq1 (by omega) | exact .geq0 (by omega) | constructor)) rfl ?_
                        | refine go_do (valid_box rfl rfl rfl rfl rfl rfl) rfl ?_)
                    | (refine hK _ ?_; clear hK K)
                    | refine aw_text rfl ?_
                    | exact aw_ret (show resA _ _ _ = some _ by kernel_rfl)
                    | refine aw_seq_k (fun K hK => ?_))
              · rw [confB_no (by omega)]
                refine callOk_of 41 Tryz.func8 rfl rfl rfl rfl ?_ GG.to
                intro W A hG
                repeat (first
                  | (refine go_at rfl ?_; first
                      | refine go_do (valid_skip rfl) rfl ?_
                      | refine go_do (valid_mv (.inl rfl) rfl) rfl ?_
                      | (refine nxt_s 1 rfl ?_; refine go_do (valid_load_p tb rfl rfl rfl rfl rfl (by first | kernel_rfl | rfl)) (by first | kernel_rfl | rfl) ?_)
                      | (refine nxt_s 1 rfl ?_; refine go_do (valid_fld_p tb rfl rfl rfl (by kernel_rfl)) rfl ?_)
                      | refine go_do (valid_mv (.inr rfl) rfl) rfl ?_
                      | refine go_do (valid_pick rfl rfl rfl) rfl ?_
                      | refine go_do (valid_cmp rfl rfl rfl rfl (by first | exact .eql1 (by omega) | exact .eql0 (by omega) | exact .neq1 (by omega) | exact .neq0 (by omega) | exact .lss1 (by omega) | exact .lss0 (by omega) | exact .leq1 (by omega) | exact .leq0 (by omega) | exact .gtr1 (by omega) | exact .gtr0 (by omega) | exact .geq1 (by omega) | exact .geq0 (by omega) | constructor)) rfl ?_
                      | refine go_do (valid_box rfl rfl rfl rfl rfl rfl) rfl ?_)
                  | (refine hK _ ?_; clear hK K)
                  | refine aw_text rfl ?_
                  | exact aw_ret (show resA _ _ _ = some _ by kernel_rfl)
                  | refine aw_seq_k (fun K hK => ?_))
            · rw [confB_no (by omega)]
              refine callOk_of 41 Tryz.func8 rfl rfl rfl rfl ?_ GG.to
              intro W A hG
              repeat (first
                | (refine go_at rfl ?_; first
                    | refine go_do (valid_skip rfl) rfl ?_
                    | refine go_do (valid_mv (.inl rfl) rfl) rfl ?_
                    | (refine nxt_s 1 rfl ?_; refine go_do (valid_load_p tb rfl rfl rfl rfl rfl (by first | kernel_rfl | rfl)) (by first | kernel_rfl | rfl) ?_)
                    | (refine nxt_s 1 rfl ?_; refine go_do (valid_fld_p tb rfl rfl rfl (by kernel_rfl)) rfl ?_)
                    | refine go_do (valid_mv (.inr rfl) rfl) rfl ?_
                    | refine go_do (valid_pick rfl rfl rfl) rfl ?_
                    | refine go_do (valid_cmp rfl rfl rfl rfl (by first | exact .eql1 (by omega) | exact .eql0 (by omega) | exact .neq1 (by omega) | exact .neq0 (by omega) | exact .lss1 (by omega) | exact .lss0 (by omega) | exact .leq1 (by omega) | exact .leq0 (by omega) | exact .gtr1 (by omega) | exact .gtr0 (by omega) | exact .geq1 (by omega) | exact .geq0 (by omega) | constructor)) rfl ?_
                    | refine go_do (valid_box rfl rfl rfl rfl rfl rfl) rfl ?_)
                | (refine hK _ ?_; clear hK K)
                | refine aw_text rfl ?_
                | exact aw_ret (show resA _ _ _ = some _ by kernel_rfl)
                | refine aw_seq_k (fun K hK => ?_))
          · rw [confB_no (by omega)]
            refine callOk_of 41 Tryz.func8 rfl rfl rfl rfl ?_ GG.to
            intro W A hG
            repeat (first
              | (refine go_at rfl ?_; first
                  | refine go_do (valid_skip rfl) rfl ?_
                  | refine go_do (valid_mv (.inl rfl) rfl) rfl ?_
                  | (refine nxt_s 1 rfl ?_; refine go_do (valid_load_p tb rfl rfl rfl rfl rfl (by first | kernel_rfl | rfl)) (by first | kernel_rfl | rfl) ?_)
                  | (refine nxt_s 1 rfl ?_; refine go_do (valid_fld_p tb rfl rfl rfl (by kernel_rfl)) rfl ?_)
                  | refine go_do (valid_mv (.inr rfl) rfl) rfl ?_
                  | refine go_do (valid_pick rfl rfl rfl) rfl ?_
                  | refine go_do (valid_cmp rfl rfl rfl rfl (by first | exact .eql1 (by omega) | exact .eql0 (by omega) | exact .neq1 (by omega) | exact .neq0 (by omega) | exact .lss1 (by omega) | exact .lss0 (by omega) | exact .leq1 (by omega) | exact .leq0 (by omega) | exact .gtr1 (by omega) | exact .gtr0 (by omega) | exact .geq1 (by omega) | exact .geq0 (by omega) | constructor)) rfl ?_
                  | refine go_do (valid_box rfl rfl rfl rfl rfl rfl) rfl ?_)
              | (refine hK _ ?_; clear hK K)
              | refine aw_text rfl ?_
              | exact aw_ret (show resA _ _ _ = some _ by kernel_rfl)
              | refine aw_seq_k (fun K hK => ?_))
        · rw [confB_no (by omega)]
          refine callOk_of 41 Tryz.func8 rfl rfl rfl rfl ?_ GG.to
          intro W A hG
          repeat (first
            | (refine go_at rfl ?_; first
                | refine go_do (valid_skip rfl) rfl ?_
                | refine go_do (valid_mv (.inl rfl) rfl) rfl ?_
                | (refine nxt_s 1 rfl ?_; refine go_do (valid_load_p tb rfl rfl rfl rfl rfl (by first | kernel_rfl | rfl)) (by first | kernel_rfl | rfl) ?_)
                | (refine nxt_s 1 rfl ?_; refine go_do (valid_fld_p tb rfl rfl rfl (by kernel_rfl)) rfl ?_)
                | refine go_do (valid_mv (.inr rfl) rfl) rfl ?_
                | refine go_do (valid_pick rfl rfl rfl) rfl ?_
                | refine go_do (valid_cmp rfl rfl rfl rfl (by first | exact .eql1 (by omega) | exact .eql0 (by omega) | exact .neq1 (by omega) | exact .neq0 (by omega) | exact .lss1 (by omega) | exact .lss0 (by omega) | exact .leq1 (by omega) | exact .leq0 (by omega) | exact .gtr1 (by omega) | exact .gtr0 (by omega) | exact .geq1 (by omega) | exact .geq0 (by omega) | constructor)) rfl ?_
                | refine go_do (valid_box rfl rfl rfl rfl rfl rfl) rfl ?_)
            | (refine hK _ ?_; clear hK K)
            | refine aw_text rfl ?_
            | exact aw_ret (show resA _ _ _ = some _ by kernel_rfl)
            | refine aw_seq_k (fun K hK => ?_))
      · rw [confB_no (by omega)]
        refine callOk_of 41 Tryz.func8 rfl rfl rfl rfl ?_ GG.to
        intro W A hG
        repeat (first
          | (refine go_at rfl ?_; first
              | refine go_do (valid_skip rfl) rfl ?_
              | refine go_do (valid_mv (.inl rfl) rfl) rfl ?_
              | (refine nxt_s 1 rfl ?_; refine go_do (valid_load_p tb rfl rfl rfl rfl rfl (by first | kernel_rfl | rfl)) (by first | kernel_rfl | rfl) ?_)
              | (refine nxt_s 1 rfl ?_; refine go_do (valid_fld_p tb rfl rfl rfl (by kernel_rfl)) rfl ?_)
              | refine go_do (valid_mv (.inr rfl) rfl) rfl ?_
              | refine go_do (valid_pick rfl rfl rfl) rfl ?_
              | refine go_do (valid_cmp rfl rfl rfl rfl (by first | exact .eql1 (by omega) | exact .eql0 (by omega) | exact .neq1 (by omega) | exact .neq0 (by omega) | exact .lss1 (by omega) | exact .lss0 (by omega) | exact .leq1 (by omega) | exact .leq0 (by omega) | exact .gtr1 (by omega) | exact .gtr0 (by omega) | exact .geq1 (by omega) | exact .geq0 (by omega) | constructor)) rfl ?_
              | refine go_do (valid_box rfl rfl rfl rfl rfl rfl) rfl ?_)
          | (refine hK _ ?_; clear hK K)
          | refine aw_text rfl ?_
          | exact aw_ret (show resA _ _ _ = some _ by kernel_rfl)
          | refine aw_seq_k (fun K hK => ?_))
    · rw [confB_no (by omega)]
      refine callOk_of 41 Tryz.func8 rfl rfl rfl rfl ?_ GG.to
      intro W A hG
      repeat (first
        | (refine go_at rfl ?_; first
            | refine go_do (valid_skip rfl) rfl ?_
            | refine go_do (valid_mv (.inl rfl) rfl) rfl ?_
            | (refine nxt_s 1 rfl ?_; refine go_do (valid_load_p tb rfl rfl rfl rfl rfl (by first | kernel_rfl | rfl)) (by first | kernel_rfl | rfl) ?_)
            | (refine nxt_s 1 rfl ?_; refine go_do (valid_fld_p tb rfl rfl rfl (by kernel_rfl)) rfl ?_)
            | refine go_do (valid_mv (.inr rfl) rfl) rfl ?_
            | refine go_do (valid_pick rfl rfl rfl) rfl ?_
            | refine go_do (valid_cmp rfl rfl rfl rfl (by first | exact .eql1 (by omega) | exact .eql0 (by omega) | exact .neq1 (by omega) | exact .neq0 (by omega) | exact .lss1 (by omega) | exact .lss0 (by omega) | exact .leq1 (by omega) | exact .leq0 (by omega) | exact .gtr1 (by omega) | exact .gtr0 (by omega) | exact .geq1 (by omega) | exact .geq0 (by omega) | constructor)) rfl ?_
            | refine go_do (valid_box rfl rfl rfl rfl rfl rfl) rfl ?_)
        | (refine hK _ ?_; clear hK K)
        | refine aw_text rfl ?_
        | exact aw_ret (show resA _ _ _ = some _ by kernel_rfl)
        | refine aw_seq_k (fun K hK => ?_))
  · rw [confB_no (by omega)]
    refine callOk_of 41 Tryz.func8 rfl rfl rfl rfl ?_ GG.to
    intro W A hG
    repeat (first
      | (refine go_at rfl ?_; first
          | refine go_do (valid_skip rfl) rfl ?_
          | refine go_do (valid_mv (.inl rfl) rfl) rfl ?_
          | (refine nxt_s 1 rfl ?_; refine go_do (valid_load_p tb rfl rfl rfl rfl rfl (by first | kernel_rfl | rfl)) (by first | kernel_rfl | rfl) ?_)
          | (refine nxt_s 1 rfl ?_; refine go_do (valid_fld_p tb rfl rfl rfl (by kernel_rfl)) rfl ?_)
          | refine go_do (valid_mv (.inr rfl) rfl) rfl ?_
          | refine go_do (valid_pick rfl rfl rfl) rfl ?_
          | refine go_do (valid_cmp rfl rfl rfl rfl (by first | exact .eql1 (by omega) | exact .eql0 (by omega) | exact .neq1 (by omega) | exact .neq0 (by omega) | exact .lss1 (by omega) | exact .lss0 (by omega) | exact .leq1 (by omega) | exact .leq0 (by omega) | exact .gtr1 (by omega) | exact .gtr0 (by omega) | exact .geq1 (by omega) | exact .geq0 (by omega) | constructor)) rfl ?_
          | refine go_do (valid_box rfl rfl rfl rfl rfl rfl) rfl ?_)
      | (refine hK _ ?_; clear hK K)
      | refine aw_text rfl ?_
      | exact aw_ret (show resA _ _ _ = some _ by kernel_rfl)
      | refine aw_seq_k (fun K hK => ?_))
theorem within1 {n a b : Int} (h : a ≤ n ∧ n ≤ b) : Ok 81 [ii n, ii a, ii b] (.m (ib true)) := by
  have := within_ok n a b
  rwa [show withinB n a b = true by simp [withinB, h.1, h.2]] at this
theorem within0 {n a b : Int} (h : ¬ (a ≤ n ∧ n ≤ b)) : Ok 81 [ii n, ii a, ii b] (.m (ib false)) := by
  have := within_ok n a b
  rwa [show withinB n a b = false by cases e : withinB n a b with | false => rfl | true => (simp [withinB] at e; exact absurd e h)] at this
theorem smay_ok (a b c d : Int) : Ok 65 [confA a b c d] (.m (ib (confB a b c d))) := by
  by_cases h1 : 1 ≤ a ∧ a ≤ 524288
  · by_cases h2 : 1 ≤ b ∧ b ≤ 64
    · by_cases h3 : 1 ≤ c ∧ c ≤ 16
      · by_cases h4 : 0 ≤ d ∧ d ≤ 16
        · rw [confB_iff.2 (by omega)]
          refine callOk_of 21 Tryz.func65 rfl rfl rfl rfl ?_ GG.to
          intro W A hG
          repeat (first
            | (refine go_at rfl ?_; first
                | refine go_do (valid_mv (.inl rfl) rfl) rfl ?_
                | (refine nxt_s 1 rfl ?_; refine go_do (valid_load_p tb rfl rfl rfl rfl rfl (by first | kernel_rfl | rfl)) (by first | kernel_rfl | rfl) ?_)
                | (refine nxt_s 1 rfl ?_; refine go_do (valid_fld_p tb rfl rfl rfl (by kernel_rfl)) rfl ?_)
                | refine go_do (valid_mv (.inr rfl) rfl) rfl ?_
                | refine go_do (valid_pick rfl rfl rfl) rfl ?_
                | refine go_do (valid_box rfl rfl rfl rfl rfl rfl) rfl ?_
                | refine go_do (valid_call rfl rfl rfl (within1 h1) rfl) rfl ?_
                | refine go_do (valid_call rfl rfl rfl (within1 h2) rfl) rfl ?_
                | refine go_do (valid_call rfl rfl rfl (within1 h3) rfl) rfl ?_
                | refine go_do (valid_call rfl rfl rfl (within1 h4) rfl) rfl ?_)
            | (refine hK _ ?_; clear hK K)
            | refine aw_text rfl ?_
            | exact aw_ret (show resA _ _ _ = some _ by kernel_rfl)
            | refine aw_seq_k (fun K hK => ?_))
        · rw [confB_no (by omega)]
          refine callOk_of 21 Tryz.func65 rfl rfl rfl rfl ?_ GG.to
          intro W A hG
          repeat (first
            | (refine go_at rfl ?_; first
                | refine go_do (valid_mv (.inl rfl) rfl) rfl ?_
                | (refine nxt_s 1 rfl ?_; refine go_do (valid_load_p tb rfl rfl rfl rfl rfl (by first | kernel_rfl | rfl)) (by first | kernel_rfl | rfl) ?_)
                | (refine nxt_s 1 rfl ?_; refine go_do (valid_fld_p tb rfl rfl rfl (by kernel_rfl)) rfl ?_)
                | refine go_do (valid_mv (.inr rfl) rfl) rfl ?_
                | refine go_do (valid_pick rfl rfl rfl) rfl ?_
                | refine go_do (valid_box rfl rfl rfl rfl rfl rfl) rfl ?_
                | refine go_do (valid_call rfl rfl rfl (within1 h1) rfl) rfl ?_
                | refine go_do (valid_call rfl rfl rfl (within1 h2) rfl) rfl ?_
                | refine go_do (valid_call rfl rfl rfl (within1 h3) rfl) rfl ?_
                | refine go_do (valid_call rfl rfl rfl (within0 h4) rfl) rfl ?_)
            | (refine hK _ ?_; clear hK K)
            | refine aw_text rfl ?_
            | exact aw_ret (show resA _ _ _ = some _ by kernel_rfl)
            | refine aw_seq_k (fun K hK => ?_))
      · rw [confB_no (by omega)]
        refine callOk_of 21 Tryz.func65 rfl rfl rfl rfl ?_ GG.to
        intro W A hG
        repeat (first
          | (refine go_at rfl ?_; first
              | refine go_do (valid_skip rfl) rfl ?_
              | refine go_do (valid_mv (.inl rfl) rfl) rfl ?_
              | (refine nxt_s 1 rfl ?_; refine go_do (valid_load_p tb rfl rfl rfl rfl rfl (by first | kernel_rfl | rfl)) (by first | kernel_rfl | rfl) ?_)
              | (refine nxt_s 1 rfl ?_; refine go_do (valid_fld_p tb rfl rfl rfl (by kernel_rfl)) rfl ?_)
              | refine go_do (valid_mv (.inr rfl) rfl) rfl ?_
              | refine go_do (valid_pick rfl rfl rfl) rfl ?_
              | refine go_do (valid_box rfl rfl rfl rfl rfl rfl) rfl ?_
              | refine go_do (valid_call rfl rfl rfl (within1 h1) rfl) rfl ?_
              | refine go_do (valid_call rfl rfl rfl (within1 h2) rfl) rfl ?_
              | refine go_do (valid_call rfl rfl rfl (within0 h3) rfl) rfl ?_)
          | (refine hK _ ?_; clear hK K)
          | refine aw_text rfl ?_
          | exact aw_ret (show resA _ _ _ = some _ by kernel_rfl)
          | refine aw_seq_k (fun K hK => ?_))
    · rw [confB_no (by omega)]
      refine callOk_of 21 Tryz.func65 rfl rfl rfl rfl ?_ GG.to
      intro W A hG
      repeat (first
        | (refine go_at rfl ?_; first
            | refine go_do (valid_skip rfl) rfl ?_
            | refine go_do (valid_mv (.inl rfl) rfl) rfl ?_
            | (refine nxt_s 1 rfl ?_; refine go_do (valid_load_p tb rfl rfl rfl rfl rfl (by first | kernel_rfl | rfl)) (by first | kernel_rfl | rfl) ?_)
            | (refine nxt_s 1 rfl ?_; refine go_do (valid_fld_p tb rfl rfl rfl (by kernel_rfl)) rfl ?_)
            | refine go_do (valid_mv (.inr rfl) rfl) rfl ?_
            | refine go_do (valid_pick rfl rfl rfl) rfl ?_
            | refine go_do (valid_box rfl rfl rfl rfl rfl rfl) rfl ?_
            | refine go_do (valid_call rfl rfl rfl (within1 h1) rfl) rfl ?_
            | refine go_do (valid_call rfl rfl rfl (within0 h2) rfl) rfl ?_)
        | (refine hK _ ?_; clear hK K)
        | refine aw_text rfl ?_
        | exact aw_ret (show resA _ _ _ = some _ by kernel_rfl)
        | refine aw_seq_k (fun K hK => ?_))
  · rw [confB_no (by omega)]
    refine callOk_of 21 Tryz.func65 rfl rfl rfl rfl ?_ GG.to
    intro W A hG
    repeat (first
      | (refine go_at rfl ?_; first
          | refine go_do (valid_skip rfl) rfl ?_
          | refine go_do (valid_mv (.inl rfl) rfl) rfl ?_
          | (refine nxt_s 1 rfl ?_; refine go_do (valid_load_p tb rfl rfl rfl rfl rfl (by first | kernel_rfl | rfl)) (by first | kernel_rfl | rfl) ?_)
          | (refine nxt_s 1 rfl ?_; refine go_do (valid_fld_p tb rfl rfl rfl (by kernel_rfl)) rfl ?_)
          | refine go_do (valid_mv (.inr rfl) rfl) rfl ?_
          | refine go_do (valid_pick rfl rfl rfl) rfl ?_
          | refine go_do (valid_box rfl rfl rfl rfl rfl rfl) rfl ?_
          | refine go_do (valid_call rfl rfl rfl (within0 h1) rfl) rfl ?_)
      | (refine hK _ ?_; clear hK K)
      | refine aw_text rfl ?_
      | exact aw_ret (show resA _ _ _ = some _ by kernel_rfl)
      | refine aw_seq_k (fun K hK => ?_))
/-! ### New -/
def allI (n : Int) : Int := getI 18446744073709551615 0 n
theorem allI_lt {n : Int} (h0 : 0 ≤ n) (h : n ≤ 64) : 0 ≤ allI n ∧ allI n < 2 ^ n.toNat := by
  refine ⟨(getI_U _ _ _).1, ?_⟩
  unfold allI
  rw [getI_val _ _ _ ⟨by omega, by omega⟩ h]
  exact Int.emod_lt_of_pos _ (Int.pow_pos (by omega))
theorem allI_ne {n : Int} (h0 : 1 ≤ n) (h : n ≤ 64) : allI n ≠ 0 := by
  unfold allI
  rw [getI_val _ _ _ ⟨by omega, by omega⟩ h]
  intro e
  obtain ⟨k, hk⟩ : ∃ k, n.toNat = k + 1 := ⟨n.toNat - 1, by omega⟩
  have := Int.emod_emod_of_dvd (18446744073709551615 / 2 ^ (0 : Int).toNat) (show (2 : Int) ∣ 2 ^ n.toNat from ⟨2 ^ k, by rw [hk, Int.pow_succ, Int.mul_comm]⟩)
  rw [e] at this
  revert this; decide
def newK (a b c : Int) (n : Nat) : Kr := { cd := a, cp := b, ca := c, cs := n, sz := (a + b) * 4096, m := [], tn := n, ts := zsL n, sm := 0, sa := 0, sp := 0, priv := 0, su := false, mx := false, vic := -1, pb := a, pm := b, pf := setI (allI b) (tzI (allI b)) 1 0, am := c, af := allI c, ao := 0, ss := [], now := -1, sh := a + tzI (allI b), fs := [] }
theorem memnew' (sz : Int) (h : 0 ≤ sz) (h1 : sz ≤ 1099511627776) (h2 : sz % 4096 = 0) : Ok 66 [iu sz] (.tu [memA sz [], ii 0]) := by
  have hz : U sz := ⟨h, by omega⟩
  have := memnew_ok sz hz
  have e : MemNewC.rightN sz = true := by
    unfold MemNewC.rightN evenI
    rw [if_neg (by omega), h2, decide_eq_true h1]; rfl
  unfold MemNewC.newV at this
  rw [if_pos e] at this
  exact callOk_lt this rfl (tu_lt (cs := [cu sz, .v (.slice none 0 0)]) ⟨ltC.rf _, ltC.nil 2, trivial⟩)
theorem poolnew' (b m : Int) (hb : 0 ≤ b ∧ b ≤ 268435456) (hm : 0 ≤ m ∧ m ≤ 64) : Ok 67 [iu b, ii m] (.tu [.ag [cu b, ci m, cu (allI m)], ii 0]) := by
  have := poolnew_ok b m ⟨hb.1, by omega⟩ hm
  have e : PoolC2.rightP b m 0 = true := by
    unfold PoolC2.rightP
    rw [decide_eq_true hm.1, decide_eq_true hm.2, decide_eq_true hb.2, getI_val _ _ _ ⟨by omega, by omega⟩ hm.2]
    simp
  unfold PoolC2.newV at this
  rw [if_pos e] at this
  exact this
theorem asidnew' (m : Int) (hm : 1 ≤ m ∧ m ≤ 16) : Ok 68 [ii m] (.tu [.ag [ci m, cu (allI m), cu 0], ii 0]) := by
  have := asidnew_ok m
  have e : AsidC2.newV m = .tuple #[.agg #[.int .i64 m, .int .u64 (allI m), .int .u64 0], .int .i64 0] := by
    unfold AsidC2.newV
    rw [if_pos]; rfl
    unfold AsidC.rightA AsidC.within
    rw [decide_eq_true hm.1, decide_eq_true hm.2, getI_val _ _ _ ⟨by omega, by omega⟩ (by omega)]
    simp
  rw [e] at this
  exact this
theorem zset : ∃ z, (Tryz.prog.info? 203).bind (·.zero) = some z ∧ z.cells.toList = zS := by
  refine ⟨.agg zS.toArray, by kernel_rfl, ?_⟩
  show zS.toArray.toList = zS
  rfl
theorem zsL_get (n : Nat) : ∀ i : Nat, i < n * 45 → (zsL n)[i]? = zS[i % 45]? := by
  induction n with
  | zero => intro i h; omega
  | succ n ih =>
    intro i h
    have e : zsL (n + 1) = zS ++ zsL n := rfl
    have l : zS.length = 45 := rfl
    rw [e]
    by_cases hi : i < 45
    · rw [List.getElem?_append_left (by omega), Nat.mod_eq_of_lt hi]
    · rw [List.getElem?_append_right (by omega), l, ih (i - 45) (by omega), Nat.mod_eq_sub_mod (by omega : 45 ≤ i)]
theorem zsL_len (n : Nat) : (zsL n).length = n * 45 := by
  induction n with
  | zero => rfl
  | succ n ih =>
    have e : zsL (n + 1) = zS ++ zsL n := rfl
    have l : zS.length = 45 := rfl
    rw [e, List.length_append, ih, l]; omega
theorem made_zs (n : Nat) (z : Value) (h : z.cells.toList = zS) : (madeCells z.cells (n * 45)).toList = zsL n := by
  have l : z.cells.size = 45 := by rw [← Array.length_toList, h]; rfl
  apply List.ext_getElem?
  intro i
  by_cases hi : i < n * 45
  · rw [zsL_get n i hi, ← h]
    simp [madeCells, hi, l, List.getElem?_eq_getElem, Nat.mod_lt]
  · rw [List.getElem?_eq_none (by rw [Array.length_toList, size_madeCells]; omega), List.getElem?_eq_none (by rw [zsL_len]; omega)]
theorem tlbnew' (n : Nat) (hn : n ≤ 16) : Ok 69 [ii n] (.tu [.ag [.s n 45 (zsL n)], ii 0]) := by
  obtain ⟨z, hz, hc⟩ := zset
  have := tlbnew_ok n hn z hz
  rwa [made_zs n z hc] at this
theorem new_yes (a b c : Int) (n : Nat) (h : confB a b c n = true) : Ok 27 [confA a b c n] (.tu [.ag (newK a b c n).ce, ii 0]) := by
  obtain ⟨ha, hb, hc, hn⟩ := confB_iff.1 h
  have hm := smay_ok a b c n
  rw [h] at hm
  have l1 := allI_lt (n := b) (by omega) (by omega)
  have l2 := allI_ne (n := b) (by omega) (by omega)
  have h1 := memnew' ((a + b) * 4096) (by omega) (by omega) (by omega)
  have h2 := poolnew' a b (by omega) (by omega)
  have h3 := asidnew' c hc
  have h4 := tlbnew' n (by omega)
  have h5 := fresh_ok ((a + b) * 4096) [] a b (allI b) (by omega) (by omega) (U_fit l1.1 l1.2 (by omega)) l2 List.Pairwise.nil (by simp)
  have key : Ok 27 [confA a b c n] (.tu [.ag [ci a, ci b, ci c, ci n, cu ((a + b) * 4096), .s 0 2 [], .s n 45 (zsL n), cu 0, cu 0, cu 0, ci 0, cb false, cb false, ci (-1), cu a, ci b, cu (setI (allI b) (tzI (allI b)) 1 0), ci c, cu (allI c), cu 0, .v (.slice none 0 0), ci (-1), cu (a + tzI (allI b)), .v (.slice none 0 0)], ii 0]) := by
    refine callOk_of 63 Tryz.func27 rfl rfl rfl rfl ?_ GG.to
    intro W A hG
    repeat (first
      | (refine go_at rfl ?_; first
          | refine go_do (valid_mv (.inl rfl) rfl) rfl ?_
          | (refine nxt_s 1 rfl ?_; refine go_do (valid_load_p tb rfl rfl rfl rfl rfl (by first | kernel_rfl | rfl)) (by first | kernel_rfl | rfl) ?_)
          | (refine nxt_s 1 rfl ?_; refine go_do (valid_fld_p tb rfl rfl rfl (by kernel_rfl)) rfl ?_)
          | refine go_do (valid_mv (.inr rfl) rfl) rfl ?_
          | refine go_do (valid_extract rfl rfl rfl rfl) rfl ?_
          | refine go_do (valid_ar rfl rfl rfl rfl (by constructor) (by first | exact wr_u64 (by omega) (by omega) | exact wr_i64 (by omega) (by omega) | rfl)) rfl ?_
          | refine go_do (valid_cv rfl rfl rfl rfl rfl (by first | exact wr_u64 (by omega) (by omega) | exact wr_i64 (by omega) (by omega) | rfl)) rfl ?_
          | refine go_do (valid_box rfl rfl rfl rfl rfl rfl) rfl ?_
          | refine go_do (valid_alloc rfl rfl rfl rfl rfl) rfl ?_
          | (refine nxt_s 1 rfl ?_; refine go_do (valid_store_p rfl rfl rfl rfl rfl rfl (by first | kernel_rfl | rfl) rfl) (by first | kernel_rfl | rfl) ?_)
          | refine go_do (valid_not rfl rfl rfl) rfl ?_
          | refine go_do (valid_build rfl rfl rfl rfl) rfl ?_
          | refine go_do (valid_call rfl rfl rfl (hm) (by kernel_rfl)) rfl ?_
          | refine go_do (valid_call rfl rfl rfl (h1) (by kernel_rfl)) rfl ?_
          | refine go_do (valid_call rfl rfl rfl (h2) (by kernel_rfl)) rfl ?_
          | refine go_do (valid_call rfl rfl rfl (h3) (by kernel_rfl)) rfl ?_
          | refine go_do (valid_call rfl rfl rfl (h4) (by kernel_rfl)) rfl ?_
          | refine go_do (valid_call rfl rfl rfl (h5) (by kernel_rfl)) rfl ?_)
      | (refine hK _ ?_; clear hK K)
      | refine aw_text rfl ?_
      | exact aw_ret (show resA _ _ _ = some _ by kernel_rfl)
      | refine aw_cond0 rfl rfl ?_
      | refine aw_skip ?_
      | refine aw_seq_k (fun K hK => ?_))
  refine callOk_lt key rfl (tu_lt ?_)
  exact ⟨ltC.rf _, ltC.rf _, ltC.rf _, ltC.rf _, ltC.rf _, ltC.rf _, ltC.rf _, ltC.rf _, ltC.rf _, ltC.rf _, ltC.rf _, ltC.rf _, ltC.rf _, ltC.rf _, ltC.rf _, ltC.rf _, ltC.rf _, ltC.rf _, ltC.rf _, ltC.rf _, ltC.nil 3, ltC.rf _, ltC.rf _, ltC.nil 4, trivial⟩
theorem new_inv {a b c : Int} {n : Nat} (h : confB a b c n = true) : Inv 0 (newK a b c n) := by
  obtain ⟨ha, hb, hc, hn⟩ := confB_iff.1 h
  have l1 := allI_lt (n := b) (by omega) (by omega)
  have l2 := allI_ne (n := b) (by omega) (by omega)
  have l3 := allI_lt (n := c) (by omega) (by omega)
  have u1 : U (allI b) := U_fit l1.1 l1.2 (by omega)
  have t := tz_fit u1 l1.2 l2
  exact { cd := ha, cp := hb, ca := hc, cs := ⟨rfl, by show n ≤ 16; omega⟩, sz := rfl, pb := rfl, pm := rfl, am := rfl, pf := ⟨(setI_U _ _ _ _).1, fit_set u1 l1.2 t.1 t.2⟩, af := l3, ao := ⟨by show (0 : Int) ≤ 0; omega, by show (0 : Int) < _; exact Int.pow_pos (by omega)⟩, sh := ⟨by show a ≤ a + _; omega, by show a + tzI (allI b) < a + b; omega⟩, ts := rfl, m := List.Pairwise.nil, mc := fun c hc => (by cases hc), ml := Nat.le_refl _, fl := Nat.le_refl _, sl := by show 0 ≤ 32; omega, ss := fun s hs => (by cases hs), nw := .inl ⟨rfl, rfl, rfl, rfl⟩ }
/-! ### deeds -/
end Go.Proofs.YtgkodncknlankaaGreatDoor.SpN
/- Plain facts on words of bits: the lowest one, all of them; lists of cells, told anew. -/
namespace Go.Proofs.YtgkodncknlankaaGreatDoor.RfP
open Go.RowKit Go.Proofs.YtgkodncknlankaaGreatDoor.Bv Go.Proofs.YtgkodncknlankaaGreatDoor.VaSpec Go.Proofs.YtgkodncknlankaaGreatDoor.Base Go.Proofs.YtgkodncknlankaaGreatDoor.MemL Go.Proofs.YtgkodncknlankaaGreatDoor.RegR Go.Proofs.YtgkodncknlankaaGreatDoor.Ax Go.Proofs.YtgkodncknlankaaGreatDoor.MemC Go.Proofs.YtgkodncknlankaaGreatDoor.PutC Go.Proofs.YtgkodncknlankaaGreatDoor.MemC3 Go.Proofs.YtgkodncknlankaaGreatDoor.TzC Go.Proofs.YtgkodncknlankaaGreatDoor.OkS Go.Proofs.YtgkodncknlankaaGreatDoor.SpA Go.Proofs.YtgkodncknlankaaGreatDoor.SpB Go.Proofs.YtgkodncknlankaaGreatDoor.SpC Go.Proofs.YtgkodncknlankaaGreatDoor.SpD Go.Proofs.YtgkodncknlankaaGreatDoor.IterC Go.Proofs.YtgkodncknlankaaGreatDoor.SpE Go.Proofs.YtgkodncknlankaaGreatDoor.SpF Go.Proofs.YtgkodncknlankaaGreatDoor.SpG Go.Proofs.YtgkodncknlankaaGreatDoor.SpH Go.Proofs.YtgkodncknlankaaGreatDoor.SpI Go.Proofs.YtgkodncknlankaaGreatDoor.SpJ Go.Proofs.YtgkodncknlankaaGreatDoor.SpK Go.Proofs.YtgkodncknlankaaGreatDoor.SpN
open Go.Proofs.YtgkodncknlankaaGreatDoor.BitsC Go.Proofs.YtgkodncknlankaaGreatDoor.PteSpec
set_option linter.unusedVariables false
set_option linter.unusedSimpArgs false
theorem low_nat {x : Int} (h : U x) (h0 : x ≠ 0) : ∃ m, x.toNat = 2 ^ (tzI x).toNat * (2 * m + 1) := by
  obtain ⟨h1, h2⟩ := h
  obtain ⟨m, hm, _⟩ := Lib.ctzFrom_spec 64 x.toNat (by omega) (by omega)
  refine ⟨m, ?_⟩
  have : (tzI x).toNat = Lib.ctzFrom 64 x.toNat := by
    unfold tzI Lib.ctz
    rw [if_neg (by omega)]; simp
  rw [this]; exact hm
theorem low_at {x : Int} (h : U x) (h0 : x ≠ 0) : bitB x (tzI x) = true := by
  obtain ⟨m, hm⟩ := low_nat h h0
  rw [bitB_eq (by unfold tzI; omega), ← BitVec.testBit_toNat, X_nat h, hm, Nat.testBit_two_pow_mul]
  simp
theorem low_under {x i : Int} (h : U x) (h0 : x ≠ 0) (hi : 0 ≤ i) (hlt : i < tzI x) : bitB x i = false := by
  obtain ⟨m, hm⟩ := low_nat h h0
  rw [bitB_eq hi, ← BitVec.testBit_toNat, X_nat h, hm, Nat.testBit_two_pow_mul]
  simp; omega
theorem bit_zero (i : Int) (hi : 0 ≤ i) : bitB 0 i = false := by
  rw [bitB_eq hi]
  rw [show X 0 = 0#64 from rfl, BitVec.getLsbD_zero]
theorem ones_bit (j : Nat) (hj : j < 64) : (X 18446744073709551615).getLsbD j = true := by
  rw [show X 18446744073709551615 = BitVec.allOnes 64 from rfl, BitVec.getLsbD_allOnes, decide_eq_true hj]
theorem allI_step (i : Int) (h0 : 0 ≤ i) (h : i < 64) : setI (allI i) i 1 1 = allI (i + 1) := by
  unfold setI allI getI
  rw [X_B]
  congr 1
  apply BitVec.eq_of_getLsbD_eq
  intro j hj
  rw [setB_bit, getB_bit, getB_bit, decide_eq_true hj, Bool.true_and, show (1 : Int).toNat = 1 from rfl, show (0 : Int).toNat = 0 from rfl, Nat.zero_add, ones_bit j hj, Bool.and_true, Bool.and_true]
  by_cases e : j = i.toNat
  · rw [if_pos ⟨by omega, by omega⟩, e, Nat.sub_self, decide_eq_true (by omega)]; rfl
  · rw [if_neg (by omega)]
    by_cases e2 : j < i.toNat
    · rw [decide_eq_true e2, decide_eq_true (by omega)]
    · rw [decide_eq_false e2, decide_eq_false (by omega)]
theorem allI_zero : allI 0 = 0 := by
  unfold allI
  rw [getI_val _ _ _ ⟨by omega, by omega⟩ (by omega)]
  decide
theorem allI_U (n : Int) : U (allI n) := getI_U _ _ _
end Go.Proofs.YtgkodncknlankaaGreatDoor.RfP
/- Plain facts on lists of cells: what the document's Set and Clear come to. -/
namespace Go.Proofs.YtgkodncknlankaaGreatDoor.RfQ
open Go.RowKit Go.Proofs.YtgkodncknlankaaGreatDoor.Bv Go.Proofs.YtgkodncknlankaaGreatDoor.VaSpec Go.Proofs.YtgkodncknlankaaGreatDoor.Base Go.Proofs.YtgkodncknlankaaGreatDoor.MemL Go.Proofs.YtgkodncknlankaaGreatDoor.RegR Go.Proofs.YtgkodncknlankaaGreatDoor.Ax Go.Proofs.YtgkodncknlankaaGreatDoor.MemC Go.Proofs.YtgkodncknlankaaGreatDoor.PutC Go.Proofs.YtgkodncknlankaaGreatDoor.MemC3 Go.Proofs.YtgkodncknlankaaGreatDoor.TzC Go.Proofs.YtgkodncknlankaaGreatDoor.OkS Go.Proofs.YtgkodncknlankaaGreatDoor.SpA Go.Proofs.YtgkodncknlankaaGreatDoor.SpB Go.Proofs.YtgkodncknlankaaGreatDoor.SpC Go.Proofs.YtgkodncknlankaaGreatDoor.SpD Go.Proofs.YtgkodncknlankaaGreatDoor.IterC Go.Proofs.YtgkodncknlankaaGreatDoor.SpE Go.Proofs.YtgkodncknlankaaGreatDoor.SpF Go.Proofs.YtgkodncknlankaaGreatDoor.SpG Go.Proofs.YtgkodncknlankaaGreatDoor.SpH Go.Proofs.YtgkodncknlankaaGreatDoor.SpI Go.Proofs.YtgkodncknlankaaGreatDoor.SpJ Go.Proofs.YtgkodncknlankaaGreatDoor.SpK Go.Proofs.YtgkodncknlankaaGreatDoor.SpN Go.Proofs.YtgkodncknlankaaGreatDoor.RfP
open Go.Proofs.YtgkodncknlankaaGreatDoor.BitsC Go.Proofs.YtgkodncknlankaaGreatDoor.PteSpec
set_option linter.unusedVariables false
set_option linter.unusedSimpArgs false
def stepS (p v : Int) (s : List (Int × Int) × Bool) (c : Int × Int) : List (Int × Int) × Bool :=
  if s.2 = false ∧ p < c.1 then (s.1 ++ [(p, v), c], true) else if c.1 = p then s else (s.1 ++ [c], s.2)
def finS (p v : Int) (s : List (Int × Int) × Bool) : List (Int × Int) := if s.2 = false then s.1 ++ [(p, v)] else s.1
theorem fold_done (p v : Int) : ∀ (cs acc : List (Int × Int)), cs.foldl (stepS p v) (acc, true) = (acc ++ cs.filter (fun c => !decide (c.1 = p)), true)
  | [], acc => by simp
  | c :: cs, acc => by
    simp only [List.foldl_cons]
    by_cases h : c.1 = p
    · rw [show stepS p v (acc, true) c = (acc, true) by simp [stepS, h], fold_done p v cs acc]
      simp [h]
    · rw [show stepS p v (acc, true) c = (acc ++ [c], true) by simp [stepS, h], fold_done p v cs (acc ++ [c])]
      simp [h]
theorem filt_all {p : Int} {cs : List (Int × Int)} (h : ∀ c ∈ cs, c.1 ≠ p) : cs.filter (fun c => !decide (c.1 = p)) = cs :=
  List.filter_eq_self.2 fun c hc => by simp [h c hc]
theorem fold_set (p v : Int) (hv : v ≠ 0) : ∀ (cs acc : List (Int × Int)), Srt cs → finS p v (cs.foldl (stepS p v) (acc, false)) = acc ++ putM cs p v
  | [], acc, _ => by simp [finS, putM, hv]
  | c :: cs, acc, hs => by
    have hs' := List.pairwise_cons.1 hs
    simp only [List.foldl_cons, putM]
    by_cases h1 : c.1 < p
    · rw [show stepS p v (acc, false) c = (acc ++ [c], false) by unfold stepS; rw [if_neg (by simp; omega), if_neg (by omega)], fold_set p v hv cs _ hs'.2, if_pos h1]
      simp
    · rw [if_neg h1]
      by_cases h2 : c.1 = p
      · rw [show stepS p v (acc, false) c = (acc, false) by unfold stepS; rw [if_neg (by simp; omega), if_pos h2], if_pos h2, if_neg hv]
        cases cs with
        | nil => simp [finS]
        | cons d ds =>
          have hd := hs'.1 d (by simp)
          simp only [List.foldl_cons]
          rw [show stepS p v (acc, false) d = (acc ++ [(p, v), d], true) by unfold stepS; rw [if_pos ⟨rfl, by omega⟩], fold_done]
          rw [filt_all (fun x hx => by have := hs'.1 x (List.mem_cons_of_mem _ hx); omega)]
          simp [finS]
      · rw [show stepS p v (acc, false) c = (acc ++ [(p, v), c], true) by unfold stepS; rw [if_pos ⟨rfl, by omega⟩], fold_done, if_neg h2, if_neg hv]
        rw [filt_all (fun x hx => by have := hs'.1 x hx; omega)]
        simp [finS]
theorem put0_filt (p : Int) : ∀ (cs : List (Int × Int)), Srt cs → putM cs p 0 = cs.filter (fun c => !decide (c.1 = p))
  | [], _ => by simp [putM]
  | c :: cs, hs => by
    have hs' := List.pairwise_cons.1 hs
    simp only [putM]
    by_cases h1 : c.1 < p
    · rw [if_pos h1, put0_filt p cs hs'.2, List.filter_cons_of_pos (by simp; omega)]
    · rw [if_neg h1]
      by_cases h2 : c.1 = p
      · rw [if_pos h2, if_true, List.filter_cons_of_neg (by simp [h2]), filt_all (fun x hx => by have := hs'.1 x hx; omega)]
      · rw [if_neg h2, if_true, List.filter_cons_of_pos (by simp [h2]), filt_all (fun x hx => by have := hs'.1 x hx; omega)]
theorem set_put (p v : Int) (cs : List (Int × Int)) (hs : Srt cs) : finS p v (cs.foldl (stepS p v) ([], decide (v = 0))) = putM cs p v := by
  by_cases hv : v = 0
  · subst hv
    rw [decide_eq_true rfl, fold_done, put0_filt p cs hs]
    simp [finS]
  · rw [decide_eq_false hv, fold_set p v hv cs [] hs]; simp
def outB (a b : Int) (c : Int × Int) : Bool := decide (c.1 < a) || decide (b ≤ c.1)
theorem lb_zero (xs : List (Int × Int)) (a : Int) (h : ∀ c ∈ xs, a ≤ c.1) : lb xs a = 0 := by
  cases xs with
  | nil => rfl
  | cons c cs => simp only [lb]; rw [if_neg (by have := h c (by simp); omega)]
theorem clear_filt (a b : Int) (hab : a ≤ b) : ∀ (xs : List (Int × Int)), Srt xs → ClearC.clearM xs a b = xs.filter (outB a b)
  | [], _ => rfl
  | x :: xs, hs => by
    have hs' := List.pairwise_cons.1 hs
    have ih := clear_filt a b hab xs hs'.2
    unfold ClearC.clearM at ih ⊢
    simp only [lb]
    by_cases h1 : x.1 < a
    · rw [if_pos h1, if_pos (by omega), List.take_succ_cons, List.drop_succ_cons, List.cons_append, ih, List.filter_cons_of_pos (by simp [outB, h1])]
    · rw [if_neg h1, List.take_zero, List.nil_append]
      by_cases h2 : x.1 < b
      · rw [if_pos h2, List.drop_succ_cons, List.filter_cons_of_neg (by simp [outB]; omega), ← ih, lb_zero xs a (fun c hc => by have := hs'.1 c hc; omega)]
        simp
      · rw [if_neg h2, List.drop_zero]
        symm
        exact List.filter_eq_self.2 fun c hc => by
          rcases List.mem_cons.1 hc with rfl | hc
          · simp [outB]; omega
          · have := hs'.1 c hc; simp [outB]; omega
theorem wipe_filt (f : Int) (xs : List (Int × Int)) (hs : Srt xs) : TableC.wipeM xs f = xs.filter (outB (f * 512) (f * 512 + 512)) := clear_filt _ _ (by omega) xs hs
end Go.Proofs.YtgkodncknlankaaGreatDoor.RfQ
/- Plain: memories whose cells lie in frames that aren't free, and lead to such; what split.Down does; pages of all levels. -/
namespace Go.Proofs.YtgkodncknlankaaGreatDoor.LaD
open Go.RowKit Go.Proofs.YtgkodncknlankaaGreatDoor.Bv Go.Proofs.YtgkodncknlankaaGreatDoor.VaSpec Go.Proofs.YtgkodncknlankaaGreatDoor.Base Go.Proofs.YtgkodncknlankaaGreatDoor.MemL Go.Proofs.YtgkodncknlankaaGreatDoor.RegR Go.Proofs.YtgkodncknlankaaGreatDoor.Ax Go.Proofs.YtgkodncknlankaaGreatDoor.MemC Go.Proofs.YtgkodncknlankaaGreatDoor.PutC Go.Proofs.YtgkodncknlankaaGreatDoor.MemC3 Go.Proofs.YtgkodncknlankaaGreatDoor.TzC Go.Proofs.YtgkodncknlankaaGreatDoor.OkS Go.Proofs.YtgkodncknlankaaGreatDoor.SpA Go.Proofs.YtgkodncknlankaaGreatDoor.SpB Go.Proofs.YtgkodncknlankaaGreatDoor.SpC Go.Proofs.YtgkodncknlankaaGreatDoor.SpF Go.Proofs.YtgkodncknlankaaGreatDoor.SpI Go.Proofs.YtgkodncknlankaaGreatDoor.SpJ Go.Proofs.YtgkodncknlankaaGreatDoor.SpN Go.Proofs.YtgkodncknlankaaGreatDoor.RfP Go.Proofs.YtgkodncknlankaaGreatDoor.RfQ Go.Proofs.YtgkodncknlankaaGreatDoor.LaA Go.Proofs.YtgkodncknlankaaGreatDoor.LaB Go.Proofs.YtgkodncknlankaaGreatDoor.LaC
open Go.Proofs.YtgkodncknlankaaGreatDoor.BitsC Go.Proofs.YtgkodncknlankaaGreatDoor.PteSpec
set_option linter.unusedVariables false
set_option linter.unusedSimpArgs false
set_option maxRecDepth 10000
set_option maxHeartbeats 1000000
/-! ### pages -/
theorem entP_len {rec : Int → Int → List Pg} {M : Nat} (h1 : 1 ≤ M) (hrec : ∀ t a, (rec t a).length ≤ M) (p : Pte) (l a : Int) : (entP rec p l a).length ≤ M := by
  unfold entP
  split
  · simp
  · split
    · simpa using h1
    · exact hrec _ _
theorem pages_len0 (sz : Int) (xs : List (Int × Int)) (t b : Int) : (pagesN sz xs 0 t b).length ≤ 512 := by
  have := flat_bd (fun i : Nat => entP (fun _ _ => []) (atM sz xs t i) 0 (adr b i 0)) 1 (fun i => entP_len (by omega) (fun _ _ => by simp) _ _ _) (List.range 512)
  rw [List.length_range] at this
  exact this
theorem pages_len1 (sz : Int) (xs : List (Int × Int)) (t b : Int) : (pagesN sz xs 1 t b).length ≤ 262144 := by
  have := flat_bd (fun i : Nat => entP (pagesN sz xs 0) (atM sz xs t i) (0 + 1 : Nat) (adr b i (0 + 1 : Nat))) 512 (fun i => entP_len (by omega) (fun t a => pages_len0 sz xs t a) _ _ _) (List.range 512)
  rw [List.length_range] at this
  exact this
theorem pages_len2 (sz : Int) (xs : List (Int × Int)) (t b : Int) : (pagesN sz xs 2 t b).length ≤ 134217728 := by
  have := flat_bd (fun i : Nat => entP (pagesN sz xs 1) (atM sz xs t i) (1 + 1 : Nat) (adr b i (1 + 1 : Nat))) 262144 (fun i => entP_len (by omega) (fun t a => pages_len1 sz xs t a) _ _ _) (List.range 512)
  rw [List.length_range] at this
  exact this
section
variable (sz : Int) (xs : List (Int × Int)) (hs : Srt xs) (hu : Uw xs)
include hs hu
theorem pages_z (t b : Int) (ht : 0 ≤ t ∧ t < 17592186044416) (hb : U b) : Ok 45 [memA sz xs, iu t, ii 0, iu b] (.m (.c (.s (pagesN sz xs 0 t b).length 8 (flP (pagesN sz xs 0 t b))))) :=
  pages_ok0 sz xs t b 0 (fun _ _ => []) ht hb (by omega) (by omega) hs hu (fun _ _ => by simp) (fun h => by omega) _ rfl
theorem pages_o (t b : Int) (ht : 0 ≤ t ∧ t < 17592186044416) (hb : U b) : Ok 45 [memA sz xs, iu t, ii 1, iu b] (.m (.c (.s (pagesN sz xs 1 t b).length 8 (flP (pagesN sz xs 1 t b))))) :=
  pages_ok0 sz xs t b 1 (pagesN sz xs 0) ht hb (by omega) (by omega) hs hu (fun t a => Nat.le_trans (pages_len0 sz xs t a) (by omega)) (fun _ t a h1 h2 => pages_z sz xs hs hu t a h1 h2) _ rfl
theorem pages_t (t b : Int) (ht : 0 ≤ t ∧ t < 17592186044416) (hb : U b) : Ok 45 [memA sz xs, iu t, ii 2, iu b] (.m (.c (.s (pagesN sz xs 2 t b).length 8 (flP (pagesN sz xs 2 t b))))) :=
  pages_ok0 sz xs t b 2 (pagesN sz xs 1) ht hb (by omega) (by omega) hs hu (fun t a => pages_len1 sz xs t a) (fun _ t a h1 h2 => pages_o sz xs hs hu t a h1 h2) _ rfl
end
/-! ### looking after putting -/
theorem look_cons (c : Int × Int) (cs : List (Int × Int)) (a : Int) : MemC.look (c :: cs) a = if c.1 < a then MemC.look cs a else if c.1 = a then c.2 else 0 := by
  by_cases h : c.1 < a
  · have e : MemC.lb (c :: cs) a = MemC.lb cs a + 1 := by simp [MemC.lb, h]
    simp only [MemC.look, e, List.getElem?_cons_succ, if_pos h]
  · have e : MemC.lb (c :: cs) a = 0 := by simp [MemC.lb, h]
    simp only [MemC.look, e, List.getElem?_cons_zero, if_neg h]
theorem look_nil (a : Int) : MemC.look [] a = 0 := rfl
theorem look_put (v : Int) : ∀ (xs : List (Int × Int)) (k a : Int), Srt xs → MemC.look (putM xs k v) a = if a = k then v else MemC.look xs a
  | [], k, a, _ => by
    simp only [putM]
    (repeat' split) <;> (try simp only [look_cons, look_nil]) <;> (repeat' split) <;> first | rfl | omega
  | c :: cs, k, a, hs => by
    have hs' := List.pairwise_cons.1 hs
    have hgt : ∀ b : Int, b ≤ c.1 → MemC.look cs b = 0 := fun b hb => look_none fun d hd => by have := hs'.1 d hd; omega
    have IH := look_put v cs k a hs'.2
    simp only [putM]
    (repeat' split) <;> (try simp only [look_cons, IH]) <;> (repeat' split) <;> first | rfl | omega | (rw [hgt a (by omega)]; done) | (rw [hgt a (by omega)]; omega)
theorem at_put {sz : Int} {xs : List (Int × Int)} {t i v s j : Int} (hs : Srt xs) (hi : 0 ≤ i ∧ i < 512) (hj : 0 ≤ j ∧ j < 512) (hd : s * 4096 + j * 8 < sz) : atM sz (putM xs (t * 512 + i) v) s j = if s = t ∧ j = i then pteOf v else atM sz xs s j := by
  unfold atM wordM
  rw [if_pos hd, if_pos hd, look_put v xs _ _ hs, show (s * 4096 + j * 8) / 8 = s * 512 + j by omega]
  by_cases h : s = t ∧ j = i
  · obtain ⟨rfl, rfl⟩ := h
    simp
  · rw [if_neg h, if_neg (by omega)]
/-! ### memories -/
/-- a frame that isn't free -/
def Al (cd cp f s : Int) : Prop := (cd ≤ s ∧ s < cd + cp) ∧ bitB f (s - cd) = false
/-- a link that is no bad one at the levels above the lowest -/
def lkP (p : Pte) : Bool := p.v && !p.r && !p.w && !p.x && !p.u && !p.a && !p.d && (p.high == 0)
/-- an entry that lies in a table -/
def EOk (cd cp f : Int) (p : Pte) : Prop := leafP p = true ∨ (lkP p = true ∧ Al cd cp f p.ppn)
structure GM (cd cp : Int) (sz : Int) (xs : List (Int × Int)) (f : Int) : Prop where
  bd : 1 ≤ cd ∧ cd ≤ 524288
  bp : 1 ≤ cp ∧ cp ≤ 64
  bz : sz = (cd + cp) * 4096
  bf : 0 ≤ f ∧ f < 2 ^ cp.toNat
  s : Srt xs
  c : ∀ c ∈ xs, Al cd cp f (c.1 / 512) ∧ U c.2 ∧ EOk cd cp f (pteOf c.2)
theorem GM.uf {cd cp sz f : Int} {xs : List (Int × Int)} (h : GM cd cp sz xs f) : U f := U_fit h.bf.1 h.bf.2 (by have := h.bp; omega)
theorem GM.u {cd cp sz f : Int} {xs : List (Int × Int)} (h : GM cd cp sz xs f) : Uw xs := fun c hc => by
  obtain ⟨⟨⟨a, b⟩, _⟩, e, _⟩ := h.c c hc
  have := h.bd; have := h.bp
  exact ⟨⟨by omega, by omega⟩, e⟩
theorem look_is {xs : List (Int × Int)} {k : Int} : MemC.look xs k = 0 ∨ ∃ c ∈ xs, c.1 = k ∧ MemC.look xs k = c.2 := by
  unfold MemC.look
  split
  · rename_i c hc
    split
    · rename_i h; exact .inr ⟨c, List.mem_of_getElem? hc, h, rfl⟩
    · exact .inl rfl
  · exact .inl rfl
theorem pte0 : pteOf 0 = zP := by decide
/-- what stands in an allocated table -/
theorem GM.at {cd cp sz f : Int} {xs : List (Int × Int)} (h : GM cd cp sz xs f) (s i : Int) : atM sz xs s i = zP ∨ EOk cd cp f (atM sz xs s i) := by
  unfold atM wordM
  split
  · rcases look_is (xs := xs) (k := (s * 4096 + i * 8) / 8) with e | ⟨c, hc, _, e⟩
    · rw [e]; exact .inl pte0
    · rw [e]; exact .inr (h.c c hc).2.2
  · exact .inl pte0
theorem lk_links {p : Pte} (h : lkP p = true) {l : Int} (hl : 1 ≤ l) : linksP p l = true := by
  obtain ⟨v, r, w, x, u, g, a, d, rsw, ppn, high⟩ := p
  unfold lkP at h
  unfold linksP badP linkP
  simp only [Bool.and_eq_true, Bool.not_eq_true', beq_iff_eq] at h
  obtain ⟨⟨⟨⟨⟨⟨⟨rfl, rfl⟩, rfl⟩, rfl⟩, rfl⟩, rfl⟩, rfl⟩, rfl⟩ := h
  have : (l == 0) = false := by simpa using (by omega : ¬ l = 0)
  simp [this]
theorem links_no {p : Pte} {l : Int} (h : linkP p = false) : linksP p l = false := by unfold linksP; rw [h]; rfl
theorem leaf_link {p : Pte} (h : leafP p = true) : linkP p = false ∧ p.v = true := by
  obtain ⟨v, r, w, x, u, g, a, d, rsw, ppn, high⟩ := p
  revert h
  unfold leafP linkP
  cases v <;> cases r <;> cases x <;> simp
theorem lk_link {p : Pte} (h : lkP p = true) : linkP p = true ∧ p.v = true ∧ leafP p = false := by
  obtain ⟨v, r, w, x, u, g, a, d, rsw, ppn, high⟩ := p
  revert h
  unfold lkP leafP linkP
  cases v <;> cases r <;> cases x <;> simp
/-- three kinds -/
theorem EOk.kinds {cd cp f : Int} {p : Pte} (h : p = zP ∨ EOk cd cp f p) {l : Int} (hl : 1 ≤ l) :
    (p.v = false ∧ leafP p = false ∧ linksP p l = false) ∨ (p.v = true ∧ leafP p = true ∧ linksP p l = false) ∨ (p.v = true ∧ leafP p = false ∧ linksP p l = true ∧ linkP p = true ∧ Al cd cp f p.ppn) := by
  rcases h with rfl | h | ⟨h, ha⟩
  · exact .inl ⟨rfl, rfl, rfl⟩
  · obtain ⟨a, b⟩ := leaf_link h
    exact .inr (.inl ⟨b, h, links_no a⟩)
  · obtain ⟨a, b, c⟩ := lk_link h
    exact .inr (.inr ⟨b, c, lk_links h hl, a, ha⟩)
/-- a link to a table -/
def lnk (n : Int) : Pte := ⟨true, false, false, false, false, false, false, false, 0, n, 0⟩
theorem lnk_back {n : Int} (h : 0 ≤ n ∧ n < 17592186044416) : pteOf (PteC.putE (lnk n)) = lnk n := by
  have hm : mayP (lnk n) = true := by rw [mayP_iff]; unfold lnk; simp; omega
  have hU : (lnk n).U := by unfold Pte.U lnk; simp; omega
  unfold PteC.putE
  rw [if_pos hm, pteOf_word _ hU hm]
theorem lnk_U {n : Int} (h : 0 ≤ n ∧ n < 17592186044416) : (lnk n).U := by unfold Pte.U lnk; simp; omega
/-! ### the way down -/
/-- the way down to a level, tables being made: memory, free frames, table, error -/
def dnN (sz cd addr want : Int) : Nat → List (Int × Int) → Int → Int → List (Int × Int) × Int × Int × Int
  | 0, xs, f, t => (xs, f, t, 0)
  | l + 1, xs, f, t =>
    if ((l + 1 : Nat) : Int) ≤ want then (xs, f, t, 0)
    else if leafP (atM sz xs t (idx addr ((l + 1 : Nat) : Int))) then (xs, f, t, 6)
    else if (atM sz xs t (idx addr ((l + 1 : Nat) : Int))).v then dnN sz cd addr want l xs f (atM sz xs t (idx addr ((l + 1 : Nat) : Int))).ppn
    else if f = 0 then (xs, f, t, 8)
    else dnN sz cd addr want l (withM sz xs t (idx addr ((l + 1 : Nat) : Int)) (lnk (cd + tzI f))) (setI f (tzI f) 1 0) (cd + tzI f)
/-- a frame that is taken -/
theorem GM.take {cd cp sz f : Int} {xs : List (Int × Int)} (h : GM cd cp sz xs f) (h0 : f ≠ 0) {s : Int} (hs : Al cd cp f s) : s ≠ cd + tzI f ∧ Al cd cp (setI f (tzI f) 1 0) s := by
  have t1 := tz_fit h.uf h.bf.2 h0
  have hb := low_at h.uf h0
  have hcp := h.bp
  refine ⟨fun e => ?_, hs.1, ?_⟩
  · have := hs.2
    rw [e, show cd + tzI f - cd = tzI f by omega, hb] at this
    cases this
  · have := hs.1
    rw [bit_set h.uf t1.1 (by omega) (by omega) (by omega)]
    split
    · rfl
    · exact hs.2
theorem GM.al {cd cp sz f : Int} {xs : List (Int × Int)} (h : GM cd cp sz xs f) (h0 : f ≠ 0) : Al cd cp (setI f (tzI f) 1 0) (cd + tzI f) ∧ (0 ≤ tzI f ∧ tzI f < cp) := by
  have t1 := tz_fit h.uf h.bf.2 h0
  have hcp := h.bp
  refine ⟨⟨⟨by omega, by omega⟩, ?_⟩, t1.1, by omega⟩
  rw [show cd + tzI f - cd = tzI f by omega, bit_set h.uf t1.1 (by omega) t1.1 (by omega), if_pos rfl]
  rfl
theorem GM.wipe {cd cp sz f : Int} {xs : List (Int × Int)} (h : GM cd cp sz xs f) (h0 : f ≠ 0) : TableC.wipeM xs (cd + tzI f) = xs := by
  rw [wipe_filt _ _ h.s]
  refine List.filter_eq_self.2 fun c hc => ?_
  have h1 := (h.take h0 (h.c c hc).1).1
  unfold outB
  rw [Bool.or_eq_true, decide_eq_true_eq, decide_eq_true_eq]
  omega
theorem GM.mono {cd cp sz f f' : Int} {xs : List (Int × Int)} (h : GM cd cp sz xs f) (hf : 0 ≤ f' ∧ f' < 2 ^ cp.toNat) (ha : ∀ s, Al cd cp f s → Al cd cp f' s) : GM cd cp sz xs f' :=
  ⟨h.bd, h.bp, h.bz, hf, h.s, fun c hc => by
    obtain ⟨a, b, d⟩ := h.c c hc
    refine ⟨ha _ a, b, ?_⟩
    rcases d with d | ⟨d, e⟩
    · exact .inl d
    · exact .inr ⟨d, ha _ e⟩⟩
theorem GM.put {cd cp sz f : Int} {xs : List (Int × Int)} (h : GM cd cp sz xs f) {t i v : Int} (ht : Al cd cp f t) (hi : 0 ≤ i ∧ i < 512) (hv : U v) (he : v ≠ 0 → EOk cd cp f (pteOf v)) : GM cd cp sz (putM xs (t * 512 + i) v) f :=
  ⟨h.bd, h.bp, h.bz, h.bf, putM_srt _ _ _ h.s, fun c hc => by
    rcases putM_mem _ _ _ _ hc with hc | ⟨rfl, hv0⟩
    · exact h.c c hc
    · refine ⟨?_, hv, he hv0⟩
      show Al cd cp f ((t * 512 + i) / 512)
      rw [show (t * 512 + i) / 512 = t by omega]; exact ht⟩
theorem GM.with {cd cp sz f : Int} {xs : List (Int × Int)} (h : GM cd cp sz xs f) {t i : Int} {p : Pte} (ht : Al cd cp f t) (hi : 0 ≤ i ∧ i < 512) (hp : p.U) : withM sz xs t i p = putM xs (t * 512 + i) (PteC.putE p) :=
  with_is hp (by have := h.bd; have := ht.1; omega) hi (by rw [h.bz]; have := ht.1; omega)
/-- a new table is hung in -/
theorem GM.hang {cd cp sz f : Int} {xs : List (Int × Int)} (h : GM cd cp sz xs f) (h0 : f ≠ 0) {t i : Int} (ht : Al cd cp f t) (hi : 0 ≤ i ∧ i < 512) :
    GM cd cp sz (withM sz xs t i (lnk (cd + tzI f))) (setI f (tzI f) 1 0) := by
  obtain ⟨ha, t1⟩ := h.al h0
  have hcp := h.bp
  have hcd := h.bd
  have hn : 0 ≤ cd + tzI f ∧ cd + tzI f < 17592186044416 := by omega
  have h' := h.mono (f' := setI f (tzI f) 1 0) ⟨(setI_U _ _ _ _).1, fit_set h.uf h.bf.2 t1.1 (by omega)⟩ (fun s hs => (h.take h0 hs).2)
  rw [h.with ht hi (lnk_U hn)]
  refine h'.put (h.take h0 ht).2 hi (putE_U _ (lnk_U hn)) fun _ => ?_
  rw [lnk_back hn]
  exact .inr ⟨rfl, ha⟩
/-- what holds of the way down's end -/
theorem dn_good (cd cp sz addr want : Int) (hw : 0 ≤ want) : ∀ (l : Nat) (xs : List (Int × Int)) (f t : Int), GM cd cp sz xs f → Al cd cp f t →
    (dnN sz cd addr want l xs f t).2.2.2 = 0 → GM cd cp sz (dnN sz cd addr want l xs f t).1 (dnN sz cd addr want l xs f t).2.1 ∧ Al cd cp (dnN sz cd addr want l xs f t).2.1 (dnN sz cd addr want l xs f t).2.2.1 ∧ (dnN sz cd addr want l xs f t).1.length ≤ xs.length + l ∧ (∀ s, Al cd cp f s → Al cd cp (dnN sz cd addr want l xs f t).2.1 s)
  | 0, xs, f, t, h, ht, _ => ⟨h, ht, by show xs.length ≤ xs.length + 0; omega, fun s hs => hs⟩
  | l + 1, xs, f, t, h, ht, he => by
    have hi := idx_bd addr ((l + 1 : Nat) : Int)
    have hk := EOk.kinds (h.at t (idx addr ((l + 1 : Nat) : Int))) (l := ((l + 1 : Nat) : Int)) (by omega)
    unfold dnN at he ⊢
    split
    · exact ⟨h, ht, by show xs.length ≤ xs.length + (l + 1); omega, fun s hs => hs⟩
    · rename_i c1
      rw [if_neg c1] at he
      split
      · rename_i c2; rw [if_pos c2] at he; cases he
      · rename_i c2
        rw [if_neg c2] at he
        split
        · rename_i c3
          rw [if_pos c3] at he
          rcases hk with ⟨k1, _⟩ | ⟨_, k2, _⟩ | ⟨_, _, _, _, k5⟩
          · rw [k1] at c3; cases c3
          · exact absurd k2 c2
          · obtain ⟨i1, i2, i3, i4⟩ := dn_good cd cp sz addr want hw l xs f _ h k5 he
            exact ⟨i1, i2, by omega, i4⟩
        · rename_i c3
          rw [if_neg c3] at he
          split
          · rename_i c4; rw [if_pos c4] at he; cases he
          · rename_i c4
            rw [if_neg c4] at he
            obtain ⟨i1, i2, i3, i4⟩ := dn_good cd cp sz addr want hw l _ _ _ (h.hang c4 ht hi) (h.al c4).1 he
            have := with_len sz xs t (idx addr ((l + 1 : Nat) : Int)) (lnk (cd + tzI f))
            exact ⟨i1, i2, by omega, fun s hs => i4 s (h.take c4 hs).2⟩
/-- where a way ends, in this memory, and in each that has the same links -/
theorem reach_spec (cd cp sz addr want : Int) (hw : 0 ≤ want) {xs : List (Int × Int)} {f : Int} (h : GM cd cp sz xs f) : ∀ (l : Nat) (t : Int), Al cd cp f t → want ≤ (l : Int) →
    ∃ (l' : Nat) (t' : Int), reachN sz xs addr want l t = (t', (l' : Int)) ∧ l' ≤ l ∧ want ≤ (l' : Int) ∧ Al cd cp f t' ∧ (want < (l' : Int) → linksP (atM sz xs t' (idx addr (l' : Int))) (l' : Int) = false) ∧ dnN sz cd addr want l xs f t = dnN sz cd addr want l' xs f t' ∧
      (∀ xs', (∀ s i, Al cd cp f s → (0 ≤ i ∧ i < 512) → linkP (atM sz xs s i) = true → atM sz xs' s i = atM sz xs s i) → reachN sz xs' addr want l t = reachN sz xs' addr want l' t')
  | 0, t, ht, hl => ⟨0, t, rfl, Nat.le_refl _, hl, ht, fun hh => by omega, rfl, fun _ _ => rfl⟩
  | l + 1, t, ht, hl => by
    have hi := idx_bd addr ((l + 1 : Nat) : Int)
    have hk := EOk.kinds (h.at t (idx addr ((l + 1 : Nat) : Int))) (l := ((l + 1 : Nat) : Int)) (by omega)
    by_cases c1 : want < ((l + 1 : Nat) : Int)
    · rcases hk with ⟨_, _, k3⟩ | ⟨_, _, k3⟩ | ⟨k1, k2, k3, k4, k5⟩
      · exact ⟨l + 1, t, reachN_no (fun _ => k3) hw, Nat.le_refl _, hl, ht, fun _ => k3, rfl, fun _ _ => rfl⟩
      · exact ⟨l + 1, t, reachN_no (fun _ => k3) hw, Nat.le_refl _, hl, ht, fun _ => k3, rfl, fun _ _ => rfl⟩
      · obtain ⟨l', t', i1, i2, i3, i4, i5, i6, i7⟩ := reach_spec cd cp sz addr want hw h l _ k5 (by omega)
        refine ⟨l', t', (reachN_go c1 k3).trans i1, by omega, i3, i4, i5, ?_, fun xs' hx => ?_⟩
        · rw [← i6]
          conv => lhs; unfold dnN
          rw [if_neg (by omega), if_neg (by rw [k2]; simp), if_pos k1]
        · have e := hx t _ ht hi k4
          rw [reachN_go c1 (by rw [e]; exact k3), e]
          exact i7 xs' hx
    · exact ⟨l + 1, t, reachN_no (fun hh => absurd hh c1) hw, Nat.le_refl _, hl, ht, fun hh => absurd hh c1, rfl, fun _ _ => rfl⟩
/-- the links stay when a table is hung in where nothing is -/
theorem hang_links {cd cp sz f : Int} {xs : List (Int × Int)} (h : GM cd cp sz xs f) (h0 : f ≠ 0) {t i : Int} (ht : Al cd cp f t) (hi : 0 ≤ i ∧ i < 512) (hn : (atM sz xs t i).v = false) :
    ∀ s j, Al cd cp f s → (0 ≤ j ∧ j < 512) → linkP (atM sz xs s j) = true → atM sz (withM sz xs t i (lnk (cd + tzI f))) s j = atM sz xs s j := fun s j hs hj hlk => by
  obtain ⟨ha, t1⟩ := h.al h0
  have hcp := h.bp
  have hcd := h.bd
  have hz := h.bz
  have b := hs.1
  rw [h.with ht hi (lnk_U (by omega)), at_put h.s hi hj (by rw [hz]; omega), if_neg]
  rintro ⟨rfl, rfl⟩
  unfold linkP at hlk
  rw [hn] at hlk
  cases hlk
/-- and the new link is there -/
theorem hang_at {cd cp sz f : Int} {xs : List (Int × Int)} (h : GM cd cp sz xs f) (h0 : f ≠ 0) {t i : Int} (ht : Al cd cp f t) (hi : 0 ≤ i ∧ i < 512) : atM sz (withM sz xs t i (lnk (cd + tzI f))) t i = lnk (cd + tzI f) := by
  obtain ⟨ha, t1⟩ := h.al h0
  have hcp := h.bp
  have hcd := h.bd
  have hz := h.bz
  have b := ht.1
  rw [h.with ht hi (lnk_U (by omega)), at_put h.s hi hi (by rw [hz]; omega), if_pos ⟨rfl, rfl⟩, lnk_back (by omega)]
/-- the way from the top, when a table was hung in at its end -/
theorem hang_reach {cd cp sz f addr want : Int} {xs : List (Int × Int)} (hw : 0 ≤ want) (h : GM cd cp sz xs f) (h0 : f ≠ 0) {l' : Nat} {t' : Int} (ht : Al cd cp f t') (hlt : want < ((l' + 1 : Nat) : Int)) :
    reachN sz (withM sz xs t' (idx addr ((l' + 1 : Nat) : Int)) (lnk (cd + tzI f))) addr want (l' + 1) t' = reachN sz (withM sz xs t' (idx addr ((l' + 1 : Nat) : Int)) (lnk (cd + tzI f))) addr want l' (cd + tzI f) := by
  have hi := idx_bd addr ((l' + 1 : Nat) : Int)
  have e := hang_at h h0 ht hi
  rw [reachN_go hlt (by rw [e]; exact lk_links rfl (by omega)), e]
  rfl
/-- a leaf's word -/
theorem mkP_back {n : Int} {p : Pm} {g : Bool} (h : 0 ≤ n ∧ n < 17592186044416) (hp : pmMay p = true) : pteOf (PteC.putE (mkP n p g)) = mkP n p g ∧ (mkP n p g).U ∧ leafP (mkP n p g) = true := by
  have hm : mayP (mkP n p g) = true := by rw [mayP_iff]; unfold mkP; simp; omega
  have hU : (mkP n p g).U := by unfold Pte.U mkP; simp; omega
  refine ⟨?_, hU, ?_⟩
  · unfold PteC.putE
    rw [if_pos hm, pteOf_word _ hU hm]
  · obtain ⟨r, w, x, u⟩ := p
    revert hp
    unfold pmMay mkP leafP
    cases r <;> cases x <;> simp
end Go.Proofs.YtgkodncknlankaaGreatDoor.LaD
/- Plain: the kernels of the anchor, reckoned out. -/
namespace Go.Proofs.YtgkodncknlankaaGreatDoor.SpO
open Go.RowKit Go.Proofs.YtgkodncknlankaaGreatDoor.Bv Go.Proofs.YtgkodncknlankaaGreatDoor.VaSpec Go.Proofs.YtgkodncknlankaaGreatDoor.Base Go.Proofs.YtgkodncknlankaaGreatDoor.MemL Go.Proofs.YtgkodncknlankaaGreatDoor.RegR Go.Proofs.YtgkodncknlankaaGreatDoor.Ax Go.Proofs.YtgkodncknlankaaGreatDoor.MemC Go.Proofs.YtgkodncknlankaaGreatDoor.PutC Go.Proofs.YtgkodncknlankaaGreatDoor.MemC3 Go.Proofs.YtgkodncknlankaaGreatDoor.TzC Go.Proofs.YtgkodncknlankaaGreatDoor.OkS Go.Proofs.YtgkodncknlankaaGreatDoor.SpA Go.Proofs.YtgkodncknlankaaGreatDoor.SpB Go.Proofs.YtgkodncknlankaaGreatDoor.SpC Go.Proofs.YtgkodncknlankaaGreatDoor.SpD Go.Proofs.YtgkodncknlankaaGreatDoor.IterC Go.Proofs.YtgkodncknlankaaGreatDoor.SpE Go.Proofs.YtgkodncknlankaaGreatDoor.SpF Go.Proofs.YtgkodncknlankaaGreatDoor.SpG Go.Proofs.YtgkodncknlankaaGreatDoor.SpH Go.Proofs.YtgkodncknlankaaGreatDoor.SpI Go.Proofs.YtgkodncknlankaaGreatDoor.SpJ Go.Proofs.YtgkodncknlankaaGreatDoor.SpK Go.Proofs.YtgkodncknlankaaGreatDoor.SpN
open Go.Proofs.YtgkodncknlankaaGreatDoor.BitsC Go.Proofs.YtgkodncknlankaaGreatDoor.PteSpec
set_option linter.unusedVariables false
set_option linter.unusedSimpArgs false
set_option maxRecDepth 10000
set_option maxHeartbeats 800000
def kr (m : List (Int × Int)) (sm sa sp pf af ao : Int) (ss : List Sp) (now : Int) (fs : List Fe) : Kr := { cd := 4, cp := 4, ca := 1, cs := 1, sz := 32768, m := m, tn := 1, ts := zsL 1, sm := sm, sa := sa, sp := sp, priv := 0, su := false, mx := false, vic := -1, pb := 4, pm := 4, pf := pf, am := 1, af := af, ao := ao, ss := ss, now := now, sh := 4, fs := fs }
def k0 : Kr := kr [] 0 0 0 14 1 0 [] (-1) []
def kAa : Kr := kr [(3071, 4129)] 0 0 0 12 0 1 [⟨5, 1, true⟩] (-1) []
def kB : Kr := kr [(3071, 4129)] 8 1 5 12 0 1 [⟨5, 1, true⟩] 0 []
theorem n0 : newK 4 4 1 1 = k0 := by kernel_rfl
theorem i0 : Inv 0 k0 := by rw [← n0]; exact new_inv (by decide)
theorem eA : createR k0 = (kAa, 0, 0) := by
  unfold createR createK newM
  rw [kA_idx]
  kernel_rfl
theorem iA : Inv 1 kAa := by have := create_inv i0; rwa [eA] at this
theorem eB : switchR kAa 0 = (kB, 0) := by kernel_rfl
theorem iB : Inv 1 kB := by have := sw_inv (id := 0) iA; rwa [eB] at this
/-! ### how many frames are free -/
def whereR (k : Kr) (id a l : Int) : Int × Int × Int :=
  if ¬ (0 ≤ l ∧ l ≤ 2) then (0, 0, 1)
  else if id ≠ -1 ∧ livesB k id = false then (0, 0, 4)
  else if fits a l = false then (0, 0, 2)
  else if id = -1 then (if idx a 2 = 511 ∧ l ≠ 2 then (k.sh, 1, 0) else (0, 0, 3))
  else if idx a 2 = 511 then (0, 0, 3) else ((spAt k id).root, 2, 0)
theorem where_ok (k : Kr) (id a l : Int) (ha : U a) : Ok 31 [.ag k.ce, ii id, iu a, ii l] (.tu [iu (whereR k id a l).1, ii (whereR k id a l).2.1, ii (whereR k id a l).2.2]) := by
  unfold whereR
  by_cases c1 : 0 ≤ l ∧ l ≤ 2
  rotate_left
  · rw [if_pos c1]
    have w0 := within0 c1
    by_cases c0 : id = -1
    · refine callOk_of 55 Tryz.func31 rfl rfl rfl rfl ?_ GG.to
      intro W A hG
      repeat (first
        | (refine go_at rfl ?_; first
            | refine go_do (valid_mv (.inl rfl) rfl) rfl ?_
            | refine go_do (valid_mv (.inr rfl) rfl) rfl ?_
            | refine go_do (valid_cmp rfl rfl rfl rfl (by first | exact .eql1 (by omega) | exact .eql0 (by omega) | exact .neq1 (by omega) | exact .neq0 (by omega) | exact .lss1 (by omega) | exact .lss0 (by omega) | exact .leq1 (by omega) | exact .leq0 (by omega) | exact .gtr1 (by omega) | exact .gtr0 (by omega) | exact .geq1 (by omega) | exact .geq0 (by omega) | constructor)) rfl ?_
            | refine go_do (valid_box rfl rfl rfl rfl rfl rfl) rfl ?_
            | refine go_do (valid_not rfl rfl rfl) rfl ?_
            | refine go_do (valid_call rfl rfl rfl (w0) (by kernel_rfl)) rfl ?_)
        | (refine hK _ ?_; clear hK K)
        | refine aw_text rfl ?_
        | exact aw_ret (show resA _ _ _ = some _ by kernel_rfl)
        | refine aw_cond1 rfl rfl ?_
        | refine aw_block ?_
        | refine aw_seq_k (fun K hK => ?_))
    · refine callOk_of 55 Tryz.func31 rfl rfl rfl rfl ?_ GG.to
      intro W A hG
      repeat (first
        | (refine go_at rfl ?_; first
            | refine go_do (valid_mv (.inl rfl) rfl) rfl ?_
            | refine go_do (valid_mv (.inr rfl) rfl) rfl ?_
            | refine go_do (valid_cmp rfl rfl rfl rfl (by first | exact .eql1 (by omega) | exact .eql0 (by omega) | exact .neq1 (by omega) | exact .neq0 (by omega) | exact .lss1 (by omega) | exact .lss0 (by omega) | exact .leq1 (by omega) | exact .leq0 (by omega) | exact .gtr1 (by omega) | exact .gtr0 (by omega) | exact .geq1 (by omega) | exact .geq0 (by omega) | constructor)) rfl ?_
            | refine go_do (valid_box rfl rfl rfl rfl rfl rfl) rfl ?_
            | refine go_do (valid_not rfl rfl rfl) rfl ?_
            | refine go_do (valid_call rfl rfl rfl (w0) (by kernel_rfl)) rfl ?_)
        | (refine hK _ ?_; clear hK K)
        | refine aw_text rfl ?_
        | exact aw_ret (show resA _ _ _ = some _ by kernel_rfl)
        | refine aw_cond1 rfl rfl ?_
        | refine aw_block ?_
        | refine aw_seq_k (fun K hK => ?_))
  rw [if_neg (by simpa using c1)]
  have w1 := within1 c1
  have hi := idx_ok a 2 ha (by omega) (by omega)
  have hl := lives_ok k id
  have hf := vfits_ok a l ha c1.1 c1.2
  by_cases c0 : id = -1
  · rw [if_neg (by simp [c0])]
    by_cases c2 : fits a l = false
    · rw [if_pos c2]
      rw [c2] at hf
      refine callOk_of 55 Tryz.func31 rfl rfl rfl rfl ?_ GG.to
      intro W A hG
      repeat (first
        | (refine go_at rfl ?_; first
            | refine go_do (valid_skip rfl) rfl ?_
            | refine go_do (valid_mv (.inl rfl) rfl) rfl ?_
            | refine go_do (valid_mv (.inr rfl) rfl) rfl ?_
            | refine go_do (valid_pick rfl rfl rfl) rfl ?_
            | refine go_do (valid_cmp rfl rfl rfl rfl (by first | exact .eql1 (by omega) | exact .eql0 (by omega) | exact .neq1 (by omega) | exact .neq0 (by omega) | exact .lss1 (by omega) | exact .lss0 (by omega) | exact .leq1 (by omega) | exact .leq0 (by omega) | exact .gtr1 (by omega) | exact .gtr0 (by omega) | exact .geq1 (by omega) | exact .geq0 (by omega) | constructor)) rfl ?_
            | refine go_do (valid_box rfl rfl rfl rfl rfl rfl) rfl ?_
            | refine go_do (valid_not rfl rfl rfl) rfl ?_
            | refine go_do (valid_call rfl rfl rfl (w1) (by kernel_rfl)) rfl ?_
            | refine go_do (valid_call rfl rfl rfl (hf) (by kernel_rfl)) rfl ?_)
        | (refine hK _ ?_; clear hK K)
        | refine aw_text rfl ?_
        | exact aw_ret (show resA _ _ _ = some _ by kernel_rfl)
        | refine aw_cond1 rfl rfl ?_
        | refine aw_cond0 rfl rfl ?_
        | refine aw_block ?_
        | refine aw_seq_k (fun K hK => ?_))
    rw [if_neg c2, if_pos c0]
    rw [show fits a l = true by simpa using c2] at hf
    by_cases c3 : idx a 2 = 511
    · by_cases c4 : l = 2
      · rw [if_neg (by simp [c4])]
        refine callOk_of 55 Tryz.func31 rfl rfl rfl rfl ?_ GG.to
        intro W A hG
        repeat (first
          | (refine go_at rfl ?_; first
              | refine go_do (valid_skip rfl) rfl ?_
              | refine go_do (valid_mv (.inl rfl) rfl) rfl ?_
              | refine go_do (valid_mv (.inr rfl) rfl) rfl ?_
              | refine go_do (valid_pick rfl rfl rfl) rfl ?_
              | refine go_do (valid_cmp rfl rfl rfl rfl (by first | exact .eql1 (by omega) | exact .eql0 (by omega) | exact .neq1 (by omega) | exact .neq0 (by omega) | exact .lss1 (by omega) | exact .lss0 (by omega) | exact .leq1 (by omega) | exact .leq0 (by omega) | exact .gtr1 (by omega) | exact .gtr0 (by omega) | exact .geq1 (by omega) | exact .geq0 (by omega) | constructor)) rfl ?_
              | refine go_do (valid_box rfl rfl rfl rfl rfl rfl) rfl ?_
              | refine go_do (valid_not rfl rfl rfl) rfl ?_
              | refine go_do (valid_neb rfl rfl rfl rfl rfl) rfl ?_
              | refine go_do (valid_call rfl rfl rfl (w1) (by kernel_rfl)) rfl ?_
              | refine go_do (valid_call rfl rfl rfl (hf) (by kernel_rfl)) rfl ?_
              | refine go_do (valid_call rfl rfl rfl (hi) (by kernel_rfl)) rfl ?_)
          | (refine hK _ ?_; clear hK K)
          | refine aw_text rfl ?_
          | exact aw_ret (show resA _ _ _ = some _ by kernel_rfl)
          | refine aw_cond1 rfl rfl ?_
          | refine aw_cond0 rfl rfl ?_
          | refine aw_block ?_
          | refine aw_seq_k (fun K hK => ?_))
      · rw [if_pos ⟨c3, c4⟩]
        refine callOk_of 55 Tryz.func31 rfl rfl rfl rfl ?_ GG.to
        intro W A hG
        repeat (first
          | (refine go_at rfl ?_; first
              | refine go_do (valid_skip rfl) rfl ?_
              | refine go_do (valid_mv (.inl rfl) rfl) rfl ?_
              | (refine nxt_s 1 rfl ?_; refine go_do (valid_load_p tb rfl rfl rfl rfl rfl (by first | kernel_rfl | rfl)) (by first | kernel_rfl | rfl) ?_)
              | (refine nxt_s 1 rfl ?_; refine go_do (valid_fld_p tb rfl rfl rfl (by kernel_rfl)) rfl ?_)
              | refine go_do (valid_mv (.inr rfl) rfl) rfl ?_
              | refine go_do (valid_pick rfl rfl rfl) rfl ?_
              | refine go_do (valid_cmp rfl rfl rfl rfl (by first | exact .eql1 (by omega) | exact .eql0 (by omega) | exact .neq1 (by omega) | exact .neq0 (by omega) | exact .lss1 (by omega) | exact .lss0 (by omega) | exact .leq1 (by omega) | exact .leq0 (by omega) | exact .gtr1 (by omega) | exact .gtr0 (by omega) | exact .geq1 (by omega) | exact .geq0 (by omega) | constructor)) rfl ?_
              | refine go_do (valid_box rfl rfl rfl rfl rfl rfl) rfl ?_
              | refine go_do (valid_not rfl rfl rfl) rfl ?_
              | refine go_do (valid_neb rfl rfl rfl rfl rfl) rfl ?_
              | refine go_do (valid_call rfl rfl rfl (w1) (by kernel_rfl)) rfl ?_
              | refine go_do (valid_call rfl rfl rfl (hf) (by kernel_rfl)) rfl ?_
              | refine go_do (valid_call rfl rfl rfl (hi) (by kernel_rfl)) rfl ?_)
          | (refine hK _ ?_; clear hK K)
          | refine aw_text rfl ?_
          | exact aw_ret (show resA _ _ _ = some _ by kernel_rfl)
          | refine aw_cond1 rfl rfl ?_
          | refine aw_cond0 rfl rfl ?_
          | refine aw_block ?_
          | refine aw_seq_k (fun K hK => ?_))
    · rw [if_neg (by simp [c3])]
      refine callOk_of 55 Tryz.func31 rfl rfl rfl rfl ?_ GG.to
      intro W A hG
      repeat (first
        | (refine go_at rfl ?_; first
            | refine go_do (valid_skip rfl) rfl ?_
            | refine go_do (valid_mv (.inl rfl) rfl) rfl ?_
            | refine go_do (valid_mv (.inr rfl) rfl) rfl ?_
            | refine go_do (valid_pick rfl rfl rfl) rfl ?_
            | refine go_do (valid_cmp rfl rfl rfl rfl (by first | exact .eql1 (by omega) | exact .eql0 (by omega) | exact .neq1 (by omega) | exact .neq0 (by omega) | exact .lss1 (by omega) | exact .lss0 (by omega) | exact .leq1 (by omega) | exact .leq0 (by omega) | exact .gtr1 (by omega) | exact .gtr0 (by omega) | exact .geq1 (by omega) | exact .geq0 (by omega) | constructor)) rfl ?_
            | refine go_do (valid_box rfl rfl rfl rfl rfl rfl) rfl ?_
            | refine go_do (valid_not rfl rfl rfl) rfl ?_
            | refine go_do (valid_neb rfl rfl rfl rfl rfl) rfl ?_
            | refine go_do (valid_call rfl rfl rfl (w1) (by kernel_rfl)) rfl ?_
            | refine go_do (valid_call rfl rfl rfl (hf) (by kernel_rfl)) rfl ?_
            | refine go_do (valid_call rfl rfl rfl (hi) (by kernel_rfl)) rfl ?_)
        | (refine hK _ ?_; clear hK K)
        | refine aw_text rfl ?_
        | exact aw_ret (show resA _ _ _ = some _ by kernel_rfl)
        | refine aw_cond1 rfl rfl ?_
        | refine aw_cond0 rfl rfl ?_
        | refine aw_block ?_
        | refine aw_seq_k (fun K hK => ?_))
  · by_cases c5 : livesB k id = false
    · rw [if_pos ⟨c0, c5⟩]
      rw [c5] at hl
      refine callOk_of 55 Tryz.func31 rfl rfl rfl rfl ?_ GG.to
      intro W A hG
      repeat (first
        | (refine go_at rfl ?_; first
            | refine go_do (valid_mv (.inl rfl) rfl) rfl ?_
            | (refine nxt_s 1 rfl ?_; refine go_do (valid_load_p tb rfl rfl rfl rfl rfl (by first | kernel_rfl | rfl)) (by first | kernel_rfl | rfl) ?_)
            | refine go_do (valid_mv (.inr rfl) rfl) rfl ?_
            | refine go_do (valid_pick rfl rfl rfl) rfl ?_
            | refine go_do (valid_cmp rfl rfl rfl rfl (by first | exact .eql1 (by omega) | exact .eql0 (by omega) | exact .neq1 (by omega) | exact .neq0 (by omega) | exact .lss1 (by omega) | exact .lss0 (by omega) | exact .leq1 (by omega) | exact .leq0 (by omega) | exact .gtr1 (by omega) | exact .gtr0 (by omega) | exact .geq1 (by omega) | exact .geq0 (by omega) | constructor)) rfl ?_
            | refine go_do (valid_box rfl rfl rfl rfl rfl rfl) rfl ?_
            | refine go_do (valid_not rfl rfl rfl) rfl ?_
            | refine go_do (valid_call rfl rfl rfl (w1) (by kernel_rfl)) rfl ?_
            | refine go_do (valid_call rfl rfl rfl (hl) (by kernel_rfl)) rfl ?_)
        | (refine hK _ ?_; clear hK K)
        | refine aw_text rfl ?_
        | exact aw_ret (show resA _ _ _ = some _ by kernel_rfl)
        | refine aw_cond1 rfl rfl ?_
        | refine aw_cond0 rfl rfl ?_
        | refine aw_block ?_
        | refine aw_seq_k (fun K hK => ?_))
    rw [if_neg (by simp [c5])]
    have c5 : livesB k id = true := by simpa using c5
    rw [c5] at hl
    obtain ⟨y0, y1, y2, y3⟩ := lives_at c5
    have hx := flS_at y2
    by_cases c2 : fits a l = false
    · rw [if_pos c2]
      rw [c2] at hf
      refine callOk_of 55 Tryz.func31 rfl rfl rfl rfl ?_ GG.to
      intro W A hG
      repeat (first
        | (refine go_at rfl ?_; first
            | refine go_do (valid_mv (.inl rfl) rfl) rfl ?_
            | (refine nxt_s 1 rfl ?_; refine go_do (valid_load_p tb rfl rfl rfl rfl rfl (by first | kernel_rfl | rfl)) (by first | kernel_rfl | rfl) ?_)
            | refine go_do (valid_mv (.inr rfl) rfl) rfl ?_
            | refine go_do (valid_pick rfl rfl rfl) rfl ?_
            | refine go_do (valid_cmp rfl rfl rfl rfl (by first | exact .eql1 (by omega) | exact .eql0 (by omega) | exact .neq1 (by omega) | exact .neq0 (by omega) | exact .lss1 (by omega) | exact .lss0 (by omega) | exact .leq1 (by omega) | exact .leq0 (by omega) | exact .gtr1 (by omega) | exact .gtr0 (by omega) | exact .geq1 (by omega) | exact .geq0 (by omega) | constructor)) rfl ?_
            | refine go_do (valid_box rfl rfl rfl rfl rfl rfl) rfl ?_
            | refine go_do (valid_not rfl rfl rfl) rfl ?_
            | refine go_do (valid_call rfl rfl rfl (w1) (by kernel_rfl)) rfl ?_
            | refine go_do (valid_call rfl rfl rfl (hl) (by kernel_rfl)) rfl ?_
            | refine go_do (valid_call rfl rfl rfl (hf) (by kernel_rfl)) rfl ?_)
        | (refine hK _ ?_; clear hK K)
        | refine aw_text rfl ?_
        | exact aw_ret (show resA _ _ _ = some _ by kernel_rfl)
        | refine aw_cond1 rfl rfl ?_
        | refine aw_cond0 rfl rfl ?_
        | refine aw_block ?_
        | refine aw_seq_k (fun K hK => ?_))
    rw [if_neg c2, if_neg c0]
    rw [show fits a l = true by simpa using c2] at hf
    by_cases c3 : idx a 2 = 511
    · rw [if_pos c3]
      refine callOk_of 55 Tryz.func31 rfl rfl rfl rfl ?_ GG.to
      intro W A hG
      repeat (first
        | (refine go_at rfl ?_; first
            | refine go_do (valid_skip rfl) rfl ?_
            | refine go_do (valid_mv (.inl rfl) rfl) rfl ?_
            | (refine nxt_s 1 rfl ?_; refine go_do (valid_load_p tb rfl rfl rfl rfl rfl (by first | kernel_rfl | rfl)) (by first | kernel_rfl | rfl) ?_)
            | refine go_do (valid_mv (.inr rfl) rfl) rfl ?_
            | refine go_do (valid_pick rfl rfl rfl) rfl ?_
            | refine go_do (valid_cmp rfl rfl rfl rfl (by first | exact .eql1 (by omega) | exact .eql0 (by omega) | exact .neq1 (by omega) | exact .neq0 (by omega) | exact .lss1 (by omega) | exact .lss0 (by omega) | exact .leq1 (by omega) | exact .leq0 (by omega) | exact .gtr1 (by omega) | exact .gtr0 (by omega) | exact .geq1 (by omega) | exact .geq0 (by omega) | constructor)) rfl ?_
            | refine go_do (valid_box rfl rfl rfl rfl rfl rfl) rfl ?_
            | refine go_do (valid_not rfl rfl rfl) rfl ?_
            | refine go_do (valid_neb rfl rfl rfl rfl rfl) rfl ?_
            | refine go_do (valid_call rfl rfl rfl (w1) (by kernel_rfl)) rfl ?_
            | refine go_do (valid_call rfl rfl rfl (hl) (by kernel_rfl)) rfl ?_
            | refine go_do (valid_call rfl rfl rfl (hf) (by kernel_rfl)) rfl ?_
            | refine go_do (valid_call rfl rfl rfl (hi) (by kernel_rfl)) rfl ?_)
        | (refine hK _ ?_; clear hK K)
        | refine aw_text rfl ?_
        | exact aw_ret (show resA _ _ _ = some _ by kernel_rfl)
        | refine aw_cond1 rfl rfl ?_
        | refine aw_cond0 rfl rfl ?_
        | refine aw_block ?_
        | refine aw_seq_k (fun K hK => ?_))
    · rw [if_neg c3]
      refine callOk_of 55 Tryz.func31 rfl rfl rfl rfl ?_ GG.to
      intro W A hG
      repeat (first
        | (refine go_at rfl ?_; first
            | refine go_do (valid_skip rfl) rfl ?_
            | refine go_do (valid_mv (.inl rfl) rfl) rfl ?_
            | (refine nxt_s 1 rfl ?_; refine go_do (valid_load_p tb rfl rfl rfl rfl rfl (by first | kernel_rfl | rfl)) (by first | kernel_rfl | rfl) ?_)
            | (refine nxt_s 1 rfl ?_; refine go_do (valid_fld_p tb rfl rfl rfl (by kernel_rfl)) rfl ?_)
            | refine go_do (valid_mv (.inr rfl) rfl) rfl ?_
            | refine go_do (valid_pick rfl rfl rfl) rfl ?_
            | refine go_do (valid_cmp rfl rfl rfl rfl (by first | exact .eql1 (by omega) | exact .eql0 (by omega) | exact .neq1 (by omega) | exact .neq0 (by omega) | exact .lss1 (by omega) | exact .lss0 (by omega) | exact .leq1 (by omega) | exact .leq0 (by omega) | exact .gtr1 (by omega) | exact .gtr0 (by omega) | exact .geq1 (by omega) | exact .geq0 (by omega) | constructor)) rfl ?_
            | refine go_do (valid_box rfl rfl rfl rfl rfl rfl) rfl ?_
            | (refine nxt_s 3 rfl ?_; refine go_do (valid_load_q tb rfl rfl rfl rfl (by first | kernel_rfl | rfl)) rfl ?_)
            | (refine nxt_s 3 rfl ?_; refine go_do (valid_fld_q tb rfl rfl rfl rfl) rfl ?_)
            | refine go_do (valid_not rfl rfl rfl) rfl ?_
            | (refine nxt_s 4 rfl ?_; refine go_do (valid_idx_s rfl rfl rfl rfl rfl rfl (by omega) (by omega) _ (by assumption)) rfl ?_)
            | refine go_do (valid_neb rfl rfl rfl rfl rfl) rfl ?_
            | refine go_do (valid_call rfl rfl rfl (w1) (by kernel_rfl)) rfl ?_
            | refine go_do (valid_call rfl rfl rfl (hl) (by kernel_rfl)) rfl ?_
            | refine go_do (valid_call rfl rfl rfl (hf) (by kernel_rfl)) rfl ?_
            | refine go_do (valid_call rfl rfl rfl (hi) (by kernel_rfl)) rfl ?_)
        | (refine hK _ ?_; clear hK K)
        | refine aw_text rfl ?_
        | exact aw_ret (show resA _ _ _ = some _ by kernel_rfl)
        | refine aw_cond0 rfl rfl ?_
        | refine aw_block ?_
        | refine aw_skip ?_
        | refine aw_seq_k (fun K hK => ?_))
end Go.Proofs.YtgkodncknlankaaGreatDoor.SpO
/- The abstract walk: split.link, split.Down. -/
namespace Go.Proofs.YtgkodncknlankaaGreatDoor.LaE
open Go.RowKit Go.Proofs.YtgkodncknlankaaGreatDoor.Bv Go.Proofs.YtgkodncknlankaaGreatDoor.VaSpec Go.Proofs.YtgkodncknlankaaGreatDoor.Base Go.Proofs.YtgkodncknlankaaGreatDoor.MemL Go.Proofs.YtgkodncknlankaaGreatDoor.RegR Go.Proofs.YtgkodncknlankaaGreatDoor.Ax Go.Proofs.YtgkodncknlankaaGreatDoor.MemC Go.Proofs.YtgkodncknlankaaGreatDoor.PutC Go.Proofs.YtgkodncknlankaaGreatDoor.MemC3 Go.Proofs.YtgkodncknlankaaGreatDoor.TzC Go.Proofs.YtgkodncknlankaaGreatDoor.OkS Go.Proofs.YtgkodncknlankaaGreatDoor.SpA Go.Proofs.YtgkodncknlankaaGreatDoor.SpB Go.Proofs.YtgkodncknlankaaGreatDoor.SpC Go.Proofs.YtgkodncknlankaaGreatDoor.SpF Go.Proofs.YtgkodncknlankaaGreatDoor.SpH Go.Proofs.YtgkodncknlankaaGreatDoor.SpI Go.Proofs.YtgkodncknlankaaGreatDoor.SpJ Go.Proofs.YtgkodncknlankaaGreatDoor.SpN Go.Proofs.YtgkodncknlankaaGreatDoor.SpO Go.Proofs.YtgkodncknlankaaGreatDoor.LaA Go.Proofs.YtgkodncknlankaaGreatDoor.LaB Go.Proofs.YtgkodncknlankaaGreatDoor.LaC Go.Proofs.YtgkodncknlankaaGreatDoor.LaD
open Go.Proofs.YtgkodncknlankaaGreatDoor.BitsC Go.Proofs.YtgkodncknlankaaGreatDoor.PteSpec
set_option linter.unusedVariables false
set_option linter.unusedSimpArgs false
set_option maxRecDepth 10000
set_option maxHeartbeats 1000000
theorem link_ok (n : Int) : Ok 87 [iu n] (.m (.ag (lnk n).ce)) := by
  refine callOk_of 5 Tryz.func87 rfl rfl rfl rfl ?_ GG.to
  intro W A hG
  repeat (first
    | (refine go_at rfl ?_; first
        | refine go_do (valid_mv (.inl rfl) rfl) rfl ?_
        | refine go_do (valid_alloc rfl rfl rfl rfl rfl) rfl ?_
        | (refine nxt_s 1 rfl ?_; refine go_do (valid_store_p rfl rfl rfl rfl rfl rfl (by first | kernel_rfl | rfl) rfl) (by first | kernel_rfl | rfl) ?_)
        | refine go_do (valid_build rfl rfl rfl rfl) rfl ?_)
    | (refine hK _ ?_; clear hK K)
    | refine aw_text rfl ?_
    | exact aw_ret (show resA _ _ _ = some _ by kernel_rfl)
    | refine aw_seq_k (fun K hK => ?_))
/-- where the loop of Down stands -/
def dnH (sz cd cp top lv addr want : Int) (xs0 : List (Int × Int)) (f0 : Int) (xs : List (Int × Int)) (f : Int) : St := St.of [(2, .m (iu top)), (3, .m (ii lv)), (4, .m (iu addr)), (5, .m (ii want)), (6, .m (.c (.p 6 0))), (7, .m (.c (.p 7 0))), (12, .m (.c (.p 12 0))), (13, .m (.c (.p 13 0))), (14, .m (.c (.p 14 0))), (15, .m (ii 0)), (16, .m (.c (.p 16 0))), (17, .m (.c (.p 17 0)))]
  [(6, .live (.box [cu sz, .s xs0.length 2 (fl xs0)])), (7, .live (.box [cu cd, ci cp, cu f0])), (12, .live (.box [cu 0, .v (.slice none 0 0)])), (13, .live (.box [cu 0, ci 0, cu 0])), (14, .live (.box (spotC 0 0 zP))), (16, .live (.box [cu sz, .s xs.length 2 (fl xs)])), (17, .live (.box [cu cd, ci cp, cu f]))]
theorem down_ok (cd cp sz top addr want : Int) (lv : Nat) (xs0 : List (Int × Int)) (f0 : Int) (h : GM cd cp sz xs0 f0) (ht : Al cd cp f0 top) (ha : U addr) (hl : lv ≤ 2) (hw : 0 ≤ want) (hwl : want ≤ (lv : Int)) (hn : xs0.length ≤ 100000)
    (D : List (Int × Int) × Int × Int × Int) (hD : D = dnN sz cd addr want lv xs0 f0 top) :
    Ok 41 [memA sz xs0, .ag [cu cd, ci cp, cu f0], iu top, ii lv, iu addr, ii want]
      (.tu (if D.2.2.2 = 0 then [memA sz D.1, .ag [cu cd, ci cp, cu D.2.1], .ag (spotR sz D.1 addr (D.2.2.1, want)), ii 0] else [memA sz xs0, .ag [cu cd, ci cp, cu f0], .ag (spotC 0 0 zP), ii D.2.2.2])) := by
  have hcd := h.bd
  have hcp := h.bp
  obtain ⟨R, hR⟩ : ∃ R, R = (if D.2.2.2 = 0 then [memA sz D.1, .ag [cu cd, ci cp, cu D.2.1], .ag (spotR sz D.1 addr (D.2.2.1, want)), ii 0] else [memA sz xs0, .ag [cu cd, ci cp, cu f0], .ag (spotC 0 0 zP), ii D.2.2.2]) := ⟨_, rfl⟩
  rw [← hR]
  have hcl : (closedV (.tu R) && [memA sz xs0, .ag [cu cd, ci cp, cu f0], iu top, ii lv, iu addr, ii want].all closedM) = true := by
    rw [hR]; split <;> rfl
  refine callOk_of 67 Tryz.func41 rfl hcl rfl rfl ?_ GG.to
  intro W A hG
  repeat (first
    | (refine go_at rfl ?_; first
        | (refine nxt_s 1 rfl ?_; refine go_do (valid_load_p tb rfl rfl rfl rfl rfl (by first | kernel_rfl | rfl)) (by first | kernel_rfl | rfl) ?_)
        | refine go_do (valid_mv (.inr rfl) rfl) rfl ?_
        | refine go_do (valid_box rfl rfl rfl rfl rfl rfl) rfl ?_
        | refine go_do (valid_alloc rfl rfl rfl rfl rfl) rfl ?_
        | (refine nxt_s 1 rfl ?_; refine go_do (valid_store_p rfl rfl rfl rfl rfl rfl (by first | kernel_rfl | rfl) rfl) (by first | kernel_rfl | rfl) ?_))
    | (refine hK _ ?_; clear hK K)
    | refine aw_text rfl ?_
    | refine aw_any (by kernel_rfl) (by kernel_rfl) rfl ?_
    | refine aw_block ?_
    | refine aw_seq_k (fun K hK => ?_))
  refine aw_loopH (α := List (Int × Int) × Int × Nat × Int) (fun q => GM cd cp sz q.1 q.2.1 ∧ q.2.2.1 ≤ 2 ∧ want ≤ (q.2.2.1 : Int) ∧ Al cd cp q.2.1 q.2.2.2 ∧ Al cd cp q.2.1 top ∧ q.1.length + q.2.2.1 ≤ 100002 ∧ dnN sz cd addr want q.2.2.1 q.1 q.2.1 q.2.2.2 = D ∧ reachN sz q.1 addr want lv top = reachN sz q.1 addr want q.2.2.1 q.2.2.2)
    (fun q => dnH sz cd cp top lv addr want xs0 f0 q.1 q.2.1) (fun q => q.2.2.1) (xs0, f0, lv, top) ⟨h, hl, hwl, ht, ht, by show xs0.length + lv ≤ _; omega, hD.symm, rfl⟩ (sub_of _ _ ⟨by kernel_rfl, by kernel_rfl, by kernel_rfl, by kernel_rfl, by kernel_rfl, by kernel_rfl, by kernel_rfl, by kernel_rfl, by kernel_rfl, by kernel_rfl, by kernel_rfl, by kernel_rfl, trivial⟩ ⟨by kernel_rfl, by kernel_rfl, by kernel_rfl, by kernel_rfl, by kernel_rfl, by kernel_rfl, by kernel_rfl, trivial⟩ (by kernel_rfl)) ?_
  rintro ⟨xs, f, l, t⟩ ⟨x1, x2, x3, x4, x5, x6, x7, x8⟩
  have g1 : GM cd cp sz xs f := x1
  have g2 : l ≤ 2 := x2
  have g3 : want ≤ (l : Int) := x3
  have g4 : Al cd cp f t := x4
  have g5 : Al cd cp f top := x5
  have g6 : xs.length + l ≤ 100002 := x6
  have g7 : dnN sz cd addr want l xs f t = D := x7
  have g8 : reachN sz xs addr want lv top = reachN sz xs addr want l t := x8
  show Aw _ _ _ _ (dnH sz cd cp top lv addr want xs0 f0 xs f)
  unfold dnH
  obtain ⟨l', t', i1, i2, i3, i4, i5, i6, -⟩ := reach_spec cd cp sz addr want hw g1 l t g4 g3
  obtain ⟨l0', l1', l2', -, -, -, -, -, l7'⟩ := reach_spec cd cp sz addr want hw g1 lv top g5 hwl
  obtain ⟨e1, e2⟩ : t' = l1' ∧ l' = l0' := by
    have := l2'.symm.trans (g8.trans i1)
    simp only [Prod.mk.injEq] at this
    exact ⟨this.1.symm, by omega⟩
  subst e1 e2
  have ub := g1.u
  have hr := reach_ok sz xs top lv addr want ⟨by have := g5.1; omega, by have := g5.1; omega⟩ ha (by omega) (by omega) hw g1.s ub
  rw [show reachI sz xs addr want lv top = (t', (l' : Int)) by unfold reachI; rw [Int.toNat_natCast, g8, i1]] at hr
  have hi := idx_bd addr (l' : Int)
  have bt := i4.1
  rw [i6] at g7
  clear i1 i6
  obtain ⟨q, hq⟩ : ∃ q, q = atM sz xs t' (idx addr (l' : Int)) := ⟨_, rfl⟩
  unfold spotR at hr
  rw [show (t', (l' : Int)).1 = t' from rfl, show (t', (l' : Int)).2 = (l' : Int) from rfl, ← hq] at hr
  repeat (first
    | (refine go_at rfl ?_; first
        | refine go_do (valid_mv (.inl rfl) rfl) rfl ?_
        | (refine nxt_s 1 rfl ?_; refine go_do (valid_load_p tb rfl rfl rfl rfl rfl (by first | kernel_rfl | rfl)) (by first | kernel_rfl | rfl) ?_)
        | refine go_do (valid_alloc rfl rfl rfl rfl rfl) rfl ?_
        | (refine nxt_s 1 rfl ?_; refine go_do (valid_store_p rfl rfl rfl rfl rfl rfl (by first | kernel_rfl | rfl) rfl) (by first | kernel_rfl | rfl) ?_)
        | refine go_do (valid_call rfl rfl rfl (hr) (by kernel_rfl)) rfl ?_)
    | refine aw_text rfl ?_
    | refine aw_block ?_
    | refine aw_seq_k (fun K hK => ?_))
  first
    | (refine hK _ ?_; clear hK K)
    | (rename_i K1 hK1; refine hK1 _ ?_; clear hK hK1; clear K)
    | (rename_i K1 hK1; refine hK1 _ ?_; clear hK1)
  refine aw_sub (sub_of [(2, .m (iu top)), (3, .m (ii lv)), (4, .m (iu addr)), (5, .m (ii want)), (6, .m (.c (.p 6 0))), (7, .m (.c (.p 7 0))), (12, .m (.c (.p 12 0))), (13, .m (.c (.p 13 0))), (14, .m (.c (.p 14 0))), (15, .m (ii 0)), (16, .m (.c (.p 16 0))), (17, .m (.c (.p 17 0))), (18, .m (.c (.p 18 0)))] [(6, .live (.box [cu sz, .s xs0.length 2 (fl xs0)])), (7, .live (.box [cu cd, ci cp, cu f0])), (12, .live (.box [cu 0, .v (.slice none 0 0)])), (13, .live (.box [cu 0, ci 0, cu 0])), (14, .live (.box (spotC 0 0 zP))), (16, .live (.box [cu sz, .s xs.length 2 (fl xs)])), (17, .live (.box [cu cd, ci cp, cu f])), (18, .live (.box (spotC t' ((l' : Nat) : Int) q)))] ⟨by kernel_rfl, by kernel_rfl, by kernel_rfl, by kernel_rfl, by kernel_rfl, by kernel_rfl, by kernel_rfl, by kernel_rfl, by kernel_rfl, by kernel_rfl, by kernel_rfl, by kernel_rfl, by kernel_rfl, trivial⟩ ⟨by kernel_rfl, by kernel_rfl, by kernel_rfl, by kernel_rfl, by kernel_rfl, by kernel_rfl, by kernel_rfl, by kernel_rfl, trivial⟩ (by kernel_rfl)) ?_
  by_cases c1 : (l' : Int) = want
  · have e : D = (xs, f, t', 0) := by
      rw [← g7]
      cases l' with
      | zero => rfl
      | succ m => unfold dnN; rw [if_pos (by omega)]
    subst e
    have hR : R = [memA sz xs, .ag [cu cd, ci cp, cu f], .ag (spotC t' want (atM sz xs t' (idx addr want))), ii 0] := hR
    rw [← c1, ← hq] at hR
    subst hR
    repeat (first
      | (refine go_at rfl ?_; first
          | refine go_do (valid_mv (.inl rfl) rfl) rfl ?_
          | (refine nxt_s 1 rfl ?_; refine go_do (valid_load_p tb rfl rfl rfl rfl rfl (by first | kernel_rfl | rfl)) (by first | kernel_rfl | rfl) ?_)
          | (refine nxt_s 1 rfl ?_; refine go_do (valid_fld_p tb rfl rfl rfl (by kernel_rfl)) rfl ?_)
          | refine go_do (valid_mv (.inr rfl) rfl) rfl ?_
          | refine go_do (valid_cmp rfl rfl rfl rfl (by first | exact .eql1 (by omega) | exact .eql0 (by omega) | exact .neq1 (by omega) | exact .neq0 (by omega) | exact .lss1 (by omega) | exact .lss0 (by omega) | exact .leq1 (by omega) | exact .leq0 (by omega) | exact .gtr1 (by omega) | exact .gtr0 (by omega) | exact .geq1 (by omega) | exact .geq0 (by omega) | constructor)) rfl ?_
          | (refine nxt_s 1 rfl ?_; refine go_do (valid_store_p rfl rfl rfl rfl rfl rfl (by first | kernel_rfl | rfl) rfl) (by first | kernel_rfl | rfl) ?_))
      | (refine hK _ ?_; clear hK K)
      | refine aw_text rfl ?_
      | refine aw_any (by kernel_rfl) (by kernel_rfl) rfl ?_
      | exact aw_ret (show resA _ _ _ = some _ by kernel_rfl)
      | refine aw_cond1 rfl rfl ?_
      | refine aw_block ?_
      | refine aw_seq_k (fun K hK => ?_))
  · obtain ⟨m, rfl⟩ : ∃ m : Nat, l' = m + 1 := ⟨l' - 1, by omega⟩
    have hlk := i5 (by omega)
    rw [← hq] at hlk
    have hk := EOk.kinds (g1.at t' (idx addr ((m + 1 : Nat) : Int))) (l := ((m + 1 : Nat) : Int)) (by omega)
    rw [← hq, hlk] at hk
    unfold dnN at g7
    rw [if_neg (by omega), ← hq] at g7
    cases hv : q.v with
    | true =>
      have hlf : leafP q = true := by
        rcases hk with ⟨k1, _⟩ | ⟨_, k2, _⟩ | ⟨_, _, k3, _⟩
        · rw [k1] at hv; cases hv
        · exact k2
        · cases k3
      rw [if_pos hlf] at g7
      subst g7
      have hR : R = [memA sz xs0, .ag [cu cd, ci cp, cu f0], .ag (spotC 0 0 zP), ii 6] := hR
      subst hR
      obtain ⟨q0, q1, q2, q3, q4, q5, q6, q7, q8, q9, q10⟩ := q
      have hv : q0 = true := hv
      subst hv
      repeat (first
        | (refine go_at rfl ?_; first
            | refine go_do (valid_mv (.inl rfl) rfl) rfl ?_
            | (refine nxt_s 1 rfl ?_; refine go_do (valid_load_p tb rfl rfl rfl rfl rfl (by first | kernel_rfl | rfl)) (by first | kernel_rfl | rfl) ?_)
            | (refine nxt_s 1 rfl ?_; refine go_do (valid_fld_p tb rfl rfl rfl (by kernel_rfl)) rfl ?_)
            | refine go_do (valid_mv (.inr rfl) rfl) rfl ?_
            | refine go_do (valid_cmp rfl rfl rfl rfl (by first | exact .eql1 (by omega) | exact .eql0 (by omega) | exact .neq1 (by omega) | exact .neq0 (by omega) | exact .lss1 (by omega) | exact .lss0 (by omega) | exact .leq1 (by omega) | exact .leq0 (by omega) | exact .gtr1 (by omega) | exact .gtr0 (by omega) | exact .geq1 (by omega) | exact .geq0 (by omega) | constructor)) rfl ?_
            | (refine nxt_s 1 rfl ?_; refine go_do (valid_store_p rfl rfl rfl rfl rfl rfl (by first | kernel_rfl | rfl) rfl) (by first | kernel_rfl | rfl) ?_)
            | refine go_do (valid_build rfl rfl rfl rfl) rfl ?_)
        | (refine hK _ ?_; clear hK K)
        | refine aw_text rfl ?_
        | refine aw_any (by kernel_rfl) (by kernel_rfl) rfl ?_
        | exact aw_ret (show resA _ _ _ = some _ by kernel_rfl)
        | refine aw_cond1 rfl rfl ?_
        | refine aw_cond0 rfl rfl ?_
        | refine aw_block ?_
        | refine aw_seq_k (fun K hK => ?_))
    | false =>
      have hlf : leafP q = false := by unfold leafP; rw [hv]; rfl
      rw [hlf, hv, if_neg (by simp), if_neg (by simp)] at g7
      obtain ⟨q0, q1, q2, q3, q4, q5, q6, q7, q8, q9, q10⟩ := q
      have hv' : q0 = false := hv
      subst hv'
      by_cases c4 : f = 0
      · rw [if_pos c4] at g7
        subst g7
        have hR : R = [memA sz xs0, .ag [cu cd, ci cp, cu f0], .ag (spotC 0 0 zP), ii 8] := hR
        subst hR
        subst c4
        have hf := freshno_ok sz xs cd cp (by omega) (by omega)
        repeat (first
          | (refine go_at rfl ?_; first
              | refine go_do (valid_mv (.inl rfl) rfl) rfl ?_
              | (refine nxt_s 1 rfl ?_; refine go_do (valid_load_p tb rfl rfl rfl rfl rfl (by first | kernel_rfl | rfl)) (by first | kernel_rfl | rfl) ?_)
              | (refine nxt_s 1 rfl ?_; refine go_do (valid_fld_p tb rfl rfl rfl (by kernel_rfl)) rfl ?_)
              | refine go_do (valid_mv (.inr rfl) rfl) rfl ?_
              | refine go_do (valid_extract rfl rfl rfl rfl) rfl ?_
              | refine go_do (valid_cmp rfl rfl rfl rfl (by first | exact .eql1 (by omega) | exact .eql0 (by omega) | exact .neq1 (by omega) | exact .neq0 (by omega) | exact .lss1 (by omega) | exact .lss0 (by omega) | exact .leq1 (by omega) | exact .leq0 (by omega) | exact .gtr1 (by omega) | exact .gtr0 (by omega) | exact .geq1 (by omega) | exact .geq0 (by omega) | constructor)) rfl ?_
              | refine go_do (valid_alloc rfl rfl rfl rfl rfl) rfl ?_
              | (refine nxt_s 1 rfl ?_; refine go_do (valid_store_p rfl rfl rfl rfl rfl rfl (by first | kernel_rfl | rfl) rfl) (by first | kernel_rfl | rfl) ?_)
              | refine go_do (valid_build rfl rfl rfl rfl) rfl ?_
              | refine go_do (valid_call rfl rfl rfl (hf) (by kernel_rfl)) rfl ?_)
          | (refine hK _ ?_; clear hK K)
          | refine aw_text rfl ?_
          | refine aw_any (by kernel_rfl) (by kernel_rfl) rfl ?_
          | exact aw_ret (show resA _ _ _ = some _ by kernel_rfl)
          | refine aw_cond1 rfl rfl ?_
          | refine aw_cond0 rfl rfl ?_
          | refine aw_block ?_
          | refine aw_skip ?_
          | refine aw_seq_k (fun K hK => ?_))
      · rw [if_neg c4] at g7
        have hf := fresh_ok sz xs cd cp f (by omega) (by omega) g1.uf c4 g1.s (by omega)
        rw [g1.wipe c4] at hf
        obtain ⟨a1, a2⟩ := g1.al c4
        have hfr : 0 ≤ cd + tzI f ∧ cd + tzI f < 17592186044416 := by omega
        have hln := link_ok (cd + tzI f)
        have hwt := with_ok sz xs t' ((m + 1 : Nat) : Int) ⟨false, q1, q2, q3, q4, q5, q6, q7, q8, q9, q10⟩ addr (lnk (cd + tzI f)) ha (lnk_U hfr) (by omega) (by omega) (by omega) g1.s ub (by omega)
        have hgm := g1.hang c4 i4 hi
        have hln2 := with_len sz xs t' (idx addr ((m + 1 : Nat) : Int)) (lnk (cd + tzI f))
        have hre : reachN sz (withM sz xs t' (idx addr ((m + 1 : Nat) : Int)) (lnk (cd + tzI f))) addr want lv top = reachN sz (withM sz xs t' (idx addr ((m + 1 : Nat) : Int)) (lnk (cd + tzI f))) addr want m (cd + tzI f) := by
          rw [l7' _ (hang_links g1 c4 i4 hi (by rw [← hq]))]
          exact hang_reach hw g1 c4 i4 (by omega)
        revert hf hln hwt hgm hln2 hre g7
        generalize withM sz xs t' (idx addr ((m + 1 : Nat) : Int)) (lnk (cd + tzI f)) = xs2
        intro g7 hf hln hwt hgm hln2 hre
        repeat (first
          | (refine go_at rfl ?_; first
              | refine go_do (valid_mv (.inl rfl) rfl) rfl ?_
              | (refine nxt_s 1 rfl ?_; refine go_do (valid_load_p tb rfl rfl rfl rfl rfl (by first | kernel_rfl | rfl)) (by first | kernel_rfl | rfl) ?_)
              | (refine nxt_s 1 rfl ?_; refine go_do (valid_fld_p tb rfl rfl rfl (by kernel_rfl)) rfl ?_)
              | refine go_do (valid_mv (.inr rfl) rfl) rfl ?_
              | refine go_do (valid_extract rfl rfl rfl rfl) rfl ?_
              | refine go_do (valid_cmp rfl rfl rfl rfl (by first | exact .eql1 (by omega) | exact .eql0 (by omega) | exact .neq1 (by omega) | exact .neq0 (by omega) | exact .lss1 (by omega) | exact .lss0 (by omega) | exact .leq1 (by omega) | exact .leq0 (by omega) | exact .gtr1 (by omega) | exact .gtr0 (by omega) | exact .geq1 (by omega) | exact .geq0 (by omega) | constructor)) rfl ?_
              | refine go_do (valid_alloc rfl rfl rfl rfl rfl) rfl ?_
              | (refine nxt_s 1 rfl ?_; refine go_do (valid_store_p rfl rfl rfl rfl rfl rfl (by first | kernel_rfl | rfl) rfl) (by first | kernel_rfl | rfl) ?_)
              | refine go_do (valid_call rfl rfl rfl (hf) (by kernel_rfl)) rfl ?_
              | refine go_do (valid_call rfl rfl rfl (hln) (by kernel_rfl)) rfl ?_
              | refine go_do (valid_call rfl rfl rfl (hwt) (by kernel_rfl)) rfl ?_)
          | (refine hK _ ?_; clear hK K)
          | refine aw_text rfl ?_
          | refine aw_any (by kernel_rfl) (by kernel_rfl) rfl ?_
          | refine aw_cond0 rfl rfl ?_
          | refine aw_block ?_
          | refine aw_skip ?_
          | refine aw_seq_k (fun K hK => ?_))
        exact ⟨(xs2, setI f (tzI f) 1 0, m, cd + tzI f), ⟨hgm, by show m ≤ 2; omega, by show want ≤ (m : Int); omega, a1, (g1.take c4 g5).2, by show xs2.length + m ≤ 100002; omega, g7, hre⟩, by show m < l; omega, sub_of _ _ ⟨by kernel_rfl, by kernel_rfl, by kernel_rfl, by kernel_rfl, by kernel_rfl, by kernel_rfl, by kernel_rfl, by kernel_rfl, by kernel_rfl, by kernel_rfl, by kernel_rfl, by kernel_rfl, trivial⟩ ⟨by kernel_rfl, by kernel_rfl, by kernel_rfl, by kernel_rfl, by kernel_rfl, by kernel_rfl, by kernel_rfl, trivial⟩ (by kernel_rfl)⟩
end Go.Proofs.YtgkodncknlankaaGreatDoor.LaE
/- The abstract walk: lay.List, lay.Map; what holds of each kernel on which pages are laid. -/
namespace Go.Proofs.YtgkodncknlankaaGreatDoor.LaF
open Go.RowKit Go.Proofs.YtgkodncknlankaaGreatDoor.Bv Go.Proofs.YtgkodncknlankaaGreatDoor.VaSpec Go.Proofs.YtgkodncknlankaaGreatDoor.Base Go.Proofs.YtgkodncknlankaaGreatDoor.MemL Go.Proofs.YtgkodncknlankaaGreatDoor.RegR Go.Proofs.YtgkodncknlankaaGreatDoor.Ax Go.Proofs.YtgkodncknlankaaGreatDoor.MemC Go.Proofs.YtgkodncknlankaaGreatDoor.PutC Go.Proofs.YtgkodncknlankaaGreatDoor.MemC3 Go.Proofs.YtgkodncknlankaaGreatDoor.TzC Go.Proofs.YtgkodncknlankaaGreatDoor.OkS Go.Proofs.YtgkodncknlankaaGreatDoor.SpA Go.Proofs.YtgkodncknlankaaGreatDoor.SpB Go.Proofs.YtgkodncknlankaaGreatDoor.SpC Go.Proofs.YtgkodncknlankaaGreatDoor.SpD Go.Proofs.YtgkodncknlankaaGreatDoor.SpF Go.Proofs.YtgkodncknlankaaGreatDoor.SpH Go.Proofs.YtgkodncknlankaaGreatDoor.SpI Go.Proofs.YtgkodncknlankaaGreatDoor.SpJ Go.Proofs.YtgkodncknlankaaGreatDoor.SpN Go.Proofs.YtgkodncknlankaaGreatDoor.SpO Go.Proofs.YtgkodncknlankaaGreatDoor.LaA Go.Proofs.YtgkodncknlankaaGreatDoor.LaB Go.Proofs.YtgkodncknlankaaGreatDoor.LaC Go.Proofs.YtgkodncknlankaaGreatDoor.LaD Go.Proofs.YtgkodncknlankaaGreatDoor.LaE
open Go.Proofs.YtgkodncknlankaaGreatDoor.BitsC Go.Proofs.YtgkodncknlankaaGreatDoor.PteSpec
set_option linter.unusedVariables false
set_option linter.unusedSimpArgs false
set_option maxRecDepth 10000
set_option maxHeartbeats 1000000
structure InvL (n : Nat) (k : Kr) : Prop where
  g : GM k.cd k.cp k.sz k.m k.pf
  cs : k.cs = k.tn ∧ k.tn ≤ 16
  pb : k.pb = k.cd
  pm : k.pm = k.cp
  sh : Al k.cd k.cp k.pf k.sh
  ts : k.ts = zsL k.tn
  ml : k.m.length ≤ n
  fl : k.fs.length ≤ n
  sl : k.ss.length ≤ 32
  ss : ∀ s ∈ k.ss, s.live = true → Al k.cd k.cp k.pf s.root
theorem al_fr {n : Nat} {k : Kr} {s : Int} (h : InvL n k) (ha : Al k.cd k.cp k.pf s) : 0 ≤ s ∧ s < 1099511627776 := by
  have := h.g.bd; have := h.g.bp; have := ha.1; omega
theorem InvL.root {n : Nat} {k : Kr} (h : InvL n k) {id : Int} (hl : livesB k id = true) : Al k.cd k.cp k.pf (spAt k id).root := by
  obtain ⟨h0, h1, h2, h3⟩ := lives_at hl
  exact h.ss _ (List.mem_of_getElem? h2) h3
/-! ### List -/
def ownM (k : Kr) (id : Int) : List (Int × Int) := putM k.m ((spAt k id).root * 512 + 511) 0
noncomputable def listR (k : Kr) (id : Int) : List Pg := if id = -1 then pagesN k.sz k.m 1 k.sh kA else if livesB k id = false then [] else pagesN k.sz (ownM k id) 2 (spAt k id).root 0
theorem ownM_u {n : Nat} {k : Kr} (h : InvL n k) (id : Int) : Srt (ownM k id) ∧ Uw (ownM k id) := by
  refine ⟨putM_srt _ _ _ h.g.s, fun c hc => ?_⟩
  rcases putM_mem _ _ _ _ hc with hc | ⟨_, hv⟩
  · exact h.g.u c hc
  · exact absurd rfl hv
theorem ltV_nil (k : Nat) : AV.lt (.m (.c (.v (.slice none 0 0)))) (.m (.c (.s 0 k []))) := fun E v h => ltC.nil k E v h
theorem list_all {n : Nat} {k : Kr} (h : InvL n k) (hn : n ≤ 100000) (id : Int) : Ok 11 [.ag k.ce, ii id] (.m (.c (.s (listR k id).length 8 (flP (listR k id))))) := by
  have hml := h.ml
  have hof : Ok 44 [iu 133955584] (.m (iu kA)) := by rw [kA_eq]; exact of_ok _ ⟨by omega, by omega⟩
  unfold listR
  by_cases c0 : id = -1
  · rw [if_pos c0]
    have f := al_fr h h.sh
    have hp := pages_o k.sz k.m h.g.s h.g.u k.sh kA ⟨by omega, by omega⟩ kA_U
    subst c0
    refine callOk_of 53 Tryz.func11 rfl rfl rfl rfl ?_ GG.to
    intro W A hG
    repeat (first
      | (refine go_at rfl ?_; first
          | refine go_do (valid_mv (.inl rfl) rfl) rfl ?_
          | (refine nxt_s 1 rfl ?_; refine go_do (valid_load_p tb rfl rfl rfl rfl rfl (by first | kernel_rfl | rfl)) (by first | kernel_rfl | rfl) ?_)
          | (refine nxt_s 1 rfl ?_; refine go_do (valid_fld_p tb rfl rfl rfl (by kernel_rfl)) rfl ?_)
          | refine go_do (valid_mv (.inr rfl) rfl) rfl ?_
          | refine go_do (valid_cmp rfl rfl rfl rfl (by first | exact .eql1 (by omega) | exact .eql0 (by omega) | exact .neq1 (by omega) | exact .neq0 (by omega) | exact .lss1 (by omega) | exact .lss0 (by omega) | exact .leq1 (by omega) | exact .leq0 (by omega) | exact .gtr1 (by omega) | exact .gtr0 (by omega) | exact .geq1 (by omega) | exact .geq0 (by omega) | constructor)) rfl ?_
          | refine go_do (valid_box rfl rfl rfl rfl rfl rfl) rfl ?_
          | refine go_do (valid_call rfl rfl rfl (hof) (by kernel_rfl)) rfl ?_
          | refine go_do (valid_call rfl rfl rfl (hp) (by kernel_rfl)) rfl ?_)
      | (refine hK _ ?_; clear hK K)
      | refine aw_text rfl ?_
      | exact aw_ret (show resA _ _ _ = some _ by kernel_rfl)
      | refine aw_cond1 rfl rfl ?_
      | refine aw_block ?_
      | refine aw_seq_k (fun K hK => ?_))
  · rw [if_neg c0]
    by_cases c1 : livesB k id = false
    · rw [if_pos c1]
      refine callOk_lt (r := .m (.c (.v (.slice none 0 0)))) ?_ rfl (ltV_nil 8)
      by_cases c2 : id < 0
      · refine callOk_of 53 Tryz.func11 rfl rfl rfl rfl ?_ GG.to
        intro W A hG
        repeat (first
          | (refine go_at rfl ?_; first
              | refine go_do (valid_skip rfl) rfl ?_
              | refine go_do (valid_mv (.inl rfl) rfl) rfl ?_
              | refine go_do (valid_mv (.inr rfl) rfl) rfl ?_
              | refine go_do (valid_pick rfl rfl rfl) rfl ?_
              | refine go_do (valid_cmp rfl rfl rfl rfl (by first | exact .eql1 (by omega) | exact .eql0 (by omega) | exact .neq1 (by omega) | exact .neq0 (by omega) | exact .lss1 (by omega) | exact .lss0 (by omega) | exact .leq1 (by omega) | exact .leq0 (by omega) | exact .gtr1 (by omega) | exact .gtr0 (by omega) | exact .geq1 (by omega) | exact .geq0 (by omega) | constructor)) rfl ?_
              | refine go_do (valid_box rfl rfl rfl rfl rfl rfl) rfl ?_
              | refine go_do (valid_call rfl rfl rfl (hof) (by kernel_rfl)) rfl ?_)
          | (refine hK _ ?_; clear hK K)
          | refine aw_text rfl ?_
          | exact aw_ret (show resA _ _ _ = some _ by kernel_rfl)
          | refine aw_cond1 rfl rfl ?_
          | refine aw_cond0 rfl rfl ?_
          | refine aw_block ?_
          | refine aw_seq_k (fun K hK => ?_))
      by_cases c3 : id < k.ss.length
      · obtain ⟨s, hs⟩ : ∃ s, k.ss[id.toNat]? = some s := ⟨_, List.getElem?_eq_getElem (by omega)⟩
        have hx := flS_at hs
        have hlv : s.live = false := by
          have : livesB k id = s.live := by simp [livesB, show 0 ≤ id by omega, hs]
          rw [← this]; exact c1
        rw [hlv] at hx
        refine callOk_of 53 Tryz.func11 rfl rfl rfl rfl ?_ GG.to
        intro W A hG
        repeat (first
          | (refine go_at rfl ?_; first
              | refine go_do (valid_mv (.inl rfl) rfl) rfl ?_
              | (refine nxt_s 1 rfl ?_; refine go_do (valid_load_p tb rfl rfl rfl rfl rfl (by first | kernel_rfl | rfl)) (by first | kernel_rfl | rfl) ?_)
              | (refine nxt_s 1 rfl ?_; refine go_do (valid_fld_p tb rfl rfl rfl (by kernel_rfl)) rfl ?_)
              | refine go_do (valid_mv (.inr rfl) rfl) rfl ?_
              | refine go_do (valid_pick rfl rfl rfl) rfl ?_
              | refine go_do (valid_cmp rfl rfl rfl rfl (by first | exact .eql1 (by omega) | exact .eql0 (by omega) | exact .neq1 (by omega) | exact .neq0 (by omega) | exact .lss1 (by omega) | exact .lss0 (by omega) | exact .leq1 (by omega) | exact .leq0 (by omega) | exact .gtr1 (by omega) | exact .gtr0 (by omega) | exact .geq1 (by omega) | exact .geq0 (by omega) | constructor)) rfl ?_
              | refine go_do (valid_box rfl rfl rfl rfl rfl rfl) rfl ?_
              | refine go_do (valid_len_s rfl rfl rfl rfl) rfl ?_
              | (refine nxt_s 3 rfl ?_; refine go_do (valid_load_q tb rfl rfl rfl rfl (by first | kernel_rfl | rfl)) rfl ?_)
              | (refine nxt_s 3 rfl ?_; refine go_do (valid_fld_q tb rfl rfl rfl rfl) rfl ?_)
              | refine go_do (valid_not rfl rfl rfl) rfl ?_
              | (refine nxt_s 4 rfl ?_; refine go_do (valid_idx_s rfl rfl rfl rfl rfl rfl (by omega) (by omega) _ (by assumption)) rfl ?_)
              | refine go_do (valid_call rfl rfl rfl (hof) (by kernel_rfl)) rfl ?_)
          | (refine hK _ ?_; clear hK K)
          | refine aw_text rfl ?_
          | exact aw_ret (show resA _ _ _ = some _ by kernel_rfl)
          | refine aw_cond1 rfl rfl ?_
          | refine aw_cond0 rfl rfl ?_
          | refine aw_block ?_
          | refine aw_seq_k (fun K hK => ?_))
      · refine callOk_of 53 Tryz.func11 rfl rfl rfl rfl ?_ GG.to
        intro W A hG
        repeat (first
          | (refine go_at rfl ?_; first
              | refine go_do (valid_skip rfl) rfl ?_
              | refine go_do (valid_mv (.inl rfl) rfl) rfl ?_
              | (refine nxt_s 1 rfl ?_; refine go_do (valid_load_p tb rfl rfl rfl rfl rfl (by first | kernel_rfl | rfl)) (by first | kernel_rfl | rfl) ?_)
              | (refine nxt_s 1 rfl ?_; refine go_do (valid_fld_p tb rfl rfl rfl (by kernel_rfl)) rfl ?_)
              | refine go_do (valid_mv (.inr rfl) rfl) rfl ?_
              | refine go_do (valid_pick rfl rfl rfl) rfl ?_
              | refine go_do (valid_cmp rfl rfl rfl rfl (by first | exact .eql1 (by omega) | exact .eql0 (by omega) | exact .neq1 (by omega) | exact .neq0 (by omega) | exact .lss1 (by omega) | exact .lss0 (by omega) | exact .leq1 (by omega) | exact .leq0 (by omega) | exact .gtr1 (by omega) | exact .gtr0 (by omega) | exact .geq1 (by omega) | exact .geq0 (by omega) | constructor)) rfl ?_
              | refine go_do (valid_box rfl rfl rfl rfl rfl rfl) rfl ?_
              | refine go_do (valid_len_s rfl rfl rfl rfl) rfl ?_
              | refine go_do (valid_call rfl rfl rfl (hof) (by kernel_rfl)) rfl ?_)
          | (refine hK _ ?_; clear hK K)
          | refine aw_text rfl ?_
          | exact aw_ret (show resA _ _ _ = some _ by kernel_rfl)
          | refine aw_cond1 rfl rfl ?_
          | refine aw_cond0 rfl rfl ?_
          | refine aw_block ?_
          | refine aw_seq_k (fun K hK => ?_))
    · rw [if_neg c1]
      have c1 : livesB k id = true := by simpa using c1
      obtain ⟨y0, y1, y2, y3⟩ := lives_at c1
      have hx := flS_at y2
      rw [y3] at hx
      have hrt := h.root c1
      have f := al_fr h hrt
      have hw0 := with_ok k.sz k.m (spAt k id).root 2 ⟨false, false, false, false, false, false, false, false, 0, 0, 0⟩ kA zP kA_U zP_U (by omega) (by omega) f h.g.s h.g.u (by omega)
      rw [kA_idx, h.g.with hrt (by omega) zP_U, putE_z] at hw0
      have ho := ownM_u h id
      have hp := pages_t k.sz (ownM k id) ho.1 ho.2 (spAt k id).root 0 ⟨by omega, by omega⟩ ⟨by omega, by omega⟩
      have hw : Ok 42 [memA k.sz k.m, .ag (spotC (spAt k id).root 2 ⟨false, false, false, false, false, false, false, false, 0, 0, 0⟩), iu kA, .ag zP.ce] (.m (memA k.sz (ownM k id))) := hw0
      clear hw0
      revert hw hp hx
      generalize ownM k id = om
      generalize spAt k id = sp
      intro hx hp hw
      refine callOk_of 53 Tryz.func11 rfl rfl rfl rfl ?_ GG.to
      intro W A hG
      repeat (first
        | (refine go_at rfl ?_; first
            | refine go_do (valid_mv (.inl rfl) rfl) rfl ?_
            | (refine nxt_s 1 rfl ?_; refine go_do (valid_load_p tb rfl rfl rfl rfl rfl (by first | kernel_rfl | rfl)) (by first | kernel_rfl | rfl) ?_)
            | (refine nxt_s 1 rfl ?_; refine go_do (valid_fld_p tb rfl rfl rfl (by kernel_rfl)) rfl ?_)
            | refine go_do (valid_mv (.inr rfl) rfl) rfl ?_
            | refine go_do (valid_pick rfl rfl rfl) rfl ?_
            | refine go_do (valid_cmp rfl rfl rfl rfl (by first | exact .eql1 (by omega) | exact .eql0 (by omega) | exact .neq1 (by omega) | exact .neq0 (by omega) | exact .lss1 (by omega) | exact .lss0 (by omega) | exact .leq1 (by omega) | exact .leq0 (by omega) | exact .gtr1 (by omega) | exact .gtr0 (by omega) | exact .geq1 (by omega) | exact .geq0 (by omega) | constructor)) rfl ?_
            | refine go_do (valid_box rfl rfl rfl rfl rfl rfl) rfl ?_
            | refine go_do (valid_alloc rfl rfl rfl rfl rfl) rfl ?_
            | (refine nxt_s 1 rfl ?_; refine go_do (valid_store_p rfl rfl rfl rfl rfl rfl (by first | kernel_rfl | rfl) rfl) (by first | kernel_rfl | rfl) ?_)
            | refine go_do (valid_len_s rfl rfl rfl rfl) rfl ?_
            | (refine nxt_s 3 rfl ?_; refine go_do (valid_load_q tb rfl rfl rfl rfl (by first | kernel_rfl | rfl)) rfl ?_)
            | (refine nxt_s 3 rfl ?_; refine go_do (valid_fld_q tb rfl rfl rfl rfl) rfl ?_)
            | refine go_do (valid_not rfl rfl rfl) rfl ?_
            | refine go_do (valid_build rfl rfl rfl rfl) rfl ?_
            | (refine nxt_s 4 rfl ?_; refine go_do (valid_idx_s rfl rfl rfl rfl rfl rfl (by omega) (by omega) _ (by assumption)) rfl ?_)
            | refine go_do (valid_call rfl rfl rfl (hof) (by kernel_rfl)) rfl ?_
            | refine go_do (valid_call rfl rfl rfl (hw) (by kernel_rfl)) rfl ?_
            | refine go_do (valid_call rfl rfl rfl (hp) (by kernel_rfl)) rfl ?_)
        | (refine hK _ ?_; clear hK K)
        | refine aw_text rfl ?_
        | exact aw_ret (show resA _ _ _ = some _ by kernel_rfl)
        | refine aw_cond0 rfl rfl ?_
        | refine aw_block ?_
        | refine aw_skip ?_
        | refine aw_seq_k (fun K hK => ?_))
end Go.Proofs.YtgkodncknlankaaGreatDoor.LaF
/- The abstract walk: lay.Map. -/
namespace Go.Proofs.YtgkodncknlankaaGreatDoor.LaG
open Go.RowKit Go.Proofs.YtgkodncknlankaaGreatDoor.Bv Go.Proofs.YtgkodncknlankaaGreatDoor.VaSpec Go.Proofs.YtgkodncknlankaaGreatDoor.Base Go.Proofs.YtgkodncknlankaaGreatDoor.MemL Go.Proofs.YtgkodncknlankaaGreatDoor.RegR Go.Proofs.YtgkodncknlankaaGreatDoor.Ax Go.Proofs.YtgkodncknlankaaGreatDoor.MemC Go.Proofs.YtgkodncknlankaaGreatDoor.PutC Go.Proofs.YtgkodncknlankaaGreatDoor.MemC3 Go.Proofs.YtgkodncknlankaaGreatDoor.TzC Go.Proofs.YtgkodncknlankaaGreatDoor.OkS Go.Proofs.YtgkodncknlankaaGreatDoor.SpA Go.Proofs.YtgkodncknlankaaGreatDoor.SpB Go.Proofs.YtgkodncknlankaaGreatDoor.SpC Go.Proofs.YtgkodncknlankaaGreatDoor.SpD Go.Proofs.YtgkodncknlankaaGreatDoor.SpE Go.Proofs.YtgkodncknlankaaGreatDoor.SpF Go.Proofs.YtgkodncknlankaaGreatDoor.SpH Go.Proofs.YtgkodncknlankaaGreatDoor.SpI Go.Proofs.YtgkodncknlankaaGreatDoor.SpJ Go.Proofs.YtgkodncknlankaaGreatDoor.SpN Go.Proofs.YtgkodncknlankaaGreatDoor.SpO Go.Proofs.YtgkodncknlankaaGreatDoor.LaA Go.Proofs.YtgkodncknlankaaGreatDoor.LaB Go.Proofs.YtgkodncknlankaaGreatDoor.LaC Go.Proofs.YtgkodncknlankaaGreatDoor.LaD Go.Proofs.YtgkodncknlankaaGreatDoor.LaE Go.Proofs.YtgkodncknlankaaGreatDoor.LaF
open Go.Proofs.YtgkodncknlankaaGreatDoor.BitsC Go.Proofs.YtgkodncknlankaaGreatDoor.PteSpec
set_option linter.unusedVariables false
set_option linter.unusedSimpArgs false
set_option maxRecDepth 10000
set_option maxHeartbeats 1000000
theorem where_good {n : Nat} {k : Kr} {id a l : Int} (h : InvL n k) (he : (whereR k id a l).2.2 = 0) : (0 ≤ l ∧ l ≤ 2) ∧ Al k.cd k.cp k.pf (whereR k id a l).1 ∧ l ≤ (whereR k id a l).2.1 ∧ (1 ≤ (whereR k id a l).2.1 ∧ (whereR k id a l).2.1 ≤ 2) := by
  unfold whereR at he ⊢
  by_cases c1 : 0 ≤ l ∧ l ≤ 2
  rotate_left
  · rw [if_pos c1] at he; cases he
  rw [if_neg (by simpa using c1)] at he ⊢
  by_cases c2 : id ≠ -1 ∧ livesB k id = false
  · rw [if_pos c2] at he; cases he
  rw [if_neg c2] at he ⊢
  by_cases c3 : fits a l = false
  · rw [if_pos c3] at he; cases he
  rw [if_neg c3] at he ⊢
  by_cases c4 : id = -1
  · rw [if_pos c4] at he ⊢
    by_cases c5 : idx a 2 = 511 ∧ l ≠ 2
    · rw [if_pos c5]
      exact ⟨c1, h.sh, by show l ≤ 1; omega, by show (1 : Int) ≤ 1; omega, by show (1 : Int) ≤ 2; omega⟩
    · rw [if_neg c5] at he; cases he
  · rw [if_neg c4] at he ⊢
    by_cases c5 : idx a 2 = 511
    · rw [if_pos c5] at he; cases he
    · rw [if_neg c5]
      have c6 : livesB k id = true := by
        cases e : livesB k id with
        | true => rfl
        | false => exact absurd ⟨c4, e⟩ c2
      exact ⟨c1, h.root c6, by show l ≤ 2; omega, by show (1 : Int) ≤ 2; omega, by show (2 : Int) ≤ 2; omega⟩
/-- what the looks say -/
def lk0 (pa l : Int) : Int := if evenI pa (VaSpec.sz l) then 0 else 2
def lk1 (k : Kr) (pa l : Int) : Int := if inD pa (k.cd * 4096) (VaSpec.sz l) then 0 else 3
def lk2 (p : Pm) : Int := if pmMay p then 0 else 5
def lk3 (k : Kr) (top lv a l : Int) : Int := if !(atM k.sz k.m (reachI k.sz k.m a l lv top).1 (idx a (reachI k.sz k.m a l lv top).2)).v then 0 else 6
def mapD (k : Kr) (top lv a l : Int) : List (Int × Int) × Int × Int × Int := dnN k.sz k.cd a l lv.toNat k.m k.pf top
def mapK (k : Kr) (D : List (Int × Int) × Int × Int × Int) (a pa l : Int) (p : Pm) (g : Bool) : Kr := { k with m := withM k.sz D.1 D.2.2.1 (idx a l) (mkP (pa / 4096) p g), pf := D.2.1 }
def mapR (k : Kr) (id a pa l : Int) (p : Pm) : Kr × Int :=
  if (whereR k id a l).2.2 ≠ 0 then (k, (whereR k id a l).2.2)
  else if lk0 pa l ≠ 0 then (k, lk0 pa l)
  else if lk1 k pa l ≠ 0 then (k, lk1 k pa l)
  else if lk2 p ≠ 0 then (k, lk2 p)
  else if lk3 k (whereR k id a l).1 (whereR k id a l).2.1 a l ≠ 0 then (k, lk3 k (whereR k id a l).1 (whereR k id a l).2.1 a l)
  else if (mapD k (whereR k id a l).1 (whereR k id a l).2.1 a l).2.2.2 ≠ 0 then (k, (mapD k (whereR k id a l).1 (whereR k id a l).2.1 a l).2.2.2)
  else (mapK k (mapD k (whereR k id a l).1 (whereR k id a l).2.1 a l) a pa l p (decide (id = -1)), 0)
theorem lk2_may {p : Pm} (h : lk2 p = 0) : pmMay p = true := by
  unfold lk2 at h
  split at h
  · assumption
  · cases h
theorem ppn_bd {k : Kr} {pa l : Int} (h : U pa) (hd : k.cd ≤ 524288) (hq : lk1 k pa l = 0) : 0 ≤ pa / 4096 ∧ pa / 4096 < 17592186044416 := by
  obtain ⟨h0, h1⟩ := h
  unfold lk1 inD at hq
  split at hq
  · rename_i h2
    simp only [Bool.and_eq_true, decide_eq_true_eq] at h2
    omega
  · cases hq
/-- behind a page that is laid all holds as ahead -/
theorem map_inv {n : Nat} {k : Kr} {id a pa l : Int} {p : Pm} (h : InvL n k) (hp : U pa) : InvL (n + 3) (mapR k id a pa l p).1 := by
  have hm : InvL (n + 3) k := { h with ml := by have := h.ml; omega, fl := by have := h.fl; omega }
  unfold mapR
  split
  · exact hm
  · rename_i c0
    split
    · exact hm
    · split
      · exact hm
      · split
        · exact hm
        · rename_i c3
          split
          · exact hm
          · split
            · exact hm
            · rename_i c5
              obtain ⟨w1, w2, w3, w4⟩ := where_good (id := id) (a := a) (l := l) h (by omega)
              generalize whereR k id a l = w at *
              have he : (mapD k w.1 w.2.1 a l).2.2.2 = 0 := by omega
              obtain ⟨d1, d2, d3, d4⟩ := dn_good k.cd k.cp k.sz a l w1.1 w.2.1.toNat k.m k.pf w.1 h.g w2 he
              have hb := mkP_back (n := pa / 4096) (p := p) (g := decide (id = -1)) (ppn_bd (k := k) (l := l) hp (by have := h.g.bd; omega) (by omega)) (lk2_may (by omega))
              have hw := d1.with (i := idx a l) d2 (idx_bd a l) hb.2.1
              have hle := with_len k.sz (mapD k w.1 w.2.1 a l).1 (mapD k w.1 w.2.1 a l).2.2.1 (idx a l) (mkP (pa / 4096) p (decide (id = -1)))
              have hml := h.ml
              refine { g := ?_, cs := h.cs, pb := h.pb, pm := h.pm, sh := d4 _ h.sh, ts := h.ts, ml := ?_, fl := by have := h.fl; show k.fs.length ≤ n + 3; omega, sl := h.sl, ss := fun s hs hl => d4 _ (h.ss s hs hl) }
              · show GM k.cd k.cp k.sz (withM k.sz (dnN k.sz k.cd a l w.2.1.toNat k.m k.pf w.1).1 (dnN k.sz k.cd a l w.2.1.toNat k.m k.pf w.1).2.2.1 (idx a l) (mkP (pa / 4096) p (decide (id = -1)))) (dnN k.sz k.cd a l w.2.1.toNat k.m k.pf w.1).2.1
                rw [hw]
                exact d1.put d2 (idx_bd a l) (putE_U _ hb.2.1) fun _ => by rw [hb.1]; exact .inl hb.2.2
              · show (withM k.sz (mapD k w.1 w.2.1 a l).1 (mapD k w.1 w.2.1 a l).2.2.1 (idx a l) (mkP (pa / 4096) p (decide (id = -1)))).length ≤ n + 3
                have d3' : (mapD k w.1 w.2.1 a l).1.length ≤ k.m.length + w.2.1.toNat := d3
                omega
/-! ### the walk -/
def mapH (k : Kr) (id a pa l : Int) (p : Pm) (top lv z : Int) (i : Nat) : St := St.of [(1, .m (ii id)), (6, .m (.c (.p 6 0))), (8, .m (.c (.p 8 0))), (9, .m (.c (.p 9 0))), (10, .m (.c (.p 10 0))), (11, .m (.c (.p 11 0))), (12, .m (.c (.p 12 0))), (13, .m (ii 0)), (14, .m (.c (.p 14 0))), (15, .m (.c (.p 15 0))), (16, .m (ii 0)), (55, .m (.c (.bs 55 0 4))), (56, .m (ii 4)), (57, .m (ii i))]
  [(6, .live (.box k.ce)), (8, .live (.box [cu a])), (9, .live (.box [cu pa])), (10, .live (.box [ci l])), (11, .live (.box p.ce)), (12, .live (.box zK)), (14, .live (.box [cu top])), (15, .live (.box [ci lv])), (17, .live (.box [cu (k.cd * 4096)])), (18, .live (.box [cu z])), (55, .live (.box [.cl 36 [9, 18], .cl 38 [9, 17, 18], .cl 39 [11], .cl 33 [6, 14, 15, 8, 10]]))]
def nm1 (i : Nat) : Nat := if i = 2000 then 6 else if i = 2001 then 14 else if i = 2002 then 15 else if i = 2003 then 8 else 10
def nm2 (i : Nat) : Nat := if i = 2000 then 9 else 18
def nm3 (i : Nat) : Nat := if i = 2000 then 9 else if i = 2001 then 17 else 18
def nm4 (i : Nat) : Nat := 11
theorem map_all {n : Nat} {k : Kr} (h : InvL n k) (hn : n ≤ 90000) (id a pa l : Int) (p : Pm) (ha : U a) (hp : U pa) : Ok 10 [.ag k.ce, ii id, iu a, iu pa, ii l, .ag p.ce] (.tu [.ag (mapR k id a pa l p).1.ce, ii (mapR k id a pa l p).2]) := by
  have hw := where_ok k id a l ha
  obtain ⟨R, hR⟩ : ∃ R, R = mapR k id a pa l p := ⟨_, rfl⟩
  rw [← hR]
  unfold mapR at hR
  by_cases c0 : (whereR k id a l).2.2 ≠ 0
  · rw [if_pos c0] at hR
    generalize whereR k id a l = w at *
    subst hR
    refine callOk_of 101 Tryz.func10 rfl rfl rfl rfl ?_ GG.to
    intro W A hG
    repeat (first
      | (refine go_at rfl ?_; first
          | refine go_do (valid_mv (.inl rfl) rfl) rfl ?_
          | (refine nxt_s 1 rfl ?_; refine go_do (valid_load_p tb rfl rfl rfl rfl rfl (by first | kernel_rfl | rfl)) (by first | kernel_rfl | rfl) ?_)
          | refine go_do (valid_mv (.inr rfl) rfl) rfl ?_
          | refine go_do (valid_extract rfl rfl rfl rfl) rfl ?_
          | refine go_do (valid_cmp rfl rfl rfl rfl (by first | exact .eql1 (by omega) | exact .eql0 (by omega) | exact .neq1 (by omega) | exact .neq0 (by omega) | exact .lss1 (by omega) | exact .lss0 (by omega) | exact .leq1 (by omega) | exact .leq0 (by omega) | exact .gtr1 (by omega) | exact .gtr0 (by omega) | exact .geq1 (by omega) | exact .geq0 (by omega) | constructor)) rfl ?_
          | refine go_do (valid_box rfl rfl rfl rfl rfl rfl) rfl ?_
          | refine go_do (valid_alloc rfl rfl rfl rfl rfl) rfl ?_
          | (refine nxt_s 1 rfl ?_; refine go_do (valid_store_p rfl rfl rfl rfl rfl rfl (by first | kernel_rfl | rfl) rfl) (by first | kernel_rfl | rfl) ?_)
          | refine go_do (valid_call rfl rfl rfl (hw) (by kernel_rfl)) rfl ?_)
      | (refine hK _ ?_; clear hK K)
      | refine aw_text rfl ?_
      | exact aw_ret (show resA _ _ _ = some _ by kernel_rfl)
      | refine aw_cond1 rfl rfl ?_
      | refine aw_seq_k (fun K hK => ?_))
  rw [if_neg c0] at hR
  obtain ⟨w1, w2, w3, w4⟩ := where_good (id := id) (a := a) (l := l) h (by omega)
  have c0 : (whereR k id a l).2.2 = 0 := by omega
  rw [c0] at hw
  generalize (whereR k id a l).1 = top at *
  generalize (whereR k id a l).2.1 = lv at *
  have b1 := h.g.bd
  have b2 := h.g.bp
  have hz := size_ok l w1.1 w1.2
  have hzb := szv_bd l w1.1 w1.2
  have ft : 0 ≤ top ∧ top < 17592186044416 := by have := w2.1; omega
  have hml := h.ml
  have m2 := map2_ok pa (VaSpec.sz l) hp ⟨by omega, by omega⟩
  have m3 := map3_ok pa (k.cd * 4096) (VaSpec.sz l) hp ⟨by omega, by omega⟩ ⟨by omega, by omega⟩
  have m4 := map4_ok p
  have m1 := map1_ok k top lv a l ⟨h.g.s, h.g.u⟩ ft ha (by omega) (by omega) w1.1
  obtain ⟨lw, rfl⟩ := Int.eq_ofNat_of_zero_le (show 0 ≤ lv by omega)
  have hd := down_ok k.cd k.cp k.sz top a l lw k.m k.pf h.g w2 ha (by omega) w1.1 w3 (by omega) _ rfl
  have hdg := dn_good k.cd k.cp k.sz a l w1.1 lw k.m k.pf top h.g w2
  have hpb := h.pb
  have hpm := h.pm
  have h2 : CallOkW Tryz.prog GG 36 [spB 2000 [cu pa], spB 2001 [cu (VaSpec.sz l)]] [.c (.p 2000 0), .c (.p 2001 0)] (.m (ii (lk0 pa l))) := m2
  have h3 : CallOkW Tryz.prog GG 38 [spB 2000 [cu pa], spB 2001 [cu (k.cd * 4096)], spB 2002 [cu (VaSpec.sz l)]] [.c (.p 2000 0), .c (.p 2001 0), .c (.p 2002 0)] (.m (ii (lk1 k pa l))) := m3
  have h4 : CallOkW Tryz.prog GG 39 [spB 2000 p.ce] [.c (.p 2000 0)] (.m (ii (lk2 p))) := m4
  have h1 : CallOkW Tryz.prog GG 33 [spB 2000 k.ce, spB 2001 [cu top], spB 2002 [ci (lw : Int)], spB 2003 [cu a], spB 2004 [ci l]] [.c (.p 2000 0), .c (.p 2001 0), .c (.p 2002 0), .c (.p 2003 0), .c (.p 2004 0)] (.m (ii (lk3 k top lw a l))) := m1
  clear m1 m2 m3 m4
  have hmk := mkP_back (n := pa / 4096) (p := p) (g := decide (id = -1))
  have hpn := ppn_bd (k := k) (pa := pa) (l := l) hp (by omega)
  have hpk := lk2_may (p := p)
  generalize lk0 pa l = q0 at *
  generalize lk1 k pa l = q1 at *
  generalize lk2 p = q2 at *
  generalize lk3 k top lw a l = q3 at *
  generalize VaSpec.sz l = z at *
  have hsz : k.sz = (k.cd + k.cp) * 4096 := h.g.bz
  unfold mapD at hR
  rw [Int.toNat_natCast] at hR
  generalize dnN k.sz k.cd a l lw k.m k.pf top = D at *
  refine callOk_of 101 Tryz.func10 rfl rfl rfl rfl ?_ GG.to
  intro W A hG
  repeat (first
    | (refine go_at rfl ?_; first
        | refine go_do (valid_mv (.inl rfl) rfl) rfl ?_
        | (refine nxt_s 1 rfl ?_; refine go_do (valid_load_p tb rfl rfl rfl rfl rfl (by first | kernel_rfl | rfl)) (by first | kernel_rfl | rfl) ?_)
        | (refine nxt_s 1 rfl ?_; refine go_do (valid_fld_p tb rfl rfl rfl (by kernel_rfl)) rfl ?_)
        | refine go_do (valid_mv (.inr rfl) rfl) rfl ?_
        | refine go_do (valid_extract rfl rfl rfl rfl) rfl ?_
        | refine go_do (valid_cmp rfl rfl rfl rfl (by first | exact .eql1 (by omega) | exact .eql0 (by omega) | exact .neq1 (by omega) | exact .neq0 (by omega) | exact .lss1 (by omega) | exact .lss0 (by omega) | exact .leq1 (by omega) | exact .leq0 (by omega) | exact .gtr1 (by omega) | exact .gtr0 (by omega) | exact .geq1 (by omega) | exact .geq0 (by omega) | constructor)) rfl ?_
        | refine go_do (valid_ar rfl rfl rfl rfl (by constructor) (by first | exact wr_u64 (by omega) (by omega) | exact wr_i64 (by omega) (by omega) | rfl)) rfl ?_
        | refine go_do (valid_cv rfl rfl rfl rfl rfl (by first | exact wr_u64 (by omega) (by omega) | exact wr_i64 (by omega) (by omega) | rfl)) rfl ?_
        | refine go_do (valid_box rfl rfl rfl rfl rfl rfl) rfl ?_
        | refine go_do (valid_alloc rfl rfl rfl rfl rfl) rfl ?_
        | (refine nxt_s 1 rfl ?_; refine go_do (valid_store_p rfl rfl rfl rfl rfl rfl (by first | kernel_rfl | rfl) rfl) (by first | kernel_rfl | rfl) ?_)
        | refine go_do (valid_build rfl rfl rfl rfl) rfl ?_
        | refine go_do (valid_clos rfl rfl rfl) rfl ?_
        | refine go_do (valid_len_bs rfl rfl rfl rfl) rfl ?_
        | refine go_do (valid_bslice_b rfl rfl rfl rfl rfl rfl rfl rfl rfl rfl) rfl ?_
        | refine go_do (valid_call rfl rfl rfl (hw) (by kernel_rfl)) rfl ?_
        | refine go_do (valid_call rfl rfl rfl (hz) (by kernel_rfl)) rfl ?_)
    | (refine hK _ ?_; clear hK K)
    | refine aw_text rfl ?_
    | refine aw_any (by kernel_rfl) (by kernel_rfl) rfl ?_
    | refine aw_cond0 rfl rfl ?_
    | refine aw_block ?_
    | refine aw_skip ?_
    | refine aw_seq_k (fun K hK => ?_))
  refine aw_loopH (α := Nat) (fun i => i ≤ 4 ∧ (0 < i → q0 = 0) ∧ (1 < i → q1 = 0) ∧ (2 < i → q2 = 0) ∧ (3 < i → q3 = 0)) (fun i => mapH k id a pa l p top lw z i) (fun i => 4 - i) 0 ⟨by omega, by omega, by omega, by omega, by omega⟩ (sub_of _ _ ⟨by kernel_rfl, by kernel_rfl, by kernel_rfl, by kernel_rfl, by kernel_rfl, by kernel_rfl, by kernel_rfl, by kernel_rfl, by kernel_rfl, by kernel_rfl, by kernel_rfl, by kernel_rfl, by kernel_rfl, by kernel_rfl, trivial⟩ ⟨by kernel_rfl, by kernel_rfl, by kernel_rfl, by kernel_rfl, by kernel_rfl, by kernel_rfl, by kernel_rfl, by kernel_rfl, by kernel_rfl, by kernel_rfl, by kernel_rfl, trivial⟩ (by kernel_rfl)) ?_
  rintro i ⟨x0, x1, x2, x3, x4⟩
  show Aw _ _ _ _ (mapH k id a pa l p top lw z i)
  unfold mapH
  have hi : i = 0 ∨ i = 1 ∨ i = 2 ∨ i = 3 ∨ i = 4 := by omega
  rcases hi with rfl | rfl | rfl | rfl | rfl
  · by_cases e : q0 = 0
    · skip
      repeat (first
        | (refine go_at rfl ?_; first
            | refine go_do (valid_mv (.inl rfl) rfl) rfl ?_
            | (refine nxt_s 1 rfl ?_; refine go_do (valid_load_p tb rfl rfl rfl rfl rfl (by first | kernel_rfl | rfl)) (by first | kernel_rfl | rfl) ?_)
            | (refine nxt_s 1 rfl ?_; refine go_do (valid_fld_p tb rfl rfl rfl (by kernel_rfl)) rfl ?_)
            | refine go_do (valid_mv (.inr rfl) rfl) rfl ?_
            | refine go_do (valid_cmp rfl rfl rfl rfl (by first | exact .eql1 (by omega) | exact .eql0 (by omega) | exact .neq1 (by omega) | exact .neq0 (by omega) | exact .lss1 (by omega) | exact .lss0 (by omega) | exact .leq1 (by omega) | exact .leq0 (by omega) | exact .gtr1 (by omega) | exact .gtr0 (by omega) | exact .geq1 (by omega) | exact .geq0 (by omega) | constructor)) rfl ?_
            | refine go_do (valid_ar rfl rfl rfl rfl (by constructor) (by first | exact wr_u64 (by omega) (by omega) | exact wr_i64 (by omega) (by omega) | rfl)) rfl ?_
            | refine go_do (valid_alloc rfl rfl rfl rfl rfl) rfl ?_
            | (refine nxt_s 1 rfl ?_; refine go_do (valid_store_p rfl rfl rfl rfl rfl rfl (by first | kernel_rfl | rfl) rfl) (by first | kernel_rfl | rfl) ?_)
            | (refine nxt_s 6 rfl ?_; refine go_do (valid_idx_bs rfl rfl rfl rfl rfl rfl (by omega) (by omega)) rfl ?_)
            | refine go_do (valid_call_cl nm2 h2 rfl rfl rfl (by kernel_rfl) rfl rfl ⟨rfl, rfl, trivial⟩ (by kernel_rfl)) rfl ?_)
        | (refine hK _ ?_; clear hK K)
        | refine aw_text rfl ?_
        | refine aw_cond1 rfl rfl ?_
        | refine aw_cond0 rfl rfl ?_
        | refine aw_block ?_
        | refine aw_skip ?_
        | refine aw_seq_k (fun K hK => ?_))
      exact ⟨1, ⟨by omega, by omega, by omega, by omega, by omega⟩, by omega, sub_of _ _ ⟨by kernel_rfl, by kernel_rfl, by kernel_rfl, by kernel_rfl, by kernel_rfl, by kernel_rfl, by kernel_rfl, by kernel_rfl, by kernel_rfl, by kernel_rfl, by kernel_rfl, by kernel_rfl, by kernel_rfl, by kernel_rfl, trivial⟩ ⟨by kernel_rfl, by kernel_rfl, by kernel_rfl, by kernel_rfl, by kernel_rfl, by kernel_rfl, by kernel_rfl, by kernel_rfl, by kernel_rfl, by kernel_rfl, by kernel_rfl, trivial⟩ (by kernel_rfl)⟩
    · rw [if_pos e] at hR
      subst hR
      repeat (first
        | (refine go_at rfl ?_; first
            | refine go_do (valid_mv (.inl rfl) rfl) rfl ?_
            | (refine nxt_s 1 rfl ?_; refine go_do (valid_load_p tb rfl rfl rfl rfl rfl (by first | kernel_rfl | rfl)) (by first | kernel_rfl | rfl) ?_)
            | (refine nxt_s 1 rfl ?_; refine go_do (valid_fld_p tb rfl rfl rfl (by kernel_rfl)) rfl ?_)
            | refine go_do (valid_mv (.inr rfl) rfl) rfl ?_
            | refine go_do (valid_cmp rfl rfl rfl rfl (by first | exact .eql1 (by omega) | exact .eql0 (by omega) | exact .neq1 (by omega) | exact .neq0 (by omega) | exact .lss1 (by omega) | exact .lss0 (by omega) | exact .leq1 (by omega) | exact .leq0 (by omega) | exact .gtr1 (by omega) | exact .gtr0 (by omega) | exact .geq1 (by omega) | exact .geq0 (by omega) | constructor)) rfl ?_
            | refine go_do (valid_alloc rfl rfl rfl rfl rfl) rfl ?_
            | (refine nxt_s 1 rfl ?_; refine go_do (valid_store_p rfl rfl rfl rfl rfl rfl (by first | kernel_rfl | rfl) rfl) (by first | kernel_rfl | rfl) ?_)
            | (refine nxt_s 6 rfl ?_; refine go_do (valid_idx_bs rfl rfl rfl rfl rfl rfl (by omega) (by omega)) rfl ?_)
            | refine go_do (valid_call_cl nm2 h2 rfl rfl rfl (by kernel_rfl) rfl rfl ⟨rfl, rfl, trivial⟩ (by kernel_rfl)) rfl ?_)
        | (refine hK _ ?_; clear hK K)
        | refine aw_text rfl ?_
        | exact aw_ret (show resA _ _ _ = some _ by kernel_rfl)
        | refine aw_cond1 rfl rfl ?_
        | refine aw_block ?_
        | refine aw_skip ?_
        | refine aw_seq_k (fun K hK => ?_))
  · by_cases e : q1 = 0
    · skip
      repeat (first
        | (refine go_at rfl ?_; first
            | refine go_do (valid_mv (.inl rfl) rfl) rfl ?_
            | (refine nxt_s 1 rfl ?_; refine go_do (valid_load_p tb rfl rfl rfl rfl rfl (by first | kernel_rfl | rfl)) (by first | kernel_rfl | rfl) ?_)
            | (refine nxt_s 1 rfl ?_; refine go_do (valid_fld_p tb rfl rfl rfl (by kernel_rfl)) rfl ?_)
            | refine go_do (valid_mv (.inr rfl) rfl) rfl ?_
            | refine go_do (valid_cmp rfl rfl rfl rfl (by first | exact .eql1 (by omega) | exact .eql0 (by omega) | exact .neq1 (by omega) | exact .neq0 (by omega) | exact .lss1 (by omega) | exact .lss0 (by omega) | exact .leq1 (by omega) | exact .leq0 (by omega) | exact .gtr1 (by omega) | exact .gtr0 (by omega) | exact .geq1 (by omega) | exact .geq0 (by omega) | constructor)) rfl ?_
            | refine go_do (valid_ar rfl rfl rfl rfl (by constructor) (by first | exact wr_u64 (by omega) (by omega) | exact wr_i64 (by omega) (by omega) | rfl)) rfl ?_
            | refine go_do (valid_alloc rfl rfl rfl rfl rfl) rfl ?_
            | (refine nxt_s 1 rfl ?_; refine go_do (valid_store_p rfl rfl rfl rfl rfl rfl (by first | kernel_rfl | rfl) rfl) (by first | kernel_rfl | rfl) ?_)
            | (refine nxt_s 6 rfl ?_; refine go_do (valid_idx_bs rfl rfl rfl rfl rfl rfl (by omega) (by omega)) rfl ?_)
            | refine go_do (valid_call_cl nm3 h3 rfl rfl rfl (by kernel_rfl) rfl rfl ⟨rfl, rfl, rfl, trivial⟩ (by kernel_rfl)) rfl ?_)
        | (refine hK _ ?_; clear hK K)
        | refine aw_text rfl ?_
        | refine aw_cond1 rfl rfl ?_
        | refine aw_cond0 rfl rfl ?_
        | refine aw_block ?_
        | refine aw_skip ?_
        | refine aw_seq_k (fun K hK => ?_))
      exact ⟨2, ⟨by omega, by omega, by omega, by omega, by omega⟩, by omega, sub_of _ _ ⟨by kernel_rfl, by kernel_rfl, by kernel_rfl, by kernel_rfl, by kernel_rfl, by kernel_rfl, by kernel_rfl, by kernel_rfl, by kernel_rfl, by kernel_rfl, by kernel_rfl, by kernel_rfl, by kernel_rfl, by kernel_rfl, trivial⟩ ⟨by kernel_rfl, by kernel_rfl, by kernel_rfl, by kernel_rfl, by kernel_rfl, by kernel_rfl, by kernel_rfl, by kernel_rfl, by kernel_rfl, by kernel_rfl, by kernel_rfl, trivial⟩ (by kernel_rfl)⟩
    · rw [if_neg (show ¬ q0 ≠ 0 by omega)] at hR; rw [if_pos e] at hR
      subst hR
      repeat (first
        | (refine go_at rfl ?_; first
            | refine go_do (valid_mv (.inl rfl) rfl) rfl ?_
            | (refine nxt_s 1 rfl ?_; refine go_do (valid_load_p tb rfl rfl rfl rfl rfl (by first | kernel_rfl | rfl)) (by first | kernel_rfl | rfl) ?_)
            | (refine nxt_s 1 rfl ?_; refine go_do (valid_fld_p tb rfl rfl rfl (by kernel_rfl)) rfl ?_)
            | refine go_do (valid_mv (.inr rfl) rfl) rfl ?_
            | refine go_do (valid_cmp rfl rfl rfl rfl (by first | exact .eql1 (by omega) | exact .eql0 (by omega) | exact .neq1 (by omega) | exact .neq0 (by omega) | exact .lss1 (by omega) | exact .lss0 (by omega) | exact .leq1 (by omega) | exact .leq0 (by omega) | exact .gtr1 (by omega) | exact .gtr0 (by omega) | exact .geq1 (by omega) | exact .geq0 (by omega) | constructor)) rfl ?_
            | refine go_do (valid_alloc rfl rfl rfl rfl rfl) rfl ?_
            | (refine nxt_s 1 rfl ?_; refine go_do (valid_store_p rfl rfl rfl rfl rfl rfl (by first | kernel_rfl | rfl) rfl) (by first | kernel_rfl | rfl) ?_)
            | (refine nxt_s 6 rfl ?_; refine go_do (valid_idx_bs rfl rfl rfl rfl rfl rfl (by omega) (by omega)) rfl ?_)
            | refine go_do (valid_call_cl nm3 h3 rfl rfl rfl (by kernel_rfl) rfl rfl ⟨rfl, rfl, rfl, trivial⟩ (by kernel_rfl)) rfl ?_)
        | (refine hK _ ?_; clear hK K)
        | refine aw_text rfl ?_
        | exact aw_ret (show resA _ _ _ = some _ by kernel_rfl)
        | refine aw_cond1 rfl rfl ?_
        | refine aw_block ?_
        | refine aw_skip ?_
        | refine aw_seq_k (fun K hK => ?_))
  · by_cases e : q2 = 0
    · skip
      repeat (first
        | (refine go_at rfl ?_; first
            | refine go_do (valid_mv (.inl rfl) rfl) rfl ?_
            | (refine nxt_s 1 rfl ?_; refine go_do (valid_load_p tb rfl rfl rfl rfl rfl (by first | kernel_rfl | rfl)) (by first | kernel_rfl | rfl) ?_)
            | (refine nxt_s 1 rfl ?_; refine go_do (valid_fld_p tb rfl rfl rfl (by kernel_rfl)) rfl ?_)
            | refine go_do (valid_mv (.inr rfl) rfl) rfl ?_
            | refine go_do (valid_cmp rfl rfl rfl rfl (by first | exact .eql1 (by omega) | exact .eql0 (by omega) | exact .neq1 (by omega) | exact .neq0 (by omega) | exact .lss1 (by omega) | exact .lss0 (by omega) | exact .leq1 (by omega) | exact .leq0 (by omega) | exact .gtr1 (by omega) | exact .gtr0 (by omega) | exact .geq1 (by omega) | exact .geq0 (by omega) | constructor)) rfl ?_
            | refine go_do (valid_ar rfl rfl rfl rfl (by constructor) (by first | exact wr_u64 (by omega) (by omega) | exact wr_i64 (by omega) (by omega) | rfl)) rfl ?_
            | refine go_do (valid_alloc rfl rfl rfl rfl rfl) rfl ?_
            | (refine nxt_s 1 rfl ?_; refine go_do (valid_store_p rfl rfl rfl rfl rfl rfl (by first | kernel_rfl | rfl) rfl) (by first | kernel_rfl | rfl) ?_)
            | (refine nxt_s 6 rfl ?_; refine go_do (valid_idx_bs rfl rfl rfl rfl rfl rfl (by omega) (by omega)) rfl ?_)
            | refine go_do (valid_call_cl nm4 h4 rfl rfl rfl (by kernel_rfl) rfl rfl ⟨rfl, trivial⟩ (by kernel_rfl)) rfl ?_)
        | (refine hK _ ?_; clear hK K)
        | refine aw_text rfl ?_
        | refine aw_cond1 rfl rfl ?_
        | refine aw_cond0 rfl rfl ?_
        | refine aw_block ?_
        | refine aw_skip ?_
        | refine aw_seq_k (fun K hK => ?_))
      exact ⟨3, ⟨by omega, by omega, by omega, by omega, by omega⟩, by omega, sub_of _ _ ⟨by kernel_rfl, by kernel_rfl, by kernel_rfl, by kernel_rfl, by kernel_rfl, by kernel_rfl, by kernel_rfl, by kernel_rfl, by kernel_rfl, by kernel_rfl, by kernel_rfl, by kernel_rfl, by kernel_rfl, by kernel_rfl, trivial⟩ ⟨by kernel_rfl, by kernel_rfl, by kernel_rfl, by kernel_rfl, by kernel_rfl, by kernel_rfl, by kernel_rfl, by kernel_rfl, by kernel_rfl, by kernel_rfl, by kernel_rfl, trivial⟩ (by kernel_rfl)⟩
    · rw [if_neg (show ¬ q0 ≠ 0 by omega)] at hR; rw [if_neg (show ¬ q1 ≠ 0 by omega)] at hR; rw [if_pos e] at hR
      subst hR
      repeat (first
        | (refine go_at rfl ?_; first
            | refine go_do (valid_mv (.inl rfl) rfl) rfl ?_
            | (refine nxt_s 1 rfl ?_; refine go_do (valid_load_p tb rfl rfl rfl rfl rfl (by first | kernel_rfl | rfl)) (by first | kernel_rfl | rfl) ?_)
            | (refine nxt_s 1 rfl ?_; refine go_do (valid_fld_p tb rfl rfl rfl (by kernel_rfl)) rfl ?_)
            | refine go_do (valid_mv (.inr rfl) rfl) rfl ?_
            | refine go_do (valid_cmp rfl rfl rfl rfl (by first | exact .eql1 (by omega) | exact .eql0 (by omega) | exact .neq1 (by omega) | exact .neq0 (by omega) | exact .lss1 (by omega) | exact .lss0 (by omega) | exact .leq1 (by omega) | exact .leq0 (by omega) | exact .gtr1 (by omega) | exact .gtr0 (by omega) | exact .geq1 (by omega) | exact .geq0 (by omega) | constructor)) rfl ?_
            | refine go_do (valid_alloc rfl rfl rfl rfl rfl) rfl ?_
            | (refine nxt_s 1 rfl ?_; refine go_do (valid_store_p rfl rfl rfl rfl rfl rfl (by first | kernel_rfl | rfl) rfl) (by first | kernel_rfl | rfl) ?_)
            | (refine nxt_s 6 rfl ?_; refine go_do (valid_idx_bs rfl rfl rfl rfl rfl rfl (by omega) (by omega)) rfl ?_)
            | refine go_do (valid_call_cl nm4 h4 rfl rfl rfl (by kernel_rfl) rfl rfl ⟨rfl, trivial⟩ (by kernel_rfl)) rfl ?_)
        | (refine hK _ ?_; clear hK K)
        | refine aw_text rfl ?_
        | exact aw_ret (show resA _ _ _ = some _ by kernel_rfl)
        | refine aw_cond1 rfl rfl ?_
        | refine aw_block ?_
        | refine aw_skip ?_
        | refine aw_seq_k (fun K hK => ?_))
  · by_cases e : q3 = 0
    · skip
      repeat (first
        | (refine go_at rfl ?_; first
            | refine go_do (valid_mv (.inl rfl) rfl) rfl ?_
            | (refine nxt_s 1 rfl ?_; refine go_do (valid_load_p tb rfl rfl rfl rfl rfl (by first | kernel_rfl | rfl)) (by first | kernel_rfl | rfl) ?_)
            | (refine nxt_s 1 rfl ?_; refine go_do (valid_fld_p tb rfl rfl rfl (by kernel_rfl)) rfl ?_)
            | refine go_do (valid_mv (.inr rfl) rfl) rfl ?_
            | refine go_do (valid_cmp rfl rfl rfl rfl (by first | exact .eql1 (by omega) | exact .eql0 (by omega) | exact .neq1 (by omega) | exact .neq0 (by omega) | exact .lss1 (by omega) | exact .lss0 (by omega) | exact .leq1 (by omega) | exact .leq0 (by omega) | exact .gtr1 (by omega) | exact .gtr0 (by omega) | exact .geq1 (by omega) | exact .geq0 (by omega) | constructor)) rfl ?_
            | refine go_do (valid_ar rfl rfl rfl rfl (by constructor) (by first | exact wr_u64 (by omega) (by omega) | exact wr_i64 (by omega) (by omega) | rfl)) rfl ?_
            | refine go_do (valid_alloc rfl rfl rfl rfl rfl) rfl ?_
            | (refine nxt_s 1 rfl ?_; refine go_do (valid_store_p rfl rfl rfl rfl rfl rfl (by first | kernel_rfl | rfl) rfl) (by first | kernel_rfl | rfl) ?_)
            | (refine nxt_s 6 rfl ?_; refine go_do (valid_idx_bs rfl rfl rfl rfl rfl rfl (by omega) (by omega)) rfl ?_)
            | refine go_do (valid_call_cl nm1 h1 rfl rfl rfl (by kernel_rfl) rfl rfl ⟨rfl, rfl, rfl, rfl, rfl, trivial⟩ (by kernel_rfl)) rfl ?_)
        | (refine hK _ ?_; clear hK K)
        | refine aw_text rfl ?_
        | refine aw_cond1 rfl rfl ?_
        | refine aw_cond0 rfl rfl ?_
        | refine aw_block ?_
        | refine aw_skip ?_
        | refine aw_seq_k (fun K hK => ?_))
      exact ⟨4, ⟨by omega, by omega, by omega, by omega, by omega⟩, by omega, sub_of _ _ ⟨by kernel_rfl, by kernel_rfl, by kernel_rfl, by kernel_rfl, by kernel_rfl, by kernel_rfl, by kernel_rfl, by kernel_rfl, by kernel_rfl, by kernel_rfl, by kernel_rfl, by kernel_rfl, by kernel_rfl, by kernel_rfl, trivial⟩ ⟨by kernel_rfl, by kernel_rfl, by kernel_rfl, by kernel_rfl, by kernel_rfl, by kernel_rfl, by kernel_rfl, by kernel_rfl, by kernel_rfl, by kernel_rfl, by kernel_rfl, trivial⟩ (by kernel_rfl)⟩
    · rw [if_neg (show ¬ q0 ≠ 0 by omega)] at hR; rw [if_neg (show ¬ q1 ≠ 0 by omega)] at hR; rw [if_neg (show ¬ q2 ≠ 0 by omega)] at hR; rw [if_pos e] at hR
      subst hR
      repeat (first
        | (refine go_at rfl ?_; first
            | refine go_do (valid_mv (.inl rfl) rfl) rfl ?_
            | (refine nxt_s 1 rfl ?_; refine go_do (valid_load_p tb rfl rfl rfl rfl rfl (by first | kernel_rfl | rfl)) (by first | kernel_rfl | rfl) ?_)
            | (refine nxt_s 1 rfl ?_; refine go_do (valid_fld_p tb rfl rfl rfl (by kernel_rfl)) rfl ?_)
            | refine go_do (valid_mv (.inr rfl) rfl) rfl ?_
            | refine go_do (valid_cmp rfl rfl rfl rfl (by first | exact .eql1 (by omega) | exact .eql0 (by omega) | exact .neq1 (by omega) | exact .neq0 (by omega) | exact .lss1 (by omega) | exact .lss0 (by omega) | exact .leq1 (by omega) | exact .leq0 (by omega) | exact .gtr1 (by omega) | exact .gtr0 (by omega) | exact .geq1 (by omega) | exact .geq0 (by omega) | constructor)) rfl ?_
            | refine go_do (valid_alloc rfl rfl rfl rfl rfl) rfl ?_
            | (refine nxt_s 1 rfl ?_; refine go_do (valid_store_p rfl rfl rfl rfl rfl rfl (by first | kernel_rfl | rfl) rfl) (by first | kernel_rfl | rfl) ?_)
            | (refine nxt_s 6 rfl ?_; refine go_do (valid_idx_bs rfl rfl rfl rfl rfl rfl (by omega) (by omega)) rfl ?_)
            | refine go_do (valid_call_cl nm1 h1 rfl rfl rfl (by kernel_rfl) rfl rfl ⟨rfl, rfl, rfl, rfl, rfl, trivial⟩ (by kernel_rfl)) rfl ?_)
        | (refine hK _ ?_; clear hK K)
        | refine aw_text rfl ?_
        | exact aw_ret (show resA _ _ _ = some _ by kernel_rfl)
        | refine aw_cond1 rfl rfl ?_
        | refine aw_block ?_
        | refine aw_skip ?_
        | refine aw_seq_k (fun K hK => ?_))
  · have y0 := x1 (by omega)
    have y1 := x2 (by omega)
    have y2 := x3 (by omega)
    have y3 := x4 (by omega)
    rw [if_neg (by omega), if_neg (by omega), if_neg (by omega), if_neg (by omega)] at hR
    rw [← hpb, ← hpm] at hd
    obtain ⟨m2, f2, t2, e2⟩ := D
    by_cases e : e2 = 0
    · subst e
      obtain ⟨d1, d2, d3, d4⟩ := hdg rfl
      have d1 : GM k.cd k.cp k.sz m2 f2 := d1
      have d2 : Al k.cd k.cp f2 t2 := d2
      have d3 : m2.length ≤ k.m.length + lw := d3
      have hd : Ok 41 [memA k.sz k.m, .ag [cu k.pb, ci k.pm, cu k.pf], iu top, ii lw, iu a, ii l] (.tu [memA k.sz m2, .ag [cu k.pb, ci k.pm, cu f2], .ag (spotC t2 l (atM k.sz m2 t2 (idx a l))), ii 0]) := hd
      have hR : R = (mapK k (m2, f2, t2, 0) a pa l p (decide (id = -1)), 0) := hR
      have hu := (hmk (hpn y1) (hpk y2)).2.1
      have hwt := with_ok k.sz m2 t2 l (atM k.sz m2 t2 (idx a l)) a (mkP (pa / 4096) p (decide (id = -1))) ha hu w1.1 w1.2 ⟨by have := d2.1; omega, by have := d2.1; omega⟩ d1.s d1.u (by omega)
      generalize atM k.sz m2 t2 (idx a l) = q at *
      have hp0 := hp.1
      have hp1 := hp.2
      by_cases c5 : id = -1
      · have hmp := pmake_ok (pa / 4096) p true
        rw [decide_eq_true c5] at hwt hR
        subst hR
        repeat (first
          | (refine go_at rfl ?_; first
              | refine go_do (valid_mv (.inl rfl) rfl) rfl ?_
              | (refine nxt_s 1 rfl ?_; refine go_do (valid_load_p tb rfl rfl rfl rfl rfl (by first | kernel_rfl | rfl)) (by first | kernel_rfl | rfl) ?_)
              | (refine nxt_s 1 rfl ?_; refine go_do (valid_fld_p tb rfl rfl rfl (by kernel_rfl)) rfl ?_)
              | refine go_do (valid_mv (.inr rfl) rfl) rfl ?_
              | refine go_do (valid_extract rfl rfl rfl rfl) rfl ?_
              | refine go_do (valid_cmp rfl rfl rfl rfl (by first | exact .eql1 (by omega) | exact .eql0 (by omega) | exact .neq1 (by omega) | exact .neq0 (by omega) | exact .lss1 (by omega) | exact .lss0 (by omega) | exact .leq1 (by omega) | exact .leq0 (by omega) | exact .gtr1 (by omega) | exact .gtr0 (by omega) | exact .geq1 (by omega) | exact .geq0 (by omega) | constructor)) rfl ?_
              | refine go_do (valid_quo rfl rfl rfl rfl (by omega) (by omega) (by first | exact wr_u64 (by omega) (by omega) | exact wr_i64 (by omega) (by omega))) rfl ?_
              | refine go_do (valid_alloc rfl rfl rfl rfl rfl) rfl ?_
              | (refine nxt_s 1 rfl ?_; refine go_do (valid_store_p rfl rfl rfl rfl rfl rfl (by first | kernel_rfl | rfl) rfl) (by first | kernel_rfl | rfl) ?_)
              | refine go_do (valid_call rfl rfl rfl (hd) (by kernel_rfl)) rfl ?_
              | refine go_do (valid_call rfl rfl rfl (hmp) (by kernel_rfl)) rfl ?_
              | refine go_do (valid_call rfl rfl rfl (hwt) (by kernel_rfl)) rfl ?_)
          | (refine hK _ ?_; clear hK K)
          | (rename_i K1 hK1; refine hK1 _ ?_; clear hK hK1; clear K)
          | refine aw_text rfl ?_
          | refine aw_any (by kernel_rfl) (by kernel_rfl) rfl ?_
          | exact aw_ret (show resA _ _ _ = some _ by kernel_rfl)
          | refine aw_cond0 rfl rfl ?_
          | refine aw_exit ?_
          | refine aw_skip ?_
          | refine aw_seq_k (fun K hK => ?_))
      · have hmp := pmake_ok (pa / 4096) p false
        rw [decide_eq_false c5] at hwt hR
        subst hR
        repeat (first
          | (refine go_at rfl ?_; first
              | refine go_do (valid_mv (.inl rfl) rfl) rfl ?_
              | (refine nxt_s 1 rfl ?_; refine go_do (valid_load_p tb rfl rfl rfl rfl rfl (by first | kernel_rfl | rfl)) (by first | kernel_rfl | rfl) ?_)
              | (refine nxt_s 1 rfl ?_; refine go_do (valid_fld_p tb rfl rfl rfl (by kernel_rfl)) rfl ?_)
              | refine go_do (valid_mv (.inr rfl) rfl) rfl ?_
              | refine go_do (valid_extract rfl rfl rfl rfl) rfl ?_
              | refine go_do (valid_cmp rfl rfl rfl rfl (by first | exact .eql1 (by omega) | exact .eql0 (by omega) | exact .neq1 (by omega) | exact .neq0 (by omega) | exact .lss1 (by omega) | exact .lss0 (by omega) | exact .leq1 (by omega) | exact .leq0 (by omega) | exact .gtr1 (by omega) | exact .gtr0 (by omega) | exact .geq1 (by omega) | exact .geq0 (by omega) | constructor)) rfl ?_
              | refine go_do (valid_quo rfl rfl rfl rfl (by omega) (by omega) (by first | exact wr_u64 (by omega) (by omega) | exact wr_i64 (by omega) (by omega))) rfl ?_
              | refine go_do (valid_alloc rfl rfl rfl rfl rfl) rfl ?_
              | (refine nxt_s 1 rfl ?_; refine go_do (valid_store_p rfl rfl rfl rfl rfl rfl (by first | kernel_rfl | rfl) rfl) (by first | kernel_rfl | rfl) ?_)
              | refine go_do (valid_call rfl rfl rfl (hd) (by kernel_rfl)) rfl ?_
              | refine go_do (valid_call rfl rfl rfl (hmp) (by kernel_rfl)) rfl ?_
              | refine go_do (valid_call rfl rfl rfl (hwt) (by kernel_rfl)) rfl ?_)
          | (refine hK _ ?_; clear hK K)
          | (rename_i K1 hK1; refine hK1 _ ?_; clear hK hK1; clear K)
          | refine aw_text rfl ?_
          | refine aw_any (by kernel_rfl) (by kernel_rfl) rfl ?_
          | exact aw_ret (show resA _ _ _ = some _ by kernel_rfl)
          | refine aw_cond0 rfl rfl ?_
          | refine aw_exit ?_
          | refine aw_skip ?_
          | refine aw_seq_k (fun K hK => ?_))
    · rw [if_neg (show ¬ (m2, f2, t2, e2).2.2.2 = 0 from e)] at hd
      rw [if_pos (show (m2, f2, t2, e2).2.2.2 ≠ 0 from e)] at hR
      have hd : Ok 41 [memA k.sz k.m, .ag [cu k.pb, ci k.pm, cu k.pf], iu top, ii lw, iu a, ii l] (.tu [memA k.sz k.m, .ag [cu k.pb, ci k.pm, cu k.pf], .ag (spotC 0 0 zP), ii e2]) := hd
      have hR : R = (k, e2) := hR
      subst hR
      repeat (first
        | (refine go_at rfl ?_; first
            | refine go_do (valid_mv (.inl rfl) rfl) rfl ?_
            | (refine nxt_s 1 rfl ?_; refine go_do (valid_load_p tb rfl rfl rfl rfl rfl (by first | kernel_rfl | rfl)) (by first | kernel_rfl | rfl) ?_)
            | (refine nxt_s 1 rfl ?_; refine go_do (valid_fld_p tb rfl rfl rfl (by kernel_rfl)) rfl ?_)
            | refine go_do (valid_mv (.inr rfl) rfl) rfl ?_
            | refine go_do (valid_extract rfl rfl rfl rfl) rfl ?_
            | refine go_do (valid_cmp rfl rfl rfl rfl (by first | exact .eql1 (by omega) | exact .eql0 (by omega) | exact .neq1 (by omega) | exact .neq0 (by omega) | exact .lss1 (by omega) | exact .lss0 (by omega) | exact .leq1 (by omega) | exact .leq0 (by omega) | exact .gtr1 (by omega) | exact .gtr0 (by omega) | exact .geq1 (by omega) | exact .geq0 (by omega) | constructor)) rfl ?_
            | refine go_do (valid_alloc rfl rfl rfl rfl rfl) rfl ?_
            | (refine nxt_s 1 rfl ?_; refine go_do (valid_store_p rfl rfl rfl rfl rfl rfl (by first | kernel_rfl | rfl) rfl) (by first | kernel_rfl | rfl) ?_)
            | refine go_do (valid_call rfl rfl rfl (hd) (by kernel_rfl)) rfl ?_)
        | (refine hK _ ?_; clear hK K)
        | (rename_i K1 hK1; refine hK1 _ ?_; clear hK hK1; clear K)
        | refine aw_text rfl ?_
        | exact aw_ret (show resA _ _ _ = some _ by kernel_rfl)
        | refine aw_cond1 rfl rfl ?_
        | refine aw_cond0 rfl rfl ?_
        | refine aw_exit ?_
        | refine aw_seq_k (fun K hK => ?_))
end Go.Proofs.YtgkodncknlankaaGreatDoor.LaG
/- The reference's bits, and words with their sign, made of arrays of bits: they come to the same words. -/
namespace Go.Proofs.YtgkodncknlankaaGreatDoor.RefS
set_option linter.unusedVariables false
open Go.RowKit Go.Proofs.YtgkodncknlankaaGreatDoor.Bv Go.Proofs.YtgkodncknlankaaGreatDoor.VaSpec Go.Proofs.YtgkodncknlankaaGreatDoor.Base
def hi (f : Nat → Bool) : Nat → Nat
  | 0 => 0
  | k + 1 => 2 * hi f k + (f (63 - k)).toNat
theorem hi_succ (f : Nat → Bool) (k : Nat) : hi f (k + 1) = 2 * hi f k + (f (63 - k)).toNat := rfl
theorem hi_lt (f : Nat → Bool) (k : Nat) : hi f k < 2 ^ k := by
  induction k with
  | zero => simp [hi]
  | succ k ih => rw [hi_succ]; have := Bool.toNat_le (f (63 - k)); rw [Nat.pow_succ]; omega
set_option maxHeartbeats 400000 in
set_option maxRecDepth 100000 in
theorem of_calls (f : Nat → Bool) (cs : Array Value) (w : World) (hsz : cs.size = 64) (hget : ∀ k, k < 64 → cs[k]? = some (.bool (f k))) :
    Calls Tryz.prog 158 #[.agg cs] w fun e w' => e = .returned (.int .u64 (hi f 64)) ∧ Below w.heap.size w w' := by
  have Hs := Lib.hid hsz; clear hsz
  have Hg := Lib.hid hget; clear hget
  go_enter Tryz.func158, Tryz.ntmps158
  go_wp2
  go_loop [3, 4] (fun x i => ∃ k : Nat, k ≤ 64 ∧ i = .int .i64 (63 - k) ∧ x = .int .u64 (hi f k)) (fun _ i => (intOf i + 1).toNat)
  case atStart => exact ⟨0, by omega, rfl, rfl⟩
  case round =>
    obtain ⟨k, hk, rfl, rfl⟩ := hrel
    by_cases hlt : k < 64
    · obtain ⟨j, hj⟩ : ∃ j : Nat, j = 63 - k := ⟨_, rfl⟩
      have hb := hi_lt f k
      have hp : 2 ^ k ≤ 2 ^ 63 := Nat.pow_le_pow_right (by decide) (by omega)
      have hb2 : (hi f k : Int) ≤ 9223372036854775807 := by omega
      clear hb hp
      have hc : (w.alloc (.cells cs 207)).cell? ⟨w.heap.size, j, none⟩ = some (.bool (f j)) := by
        rw [cell_of_row _ _ _ cs 207 (0, 0) (heap_alloc_new w _)]; exact Hg.out j (by omega)
      rw [show (63 : Int) - k = (j : Int) by omega]
      have hj2 : j < 64 := by omega
      have Hj := Lib.hid hj; clear hj
      cases hf : f j
      all_goals
        rw [hf] at hc
        go_wp2
        go_round
        case rel =>
          refine ⟨k + 1, by omega, by rw [show (j : Int) - 1 = 63 - ((k + 1 : Nat) : Int) by have := Hj.out; omega], ?_⟩
          rw [hi_succ, ← Hj.out, hf]; go_num
        case measure => have := Hj.out; simp [intOf]
    · obtain rfl : k = 64 := by omega
      go_wp2
      go_ret
      exact ⟨rfl, (Below.refl _ _).alloc (Nat.le_refl _) _⟩

theorem hi_shift (y : BitVec 64) (f : Nat → Bool) (h : ∀ j, j < 64 → f j = y.getLsbD j) : ∀ k, k ≤ 64 → hi f k = y.toNat / 2 ^ (64 - k) := by
  intro k
  induction k with
  | zero => intro _; have := y.isLt; rw [Nat.div_eq_of_lt (by simpa using this)]; rfl
  | succ k ih =>
    intro hk
    rw [hi_succ, ih (by omega), h _ (by omega), BitVec.getLsbD, Nat.testBit, Nat.shiftRight_eq_div_pow, Nat.and_comm, Nat.and_one_is_mod, show 64 - k = (63 - k) + 1 by omega, show 64 - (k + 1) = 63 - k by omega, Nat.pow_succ, ← Nat.div_div_eq_div_mul]
    generalize y.toNat / 2 ^ (63 - k) = q
    rcases Nat.mod_two_eq_zero_or_one q with e | e <;> rw [e] <;> simp <;> omega
theorem hi_val (y : BitVec 64) (f : Nat → Bool) (h : ∀ j, j < 64 → f j = y.getLsbD j) : ((hi f 64 : Nat) : Int) = B y := by
  rw [hi_shift y f h 64 (by omega)]; simp [B]
def bt (x : BitVec 64) (i : Nat) : Bool := x.getLsbD i
theorem shr_step (x : BitVec 64) (j : Nat) : IntKind.u64.wrap (Int.tdiv (B (x >>> j)) 2) = B (x >>> (j + 1)) := by
  rw [show Int.tdiv (B (x >>> j)) 2 = (((x >>> j).toNat / 2 : Nat) : Int) from rfl, wrap_u64]
  unfold B
  rw [BitVec.toNat_ushiftRight, BitVec.toNat_ushiftRight, Nat.shiftRight_eq_div_pow, Nat.shiftRight_eq_div_pow, Nat.div_div_eq_div_mul, ← Nat.pow_succ]
  rw [Nat.succ_eq_add_one]
  have h1 := x.isLt
  have h2 : x.toNat / 2 ^ (j + 1) ≤ x.toNat := Nat.div_le_self _ _
  generalize x.toNat / 2 ^ (j + 1) = q at *
  omega
theorem shr_bit (x : BitVec 64) (j : Nat) : (Int.tmod (B (x >>> j)) 2 == 1) = bt x j := by
  unfold B bt
  rw [BitVec.toNat_ushiftRight, BitVec.getLsbD, Nat.testBit, Nat.shiftRight_eq_div_pow]
  rw [show Int.tmod ((x.toNat / 2 ^ j : Nat) : Int) 2 = ((x.toNat / 2 ^ j % 2 : Nat) : Int) from rfl]
  rw [Nat.and_comm, Nat.and_one_is_mod]
  rcases Nat.mod_two_eq_zero_or_one (x.toNat / 2 ^ j) with h | h <;> rw [h] <;> rfl
theorem half_eq (x : BitVec 64) (j : Nat) : B (x >>> j) / 2 = B (x >>> (j + 1)) := by
  rw [← shr_step, show Int.tdiv (B (x >>> j)) 2 = (((x >>> j).toNat / 2 : Nat) : Int) from rfl, wrap_u64]
  unfold B; have := (x >>> j).isLt; omega
theorem odd_eq (x : BitVec 64) (j : Nat) : (B (x >>> j) % 2 == 1) = bt x j := by
  rw [← shr_bit]; rfl
set_option maxHeartbeats 400000 in
set_option maxRecDepth 100000 in
theorem bit_same (x : BitVec 64) (i : Int) (w : World) (h0 : 0 ≤ i) (h : i ≤ 200) :
    Calls Tryz.prog 46 #[.int .u64 (B x), .int .i64 i] w fun e w' => e = .returned (.bool (bt x i.toNat)) ∧ w' = w := by
  obtain ⟨n, rfl⟩ := Int.eq_ofNat_of_zero_le h0
  by_cases h63 : n ≤ 63
  · go_enter Tryz.func46, Tryz.ntmps46
    go_wp2
    go_loop [0, 5] (fun y k => ∃ j : Nat, j ≤ n ∧ k = .int .i64 j ∧ y = .int .u64 (B (x >>> j))) (fun _ k => n - (intOf k).toNat)
    case atStart => exact ⟨0, by omega, rfl, by simp⟩
    case round =>
      obtain ⟨j, hj, rfl, rfl⟩ := hrel
      have hb := B_nonneg (x >>> j)
      have hb2 := B_lt (x >>> j)
      by_cases hlt : j < n
      · go_wp2
        refine ⟨⟨j + 1, by omega, by go_num, by rw [half_eq]⟩, ?_⟩
        simp [intOf]; omega
      · obtain rfl : j = n := by omega
        have Ho := Lib.hid (odd_eq x j)
        go_wp2
        go_ret
        refine ⟨?_, rfl⟩
        exact congrArg (fun z => Ending.returned (.bool z)) Ho.out
  · have hf := Lib.hid (show bt x n = false by unfold bt; exact BitVec.getLsbD_of_ge _ _ (by omega))
    go_enter Tryz.func46, Tryz.ntmps46
    go_wp2
    go_ret
    refine ⟨?_, rfl⟩
    exact congrArg (fun z => Ending.returned (.bool z)) hf.out.symm
theorem bit_any (x : BitVec 64) (i : Int) (w : World) (h0 : 0 ≤ i) (h : i ≤ 200) :
    Calls Tryz.prog 46 #[.int .u64 (B x), .int .i64 i] w fun e w' => e = .returned (.bool (bt x i.toNat)) ∧ Q w w' := (bit_same x i w h0 h).mono fun _ _ ⟨a, b⟩ => ⟨a, by subst b; exact Q.refl _⟩
def Arr (w : World) (b : Nat) (f : Nat → Bool) : Prop := ∃ cs, w.heap[b]? = some (Obj.cells cs 207 (0, 0)) ∧ cs.size = 64 ∧ ∀ k, k < 64 → cs[k]? = some (.bool (f k))
theorem Arr.cell {w : World} {b : Nat} {f : Nat → Bool} (h : Arr w b f) (k : Nat) (hk : k < 64) : w.cell? ⟨b, k, none⟩ = some (.bool (f k)) := by
  obtain ⟨cs, h1, _, h3⟩ := h; rw [cell_of_row _ _ _ cs 207 (0, 0) h1]; exact h3 k hk
theorem Arr.frozen {w : World} {b : Nat} {f : Nat → Bool} (h : Arr w b f) (k : Nat) : w.frozen? ⟨b, k, none⟩ = false := by
  obtain ⟨cs, h1, _, h3⟩ := h; exact frozen_of_row _ _ _ cs 207 h1
theorem Arr.drewN {w : World} {b : Nat} {f : Nat → Bool} (h : Arr w b f) (n : Nat) : Arr (w.drewN n) b f := h
theorem Arr.set {w : World} {b : Nat} {f : Nat → Bool} (h : Arr w b f) (k : Nat) (v : Bool) : Arr (w.setCell ⟨b, k, none⟩ (.bool v)) b (fun j => if j = k then v else f j) := by
  obtain ⟨cs, h1, h2, h3⟩ := h
  refine ⟨_, heap_setCell_same w b k cs 207 _ h1, by simp [h2], ?_⟩
  intro j hj
  rw [Array.getElem?_setIfInBounds]
  by_cases e : k = j
  · subst e; simp [h2, hj]
  · simp [e, Ne.symm e, h3 j hj]
theorem Arr.congr {w : World} {b : Nat} {f g : Nat → Bool} (h : Arr w b f) (e : ∀ k, k < 64 → f k = g k) : Arr w b g := by
  obtain ⟨cs, h1, h2, h3⟩ := h; exact ⟨cs, h1, h2, fun k hk => by rw [h3 k hk, e k hk]⟩
theorem Arr.zero (w : World) : Arr (w.alloc (Obj.cells #[.bool false, .bool false, .bool false, .bool false, .bool false, .bool false, .bool false, .bool false, .bool false, .bool false, .bool false, .bool false, .bool false, .bool false, .bool false, .bool false, .bool false, .bool false, .bool false, .bool false, .bool false, .bool false, .bool false, .bool false, .bool false, .bool false, .bool false, .bool false, .bool false, .bool false, .bool false, .bool false, .bool false, .bool false, .bool false, .bool false, .bool false, .bool false, .bool false, .bool false, .bool false, .bool false, .bool false, .bool false, .bool false, .bool false, .bool false, .bool false, .bool false, .bool false, .bool false, .bool false, .bool false, .bool false, .bool false, .bool false, .bool false, .bool false, .bool false, .bool false, .bool false, .bool false, .bool false, .bool false] 207)) w.heap.size (fun _ => false) := by
  refine ⟨_, heap_alloc_new w _, by rfl, ?_⟩
  intro k hk
  have : ∀ k : Fin 64, (Array.replicate 64 (Value.bool false))[k.val]? = some (.bool false) := by intro k; simp
  exact this ⟨k, hk⟩
theorem Arr.next {wr : World} {b k nd : Nat} {g : Nat → Bool} {v : Bool} (ha : Arr wr b (fun j => decide (j < k) && g j)) (e : v = g k) :
    Arr ((wr.drewN nd).setCell ⟨b, k, none⟩ (.bool v)) b (fun j => decide (j < k + 1) && g j) := by
  refine (Arr.set (w := wr.drewN nd) ha k _).congr ?_
  intro j hj
  by_cases e1 : j = k
  · subst e1; simp [e]
  · rw [if_neg e1]; by_cases e2 : j < k
    · simp [e2, show j < k + 1 by omega]
    · simp [e2, show ¬ j < k + 1 by omega]
theorem Arr.next2 {wr : World} {b k nd nd2 : Nat} {g : Nat → Bool} {u v : Bool} (ha : Arr wr b (fun j => decide (j < k) && g j)) (e : v = g k) :
    Arr ((((wr.drewN nd).setCell ⟨b, k, none⟩ (.bool u)).drewN nd2).setCell ⟨b, k, none⟩ (.bool v)) b (fun j => decide (j < k + 1) && g j) := by
  refine (Arr.set (Arr.drewN (Arr.set (w := wr.drewN nd) ha k u) nd2) k v).congr ?_
  intro j hj
  by_cases e1 : j = k
  · subst e1; simp [e]
  · rw [if_neg e1, if_neg e1]; by_cases e2 : j < k
    · simp [e2, show j < k + 1 by omega]
    · simp [e2, show ¬ j < k + 1 by omega]
theorem below_put {w wr : World} (hb : Below w.heap.size w wr) (k nd : Nat) (v : Value) : Below w.heap.size w ((wr.drewN nd).setCell ⟨w.heap.size, k, none⟩ v) :=
  (hb.trans ((Q.below ⟨nd, rfl⟩).mono hb.size)).setCell (Nat.le_refl _) _
end Go.Proofs.YtgkodncknlankaaGreatDoor.RefS
/- The reference's Set of one bit, made of an array of bits. -/
namespace Go.Proofs.YtgkodncknlankaaGreatDoor.RefSet
set_option linter.unusedVariables false
set_option linter.unusedSimpArgs false
open Go.RowKit Go.Proofs.YtgkodncknlankaaGreatDoor.Bv Go.Proofs.YtgkodncknlankaaGreatDoor.VaSpec Go.Proofs.YtgkodncknlankaaGreatDoor.Base Go.Proofs.YtgkodncknlankaaGreatDoor.RefS Go.Proofs.YtgkodncknlankaaGreatDoor.BitsC
def g1 (x v : BitVec 64) (lo : Nat) (j : Nat) : Bool := if j = lo then bt v 0 else bt x j
set_option maxHeartbeats 400000 in
set_option maxRecDepth 100000 in
theorem set_any (x v : BitVec 64) (lo : Nat) (w : World) (hlo : lo < 64) :
    Calls Tryz.prog 127 #[.int .u64 (B x), .int .i64 lo, .int .i64 1, .int .u64 (B v)] w fun e w' => e = .returned (.int .u64 (B (setB x lo 1 v))) ∧ Below w.heap.size w w' := by
  have hw1 : IntKind.i64.wrap ((lo : Int) + 1) = (lo : Int) + 1 := by rw [IntKind.wrap_i64]; omega
  go_enter Tryz.func127, Tryz.ntmps127
  go_wp2
  go_loopw [10] (fun i wr => ∃ k : Nat, k ≤ 64 ∧ i = .int .i64 k ∧ Arr wr w.heap.size (fun j => decide (j < k) && g1 x v lo j) ∧ Below w.heap.size w wr) (fun i _ => 64 - (intOf i).toNat)
  case atStart => exact ⟨0, by omega, rfl, (Arr.zero w).congr (by intro k _; simp), (Below.refl _ _).alloc (Nat.le_refl _) _⟩
  case round =>
    obtain ⟨k, hk, rfl, ha, hb⟩ := hrel
    by_cases hlt : k < 64
    · have hc := ha.cell k (by omega)
      have hz := ha.frozen k
      rcases Nat.lt_trichotomy k lo with hm | rfl | hm
      · go_wp2_with (go_at_call 46; (with_reducible refine (bit_any _ _ _ (by omega) (by omega)).mono ?_); rintro e w' ⟨rfl, ⟨nd, rfl⟩⟩)
        refine ⟨⟨k + 1, by omega, by go_num, ha.next (by unfold g1; rw [if_neg (by omega)]), below_put hb _ _ _⟩, ?_⟩
        simp [intOf]; omega
      · go_wp2_with (go_at_call 46; (with_reducible refine (bit_any _ _ _ (by omega) (by omega)).mono ?_); rintro e w' ⟨rfl, ⟨nd, rfl⟩⟩)
        refine ⟨⟨k + 1, by omega, by go_num, ha.next2 (by unfold g1; rw [if_pos rfl]), below_put (below_put hb _ _ _) _ _ _⟩, ?_⟩
        simp [intOf]; omega
      · go_wp2_with (go_at_call 46; (with_reducible refine (bit_any _ _ _ (by omega) (by omega)).mono ?_); rintro e w' ⟨rfl, ⟨nd, rfl⟩⟩)
        refine ⟨⟨k + 1, by omega, by go_num, ha.next (by unfold g1; rw [if_neg (by omega)]), below_put hb _ _ _⟩, ?_⟩
        simp [intOf]; omega
    · obtain rfl : k = 64 := by omega
      obtain ⟨cs, h1, h2, h3⟩ := ha
      have Hh := Lib.hid h1; clear h1
      have Hs := Lib.hid h2; clear h2
      have H3 := Lib.hid h3; clear h3
      go_wp2_with (first | (with_reducible refine wpList_load_row rfl 207 _ rfl w.heap.size rfl 207 cs (0, 0) _ Hh.out Tryz.underlying207 rfl (by rw [Hs.out]; kernel_rfl) ?_) | (go_at_call 158; refine (of_calls _ cs _ Hs.out H3.out).mono ?_; rintro e w' ⟨rfl, bel⟩))
      go_ret
      refine ⟨?_, hb.trans (bel.mono hb.size)⟩
      show Ending.returned (.int .u64 (hi (fun j => decide (j < 64) && g1 x v lo j) 64 : Nat)) = _
      rw [hi_val (setB x lo 1 v) _ (fun j hj => by
        rw [setB_bit, decide_eq_true hj]
        unfold g1
        by_cases e : j = lo
        · subst e; rw [if_pos rfl, if_pos ⟨Nat.le_refl _, by omega⟩, Nat.sub_self]; rfl
        · rw [if_neg e, if_neg (by omega)]; rfl)]
end Go.Proofs.YtgkodncknlankaaGreatDoor.RefSet
/- The abstract walk: the document's pools and numbers. -/
namespace Go.Proofs.YtgkodncknlankaaGreatDoor.RfA
open Go.RowKit Go.Proofs.YtgkodncknlankaaGreatDoor.Bv Go.Proofs.YtgkodncknlankaaGreatDoor.VaSpec Go.Proofs.YtgkodncknlankaaGreatDoor.Base Go.Proofs.YtgkodncknlankaaGreatDoor.MemL Go.Proofs.YtgkodncknlankaaGreatDoor.RegR Go.Proofs.YtgkodncknlankaaGreatDoor.Ax Go.Proofs.YtgkodncknlankaaGreatDoor.MemC Go.Proofs.YtgkodncknlankaaGreatDoor.PutC Go.Proofs.YtgkodncknlankaaGreatDoor.MemC3 Go.Proofs.YtgkodncknlankaaGreatDoor.TzC Go.Proofs.YtgkodncknlankaaGreatDoor.OkS Go.Proofs.YtgkodncknlankaaGreatDoor.SpA Go.Proofs.YtgkodncknlankaaGreatDoor.SpB Go.Proofs.YtgkodncknlankaaGreatDoor.SpC Go.Proofs.YtgkodncknlankaaGreatDoor.SpD Go.Proofs.YtgkodncknlankaaGreatDoor.IterC Go.Proofs.YtgkodncknlankaaGreatDoor.SpE Go.Proofs.YtgkodncknlankaaGreatDoor.SpF Go.Proofs.YtgkodncknlankaaGreatDoor.SpG Go.Proofs.YtgkodncknlankaaGreatDoor.SpH Go.Proofs.YtgkodncknlankaaGreatDoor.SpI Go.Proofs.YtgkodncknlankaaGreatDoor.SpJ Go.Proofs.YtgkodncknlankaaGreatDoor.SpK Go.Proofs.YtgkodncknlankaaGreatDoor.SpN Go.Proofs.YtgkodncknlankaaGreatDoor.RfP
open Go.Proofs.YtgkodncknlankaaGreatDoor.BitsC Go.Proofs.YtgkodncknlankaaGreatDoor.PteSpec
set_option linter.unusedVariables false
set_option linter.unusedSimpArgs false
set_option maxRecDepth 10000
set_option maxHeartbeats 800000
theorem rbit_ok (a i : Int) (ha : U a) (h0 : 0 ≤ i) (h : i < 64) : Ok 46 [iu a, ii i] (.m (ib (bitB a i))) :=
  ok_plain #[.int .u64 a, .int .i64 i] (.bool (bitB a i)) fun W _ => by
    have := RefS.bit_any (X a) i W h0 (by omega)
    rw [B_X ha] at this
    refine this.mono fun e w' ⟨he, hq⟩ => ⟨?_, Q.below hq⟩
    rw [he, bitB_eq h0]; rfl
theorem rset_ok (a i v : Int) (ha : U a) (hv : U v) (h0 : 0 ≤ i) (h : i < 64) : Ok 127 [iu a, ii i, ii 1, iu v] (.m (iu (setI a i 1 v))) := by
  obtain ⟨n, rfl⟩ := Int.eq_ofNat_of_zero_le h0
  exact ok_plain #[.int .u64 a, .int .i64 n, .int .i64 1, .int .u64 v] (.int .u64 (setI a n 1 v)) fun W _ => by
    have := RefSet.set_any (X a) (X v) n W (by omega)
    rw [B_X ha, B_X hv] at this
    exact this
attribute [local irreducible] Go.Proofs.YtgkodncknlankaaGreatDoor.Ax.CallOk
theorem rpnew_ok (b m : Int) (hm : 0 ≤ m ∧ m ≤ 64) : Ok 71 [iu b, ii m] (.m (.ag [cu b, ci m, cu (allI m)])) := by
  refine callOk_of 21 Tryz.func71 rfl rfl rfl rfl ?_ GG.to
  intro W A hG
  repeat (first
    | (refine go_at rfl ?_; first
        | refine go_do (valid_mv (.inl rfl) rfl) rfl ?_
        | refine go_do (valid_mv (.inr rfl) rfl) rfl ?_
        | refine go_do (valid_alloc rfl rfl rfl rfl rfl) rfl ?_
        | (refine nxt_s 1 rfl ?_; refine go_do (valid_store_p rfl rfl rfl rfl rfl rfl (by first | kernel_rfl | rfl) rfl) (by first | kernel_rfl | rfl) ?_)
        | refine go_do (valid_build rfl rfl rfl rfl) rfl ?_)
    | (refine hK _ ?_; clear hK K)
    | refine aw_text rfl ?_
    | refine aw_block ?_
    | refine aw_seq_k (fun K hK => ?_))
  refine aw_loopH (α := Nat × Int) (fun p => (p.1 : Int) ≤ m ∧ p.2 = allI p.1) (fun p => St.of [(1, .m (ii m)), (4, .m (.c (.p 4 0))), (5, .m (.c (.p 5 0))), (6, .m (ii p.1))] [(4, .live (.box [cu 0, ci 0, cu 0])), (5, .live (.box [cu b, ci m, cu p.2]))]) (fun p => m.toNat - p.1) (0, 0) ⟨by show ((0 : Nat) : Int) ≤ m; omega, allI_zero.symm⟩ (sub_of _ _ ⟨rfl, rfl, rfl, rfl, trivial⟩ ⟨rfl, rfl, trivial⟩ rfl) ?_
  rintro ⟨i, x⟩ ⟨hi0, hx0⟩
  have hi : (i : Int) ≤ m := hi0
  have hx : x = allI i := hx0
  show Aw _ _ _ _ (St.of [(1, .m (ii m)), (4, .m (.c (.p 4 0))), (5, .m (.c (.p 5 0))), (6, .m (ii i))] [(4, .live (.box [cu 0, ci 0, cu 0])), (5, .live (.box [cu b, ci m, cu x]))])
  by_cases hlt : (i : Int) < m
  · have hs := rset_ok x i 1 (hx ▸ allI_U i) ⟨by omega, by omega⟩ (by omega) (by omega)
    repeat (first
      | (refine go_at rfl ?_; first
          | refine go_do (valid_mv (.inl rfl) rfl) rfl ?_
          | (refine nxt_s 1 rfl ?_; refine go_do (valid_load_p tb rfl rfl rfl rfl rfl (by first | kernel_rfl | rfl)) (by first | kernel_rfl | rfl) ?_)
          | (refine nxt_s 1 rfl ?_; refine go_do (valid_fld_p tb rfl rfl rfl (by kernel_rfl)) rfl ?_)
          | refine go_do (valid_mv (.inr rfl) rfl) rfl ?_
          | refine go_do (valid_cmp rfl rfl rfl rfl (by first | exact .eql1 (by omega) | exact .eql0 (by omega) | exact .neq1 (by omega) | exact .neq0 (by omega) | exact .lss1 (by omega) | exact .lss0 (by omega) | exact .leq1 (by omega) | exact .leq0 (by omega) | exact .gtr1 (by omega) | exact .gtr0 (by omega) | exact .geq1 (by omega) | exact .geq0 (by omega) | constructor)) rfl ?_
          | refine go_do (valid_ar rfl rfl rfl rfl (by constructor) (by first | exact wr_u64 (by omega) (by omega) | exact wr_i64 (by omega) (by omega) | rfl)) rfl ?_
          | (refine nxt_s 1 rfl ?_; refine go_do (valid_store_p rfl rfl rfl rfl rfl rfl (by first | kernel_rfl | rfl) rfl) (by first | kernel_rfl | rfl) ?_)
          | refine go_do (valid_call rfl rfl rfl (hs) (by kernel_rfl)) rfl ?_)
      | (refine hK _ ?_; clear hK K)
      | refine aw_text rfl ?_
      | refine aw_cond1 rfl rfl ?_
      | refine aw_block ?_
      | refine aw_skip ?_
      | refine aw_seq_k (fun K hK => ?_))
    exact ⟨(i + 1, setI x i 1 1), ⟨by show ((i + 1 : Nat) : Int) ≤ m; omega, by show setI x i 1 1 = allI ((i + 1 : Nat) : Int); rw [hx, allI_step _ (by omega) (by omega)]; rfl⟩, by show m.toNat - (i + 1) < m.toNat - i; omega, sub_of _ _ ⟨rfl, rfl, rfl, rfl, trivial⟩ ⟨rfl, rfl, trivial⟩ rfl⟩
  · obtain rfl : m = i := by omega
    subst hx
    repeat (first
      | (refine go_at rfl ?_; first
          | refine go_do (valid_mv (.inl rfl) rfl) rfl ?_
          | (refine nxt_s 1 rfl ?_; refine go_do (valid_load_p tb rfl rfl rfl rfl rfl (by first | kernel_rfl | rfl)) (by first | kernel_rfl | rfl) ?_)
          | refine go_do (valid_cmp rfl rfl rfl rfl (by first | exact .eql1 (by omega) | exact .eql0 (by omega) | exact .neq1 (by omega) | exact .neq0 (by omega) | exact .lss1 (by omega) | exact .lss0 (by omega) | exact .leq1 (by omega) | exact .leq0 (by omega) | exact .gtr1 (by omega) | exact .gtr0 (by omega) | exact .geq1 (by omega) | exact .geq0 (by omega) | constructor)) rfl ?_
          | (refine nxt_s 1 rfl ?_; refine go_do (valid_store_p rfl rfl rfl rfl rfl rfl (by first | kernel_rfl | rfl) rfl) (by first | kernel_rfl | rfl) ?_))
      | (refine hK _ ?_; clear hK K)
      | (rename_i K1 hK1; refine hK1 _ ?_; clear hK hK1; clear K)
      | refine aw_text rfl ?_
      | exact aw_ret (show resA _ _ _ = some _ by kernel_rfl)
      | refine aw_cond0 rfl rfl ?_
      | refine aw_exit ?_
      | refine aw_seq_k (fun K hK => ?_))
theorem ranew_ok (m : Int) (hm : 0 ≤ m ∧ m ≤ 64) : Ok 72 [ii m] (.m (.ag [ci m, cu (allI m), cu 0])) := by
  refine callOk_of 18 Tryz.func72 rfl rfl rfl rfl ?_ GG.to
  intro W A hG
  repeat (first
    | (refine go_at rfl ?_; first
        | refine go_do (valid_mv (.inl rfl) rfl) rfl ?_
        | refine go_do (valid_mv (.inr rfl) rfl) rfl ?_
        | refine go_do (valid_alloc rfl rfl rfl rfl rfl) rfl ?_
        | (refine nxt_s 1 rfl ?_; refine go_do (valid_store_p rfl rfl rfl rfl rfl rfl (by first | kernel_rfl | rfl) rfl) (by first | kernel_rfl | rfl) ?_)
        | refine go_do (valid_build rfl rfl rfl rfl) rfl ?_)
    | (refine hK _ ?_; clear hK K)
    | refine aw_text rfl ?_
    | refine aw_block ?_
    | refine aw_seq_k (fun K hK => ?_))
  refine aw_loopH (α := Nat × Int) (fun p => (p.1 : Int) ≤ m ∧ p.2 = allI p.1) (fun p => St.of [(0, .m (ii m)), (2, .m (.c (.p 2 0))), (3, .m (.c (.p 3 0))), (4, .m (ii p.1))] [(2, .live (.box [ci 0, cu 0, cu 0])), (3, .live (.box [ci m, cu p.2, cu 0]))]) (fun p => m.toNat - p.1) (0, 0) ⟨by show ((0 : Nat) : Int) ≤ m; omega, allI_zero.symm⟩ (sub_of _ _ ⟨rfl, rfl, rfl, rfl, trivial⟩ ⟨rfl, rfl, trivial⟩ rfl) ?_
  rintro ⟨i, x⟩ ⟨hi0, hx0⟩
  have hi : (i : Int) ≤ m := hi0
  have hx : x = allI i := hx0
  show Aw _ _ _ _ (St.of [(0, .m (ii m)), (2, .m (.c (.p 2 0))), (3, .m (.c (.p 3 0))), (4, .m (ii i))] [(2, .live (.box [ci 0, cu 0, cu 0])), (3, .live (.box [ci m, cu x, cu 0]))])
  by_cases hlt : (i : Int) < m
  · have hs := rset_ok x i 1 (hx ▸ allI_U i) ⟨by omega, by omega⟩ (by omega) (by omega)
    repeat (first
      | (refine go_at rfl ?_; first
          | refine go_do (valid_mv (.inl rfl) rfl) rfl ?_
          | (refine nxt_s 1 rfl ?_; refine go_do (valid_load_p tb rfl rfl rfl rfl rfl (by first | kernel_rfl | rfl)) (by first | kernel_rfl | rfl) ?_)
          | (refine nxt_s 1 rfl ?_; refine go_do (valid_fld_p tb rfl rfl rfl (by kernel_rfl)) rfl ?_)
          | refine go_do (valid_mv (.inr rfl) rfl) rfl ?_
          | refine go_do (valid_cmp rfl rfl rfl rfl (by first | exact .eql1 (by omega) | exact .eql0 (by omega) | exact .neq1 (by omega) | exact .neq0 (by omega) | exact .lss1 (by omega) | exact .lss0 (by omega) | exact .leq1 (by omega) | exact .leq0 (by omega) | exact .gtr1 (by omega) | exact .gtr0 (by omega) | exact .geq1 (by omega) | exact .geq0 (by omega) | constructor)) rfl ?_
          | refine go_do (valid_ar rfl rfl rfl rfl (by constructor) (by first | exact wr_u64 (by omega) (by omega) | exact wr_i64 (by omega) (by omega) | rfl)) rfl ?_
          | (refine nxt_s 1 rfl ?_; refine go_do (valid_store_p rfl rfl rfl rfl rfl rfl (by first | kernel_rfl | rfl) rfl) (by first | kernel_rfl | rfl) ?_)
          | refine go_do (valid_call rfl rfl rfl (hs) (by kernel_rfl)) rfl ?_)
      | (refine hK _ ?_; clear hK K)
      | refine aw_text rfl ?_
      | refine aw_cond1 rfl rfl ?_
      | refine aw_block ?_
      | refine aw_skip ?_
      | refine aw_seq_k (fun K hK => ?_))
    exact ⟨(i + 1, setI x i 1 1), ⟨by show ((i + 1 : Nat) : Int) ≤ m; omega, by show setI x i 1 1 = allI ((i + 1 : Nat) : Int); rw [hx, allI_step _ (by omega) (by omega)]; rfl⟩, by show m.toNat - (i + 1) < m.toNat - i; omega, sub_of _ _ ⟨rfl, rfl, rfl, rfl, trivial⟩ ⟨rfl, rfl, trivial⟩ rfl⟩
  · obtain rfl : m = i := by omega
    subst hx
    repeat (first
      | (refine go_at rfl ?_; first
          | refine go_do (valid_mv (.inl rfl) rfl) rfl ?_
          | (refine nxt_s 1 rfl ?_; refine go_do (valid_load_p tb rfl rfl rfl rfl rfl (by first | kernel_rfl | rfl)) (by first | kernel_rfl | rfl) ?_)
          | refine go_do (valid_cmp rfl rfl rfl rfl (by first | exact .eql1 (by omega) | exact .eql0 (by omega) | exact .neq1 (by omega) | exact .neq0 (by omega) | exact .lss1 (by omega) | exact .lss0 (by omega) | exact .leq1 (by omega) | exact .leq0 (by omega) | exact .gtr1 (by omega) | exact .gtr0 (by omega) | exact .geq1 (by omega) | exact .geq0 (by omega) | constructor)) rfl ?_
          | (refine nxt_s 1 rfl ?_; refine go_do (valid_store_p rfl rfl rfl rfl rfl rfl (by first | kernel_rfl | rfl) rfl) (by first | kernel_rfl | rfl) ?_))
      | (refine hK _ ?_; clear hK K)
      | (rename_i K1 hK1; refine hK1 _ ?_; clear hK hK1; clear K)
      | refine aw_text rfl ?_
      | exact aw_ret (show resA _ _ _ = some _ by kernel_rfl)
      | refine aw_cond0 rfl rfl ?_
      | refine aw_exit ?_
      | refine aw_seq_k (fun K hK => ?_))
theorem rptake_ok (b m f : Int) (hb : 0 ≤ b ∧ b ≤ 268435456) (hm : 0 ≤ m ∧ m ≤ 64) (hf : 0 ≤ f ∧ f < 2 ^ m.toNat) (h0 : f ≠ 0) : Ok 73 [.ag [cu b, ci m, cu f]] (.tu [.ag [cu b, ci m, cu (setI f (tzI f) 1 0)], iu (b + tzI f), ii 0]) := by
  have hu : U f := U_fit hf.1 hf.2 (by omega)
  have ht := tz_fit hu hf.2 h0
  refine callOk_of 28 Tryz.func73 rfl rfl rfl rfl ?_ GG.to
  intro W A hG
  repeat (first
    | (refine go_at rfl ?_; first
        | refine go_do (valid_mv (.inr rfl) rfl) rfl ?_
        | refine go_do (valid_box rfl rfl rfl rfl rfl rfl) rfl ?_
        | refine go_do (valid_alloc rfl rfl rfl rfl rfl) rfl ?_)
    | (refine hK _ ?_; clear hK K)
    | refine aw_text rfl ?_
    | refine aw_block ?_
    | refine aw_seq_k (fun K hK => ?_))
  refine aw_loopH (α := Nat) (fun i => (i : Int) ≤ tzI f) (fun i => St.of [(1, .m (.c (.p 1 0))), (2, .m (.c (.p 2 0))), (5, .m (ii i))] [(1, .live (.box [cu b, ci m, cu f])), (2, .live (.box [cu 0, ci 0, cu 0]))]) (fun i => m.toNat - i) 0 (by show ((0 : Nat) : Int) ≤ _; omega) (sub_of _ _ ⟨rfl, rfl, rfl, trivial⟩ ⟨rfl, rfl, trivial⟩ rfl) ?_
  intro i hi
  by_cases hlt : (i : Int) < tzI f
  · have hbt := rbit_ok f i hu (by omega) (by omega)
    rw [low_under hu h0 (by omega) hlt] at hbt
    repeat (first
      | (refine go_at rfl ?_; first
          | refine go_do (valid_mv (.inl rfl) rfl) rfl ?_
          | (refine nxt_s 1 rfl ?_; refine go_do (valid_load_p tb rfl rfl rfl rfl rfl (by first | kernel_rfl | rfl)) (by first | kernel_rfl | rfl) ?_)
          | (refine nxt_s 1 rfl ?_; refine go_do (valid_fld_p tb rfl rfl rfl (by kernel_rfl)) rfl ?_)
          | refine go_do (valid_mv (.inr rfl) rfl) rfl ?_
          | refine go_do (valid_cmp rfl rfl rfl rfl (by first | exact .eql1 (by omega) | exact .eql0 (by omega) | exact .neq1 (by omega) | exact .neq0 (by omega) | exact .lss1 (by omega) | exact .lss0 (by omega) | exact .leq1 (by omega) | exact .leq0 (by omega) | exact .gtr1 (by omega) | exact .gtr0 (by omega) | exact .geq1 (by omega) | exact .geq0 (by omega) | constructor)) rfl ?_
          | refine go_do (valid_ar rfl rfl rfl rfl (by constructor) (by first | exact wr_u64 (by omega) (by omega) | exact wr_i64 (by omega) (by omega) | rfl)) rfl ?_
          | refine go_do (valid_call rfl rfl rfl (hbt) (by kernel_rfl)) rfl ?_)
      | (refine hK _ ?_; clear hK K)
      | refine aw_text rfl ?_
      | refine aw_cond1 rfl rfl ?_
      | refine aw_cond0 rfl rfl ?_
      | refine aw_block ?_
      | refine aw_skip ?_
      | refine aw_seq_k (fun K hK => ?_))
    exact ⟨i + 1, by show ((i + 1 : Nat) : Int) ≤ _; omega, by omega, sub_of _ _ ⟨rfl, rfl, rfl, trivial⟩ ⟨rfl, rfl, trivial⟩ rfl⟩
  · have e : tzI f = i := by omega
    have hbt := rbit_ok f i hu (by omega) (by omega)
    rw [← e, low_at hu h0, e] at hbt
    have hs := rset_ok f i 0 hu ⟨by omega, by omega⟩ (by omega) (by omega)
    rw [e]
    repeat (first
      | (refine go_at rfl ?_; first
          | refine go_do (valid_mv (.inl rfl) rfl) rfl ?_
          | (refine nxt_s 1 rfl ?_; refine go_do (valid_load_p tb rfl rfl rfl rfl rfl (by first | kernel_rfl | rfl)) (by first | kernel_rfl | rfl) ?_)
          | (refine nxt_s 1 rfl ?_; refine go_do (valid_fld_p tb rfl rfl rfl (by kernel_rfl)) rfl ?_)
          | refine go_do (valid_mv (.inr rfl) rfl) rfl ?_
          | refine go_do (valid_cmp rfl rfl rfl rfl (by first | exact .eql1 (by omega) | exact .eql0 (by omega) | exact .neq1 (by omega) | exact .neq0 (by omega) | exact .lss1 (by omega) | exact .lss0 (by omega) | exact .leq1 (by omega) | exact .leq0 (by omega) | exact .gtr1 (by omega) | exact .gtr0 (by omega) | exact .geq1 (by omega) | exact .geq0 (by omega) | constructor)) rfl ?_
          | refine go_do (valid_ar rfl rfl rfl rfl (by constructor) (by first | exact wr_u64 (by omega) (by omega) | exact wr_i64 (by omega) (by omega) | rfl)) rfl ?_
          | refine go_do (valid_cv rfl rfl rfl rfl rfl (by first | exact wr_u64 (by omega) (by omega) | exact wr_i64 (by omega) (by omega) | rfl)) rfl ?_
          | (refine nxt_s 1 rfl ?_; refine go_do (valid_store_p rfl rfl rfl rfl rfl rfl (by first | kernel_rfl | rfl) rfl) (by first | kernel_rfl | rfl) ?_)
          | refine go_do (valid_call rfl rfl rfl (hbt) (by kernel_rfl)) rfl ?_
          | refine go_do (valid_call rfl rfl rfl (hs) (by kernel_rfl)) rfl ?_)
      | (refine hK _ ?_; clear hK K)
      | refine aw_text rfl ?_
      | refine aw_any (by kernel_rfl) (by kernel_rfl) rfl ?_
      | exact aw_ret (show resA _ _ _ = some _ by kernel_rfl)
      | refine aw_cond1 rfl rfl ?_
      | refine aw_block ?_
      | refine aw_skip ?_
      | refine aw_seq_k (fun K hK => ?_))
theorem rptake_no (b m : Int) (hm : 0 ≤ m ∧ m ≤ 64) : Ok 73 [.ag [cu b, ci m, cu 0]] (.tu [.ag [cu b, ci m, cu 0], iu 0, ii 8]) := by
  refine callOk_of 28 Tryz.func73 rfl rfl rfl rfl ?_ GG.to
  intro W A hG
  repeat (first
    | (refine go_at rfl ?_; first
        | refine go_do (valid_mv (.inr rfl) rfl) rfl ?_
        | refine go_do (valid_box rfl rfl rfl rfl rfl rfl) rfl ?_
        | refine go_do (valid_alloc rfl rfl rfl rfl rfl) rfl ?_)
    | (refine hK _ ?_; clear hK K)
    | refine aw_text rfl ?_
    | refine aw_block ?_
    | refine aw_seq_k (fun K hK => ?_))
  refine aw_loopH (α := Nat) (fun i => (i : Int) ≤ m) (fun i => St.of [(1, .m (.c (.p 1 0))), (2, .m (.c (.p 2 0))), (5, .m (ii i))] [(1, .live (.box [cu b, ci m, cu 0])), (2, .live (.box [cu 0, ci 0, cu 0]))]) (fun i => m.toNat - i) 0 (by show ((0 : Nat) : Int) ≤ _; omega) (sub_of _ _ ⟨rfl, rfl, rfl, trivial⟩ ⟨rfl, rfl, trivial⟩ rfl) ?_
  intro i hi
  by_cases hlt : (i : Int) < m
  · have hbt := rbit_ok 0 i ⟨by omega, by omega⟩ (by omega) (by omega)
    rw [bit_zero i (by omega)] at hbt
    repeat (first
      | (refine go_at rfl ?_; first
          | refine go_do (valid_mv (.inl rfl) rfl) rfl ?_
          | (refine nxt_s 1 rfl ?_; refine go_do (valid_load_p tb rfl rfl rfl rfl rfl (by first | kernel_rfl | rfl)) (by first | kernel_rfl | rfl) ?_)
          | (refine nxt_s 1 rfl ?_; refine go_do (valid_fld_p tb rfl rfl rfl (by kernel_rfl)) rfl ?_)
          | refine go_do (valid_mv (.inr rfl) rfl) rfl ?_
          | refine go_do (valid_cmp rfl rfl rfl rfl (by first | exact .eql1 (by omega) | exact .eql0 (by omega) | exact .neq1 (by omega) | exact .neq0 (by omega) | exact .lss1 (by omega) | exact .lss0 (by omega) | exact .leq1 (by omega) | exact .leq0 (by omega) | exact .gtr1 (by omega) | exact .gtr0 (by omega) | exact .geq1 (by omega) | exact .geq0 (by omega) | constructor)) rfl ?_
          | refine go_do (valid_ar rfl rfl rfl rfl (by constructor) (by first | exact wr_u64 (by omega) (by omega) | exact wr_i64 (by omega) (by omega) | rfl)) rfl ?_
          | refine go_do (valid_call rfl rfl rfl (hbt) (by kernel_rfl)) rfl ?_)
      | (refine hK _ ?_; clear hK K)
      | refine aw_text rfl ?_
      | refine aw_cond1 rfl rfl ?_
      | refine aw_cond0 rfl rfl ?_
      | refine aw_block ?_
      | refine aw_skip ?_
      | refine aw_seq_k (fun K hK => ?_))
    exact ⟨i + 1, by show ((i + 1 : Nat) : Int) ≤ _; omega, by omega, sub_of _ _ ⟨rfl, rfl, rfl, trivial⟩ ⟨rfl, rfl, trivial⟩ rfl⟩
  · skip
    repeat (first
      | (refine go_at rfl ?_; first
          | refine go_do (valid_mv (.inl rfl) rfl) rfl ?_
          | (refine nxt_s 1 rfl ?_; refine go_do (valid_load_p tb rfl rfl rfl rfl rfl (by first | kernel_rfl | rfl)) (by first | kernel_rfl | rfl) ?_)
          | (refine nxt_s 1 rfl ?_; refine go_do (valid_fld_p tb rfl rfl rfl (by kernel_rfl)) rfl ?_)
          | refine go_do (valid_mv (.inr rfl) rfl) rfl ?_
          | refine go_do (valid_cmp rfl rfl rfl rfl (by first | exact .eql1 (by omega) | exact .eql0 (by omega) | exact .neq1 (by omega) | exact .neq0 (by omega) | exact .lss1 (by omega) | exact .lss0 (by omega) | exact .leq1 (by omega) | exact .leq0 (by omega) | exact .gtr1 (by omega) | exact .gtr0 (by omega) | exact .geq1 (by omega) | exact .geq0 (by omega) | constructor)) rfl ?_
          | (refine nxt_s 1 rfl ?_; refine go_do (valid_store_p rfl rfl rfl rfl rfl rfl (by first | kernel_rfl | rfl) rfl) (by first | kernel_rfl | rfl) ?_))
      | (refine hK _ ?_; clear hK K)
      | (rename_i K1 hK1; refine hK1 _ ?_; clear hK hK1; clear K)
      | refine aw_text rfl ?_
      | exact aw_ret (show resA _ _ _ = some _ by kernel_rfl)
      | refine aw_cond0 rfl rfl ?_
      | refine aw_exit ?_
      | refine aw_seq_k (fun K hK => ?_))
theorem ratake_ok (m f o : Int) (hm : 0 ≤ m ∧ m ≤ 64) (hf : 0 ≤ f ∧ f < 2 ^ m.toNat) (ho : U o) (h0 : f ≠ 0) : Ok 77 [.ag [ci m, cu f, cu o]] (.tu [.ag [ci m, cu (takeA1 f), cu (takeA2 f o)], iu (tzI f + 1), ib (bitB o (tzI f)), ii 0]) := by
  have hu : U f := U_fit hf.1 hf.2 (by omega)
  have ht := tz_fit hu hf.2 h0
  refine callOk_of 38 Tryz.func77 rfl rfl rfl rfl ?_ GG.to
  intro W A hG
  repeat (first
    | (refine go_at rfl ?_; first
        | refine go_do (valid_mv (.inr rfl) rfl) rfl ?_
        | refine go_do (valid_box rfl rfl rfl rfl rfl rfl) rfl ?_
        | refine go_do (valid_alloc rfl rfl rfl rfl rfl) rfl ?_)
    | (refine hK _ ?_; clear hK K)
    | refine aw_text rfl ?_
    | refine aw_block ?_
    | refine aw_seq_k (fun K hK => ?_))
  refine aw_loopH (α := Nat) (fun i => (i : Int) ≤ tzI f) (fun i => St.of [(1, .m (.c (.p 1 0))), (2, .m (.c (.p 2 0))), (6, .m (ii i))] [(1, .live (.box [ci m, cu f, cu o])), (2, .live (.box [ci 0, cu 0, cu 0]))]) (fun i => m.toNat - i) 0 (by show ((0 : Nat) : Int) ≤ _; omega) (sub_of _ _ ⟨rfl, rfl, rfl, trivial⟩ ⟨rfl, rfl, trivial⟩ rfl) ?_
  intro i hi
  by_cases hlt : (i : Int) < tzI f
  · have hbt := rbit_ok f i hu (by omega) (by omega)
    rw [low_under hu h0 (by omega) hlt] at hbt
    repeat (first
      | (refine go_at rfl ?_; first
          | refine go_do (valid_mv (.inl rfl) rfl) rfl ?_
          | (refine nxt_s 1 rfl ?_; refine go_do (valid_load_p tb rfl rfl rfl rfl rfl (by first | kernel_rfl | rfl)) (by first | kernel_rfl | rfl) ?_)
          | (refine nxt_s 1 rfl ?_; refine go_do (valid_fld_p tb rfl rfl rfl (by kernel_rfl)) rfl ?_)
          | refine go_do (valid_mv (.inr rfl) rfl) rfl ?_
          | refine go_do (valid_cmp rfl rfl rfl rfl (by first | exact .eql1 (by omega) | exact .eql0 (by omega) | exact .neq1 (by omega) | exact .neq0 (by omega) | exact .lss1 (by omega) | exact .lss0 (by omega) | exact .leq1 (by omega) | exact .leq0 (by omega) | exact .gtr1 (by omega) | exact .gtr0 (by omega) | exact .geq1 (by omega) | exact .geq0 (by omega) | constructor)) rfl ?_
          | refine go_do (valid_ar rfl rfl rfl rfl (by constructor) (by first | exact wr_u64 (by omega) (by omega) | exact wr_i64 (by omega) (by omega) | rfl)) rfl ?_
          | refine go_do (valid_call rfl rfl rfl (hbt) (by kernel_rfl)) rfl ?_)
      | (refine hK _ ?_; clear hK K)
      | refine aw_text rfl ?_
      | refine aw_cond1 rfl rfl ?_
      | refine aw_cond0 rfl rfl ?_
      | refine aw_block ?_
      | refine aw_skip ?_
      | refine aw_seq_k (fun K hK => ?_))
    exact ⟨i + 1, by show ((i + 1 : Nat) : Int) ≤ _; omega, by omega, sub_of _ _ ⟨rfl, rfl, rfl, trivial⟩ ⟨rfl, rfl, trivial⟩ rfl⟩
  · have e : tzI f = i := by omega
    have hbt := rbit_ok f i hu (by omega) (by omega)
    rw [← e, low_at hu h0, e] at hbt
    have hbo := rbit_ok o i ho (by omega) (by omega)
    have hs := rset_ok f i 0 hu ⟨by omega, by omega⟩ (by omega) (by omega)
    have hs2 := rset_ok o i 1 ho ⟨by omega, by omega⟩ (by omega) (by omega)
    unfold takeA1 takeA2
    rw [e]
    repeat (first
      | (refine go_at rfl ?_; first
          | refine go_do (valid_mv (.inl rfl) rfl) rfl ?_
          | (refine nxt_s 1 rfl ?_; refine go_do (valid_load_p tb rfl rfl rfl rfl rfl (by first | kernel_rfl | rfl)) (by first | kernel_rfl | rfl) ?_)
          | (refine nxt_s 1 rfl ?_; refine go_do (valid_fld_p tb rfl rfl rfl (by kernel_rfl)) rfl ?_)
          | refine go_do (valid_mv (.inr rfl) rfl) rfl ?_
          | refine go_do (valid_cmp rfl rfl rfl rfl (by first | exact .eql1 (by omega) | exact .eql0 (by omega) | exact .neq1 (by omega) | exact .neq0 (by omega) | exact .lss1 (by omega) | exact .lss0 (by omega) | exact .leq1 (by omega) | exact .leq0 (by omega) | exact .gtr1 (by omega) | exact .gtr0 (by omega) | exact .geq1 (by omega) | exact .geq0 (by omega) | constructor)) rfl ?_
          | refine go_do (valid_ar rfl rfl rfl rfl (by constructor) (by first | exact wr_u64 (by omega) (by omega) | exact wr_i64 (by omega) (by omega) | rfl)) rfl ?_
          | refine go_do (valid_cv rfl rfl rfl rfl rfl (by first | exact wr_u64 (by omega) (by omega) | exact wr_i64 (by omega) (by omega) | rfl)) rfl ?_
          | (refine nxt_s 1 rfl ?_; refine go_do (valid_store_p rfl rfl rfl rfl rfl rfl (by first | kernel_rfl | rfl) rfl) (by first | kernel_rfl | rfl) ?_)
          | (refine nxt_dst 17 rfl ?_; refine go_do (valid_call rfl rfl rfl (hbt) (by kernel_rfl)) rfl ?_)
          | (refine nxt_dst 21 rfl ?_; refine go_do (valid_call rfl rfl rfl (hbo) (by kernel_rfl)) rfl ?_)
          | (refine nxt_dst 25 rfl ?_; refine go_do (valid_call rfl rfl rfl (hs) (by kernel_rfl)) rfl ?_)
          | (refine nxt_dst 30 rfl ?_; refine go_do (valid_call rfl rfl rfl (hs2) (by kernel_rfl)) rfl ?_))
      | (refine hK _ ?_; clear hK K)
      | refine aw_text rfl ?_
      | exact aw_ret (show resA _ _ _ = some _ by kernel_rfl)
      | refine aw_cond1 rfl rfl ?_
      | refine aw_block ?_
      | refine aw_skip ?_
      | refine aw_seq_k (fun K hK => ?_))
theorem ratake_no (m o : Int) (hm : 0 ≤ m ∧ m ≤ 64) : Ok 77 [.ag [ci m, cu 0, cu o]] (.tu [.ag [ci m, cu 0, cu o], iu 0, ib false, ii 9]) := by
  refine callOk_of 38 Tryz.func77 rfl rfl rfl rfl ?_ GG.to
  intro W A hG
  repeat (first
    | (refine go_at rfl ?_; first
        | refine go_do (valid_mv (.inr rfl) rfl) rfl ?_
        | refine go_do (valid_box rfl rfl rfl rfl rfl rfl) rfl ?_
        | refine go_do (valid_alloc rfl rfl rfl rfl rfl) rfl ?_)
    | (refine hK _ ?_; clear hK K)
    | refine aw_text rfl ?_
    | refine aw_block ?_
    | refine aw_seq_k (fun K hK => ?_))
  refine aw_loopH (α := Nat) (fun i => (i : Int) ≤ m) (fun i => St.of [(1, .m (.c (.p 1 0))), (2, .m (.c (.p 2 0))), (6, .m (ii i))] [(1, .live (.box [ci m, cu 0, cu o])), (2, .live (.box [ci 0, cu 0, cu 0]))]) (fun i => m.toNat - i) 0 (by show ((0 : Nat) : Int) ≤ _; omega) (sub_of _ _ ⟨rfl, rfl, rfl, trivial⟩ ⟨rfl, rfl, trivial⟩ rfl) ?_
  intro i hi
  by_cases hlt : (i : Int) < m
  · have hbt := rbit_ok 0 i ⟨by omega, by omega⟩ (by omega) (by omega)
    rw [bit_zero i (by omega)] at hbt
    repeat (first
      | (refine go_at rfl ?_; first
          | refine go_do (valid_mv (.inl rfl) rfl) rfl ?_
          | (refine nxt_s 1 rfl ?_; refine go_do (valid_load_p tb rfl rfl rfl rfl rfl (by first | kernel_rfl | rfl)) (by first | kernel_rfl | rfl) ?_)
          | (refine nxt_s 1 rfl ?_; refine go_do (valid_fld_p tb rfl rfl rfl (by kernel_rfl)) rfl ?_)
          | refine go_do (valid_mv (.inr rfl) rfl) rfl ?_
          | refine go_do (valid_cmp rfl rfl rfl rfl (by first | exact .eql1 (by omega) | exact .eql0 (by omega) | exact .neq1 (by omega) | exact .neq0 (by omega) | exact .lss1 (by omega) | exact .lss0 (by omega) | exact .leq1 (by omega) | exact .leq0 (by omega) | exact .gtr1 (by omega) | exact .gtr0 (by omega) | exact .geq1 (by omega) | exact .geq0 (by omega) | constructor)) rfl ?_
          | refine go_do (valid_ar rfl rfl rfl rfl (by constructor) (by first | exact wr_u64 (by omega) (by omega) | exact wr_i64 (by omega) (by omega) | rfl)) rfl ?_
          | refine go_do (valid_call rfl rfl rfl (hbt) (by kernel_rfl)) rfl ?_)
      | (refine hK _ ?_; clear hK K)
      | refine aw_text rfl ?_
      | refine aw_cond1 rfl rfl ?_
      | refine aw_cond0 rfl rfl ?_
      | refine aw_block ?_
      | refine aw_skip ?_
      | refine aw_seq_k (fun K hK => ?_))
    exact ⟨i + 1, by show ((i + 1 : Nat) : Int) ≤ _; omega, by omega, sub_of _ _ ⟨rfl, rfl, rfl, trivial⟩ ⟨rfl, rfl, trivial⟩ rfl⟩
  · skip
    repeat (first
      | (refine go_at rfl ?_; first
          | refine go_do (valid_mv (.inl rfl) rfl) rfl ?_
          | (refine nxt_s 1 rfl ?_; refine go_do (valid_load_p tb rfl rfl rfl rfl rfl (by first | kernel_rfl | rfl)) (by first | kernel_rfl | rfl) ?_)
          | (refine nxt_s 1 rfl ?_; refine go_do (valid_fld_p tb rfl rfl rfl (by kernel_rfl)) rfl ?_)
          | refine go_do (valid_mv (.inr rfl) rfl) rfl ?_
          | refine go_do (valid_cmp rfl rfl rfl rfl (by first | exact .eql1 (by omega) | exact .eql0 (by omega) | exact .neq1 (by omega) | exact .neq0 (by omega) | exact .lss1 (by omega) | exact .lss0 (by omega) | exact .leq1 (by omega) | exact .leq0 (by omega) | exact .gtr1 (by omega) | exact .gtr0 (by omega) | exact .geq1 (by omega) | exact .geq0 (by omega) | constructor)) rfl ?_
          | (refine nxt_s 1 rfl ?_; refine go_do (valid_store_p rfl rfl rfl rfl rfl rfl (by first | kernel_rfl | rfl) rfl) (by first | kernel_rfl | rfl) ?_))
      | (refine hK _ ?_; clear hK K)
      | (rename_i K1 hK1; refine hK1 _ ?_; clear hK hK1; clear K)
      | refine aw_text rfl ?_
      | exact aw_ret (show resA _ _ _ = some _ by kernel_rfl)
      | refine aw_cond0 rfl rfl ?_
      | refine aw_exit ?_
      | refine aw_seq_k (fun K hK => ?_))
end Go.Proofs.YtgkodncknlankaaGreatDoor.RfA
