/- seal.Erase and seal.Open: what each call answers. -/
import Derived.Test.YtpffcfmhiebhdaaSeal
import Derived.Test.YtpffcfmhiebhdaaAcc
import Derived.WalkSpells
import Derived.WalkLawsBesides
import Derived.Deep.QuietTactic
import Derived.BigQuiet
import Derived.Deep.DeepCutAuto
import Derived.Deep.RegionHeld3
import Derived.Lib.Hide
import Derived.Handy
namespace Go.Proofs.Ytpffcfmhiebhdaa
open Go.RowKit

theorem Try.infoTerm : (Try.prog.info? 35).map (fun i => (i.zero, i.size, i.bytes)) = some (some (.agg #[.int .i64 0, .int .i64 0, .string ⟨#[]⟩, .slice none 0 0]), 4, 56) := by kernel_rfl

set_option maxHeartbeats 1000000 in
theorem seal_erase : ∀ (t : Term) (F : List Nat) (v : Value) (w : World), TermV F w t v → (∀ b, b ∈ F → b < w.heap.size) →
    Calls Try.prog 21 #[v] w fun e w' => (∃ v', e = .returned v' ∧ TermV F w' t.erase v') ∧ Frm [] w w' := by
  intro t
  induction t using Term.induct with
  | h k n s ts ih =>
    intro F v w h hF
    have hv := h
    have IH := Lib.hid ih
    clear ih
    simp only [TermV] at h
    obtain ⟨A, cap, rfl, hk1, hn1, hs1, hl1, hc, hc2, hk⟩ := h
    cases h1 : Term.sealOf (.mk k n s ts)
    · have hE : Hid (Term.erase (.mk k n s ts) = .mk k n s (ts.map Term.erase)) := by
        refine Term.erase_else ?_
        rintro ⟨rfl, h2⟩
        simp [Term.sealOf, Term.kind, Term.kids, h2] at h1
      obtain ⟨i0, hi, hz0, hz1, hz2⟩ := info_parts Try.infoTerm
      go_enter Try.func21, Try.ntmps21
      go_wp2_with ((go_at_call 37; refine (seal_is F _ _ _ (hv.keep (by repeat (first | (with_reducible refine Frm.alloc ?_ _) | (with_reducible refine Frm.drewN ?_ _) | (with_reducible refine Frm.drew ?_) | ((with_reducible refine Frm.setCell ?_ ?_ _); rotate_left; (focus (first | (left; simp; done) | (right; simp; done) | (right; simp; omega)))) | with_reducible assumption | with_reducible exact Frm.refl _ _ | (with_reducible refine Frm.trans0 ?_ ‹_›))))).mono ?_; rintro e w1 ⟨rfl, Fw1⟩; obtain ⟨hcw1, hfw1⟩ := Fw1.reads))
      go_loopw [3, 16] (fun a i wr => ∃ (j : Nat) (xs : List Value), j ≤ ts.length ∧ i = .int .i64 j ∧ Frm [] w1 wr ∧ OwnTerms (w.heap.size :: (w.heap.size + 1) :: F) wr w1.heap.size a ((ts.take j).map Term.erase) xs) (fun _ i _ => ts.length - (intOf i).toNat)
      case atStart => exact ⟨0, [], Nat.zero_le _, rfl, Frm.refl _ _, OwnTerms.nil _ _ _⟩
      case round =>
        obtain ⟨j, xs, hj, rfl, FR, hown⟩ := hrel
        have F0 : Frm [] w wr := (by repeat (first | (with_reducible refine Frm.alloc ?_ _) | (with_reducible refine Frm.drewN ?_ _) | (with_reducible refine Frm.drew ?_) | ((with_reducible refine Frm.setCell ?_ ?_ _); rotate_left; (focus (first | (left; simp; done) | (right; simp; done) | (right; simp; omega)))) | with_reducible assumption | with_reducible exact Frm.refl _ _ | (with_reducible refine Frm.trans0 ?_ ‹_›)))
        have HOWN := Lib.hid hown
        clear hown
        by_cases hlt : j < ts.length
        · have hF1 : ∀ b, b ∈ u3.ownBlock.toList ++ (w.heap.size :: (w.heap.size + 1) :: F) → b < wr.heap.size := by
            intro b hb
            rcases List.mem_append.1 hb with hb | hb
            · exact (HOWN.out.own_lt b hb).2
            · have h2 := Fw1.size
              have h3 := FR.size
              simp at h2
              rcases List.mem_cons.1 hb with rfl | hb
              · omega
              rcases List.mem_cons.1 hb with rfl | hb
              · omega
              have := hF b hb; omega
          obtain ⟨b', off, A', cap', rfl, hb1, hb2, e0, e1, e2, e3, hkid⟩ := ((hk.away (F' := u3.ownBlock.toList ++ (w.heap.size :: (w.heap.size + 1) :: F)) (fun b hb => by
            rcases List.mem_append.1 hb with hb | hb
            · exact .inr (by have := (HOWN.out.own_lt b hb).1; have := Fw1.size; simp at this; omega)
            · rcases List.mem_cons.1 hb with rfl | hb
              · exact .inr (by omega)
              rcases List.mem_cons.1 hb with rfl | hb
              · exact .inr (by omega)
              exact .inl hb)).keep F0).kid j hlt
          have HT := Lib.hid (take_succ_get hlt)
          have HM : Hid (ts[j] ∈ ts) := List.getElem_mem hlt
          have hsz := F0.size
          have hsz1 := FR.size
          generalize ts[j] = t at *
          go_wp2_with (first
            | (go_at_call 21; refine (IH.out t HM.out (u3.ownBlock.toList ++ (w.heap.size :: (w.heap.size + 1) :: F)) _ _ (hkid.keep (by repeat (first | (with_reducible refine Frm.alloc ?_ _) | (with_reducible refine Frm.drewN ?_ _) | (with_reducible refine Frm.drew ?_) | ((with_reducible refine Frm.setCell ?_ ?_ _); rotate_left; (focus (first | (left; simp; done) | (right; simp; done) | (right; simp; omega)))) | with_reducible assumption | with_reducible exact Frm.refl _ _ | (with_reducible refine Frm.trans0 ?_ ‹_›)))) (fun b hb => by have := hF1 b hb; simp; omega)).mono ?_; rintro e w2 ⟨⟨v2, rfl, hv2⟩, F2⟩; obtain ⟨A2, cap2, rfl⟩ := hv2.form; have HV2 := Lib.hid hv2; clear hv2; obtain ⟨hc2', hf2'⟩ := F2.reads; have hsz2 := F2.size; simp at hsz2; have F2' : Frm [] wr w2 := (by repeat (first | (with_reducible refine Frm.alloc ?_ _) | (with_reducible refine Frm.drewN ?_ _) | (with_reducible refine Frm.drew ?_) | ((with_reducible refine Frm.setCell ?_ ?_ _); rotate_left; (focus (first | (left; simp; done) | (right; simp; done) | (right; simp; omega)))) | with_reducible assumption | with_reducible exact Frm.refl _ _ | (with_reducible refine Frm.trans0 ?_ ‹_›))); have hown2 := Lib.hid (fun o => HOWN.out.keep (F2'.alloc o)))
            | (at_builtin; go_must (refine wpList_append_own_at _ rfl _ _ 33 rfl w1.heap.size 35 i0 _ 4 56 Try.underlying33 hi hz0 hz1 hz2 rfl (by decide) u3 _ _ rfl (hown2.out _).1 ⟨w2.heap.size, 0, none⟩ 1 1 [.int .i64 t.erase.kind, .int .i64 t.erase.n, .string t.erase.s, .slice A2 t.erase.kids.length cap2] rfl rfl ?c1x ?c2x ?c3x ?c4x ?c5x ?_); (case c1x => exact cells_new _ _ _); (case c2x => simp [Value.oneCell']); (case c3x => simp [maxLen]; omega); (case c4x => simp; omega); (case c5x => simp; omega); intro v3 w3 how3 hgw3 _ hatw3))
          go_roundw
          case rel =>
            refine ⟨j + 1, xs ++ [.int .i64 t.erase.kind, .int .i64 t.erase.n, .string t.erase.s, .slice A2 t.erase.kids.length cap2], by omega, by go_num, ?_, ?_⟩
            · refine Frm.grown ((by repeat (first | (with_reducible refine Frm.alloc ?_ _) | (with_reducible refine Frm.drewN ?_ _) | (with_reducible refine Frm.drew ?_) | ((with_reducible refine Frm.setCell ?_ ?_ _); rotate_left; (focus (first | (left; simp; done) | (right; simp; done) | (right; simp; omega)))) | with_reducible assumption | with_reducible exact Frm.refl _ _ | (with_reducible refine Frm.trans0 ?_ ‹_›))) : Frm [] w1 (w2.alloc _)) hgw3 (fun b hb => .inr (HOWN.out.own_lt b (by simpa using hb)).1)
            · rw [HT.out, List.map_append]
              refine (hown2.out _).snoc ?_ how3 hgw3 hatw3
              exact HV2.out.keep (by repeat (first | (with_reducible refine Frm.alloc ?_ _) | (with_reducible refine Frm.drewN ?_ _) | (with_reducible refine Frm.drew ?_) | ((with_reducible refine Frm.setCell ?_ ?_ _); rotate_left; (focus (first | (left; simp; done) | (right; simp; done) | (right; simp; omega)))) | with_reducible assumption | with_reducible exact Frm.refl _ _ | (with_reducible refine Frm.trans0 ?_ ‹_›)))
          case measure => simp [intOf]; omega
        · have : j = ts.length := by omega
          subst this
          obtain ⟨A3, cap3, rfl, hle3, hcap3, hk3⟩ := HOWN.out.kids (fun b hb => by
            have h2 := Fw1.size
            simp at h2
            rcases List.mem_cons.1 hb with rfl | hb
            · omega
            rcases List.mem_cons.1 hb with rfl | hb
            · omega
            have := hF b hb; omega)
          have hb0 : w1.heap[w.heap.size]? = _ := Fw1.at0 (by repeat (first | rw [heap_alloc_at] | rw [heap_size_alloc] | rfl | rw [if_pos (by omega)] | rw [if_neg (by omega)]))
          have hb1 : w1.heap[w.heap.size + 1]? = _ := Fw1.at0 (by repeat (first | rw [heap_alloc_at] | rw [heap_size_alloc] | rfl | rw [if_pos (by omega)] | rw [if_neg (by omega)]))
          obtain ⟨q0, q1, q2, q3, q4, q5⟩ := blk4 (FR.at0 hb0)
          obtain ⟨r0, r1, r2, r3, r4, r5⟩ := blk4 (FR.at0 hb1)
          clear hb0 hb1
          go_wp2
          refine bodyPost_ret (v := .agg #[.int .i64 k, .int .i64 n, .string s, .slice A3 ts.length cap3]) (by simp [results, Try.results21, go_sem, r0, r1, r2, r3]) rfl ?_
          rw [hE.out]
          rw [List.take_length] at hle3 hk3
          refine ⟨⟨_, rfl, TermV.of_kids (G := [w.heap.size, w.heap.size + 1]) hk1 hn1 hs1 (by simpa using hl1) hle3 hcap3 hk3 (by repeat (first | (with_reducible refine Frm.alloc ?_ _) | (with_reducible refine Frm.drewN ?_ _) | (with_reducible refine Frm.drew ?_) | ((with_reducible refine Frm.setCell ?_ ?_ _); rotate_left; (focus (first | (left; simp; done) | (right; simp; done) | (right; simp; omega)))) | with_reducible assumption | with_reducible exact Frm.refl _ _ | (with_reducible refine Frm.trans0 ?_ ‹_›))) (by simp) (fun b hb => by simp [hb]) (by simp)⟩, (by repeat (first | (with_reducible refine Frm.alloc ?_ _) | (with_reducible refine Frm.drewN ?_ _) | (with_reducible refine Frm.drew ?_) | ((with_reducible refine Frm.setCell ?_ ?_ _); rotate_left; (focus (first | (left; simp; done) | (right; simp; done) | (right; simp; omega)))) | with_reducible assumption | with_reducible exact Frm.refl _ _ | (with_reducible refine Frm.trans0 ?_ ‹_›)))⟩
    · obtain ⟨rfl, x, rfl⟩ := Term.sealOf_true h1
      obtain ⟨b', off, A', cap', rfl, hb1, hb2, e0, e1, e2, e3, hkid⟩ := hk.kid 0 (by simp)
      have HM : Hid (x ∈ [x]) := List.mem_singleton.2 rfl
      have hb3 : b' < w.heap.size + 1 + 1 := by omega
      simp only [List.getElem_cons_zero, Nat.zero_mul, Nat.add_zero] at e0 e1 e2 e3 hkid
      have hE : Hid (Term.erase (.mk 4 n s [x]) = x.erase) := Term.erase_seal n s x
      go_enter Try.func21, Try.ntmps21
      go_wp2_with (first
        | (go_at_call 37; refine (seal_is F _ _ _ (hv.keep (by repeat (first | (with_reducible refine Frm.alloc ?_ _) | (with_reducible refine Frm.drewN ?_ _) | (with_reducible refine Frm.drew ?_) | ((with_reducible refine Frm.setCell ?_ ?_ _); rotate_left; (focus (first | (left; simp; done) | (right; simp; done) | (right; simp; omega)))) | with_reducible assumption | with_reducible exact Frm.refl _ _ | (with_reducible refine Frm.trans0 ?_ ‹_›))))).mono ?_; rintro e w1 ⟨rfl, Fw1⟩; obtain ⟨hcw1, hfw1⟩ := Fw1.reads)
        | (go_at_call 21; go_must (refine (IH.out x HM.out ((w.heap.size + 1) :: F) _ _ ((hkid.away (fun b hb => by rcases List.mem_cons.1 hb with rfl | hb; exact .inr (by omega); exact .inl hb)).keep (by repeat (first | (with_reducible refine Frm.alloc ?_ _) | (with_reducible refine Frm.drewN ?_ _) | (with_reducible refine Frm.drew ?_) | ((with_reducible refine Frm.setCell ?_ ?_ _); rotate_left; (focus (first | (left; simp; done) | (right; simp; done) | (right; simp; omega)))) | with_reducible assumption | with_reducible exact Frm.refl _ _ | (with_reducible refine Frm.trans0 ?_ ‹_›)))) (fun b hb => by have := Fw1.size; simp at this; rcases List.mem_cons.1 hb with rfl | hb; omega; have := hF b hb; omega)).mono ?_); rintro e w2 ⟨⟨v2, rfl, hv2⟩, F2⟩; obtain ⟨A2, cap2, rfl⟩ := hv2.form; have HV2 := Lib.hid hv2; clear hv2; obtain ⟨r0, r1, r2, r3, r4, r5⟩ := blk4 (F2.at0 (Fw1.at0 (b := w.heap.size + 1) (by repeat (first | rw [heap_alloc_at] | rw [heap_size_alloc] | rfl | rw [if_pos (by omega)] | rw [if_neg (by omega)]))))))
      refine bodyPost_ret (v := .agg #[.int .i64 x.erase.kind, .int .i64 x.erase.n, .string x.erase.s, .slice A2 x.erase.kids.length cap2]) (by simp [results, Try.results21, go_sem, r0, r1, r2, r3]) rfl ?_
      rw [hE.out]
      have hq : w.heap.size + 1 < w1.heap.size := by have := Fw1.size; simp at this; omega
      exact ⟨⟨_, rfl, (HV2.out.frm (G := [w.heap.size + 1]) (by repeat (first | (with_reducible refine Frm.alloc ?_ _) | (with_reducible refine Frm.drewN ?_ _) | (with_reducible refine Frm.drew ?_) | ((with_reducible refine Frm.setCell ?_ ?_ _); rotate_left; (focus (first | (left; simp; done) | (right; simp; done) | (right; simp; omega)))) | with_reducible assumption | with_reducible exact Frm.refl _ _ | (with_reducible refine Frm.trans0 ?_ ‹_›))) (by simp)).away (fun b hb => .inl (by simp [hb]))⟩, (by repeat (first | (with_reducible refine Frm.alloc ?_ _) | (with_reducible refine Frm.drewN ?_ _) | (with_reducible refine Frm.drew ?_) | ((with_reducible refine Frm.setCell ?_ ?_ _); rotate_left; (focus (first | (left; simp; done) | (right; simp; done) | (right; simp; omega)))) | with_reducible assumption | with_reducible exact Frm.refl _ _ | (with_reducible refine Frm.trans0 ?_ ‹_›)))⟩
end Go.Proofs.Ytpffcfmhiebhdaa
