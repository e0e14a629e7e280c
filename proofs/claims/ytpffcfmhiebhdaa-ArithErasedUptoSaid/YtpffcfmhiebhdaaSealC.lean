/- seal.Open: what each call answers. -/
import Derived.Test.YtpffcfmhiebhdaaSealB
import Derived.Test.YtpffcfmhiebhdaaLattP
import Derived.Deep.LoopGhost
namespace Go.Proofs.Ytpffcfmhiebhdaa
open Go.RowKit

theorem Lat.Rng.i64 {x : Int} (h : Lat.Rng x) : I64 x := by obtain ⟨h1, h2⟩ := h; unfold I64; omega

/-- What lies in a box: a term's four cells. -/
def Boxed (F : List Nat) (w : World) (b : Nat) (t : Term) : Prop := ∃ A cap, w.heap[b]? = some (.cells #[.int .i64 t.kind, .int .i64 t.n, .string t.s, .slice A t.kids.length cap] 35 (0, 0)) ∧
  TermV F w t (.agg #[.int .i64 t.kind, .int .i64 t.n, .string t.s, .slice A t.kids.length cap])

set_option maxHeartbeats 1000000 in
theorem seal_open (F : List Nat) (l : Lat) (b : Nat) (t : Term) (v : Value) (w : World) (hl : LatAt w b l) (h : TermV F w t v) (hF : ∀ b, b ∈ F → b < w.heap.size) :
    Calls Try.prog 40 #[.pointer (some ⟨b, 0, none⟩), v] w fun e w' => (∃ v', e = .returned (.tuple #[v', .int .i64 (l.opened t).2]) ∧ TermV F w' (l.opened t).1 v') ∧ Frm [] w w' := by
  have hv := h
  obtain ⟨k, n, s, ts⟩ := t
  simp only [TermV] at h
  obtain ⟨A, cap, rfl, hk1, hn1, hs1, hl1, hc, hc2, hk⟩ := h
  cases h1 : Term.sealOf (.mk k n s ts)
  · have hE : Hid (l.opened (.mk k n s ts) = (.mk k n s ts, l.bottom)) := by
      show _ = _
      simp [Lat.opened, h1]
    go_enter Try.func40, Try.ntmps40
    go_wp2_with (first
      | (go_at_call 22; refine (lat_bottom l b _ (hl.frm0 (by repeat (first | (with_reducible refine Frm.alloc ?_ _) | (with_reducible refine Frm.drewN ?_ _) | (with_reducible refine Frm.drew ?_) | ((with_reducible refine Frm.setCell ?_ ?_ _); rotate_left; (focus (first | (left; simp; done) | (right; simp; done) | (right; simp; omega)))) | with_reducible assumption | with_reducible exact Frm.refl _ _ | (with_reducible refine Frm.trans0 ?_ ‹_›))))).mono ?_; rintro e w' ⟨rfl, rfl⟩)
      | ((go_at_call 37; refine (seal_is F _ _ _ (hv.keep (by repeat (first | (with_reducible refine Frm.alloc ?_ _) | (with_reducible refine Frm.drewN ?_ _) | (with_reducible refine Frm.drew ?_) | ((with_reducible refine Frm.setCell ?_ ?_ _); rotate_left; (focus (first | (left; simp; done) | (right; simp; done) | (right; simp; omega)))) | with_reducible assumption | with_reducible exact Frm.refl _ _ | (with_reducible refine Frm.trans0 ?_ ‹_›))))).mono ?_; rintro e w1 ⟨rfl, Fw1⟩; obtain ⟨hcw1, hfw1⟩ := Fw1.reads); obtain ⟨r0, r1, r2, r3, r4, r5⟩ := blk4 (Fw1.at0 (b := w.heap.size + 1) (by repeat (first | rw [heap_alloc_at] | rw [heap_size_alloc] | rfl | rw [if_pos (by omega)] | rw [if_neg (by omega)])))))
    refine bodyPost_ret (v := .tuple #[.agg #[.int .i64 k, .int .i64 n, .string s, .slice A ts.length cap], .int .i64 l.bottom]) (by simp [results, Try.results40, go_sem, r0, r1, r2, r3]) rfl ?_
    rw [hE.out]
    exact ⟨⟨_, rfl, ((hv.away (F' := (w.heap.size + 1) :: F) (fun b hb => by rcases List.mem_cons.1 hb with rfl | hb; exact .inr (by omega); exact .inl hb)).frm (G := [w.heap.size + 1]) (by repeat (first | (with_reducible refine Frm.alloc ?_ _) | (with_reducible refine Frm.drewN ?_ _) | (with_reducible refine Frm.drew ?_) | ((with_reducible refine Frm.setCell ?_ ?_ _); rotate_left; (focus (first | (left; simp; done) | (right; simp; done) | (right; simp; omega)))) | with_reducible assumption | with_reducible exact Frm.refl _ _ | (with_reducible refine Frm.trans0 ?_ ‹_›))) (by simp)).away (fun b hb => .inl (by simp [hb]))⟩, (by repeat (first | (with_reducible refine Frm.alloc ?_ _) | (with_reducible refine Frm.drewN ?_ _) | (with_reducible refine Frm.drew ?_) | ((with_reducible refine Frm.setCell ?_ ?_ _); rotate_left; (focus (first | (left; simp; done) | (right; simp; done) | (right; simp; omega)))) | with_reducible assumption | with_reducible exact Frm.refl _ _ | (with_reducible refine Frm.trans0 ?_ ‹_›)))⟩
  · obtain ⟨rfl, x, rfl⟩ := Term.sealOf_true h1
    have hE : Hid (l.opened (.mk 4 n s [x]) = (.mk (l.peel l.bottom (.mk 4 n s [x])).1.kind (l.peel l.bottom (.mk 4 n s [x])).1.n (l.peel l.bottom (.mk 4 n s [x])).1.s ((l.peel l.bottom (.mk 4 n s [x])).1.kids.map (Term.put (l.peel l.bottom (.mk 4 n s [x])).2)), (l.peel l.bottom (.mk 4 n s [x])).2)) := by
      show _ = _
      simp [Lat.opened, h1]
    obtain ⟨i0, hi, hz0, hz1, hz2⟩ := info_parts Try.infoTerm
    have hl0 := hl.lt
    have hv2 : TermV (w.heap.size :: (w.heap.size + 1) :: F) w _ _ := hv.away (F' := w.heap.size :: (w.heap.size + 1) :: F) (fun b hb => by
      rcases List.mem_cons.1 hb with rfl | hb
      · exact .inr (by omega)
      rcases List.mem_cons.1 hb with rfl | hb
      · exact .inr (by omega)
      exact .inl hb)
    go_enter Try.func40, Try.ntmps40
    go_wp2_with (first
      | (go_at_call 22; refine (lat_bottom l b _ (hl.frm0 (by repeat (first | (with_reducible refine Frm.alloc ?_ _) | (with_reducible refine Frm.drewN ?_ _) | (with_reducible refine Frm.drew ?_) | ((with_reducible refine Frm.setCell ?_ ?_ _); rotate_left; (focus (first | (left; simp; done) | (right; simp; done) | (right; simp; omega)))) | with_reducible assumption | with_reducible exact Frm.refl _ _ | (with_reducible refine Frm.trans0 ?_ ‹_›))))).mono ?_; rintro e w' ⟨rfl, rfl⟩)
      | (go_at_call 37; refine (seal_is F _ _ _ (hv.keep (by repeat (first | (with_reducible refine Frm.alloc ?_ _) | (with_reducible refine Frm.drewN ?_ _) | (with_reducible refine Frm.drew ?_) | ((with_reducible refine Frm.setCell ?_ ?_ _); rotate_left; (focus (first | (left; simp; done) | (right; simp; done) | (right; simp; omega)))) | with_reducible assumption | with_reducible exact Frm.refl _ _ | (with_reducible refine Frm.trans0 ?_ ‹_›))))).mono ?_; rintro e w1 ⟨rfl, Fw1⟩; obtain ⟨hcw1, hfw1⟩ := Fw1.reads))
    have hsz1 := Fw1.size
    simp at hsz1
    go_loopg [6] (Term.size (.mk 4 n s [x])) (fun g a wr => ∃ (T : Term) (z : Int), g = T.size ∧ a = .int .i64 z ∧ Lat.Rng z ∧ l.peel l.bottom (.mk 4 n s [x]) = l.peel z T ∧ Frm [w.heap.size] w1 wr ∧ Boxed (w.heap.size :: (w.heap.size + 1) :: F) wr w.heap.size T)
    case atStart => exact ⟨_, _, rfl, rfl, Lat.bottom_rng hl.wf, rfl, Frm.refl _ _, A, cap, Fw1.at0 (by repeat (first | rw [heap_alloc_at] | rw [heap_size_alloc] | rfl | rw [if_pos (by omega)] | rw [if_neg (by omega)])), hv2.keep (by repeat (first | (with_reducible refine Frm.alloc ?_ _) | (with_reducible refine Frm.drewN ?_ _) | (with_reducible refine Frm.drew ?_) | ((with_reducible refine Frm.setCell ?_ ?_ _); rotate_left; (focus (first | (left; simp; done) | (right; simp; done) | (right; simp; omega)))) | with_reducible assumption | with_reducible exact Frm.refl _ _ | (with_reducible refine Frm.trans0 ?_ ‹_›)))⟩
    case round =>
      obtain ⟨T, z, hg, rfl, hz, hp, FR, A1, cap1, hbox, hT⟩ := hrel
      have HP := Lib.hid hp
      have HG := Lib.hid hg
      have HZ := Lib.hid hz
      clear hp hg hz
      obtain ⟨q0, q1, q2, q3, q4, q5⟩ := blk4 hbox
      have FR0 : Frm [] w wr := ((by repeat (first | (with_reducible refine Frm.alloc ?_ _) | (with_reducible refine Frm.drewN ?_ _) | (with_reducible refine Frm.drew ?_) | ((with_reducible refine Frm.setCell ?_ ?_ _); rotate_left; (focus (first | (left; simp; done) | (right; simp; done) | (right; simp; omega)))) | with_reducible assumption | with_reducible exact Frm.refl _ _ | (with_reducible refine Frm.trans0 ?_ ‹_›))) : Frm [] w w1).trans FR (fun x hx => by simp at hx; omega)
      cases hs : T.sealOf
      · go_wp2_with ((go_at_call 37; refine (seal_is _ _ _ _ (hT.keep (by repeat (first | (with_reducible refine Frm.alloc ?_ _) | (with_reducible refine Frm.drewN ?_ _) | (with_reducible refine Frm.drew ?_) | ((with_reducible refine Frm.setCell ?_ ?_ _); rotate_left; (focus (first | (left; simp; done) | (right; simp; done) | (right; simp; omega)))) | with_reducible assumption | with_reducible exact Frm.refl _ _ | (with_reducible refine Frm.trans0 ?_ ‹_›))))).mono ?_; rintro e w2 ⟨rfl, Fw2⟩; obtain ⟨hcw2, hfw2⟩ := Fw2.reads))
        have hpe : Hid (l.peel l.bottom (.mk 4 n s [x]) = (T, z)) := by
          show _ = _
          rw [HP.out, Lat.peel_else _ _ _ hs]
        have hbox2 := Fw2.at0 hbox
        have hT2 := hT.keep Fw2
        have hkT : ∃ A cap, A = A1 ∧ cap = cap1 ∧ I64 T.kind ∧ I64 T.n ∧ T.s.size ≤ 1048576 ∧ T.kids.length ≤ 1048576 ∧ T.kids.length ≤ cap ∧ cap ≤ 9223372036854775807 ∧ KidsV (w.heap.size :: (w.heap.size + 1) :: F) w2 T.kids A 0 := by
          clear HP HG hpe
          obtain ⟨k3, n3, s3, ts3⟩ := T
          simp only [TermV] at hT2
          obtain ⟨A3, cap3, he, h⟩ := hT2
          simp only [Value.agg.injEq, Array.mk.injEq, List.cons.injEq, Value.slice.injEq, and_true] at he
          exact ⟨A3, cap3, he.2.2.2.1.symm, he.2.2.2.2.2.symm, h⟩
        obtain ⟨_, _, rfl, rfl, hTk, hTn, hTs, hTl, hTc, hTc2, hTK⟩ := hkT
        have F02 : Frm [] w w2 := (by repeat (first | (with_reducible refine Frm.alloc ?_ _) | (with_reducible refine Frm.drewN ?_ _) | (with_reducible refine Frm.drew ?_) | ((with_reducible refine Frm.setCell ?_ ?_ _); rotate_left; (focus (first | (left; simp; done) | (right; simp; done) | (right; simp; omega)))) | with_reducible assumption | with_reducible exact Frm.refl _ _ | (with_reducible refine Frm.trans0 ?_ ‹_›)))
        have hb1 : w1.heap[w.heap.size + 1]? = _ := Fw1.at0 (by repeat (first | rw [heap_alloc_at] | rw [heap_size_alloc] | rfl | rw [if_pos (by omega)] | rw [if_neg (by omega)]))
        have hbox1 := Fw2.at0 (FR.at_ hb1 (by simp))
        have hsz12 : w1.heap.size ≤ w2.heap.size := by have := FR.size; have := Fw2.size; omega
        clear HP HG hbox hT hT2 q0 q1 q2 q3 q4 q5 FR hb1
        have hsz2 := F02.size
        go_loopw [7, 32] (fun a i wr => ∃ (j : Nat) (xs : List Value), j ≤ T.kids.length ∧ i = .int .i64 j ∧ Frm [] w2 wr ∧ OwnTerms (w.heap.size :: (w.heap.size + 1) :: F) wr w2.heap.size a ((T.kids.take j).map (Term.put z)) xs) (fun _ i _ => T.kids.length - (intOf i).toNat)
        case atStart => exact ⟨0, [], Nat.zero_le _, rfl, Frm.refl _ _, OwnTerms.nil _ _ _⟩
        case round =>
          obtain ⟨j, xs, hj, rfl, FL, hown⟩ := hrel
          have HOWN := Lib.hid hown
          clear hown
          have hF2 := lt_two (x := w.heap.size) (y := w.heap.size + 1) (n := wr.heap.size) hF (by have := FL.size; omega) (by have := FL.size; omega) (by have := FL.size; omega)
          have hF1 := HOWN.out.all_lt hF2 (Nat.le_refl _)
          by_cases hlt : j < T.kids.length
          · obtain ⟨b', off, A', cap', rfl, hb1, hb2, e0, e1, e2, e3, hkid⟩ := ((hTK.away_own HOWN.out (Nat.le_refl _)).keep FL).kid j hlt
            have HT := Lib.hid (take_succ_get hlt)
            have hsz3 := FL.size
            have hzi := HZ.out.i64
            generalize T.kids[j] = t at *
            go_wp2_with (first
              | (go_at_call 24; refine (seal_put (u7.ownBlock.toList ++ (w.heap.size :: (w.heap.size + 1) :: F)) t _ z _ (hkid.keep (by repeat (first | (with_reducible refine Frm.alloc ?_ _) | (with_reducible refine Frm.drewN ?_ _) | (with_reducible refine Frm.drew ?_) | ((with_reducible refine Frm.setCell ?_ ?_ _); rotate_left; (focus (first | (left; simp; done) | (right; simp; done) | (right; simp; omega)))) | with_reducible assumption | with_reducible exact Frm.refl _ _ | (with_reducible refine Frm.trans0 ?_ ‹_›)))) hzi (fun b hb => by have := hF1 b hb; simp; omega)).mono ?_; rintro e w5 ⟨⟨v2, rfl, hv5⟩, F5⟩; obtain ⟨A2, cap2, rfl⟩ := hv5.form; have HV2 := Lib.hid hv5; clear hv5; obtain ⟨hc2', hf2'⟩ := F5.reads; have hsz5 := F5.size; simp at hsz5; have F5' : Frm [] wr w5 := (by repeat (first | (with_reducible refine Frm.alloc ?_ _) | (with_reducible refine Frm.drewN ?_ _) | (with_reducible refine Frm.drew ?_) | ((with_reducible refine Frm.setCell ?_ ?_ _); rotate_left; (focus (first | (left; simp; done) | (right; simp; done) | (right; simp; omega)))) | with_reducible assumption | with_reducible exact Frm.refl _ _ | (with_reducible refine Frm.trans0 ?_ ‹_›))); have hown2 := Lib.hid (fun o => HOWN.out.keep (F5'.alloc o)))
              | (at_builtin; go_must (refine wpList_append_own_at _ rfl _ _ 33 rfl w2.heap.size 35 i0 _ 4 56 Try.underlying33 hi hz0 hz1 hz2 rfl (by decide) u7 _ _ rfl (hown2.out _).1 ⟨w5.heap.size, 0, none⟩ 1 1 [.int .i64 (t.put z).kind, .int .i64 (t.put z).n, .string (t.put z).s, .slice A2 (t.put z).kids.length cap2] rfl rfl ?c1x ?c2x ?c3x ?c4x ?c5x ?_); (case c1x => exact cells_new _ _ _); (case c2x => simp [Value.oneCell']); (case c3x => simp [maxLen]; omega); (case c4x => simp; omega); (case c5x => simp; omega); intro v6 w6 how6 hgw6 _ hatw6))
            go_roundw
            case rel =>
              refine ⟨j + 1, xs ++ [.int .i64 (t.put z).kind, .int .i64 (t.put z).n, .string (t.put z).s, .slice A2 (t.put z).kids.length cap2], by omega, by go_num, ?_, ?_⟩
              · exact Frm.grown ((by repeat (first | (with_reducible refine Frm.alloc ?_ _) | (with_reducible refine Frm.drewN ?_ _) | (with_reducible refine Frm.drew ?_) | ((with_reducible refine Frm.setCell ?_ ?_ _); rotate_left; (focus (first | (left; simp; done) | (right; simp; done) | (right; simp; omega)))) | with_reducible assumption | with_reducible exact Frm.refl _ _ | (with_reducible refine Frm.trans0 ?_ ‹_›))) : Frm [] w2 (w5.alloc _)) hgw6 (fun b hb => .inr (HOWN.out.own_lt b (by simpa using hb)).1)
              · rw [HT.out, List.map_append]
                refine (hown2.out _).snoc ?_ how6 hgw6 hatw6
                exact HV2.out.keep (by repeat (first | (with_reducible refine Frm.alloc ?_ _) | (with_reducible refine Frm.drewN ?_ _) | (with_reducible refine Frm.drew ?_) | ((with_reducible refine Frm.setCell ?_ ?_ _); rotate_left; (focus (first | (left; simp; done) | (right; simp; done) | (right; simp; omega)))) | with_reducible assumption | with_reducible exact Frm.refl _ _ | (with_reducible refine Frm.trans0 ?_ ‹_›)))
            case measure => simp [intOf]; omega
          · have : j = T.kids.length := by omega
            subst this
            obtain ⟨A3, cap3, rfl, hle3, hcap3, hk3⟩ := HOWN.out.kids (lt_two (n := w2.heap.size) hF (by omega) (by omega) (by omega))
            obtain ⟨q0, q1, q2, q3, q4, q5⟩ := blk4 (FL.at0 hbox2)
            obtain ⟨r0, r1, r2, r3, r4, r5⟩ := blk4 (FL.at0 hbox1)
            have FL0 : Frm [] w wr := F02.trans0 FL
            rw [List.take_length] at hle3 hk3
            go_wp2
            refine bodyPost_ret (v := .tuple #[.agg #[.int .i64 T.kind, .int .i64 T.n, .string T.s, .slice A3 T.kids.length cap3], .int .i64 z]) (by simp [results, Try.results40, go_sem, r0, r1, r2, r3]) rfl ?_
            rw [hE.out, hpe.out]
            refine ⟨⟨_, rfl, TermV.of_kids (G := [w.heap.size, w.heap.size + 1]) hTk hTn hTs (by simpa using hTl) hle3 hcap3 hk3 (by repeat (first | (with_reducible refine Frm.alloc ?_ _) | (with_reducible refine Frm.drewN ?_ _) | (with_reducible refine Frm.drew ?_) | ((with_reducible refine Frm.setCell ?_ ?_ _); rotate_left; (focus (first | (left; simp; done) | (right; simp; done) | (right; simp; omega)))) | with_reducible assumption | with_reducible exact Frm.refl _ _ | (with_reducible refine Frm.trans0 ?_ ‹_›))) (by simp) (fun b hb => by simp [hb]) (by simp)⟩, (by repeat (first | (with_reducible refine Frm.alloc ?_ _) | (with_reducible refine Frm.drewN ?_ _) | (with_reducible refine Frm.drew ?_) | ((with_reducible refine Frm.setCell ?_ ?_ _); rotate_left; (focus (first | (left; simp; done) | (right; simp; done) | (right; simp; omega)))) | with_reducible assumption | with_reducible exact Frm.refl _ _ | (with_reducible refine Frm.trans0 ?_ ‹_›)))⟩
      · obtain ⟨k2, n2, s2, ts2⟩ := T
        obtain ⟨rfl, y, rfl⟩ := Term.sealOf_true hs
        have hT0 := hT
        simp only [TermV] at hT
        obtain ⟨A1', cap1', hAe, hk3, hn3, hs3, hl3, hc3, hc4, hky⟩ := hT
        simp only [Value.agg.injEq, Array.mk.injEq, List.cons.injEq, Value.slice.injEq, and_true] at hAe
        obtain ⟨_, _, _, rfl, _, rfl⟩ := hAe
        obtain ⟨b', off, A', cap', rfl, hb1, hb2, e0, e1, e2, e3, hkid⟩ := hky.kid 0 (by simp)
        simp only [List.getElem_cons_zero, Nat.zero_mul, Nat.add_zero] at e0 e1 e2 e3 hkid
        go_wp2_with (first
          | (go_at_call 37; refine (seal_is _ _ _ _ (hT0.keep (by repeat (first | (with_reducible refine Frm.alloc ?_ _) | (with_reducible refine Frm.drewN ?_ _) | (with_reducible refine Frm.drew ?_) | ((with_reducible refine Frm.setCell ?_ ?_ _); rotate_left; (focus (first | (left; simp; done) | (right; simp; done) | (right; simp; omega)))) | with_reducible assumption | with_reducible exact Frm.refl _ _ | (with_reducible refine Frm.trans0 ?_ ‹_›))))).mono ?_; rintro e w2 ⟨rfl, Fw2⟩; obtain ⟨hcw2, hfw2⟩ := Fw2.reads)
          | ((go_at_call 39; refine (seal_level _ l b _ _ _ (hl.frm0 (by repeat (first | (with_reducible refine Frm.alloc ?_ _) | (with_reducible refine Frm.drewN ?_ _) | (with_reducible refine Frm.drew ?_) | ((with_reducible refine Frm.setCell ?_ ?_ _); rotate_left; (focus (first | (left; simp; done) | (right; simp; done) | (right; simp; omega)))) | with_reducible assumption | with_reducible exact Frm.refl _ _ | (with_reducible refine Frm.trans0 ?_ ‹_›)))) (hT0.keep (by repeat (first | (with_reducible refine Frm.alloc ?_ _) | (with_reducible refine Frm.drewN ?_ _) | (with_reducible refine Frm.drew ?_) | ((with_reducible refine Frm.setCell ?_ ?_ _); rotate_left; (focus (first | (left; simp; done) | (right; simp; done) | (right; simp; omega)))) | with_reducible assumption | with_reducible exact Frm.refl _ _ | (with_reducible refine Frm.trans0 ?_ ‹_›))))).mono ?_; rintro e w3 ⟨rfl, Fw3⟩; obtain ⟨hcw3, hfw3⟩ := Fw3.reads); have hz1 : b' < w2.heap.size := by have := Fw2.size; omega)
          | (go_at_call 27; refine (lat_join l b _ _ _ (hl.frm0 (by repeat (first | (with_reducible refine Frm.alloc ?_ _) | (with_reducible refine Frm.drewN ?_ _) | (with_reducible refine Frm.drew ?_) | ((with_reducible refine Frm.setCell ?_ ?_ _); rotate_left; (focus (first | (left; simp; done) | (right; simp; done) | (right; simp; omega)))) | with_reducible assumption | with_reducible exact Frm.refl _ _ | (with_reducible refine Frm.trans0 ?_ ‹_›))))).mono ?_; rintro e w4 ⟨rfl, ⟨d4, rfl⟩⟩; obtain ⟨q0, q1, q2, q3, q4, q5⟩ := blk4 (Fw3.at0 (Fw2.at0 hbox))))
        go_roundg (Term.size y)
        case measure => rw [HG.out]; exact Term.size_kid _ _ _ _
        case rel =>
          refine ⟨y, l.join z (l.level n2), rfl, rfl, Lat.join_rng hl.wf _ _, ?_, ?_, A', cap', ?_, ?_⟩
          · rw [HP.out, Lat.peel_seal]
          · exact FR.trans' (by repeat (first | (with_reducible refine Frm.alloc ?_ _) | (with_reducible refine Frm.drewN ?_ _) | (with_reducible refine Frm.drew ?_) | ((with_reducible refine Frm.setCell ?_ ?_ _); rotate_left; (focus (first | (left; simp; done) | (right; simp; done) | (right; simp; omega)))) | with_reducible assumption | with_reducible exact Frm.refl _ _ | (with_reducible refine Frm.trans0 ?_ ‹_›)))
          · exact box_store4 (w := w3.drewN d4) (Fw3.at0 (Fw2.at0 hbox)) _ _ _ _
          · exact hkid.frm (G := [w.heap.size]) (by repeat (first | (with_reducible refine Frm.alloc ?_ _) | (with_reducible refine Frm.drewN ?_ _) | (with_reducible refine Frm.drew ?_) | ((with_reducible refine Frm.setCell ?_ ?_ _); rotate_left; (focus (first | (left; simp; done) | (right; simp; done) | (right; simp; omega)))) | with_reducible assumption | with_reducible exact Frm.refl _ _ | (with_reducible refine Frm.trans0 ?_ ‹_›))) (by simp)
end Go.Proofs.Ytpffcfmhiebhdaa
