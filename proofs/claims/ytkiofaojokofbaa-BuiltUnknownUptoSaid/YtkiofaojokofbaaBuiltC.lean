/- Contracts and plain laws: StoreH StoreB Rgn Ariths Arith ArithB. -/
import Derived.Test.YtkiofaojokofbaaBuiltB
import Derived.WalkSpells
import Derived.WalkLawsBesides
import Derived.Deep.QuietTactic
import Derived.BigQuiet
import Derived.Deep.DeepCutAuto
import Derived.Deep.RegionHeld3
import Derived.Lib.Hide
import Derived.Handy
import Derived.Test.YtkiofaojokofbaaBuiltA
import Derived.Test.YtkiofaojokofbaaShelf
namespace Go.Proofs.Ytkiofaojokofbaa
open Go.RowKit Go.Maps

def seenE (n : Int) : Value × Value := (.int .i64 n, .bool true)
theorem int64_keyed : Keyed Try.prog 2 := int_keyed Try.underlying2
theorem int64_key {n : Int} (h : I64 n) : keyOf Try.prog 2 (.int .i64 n) = some (.int .i64 n) := keyOf_int_mk Try.underlying2 (by unfold I64 at h; simpa [Lit.wf, IntKind.min, IntKind.max, IntKind.signed, IntKind.bits] using h)

theorem seen_look {w : World} {mb : Nat} {sn : List Int} (h : MapAt Try.prog 2 w mb (sn.map seenE)) {n : Int} (hn : I64 n) :
    (Instr.lookup 141 (.map (some mb)) (.int .i64 n) false).run Try.prog w = .ok (.bool (decide (n ∈ sn))) w := by
  rcases h.look int64_keyed Try.underlying141 (z := .bool false) (fun w' => Try.zeroValue4 w') (int64_key hn) with ⟨v, h1, _, h3⟩ | ⟨h1, _, h3⟩
  · obtain ⟨x, hx, he⟩ := List.mem_map.1 h1
    simp only [seenE, Prod.mk.injEq, Value.int.injEq, true_and] at he
    obtain ⟨rfl, rfl⟩ := he
    rw [h3, decide_eq_true hx]
  · rw [h3, decide_eq_false]
    intro hx
    exact h1 (seenE n) (List.mem_map.2 ⟨n, hx, rfl⟩) rfl
theorem seen_put {w : World} {mb : Nat} {sn : List Int} (h : MapAt Try.prog 2 w mb (sn.map seenE)) {n : Int} (hn : I64 n) (hns : n ∉ sn) :
    ∃ w', (Instr.mapUpdate 141 (.map (some mb)) (.int .i64 n) (.bool true)).run Try.prog w = .ok () w' ∧ MapAt Try.prog 2 w' mb ((sn ++ [n]).map seenE) ∧ Frm [mb] w w' ∧ w'.heap.size = w.heap.size := by
  obtain ⟨w', h1, h2, h3, h4⟩ := h.put int64_keyed Try.underlying141 (key := .int .i64 n) (val := .bool true) (int64_key hn) (fun x hx e => by
    obtain ⟨y, hy, rfl⟩ := List.mem_map.1 hx
    simp only [seenE, Value.int.injEq, true_and] at e
    subst e; exact hns hy)
  exact ⟨w', h1, by simpa [seenE] using h2, h3, h4⟩

theorem box4_frm (w : World) (b : Nat) (d0 d1 d2 d3 : Value) : Frm [b] w ((((w.setCell ⟨b, 0, none⟩ d0).setCell ⟨b, 1, none⟩ d1).setCell ⟨b, 2, none⟩ d2).setCell ⟨b, 3, none⟩ d3).drew :=
  (((((Frm.refl [b] w).setCell (.inl (by simp)) _).setCell (.inl (by simp)) _).setCell (.inl (by simp)) _).setCell (.inl (by simp)) _).drew

set_option maxRecDepth 100000 in
set_option maxHeartbeats 1000000 in
theorem store_in (sb : Nat) (st : PStore) (v : Int) (iv : I64 v) : ∀ (d : Nat) (seen : List Int) (t : Term) (r : Bool × List Int), st.inF v d seen t = some r → ∀ (G F : List Nat) (mb : Nat) (va : Value) (w : World),
    StoreAt G F w sb st → TermV F w t va → mb ∈ F → mb ∉ G → MapAt Try.prog 2 w mb (seen.map seenE) →
    Calls Try.prog 102 #[.pointer (some ⟨sb, 0, none⟩), va, .int .i64 v, .map (some mb)] w fun e w' => e = .returned (.bool r.1) ∧ MapAt Try.prog 2 w' mb (r.2.map seenE) ∧ Frm [mb] w w' := by
  intro d
  induction d with
  | zero => intro seen t r h; cases h
  | succ d ih =>
    intro seen t r hr G F mb va w hs ht hmF hmG hM
    have HR := Lib.hid hr
    have IH := Lib.hid ih
    clear hr ih
    have hF := hs.lt
    have hmw := hF mb hmF
    obtain ⟨iv1, iv2⟩ := iv
    have hWF := Lib.hid hs.ok.wf
    obtain ⟨kk, hkk⟩ := hs.ok.wf t
    have hrun := PStore.run_eq hs.ok.wf seen hkk
    have hv2 := ht.away (F' := w.heap.size :: F) (fun b hb => by rcases List.mem_cons.1 hb with rfl | hb; exact .inr (Nat.le_refl _); exact .inl hb)
    obtain ⟨A, cap, rfl⟩ := ht.form
    go_enter Try.func102, Try.ntmps102
    go_wp2
    go_loopg [] kk (fun g wr => ∃ T sn, st.next (st.walkN g T) = none ∧ st.run seen t = st.runF g sn T ∧ Frm [mb] w wr ∧ TBoxed (w.heap.size :: F) wr w.heap.size T ∧ MapAt Try.prog 2 wr mb (sn.map seenE))
    case atStart => exact ⟨t, seen, hkk, hrun, (Frm.refl [mb] w).alloc _, ⟨A, cap, (by repeat (first | rw [heap_alloc_at] | rw [heap_size_alloc] | rfl | rw [if_pos (by omega)] | rw [if_neg (by omega)])), hv2.keep (by repeat (first | with_reducible (first | refine .alloc ?_ _ | refine .drewN ?_ _ | refine .drew ?_) | ((with_reducible refine .setCell ?_ ?_ _); rotate_left; focus (first | (left; simp; done) | (right; simp; (first | done | omega)))) | with_reducible (first | assumption | exact .refl _ _ | refine .trans0 ?_ ‹_›)))⟩, hM.keep (by repeat (first | with_reducible (first | refine .alloc ?_ _ | refine .drewN ?_ _ | refine .drew ?_) | ((with_reducible refine .setCell ?_ ?_ _); rotate_left; focus (first | (left; simp; done) | (right; simp; (first | done | omega)))) | with_reducible (first | assumption | exact .refl _ _ | refine .trans0 ?_ ‹_›)))⟩
    case round =>
      obtain ⟨T, sn, hend, hrn, FR, ⟨A1, cap1, hbox, hT⟩, hMr⟩ := hrel
      have HE := Lib.hid hend
      have HW := Lib.hid hrn
      clear hend hrn
      obtain ⟨q0, q1, q2, q3, q4, q5⟩ := blk4 hbox
      have hsr : StoreAt G F wr sb st := hs.frm FR (fun b hb => by rw [List.mem_singleton.1 hb]; exact hmG) (fun b hb => by rw [List.mem_singleton.1 hb]; exact hmF)
      have htw : ∀ {x vx}, TermV F w x vx → TermV F wr x vx := fun h => h.frm FR (fun b hb => by rw [List.mem_singleton.1 hb]; exact hmF)
      have hbm : w.heap.size ≠ mb := by omega
      have iTn : I64 T.n := by
        have h := hT
        obtain ⟨tk, tn, tS, tts⟩ := T
        simp only [TermV] at h
        obtain ⟨_, _, _, _, h, _⟩ := h
        exact h
      cases hn : st.next T with
      | none =>
        have HN : Hid ((st.next T).isSome = false) := by show _ = _; rw [hn]; rfl
        have HW2 : Hid (st.run seen t = (some T, sn)) := by show _ = _; rw [HW.out, PStore.runF_stop hn]
        have HR2 := HR.out
        rw [PStore.inF, HW2.out] at HR2
        dsimp only at HR2
        clear hn HR
        have hbnd := fun (w2 : World) (Fw2 : Frm [] wr w2) => blk4 (Fw2.at0 hbox)
        by_cases k1 : T.kind = 1
        · rw [if_pos k1] at HR2
          cases HR2
          have kb : (T.kind == 1) = true := by simpa using k1
          clear k1 htw
          go_wp2_with (go_at_call 26; refine (store_bound G F (w.heap.size :: F) sb st T _ wr hsr hT).mono ?_; rintro e w2 ⟨rfl, Fw2⟩; rw [HN.out]; obtain ⟨q0, q1, q2, q3, q4, q5⟩ := hbnd w2 Fw2)
          go_ret
          exact ⟨ret_bool (by rw [Bool.eq_iff_iff]; simp), hMr.keep Fw2, FR.trans0 Fw2⟩
        rw [if_neg k1] at HR2
        have kb1 : (T.kind == 1) = false := by simpa using k1
        clear k1
        by_cases k4 : T.kind = 4
        · rw [if_pos k4] at HR2
          cases HR2
          have kb : (T.kind == 4) = true := by simpa using k4
          clear k4 htw
          go_wp2_with (go_at_call 26; refine (store_bound G F (w.heap.size :: F) sb st T _ wr hsr hT).mono ?_; rintro e w2 ⟨rfl, Fw2⟩; rw [HN.out]; obtain ⟨q0, q1, q2, q3, q4, q5⟩ := hbnd w2 Fw2)
          go_ret
          exact ⟨rfl, hMr.keep Fw2, FR.trans0 Fw2⟩
        rw [if_neg k4] at HR2
        have kb4 : (T.kind == 4) = false := by simpa using k4
        clear k4
        have HR := Lib.hid HR2
        clear HR2
        go_wp2_with (go_at_call 26; refine (store_bound G F (w.heap.size :: F) sb st T _ wr hsr hT).mono ?_; rintro e w2 ⟨rfl, Fw2⟩; rw [HN.out]; obtain ⟨q0, q1, q2, q3, q4, q5⟩ := hbnd w2 Fw2)
        have F02 : Frm [mb] w w2 := FR.trans0 Fw2
        have hT2 : TermV (w.heap.size :: F) w2 T (.agg #[.int .i64 T.kind, .int .i64 T.n, .string T.s, .slice A1 T.kids.length cap1]) := hT.keep Fw2
        have hM2 := hMr.keep Fw2
        have hs2 := hsr.keep Fw2
        obtain ⟨Tk, Tn, TS, ts⟩ := T
        simp only [Term.kids, Term.kind, Term.n, Term.s] at hT2 HR ⊢
        have hT3 := hT2
        simp only [TermV] at hT3
        obtain ⟨A4, cap4, he4, _, _, _, hl1, hc, hc2, hk⟩ := hT3
        simp only [Value.agg.injEq, Array.mk.injEq, List.cons.injEq, and_true, Value.slice.injEq, true_and] at he4
        obtain ⟨rfl, rfl⟩ := he4
        clear hT hbox hMr FR hsr q0 q1 q2 q3 q4 q5 hbnd HN HW2 iTn kb1 kb4 htw HE HW
        go_loopw [43] (fun p wx => ∃ (j : Nat) (sj : List Int), j ≤ ts.length ∧ p = .int .i64 j ∧ PStore.anyS (st.inF v d) sj (ts.drop j) = some r ∧ MapAt Try.prog 2 wx mb (sj.map seenE) ∧ Frm [mb] w2 wx) (fun p _ => ts.length - (intOf p).toNat)
        case atStart => exact ⟨0, sn, Nat.zero_le _, rfl, HR.out, hM2, Frm.refl _ _⟩
        case round =>
          obtain ⟨j, sj, hj, rfl, hany, hMx, Fx⟩ := hrel
          have hmm : ∀ b, b ∈ [mb] → b ∈ F := fun b hb => by rw [List.mem_singleton.1 hb]; exact hmF
          have hsx : StoreAt G F wr sb st := hs2.frm Fx (fun b hb => by rw [List.mem_singleton.1 hb]; exact hmG) hmm
          by_cases hlt : j < ts.length
          · obtain ⟨b', off, A', cap', rfl, hb1, hb2, e0, e1, e2, e3, hkid⟩ := (hk.frm Fx (fun b hb => List.mem_cons_of_mem _ (hmm b hb))).kid j hlt
            have hkF : TermV F wr ts[j] _ := hkid.away (F' := F) (fun b hb => .inl (List.mem_cons_of_mem _ hb))
            rw [List.drop_eq_getElem_cons hlt, PStore.anyS] at hany
            generalize hkd : ts[j] = kd at *
            clear hkd
            cases hf : st.inF v d sj kd with
            | none => rw [hf] at hany; cases hany
            | some x =>
              obtain ⟨bb, s1⟩ := x
              rw [hf] at hany
              have HF := Lib.hid hf
              clear hf
              cases bb with
              | true =>
                simp only [Option.some.injEq] at hany
                subst hany
                go_wp2_with (go_at_call 102; refine (IH.out _ _ _ HF.out G F mb _ _ (hsx.keep (by repeat (first | with_reducible (first | refine .alloc ?_ _ | refine .drewN ?_ _ | refine .drew ?_) | ((with_reducible refine .setCell ?_ ?_ _); rotate_left; focus (first | (left; simp; done) | (right; simp; (first | done | omega)))) | with_reducible (first | assumption | exact .refl _ _ | refine .trans0 ?_ ‹_›)))) (hkF.keep (by repeat (first | with_reducible (first | refine .alloc ?_ _ | refine .drewN ?_ _ | refine .drew ?_) | ((with_reducible refine .setCell ?_ ?_ _); rotate_left; focus (first | (left; simp; done) | (right; simp; (first | done | omega)))) | with_reducible (first | assumption | exact .refl _ _ | refine .trans0 ?_ ‹_›)))) hmF hmG (hMx.keep (by repeat (first | with_reducible (first | refine .alloc ?_ _ | refine .drewN ?_ _ | refine .drew ?_) | ((with_reducible refine .setCell ?_ ?_ _); rotate_left; focus (first | (left; simp; done) | (right; simp; (first | done | omega)))) | with_reducible (first | assumption | exact .refl _ _ | refine .trans0 ?_ ‹_›))))).mono ?_; rintro e w4 ⟨rfl, hM4, F4⟩)
                go_ret
                exact ⟨rfl, hM4, F02.trans' ((Fx.alloc _).trans' F4)⟩
              | false =>
                dsimp only at hany
                have HA := Lib.hid hany
                clear hany
                go_wp2_with (go_at_call 102; refine (IH.out _ _ _ HF.out G F mb _ _ (hsx.keep (by repeat (first | with_reducible (first | refine .alloc ?_ _ | refine .drewN ?_ _ | refine .drew ?_) | ((with_reducible refine .setCell ?_ ?_ _); rotate_left; focus (first | (left; simp; done) | (right; simp; (first | done | omega)))) | with_reducible (first | assumption | exact .refl _ _ | refine .trans0 ?_ ‹_›)))) (hkF.keep (by repeat (first | with_reducible (first | refine .alloc ?_ _ | refine .drewN ?_ _ | refine .drew ?_) | ((with_reducible refine .setCell ?_ ?_ _); rotate_left; focus (first | (left; simp; done) | (right; simp; (first | done | omega)))) | with_reducible (first | assumption | exact .refl _ _ | refine .trans0 ?_ ‹_›)))) hmF hmG (hMx.keep (by repeat (first | with_reducible (first | refine .alloc ?_ _ | refine .drewN ?_ _ | refine .drew ?_) | ((with_reducible refine .setCell ?_ ?_ _); rotate_left; focus (first | (left; simp; done) | (right; simp; (first | done | omega)))) | with_reducible (first | assumption | exact .refl _ _ | refine .trans0 ?_ ‹_›))))).mono ?_; rintro e w4 ⟨rfl, hM4, F4⟩)
                exact ⟨⟨j + 1, s1, by omega, by simp, HA.out, hM4, (Fx.alloc _).trans' F4⟩, by simp [intOf]; omega⟩
          · have hje : j = ts.length := by omega
            rw [hje, List.drop_length] at hany
            simp only [PStore.anyS, Option.some.injEq] at hany
            subst hany
            subst hje
            go_wp2
            go_ret
            exact ⟨rfl, hMx, F02.trans' Fx⟩
      | some u =>
        obtain ⟨hk1, hn0, hmlt, hcell⟩ := PStore.next_lt hn
        have HN : Hid ((st.next T).isSome = true) := by show _ = _; rw [hn]; rfl
        by_cases hsn : T.n ∈ sn
        · have HW2 : Hid (st.run seen t = (none, sn)) := by
            show _ = _
            rw [HW.out]
            cases gk with
            | zero => have := HE.out; simp only [PStore.walkN] at this; rw [hn] at this; cases this
            | succ k => simp only [PStore.runF, hn]; rw [if_pos hsn]
          have HR2 := HR.out
          rw [PStore.inF, HW2.out] at HR2
          dsimp only at HR2
          cases HR2
          have hdec : decide (T.n ∈ sn) = true := decide_eq_true hsn
          clear hn HR hcell htw hk1 hn0 hmlt
          clear HW HE
          go_wp2_with (go_at_call 26; refine (store_bound G F (w.heap.size :: F) sb st T _ wr hsr hT).mono ?_; rintro e w2 ⟨rfl, Fw2⟩; rw [HN.out]; obtain ⟨q0, q1, q2, q3, q4, q5⟩ := blk4 (Fw2.at0 hbox); have hlk := seen_look (hMr.keep Fw2) iTn; rw [hdec] at hlk)
          go_ret
          exact ⟨rfl, hMr.keep Fw2, FR.trans0 Fw2⟩
        · obtain ⟨cv, tv, xs, h1, h2, h3, h4, h5, h6, h7, h8⟩ := hs
          have hs : StoreAt G F w sb st := ⟨cv, tv, xs, h1, h2, h3, h4, h5, h6, h7, h8⟩
          obtain ⟨g, cap2, c0, c1, c2, c3, c4, rfl, hg1, hg2, p0, p1, p2, p3, p4, hcv⟩ := StoreCell h2 h4 hcell
          obtain ⟨rfl, ⟨A3, cap3, rfl, rfl, rfl, rfl⟩, hu⟩ := hcv
          obtain ⟨s0, s1, s2, s3⟩ := blk2 h1
          have hgG : g ∈ G := by rw [h6]; simp [hg1]
          have hsbG : sb ∈ G := by rw [h6]; simp
          have hgm : g ≠ mb := fun e => hmG (e ▸ hgG)
          have hsm : sb ≠ mb := fun e => hmG (e ▸ hsbG)
          have hg3 := hF g (h7 g hgG)
          have hsb3 := hF sb (h7 sb hsbG)
          have HK : Hid (∃ k, gk = k + 1 ∧ st.next (st.walkN k u) = none ∧ st.run seen t = st.runF k (sn ++ [T.n]) u) := by
            cases gk with
            | zero => have := HE.out; simp only [PStore.walkN] at this; rw [hn] at this; cases this
            | succ k =>
              refine ⟨k, rfl, by have := HE.out; rwa [PStore.walkN_some hn] at this, ?_⟩
              rw [HW.out]; simp only [PStore.runF, hn]; rw [if_neg hsn]
          obtain ⟨tk, tn, tS, tts⟩ := T
          obtain ⟨uk, un, uS, uts⟩ := u
          simp only [Term.kind, Term.n, Term.s, Term.kids] at hu hk1 hn0 hmlt q0 q1 q2 q3 p0 p1 p2 p3 p4 hT hbox iTn hsn HK
          subst hk1
          obtain ⟨m, rfl⟩ := Int.eq_ofNat_of_zero_le hn0
          have hmi : (m : Int) < (st.cells.length : Int) := by simpa using hmlt
          have hto : ((m : Int)).toNat = m := rfl
          simp only [hto] at p0 p1 p2 p3 p4
          clear hn hn0 hcell hmlt hto h2 h3 h4 h5 h6 h7 h8 HR HE HW
          go_wp2_with (go_at_call 26; refine (store_bound G F (w.heap.size :: F) sb st _ _ wr hsr hT).mono ?_; rintro e w2 ⟨rfl, Fw2⟩; rw [HN.out]; have hlk := seen_look (hMr.keep Fw2) iTn; rw [decide_eq_false hsn] at hlk; obtain ⟨w3, hput, hM3, Fm, hsz3⟩ := seen_put (hMr.keep Fw2) iTn hsn; have FW := (Frm.refl [mb] wr).trans0 Fw2; replace FW := FW.trans' Fm; obtain ⟨q0, q1, q2, q3, q4, q5⟩ := blk4 (Fw2.at0 hbox); have hbox3 := FW.at_ hbox (by simpa using hbm); obtain ⟨y0, y1, y2, y3, y4, y5⟩ := blk4 hbox3; have s0 := ((FR.trans' FW).cell s3 (by simpa using hsm)).trans s0; have p1 := ((FR.trans' FW).cell hg2 (by simpa using hgm)).trans p1; have p2 := ((FR.trans' FW).cell hg2 (by simpa using hgm)).trans p2; have p3 := ((FR.trans' FW).cell hg2 (by simpa using hgm)).trans p3; have p4 := ((FR.trans' FW).cell hg2 (by simpa using hgm)).trans p4)
          go_region
          go_wp2
          obtain ⟨k, hk, hend, hrn⟩ := HK.out
          have FR3 : Frm [mb] w w3 := FR.trans' FW
          go_roundg k
          case measure => omega
          case rel =>
            refine ⟨.mk uk un uS uts, sn ++ [(m : Int)], hend, hrn, ?_, ⟨A3, cap3, box_store4 hbox3 _ _ _ _, ?_⟩, ?_⟩
            · exact FR3.trans (F' := [w.heap.size]) (box4_frm _ _ _ _ _ _) (fun x hx => .inr (by rw [List.mem_singleton.1 hx]; exact Nat.le_refl _))
            · exact ((hu.away (F' := w.heap.size :: F) (new_one (Nat.le_refl _))).frm FR3 (fun b hb => by rw [List.mem_singleton.1 hb]; simp [hmF])).frm (G := [w.heap.size]) (box4_frm _ _ _ _ _ _) (by simp)
            · exact hM3.frm (F := [w.heap.size]) (box4_frm _ _ _ _ _ _) (by simpa using Ne.symm hbm)

/-- Does a variable occur in a term, as Has tells? -/
def PStore.has (s : PStore) (t : Term) (v : Int) (r : Bool) : Prop := ∃ d sn, s.inF v d [] t = some (r, sn)
theorem PStore.has_some (s : PStore) (t : Term) (v : Int) : ∃ r, s.has t v r := by
  obtain ⟨d, ⟨r, sn⟩, h⟩ := PStore.inF_some s v _ t [] (Nat.le_refl _)
  exact ⟨r, d, sn, h⟩
theorem PStore.has_det {s : PStore} {t : Term} {v : Int} {r r' : Bool} (h : s.has t v r) (h' : s.has t v r') : r = r' := by
  obtain ⟨d, sn, h⟩ := h
  obtain ⟨d', sn', h'⟩ := h'
  have h1 := PStore.inF_le (Nat.le_max_left d d') h
  have h2 := PStore.inF_le (Nat.le_max_right d d') h'
  rw [h1] at h2
  cases h2
  rfl

theorem has_made (w : World) (o : Obj) : MapAt Try.prog 2 ((w.alloc o).alloc (.map #[] 0)) (w.heap.size + 1) (([] : List Int).map seenE) := by
  have h := MapAt.made Try.prog 2 (w.alloc o)
  rwa [heap_size_alloc] at h
theorem has_lt {F : List Nat} {w : World} {o o' : Obj} (hF : ∀ b, b ∈ F → b < w.heap.size) : ∀ b, b ∈ (w.heap.size + 1) :: F → b < ((w.alloc o).alloc o').heap.size := by
  intro b hb
  rcases List.mem_cons.1 hb with rfl | hb
  · simp
  · have := hF b hb; simp; omega

theorem store_has (G F : List Nat) (sb : Nat) (st : PStore) (t : Term) (va : Value) (v : Int) (iv : I64 v) (r : Bool) (hr : st.has t v r) (w : World) (hs : StoreAt G F w sb st) (ht : TermV F w t va) :
    Calls Try.prog 96 #[.pointer (some ⟨sb, 0, none⟩), va, .int .i64 v] w fun e w' => e = .returned (.bool r) ∧ Frm [] w w' := by
  obtain ⟨d, sn, hd⟩ := hr
  have HD := Lib.hid hd
  clear hd
  have hF := hs.lt
  have hGF := hs.sub
  have hmm := @run_makeMap Try.prog
  obtain ⟨A, cap, rfl⟩ := ht.form
  go_enter Try.func96, Try.ntmps96
  have hmG : w.heap.size + 1 ∉ G := fun h => by have := hF _ (hGF _ h); omega
  go_wp2_with (go_at_call 102; refine (store_in sb st v iv d [] t _ HD.out G ((w.heap.size + 1) :: F) (w.heap.size + 1) _ _ (hs.more (F' := (w.heap.size + 1) :: F) (H := []) (by repeat (first | with_reducible (first | refine .alloc ?_ _ | refine .drewN ?_ _ | refine .drew ?_) | ((with_reducible refine .setCell ?_ ?_ _); rotate_left; focus (first | (left; simp; done) | (right; simp; (first | done | omega)))) | with_reducible (first | assumption | exact .refl _ _ | refine .trans0 ?_ ‹_›))) (by simp) (by simp) (new_one (by omega)) (fun b hb => List.mem_cons_of_mem _ hb) (has_lt hF)) ((ht.away (F' := (w.heap.size + 1) :: F) (new_one (by omega))).keep (by repeat (first | with_reducible (first | refine .alloc ?_ _ | refine .drewN ?_ _ | refine .drew ?_) | ((with_reducible refine .setCell ?_ ?_ _); rotate_left; focus (first | (left; simp; done) | (right; simp; (first | done | omega)))) | with_reducible (first | assumption | exact .refl _ _ | refine .trans0 ?_ ‹_›)))) (by simp) hmG (has_made _ _)).mono ?_; rintro e w2 ⟨rfl, _, F2⟩)
  go_ret
  exact ⟨rfl, (((Frm.refl [] w).alloc _).alloc _).trans F2 (fun x hx => .inr (by rw [List.mem_singleton.1 hx]; omega))⟩
end Go.Proofs.Ytkiofaojokofbaa
namespace Go.Proofs.Ytkiofaojokofbaa
open Go.RowKit

namespace PStore
def bind (s : PStore) (v : Nat) (t : Term) : PStore := ⟨s.cells.set v (some t), s.trail ++ [v]⟩
theorem bind_next {s : PStore} {v : Nat} {t x u : Term} (hv : s.cells[v]? = some none) (h : s.next x = some u) : (s.bind v t).next x = some u := by
  obtain ⟨h1, h2, h3, h4⟩ := next_lt h
  have hne : x.n.toNat ≠ v := fun e => by rw [e, hv] at h4; cases h4
  unfold next get
  rw [if_pos h1, if_pos h2]
  show ((s.cells.set v (some t))[x.n.toNat]?).join = _
  rw [List.getElem?_set_ne (Ne.symm hne), h4]; rfl
theorem bind_end {s : PStore} {v : Nat} {t x : Term} (hv : s.cells[v]? = some none) (h : s.next x = none) : ((s.bind v t).next x = none) ∨ (x.kind = 1 ∧ x.n = (v : Int) ∧ (s.bind v t).next x = some t) := by
  by_cases hk : x.kind = 1 ∧ x.n = (v : Int)
  · refine .inr ⟨hk.1, hk.2, ?_⟩
    unfold next get
    rw [if_pos hk.1, hk.2, if_pos (by omega)]
    show ((s.cells.set v (some t))[v]?).join = _
    rw [List.getElem?_set_self (List.getElem?_eq_some_iff.1 hv).1]; rfl
  · refine .inl ?_
    unfold next get at h ⊢
    split
    · rename_i h1
      rw [if_pos h1] at h
      split
      · rename_i h2
        rw [if_pos h2] at h
        show ((s.cells.set v (some t))[x.n.toNat]?).join = _
        rw [List.getElem?_set_ne (fun e => hk ⟨h1, by omega⟩)]; exact h
      · rfl
    · rfl
theorem bind_walk {s : PStore} {v : Nat} {t : Term} (hv : s.cells[v]? = some none) : ∀ k x, s.next (s.walkN k x) = none → ∃ j, (s.bind v t).walkN j x = s.walkN k x
  | 0, x, h => ⟨0, rfl⟩
  | k + 1, x, h => by
    cases hn : s.next x with
    | none => exact ⟨0, by rw [walkN_none hn]; rfl⟩
    | some u =>
      rw [walkN_some hn] at h ⊢
      obtain ⟨j, hj⟩ := bind_walk (t := t) hv k u h
      exact ⟨j + 1, by rw [walkN_some (bind_next hv hn)]; exact hj⟩
theorem bind_ok {s : PStore} (h : s.OK) {v : Nat} {t : Term} (hv : s.cells[v]? = some none) (hh : s.has t v false) : (s.bind v t).OK := by
  have hnt : v ∉ s.trail := fun hm => by obtain ⟨u, hu⟩ := (h.bound v).1 hm; rw [hv] at hu; cases hu
  refine ⟨fun x => ?_, by show (s.cells.set v (some t)).length ≤ _; rw [List.length_set]; exact h.many, ?_, fun x => ?_⟩
  · obtain ⟨k, hk⟩ := h.wf x
    obtain ⟨j, hj⟩ := bind_walk (t := t) hv k x hk
    rcases bind_end (t := t) hv hk with he | ⟨_, _, he⟩
    · exact ⟨j, by rw [hj]; exact he⟩
    · obtain ⟨k2, hk2⟩ := h.wf t
      obtain ⟨j2, hj2⟩ := bind_walk (t := t) hv k2 t hk2
      obtain ⟨d, sn, hd⟩ := hh
      have hw := inF_walk h.wf hd
      rw [walk_eq hk2] at hw
      rcases bind_end (t := t) hv hk2 with he2 | ⟨q1, q2, _⟩
      · refine ⟨j + (1 + j2), ?_⟩
        rw [walkN_add, hj, walkN_add, show (s.bind v t).walkN 1 (s.walkN k x) = t by rw [walkN_some he]; rfl, hj2]
        exact he2
      · exact absurd ⟨q1, q2⟩ hw
  · show (s.trail ++ [v]).Nodup
    rw [List.nodup_append]
    exact ⟨h.nodup, by simp, fun a ha b hb => by rw [List.mem_singleton.1 hb]; exact fun e => hnt (e ▸ ha)⟩
  · show x ∈ s.trail ++ [v] ↔ ∃ u, (s.cells.set v (some t))[x]? = some (some u)
    rw [List.mem_append, List.mem_singleton]
    by_cases hx : x = v
    · subst hx
      rw [List.getElem?_set_self (List.getElem?_eq_some_iff.1 hv).1]
      exact ⟨fun _ => ⟨t, rfl⟩, fun _ => .inr rfl⟩
    · rw [List.getElem?_set_ne (Ne.symm hx)]
      exact ⟨fun h1 => (h.bound x).1 (h1.resolve_right hx), fun h1 => .inl ((h.bound x).2 h1)⟩
/-- What Bind answers, and the store behind it. -/
def Binds (s : PStore) (v : Int) (t : Term) (c : Int) (s' : PStore) : Prop :=
  (c = 5 ∧ s' = s ∧ ¬ (0 ≤ v ∧ v < s.cells.length)) ∨ (∃ u, c = 6 ∧ s' = s ∧ 0 ≤ v ∧ s.cells[v.toNat]? = some (some u)) ∨ (c = 4 ∧ s' = s ∧ 0 ≤ v ∧ s.cells[v.toNat]? = some none ∧ s.has t v true) ∨
    (c = 0 ∧ s' = s.bind v.toNat t ∧ 0 ≤ v ∧ s.cells[v.toNat]? = some none ∧ s.has t v false)
theorem binds_some (s : PStore) (v : Int) (t : Term) : ∃ c s', s.Binds v t c s' := by
  by_cases h : 0 ≤ v ∧ v < s.cells.length
  · obtain ⟨m, rfl⟩ := Int.eq_ofNat_of_zero_le h.1
    have hm : m < s.cells.length := by have := h.2; omega
    obtain ⟨o, ho⟩ : ∃ o, s.cells[m]? = some o := ⟨_, List.getElem?_eq_getElem hm⟩
    cases o with
    | some u => exact ⟨6, s, .inr (.inl ⟨u, rfl, rfl, h.1, ho⟩)⟩
    | none =>
      obtain ⟨r, hr⟩ := s.has_some t m
      cases r with
      | true => exact ⟨4, s, .inr (.inr (.inl ⟨rfl, rfl, h.1, ho, hr⟩))⟩
      | false => exact ⟨0, _, .inr (.inr (.inr ⟨rfl, rfl, h.1, ho, hr⟩))⟩
  · exact ⟨5, s, .inl ⟨rfl, rfl, h⟩⟩
theorem binds_det {s : PStore} {v : Int} {t : Term} {c c' : Int} {s1 s2 : PStore} (h : s.Binds v t c s1) (h' : s.Binds v t c' s2) : c = c' ∧ s1 = s2 := by
  have hlt : ∀ {o}, s.cells[v.toNat]? = some o → 0 ≤ v → v < s.cells.length := fun h h0 => by have := (List.getElem?_eq_some_iff.1 h).1; omega
  rcases h with ⟨rfl, rfl, h1⟩ | ⟨u, rfl, rfl, h1, h2⟩ | ⟨rfl, rfl, h1, h2, h3⟩ | ⟨rfl, rfl, h1, h2, h3⟩ <;>
    rcases h' with ⟨rfl, rfl, g1⟩ | ⟨u', rfl, rfl, g1, g2⟩ | ⟨rfl, rfl, g1, g2, g3⟩ | ⟨rfl, rfl, g1, g2, g3⟩
  all_goals first
    | exact ⟨rfl, rfl⟩
    | exact absurd ⟨g1, hlt g2 g1⟩ h1
    | exact absurd ⟨h1, hlt h2 h1⟩ g1
    | exact absurd (has_det h3 g3) (by decide)
    | (rw [h2] at g2; cases g2)
end PStore

def put5 (w : World) (g k : Nat) (u0 u1 u2 u3 u4 : Value) : World := ((((w.setCell ⟨g, k, none⟩ u0).setCell ⟨g, k + 1, none⟩ u1).setCell ⟨g, k + 2, none⟩ u2).setCell ⟨g, k + 3, none⟩ u3).setCell ⟨g, k + 4, none⟩ u4
theorem put5_frm (w : World) (g k : Nat) (u0 u1 u2 u3 u4 : Value) : Frm [g] w (put5 w g k u0 u1 u2 u3 u4) :=
  by unfold put5; exact (((((Frm.refl [g] w).setCell (.inl (by simp)) _).setCell (.inl (by simp)) _).setCell (.inl (by simp)) _).setCell (.inl (by simp)) _).setCell (.inl (by simp)) _
theorem put5_row {w : World} {g k n : Nat} {v : Value} {xs : List Value} (h : RowAt w 71 5 v n xs) (hg : v.ownBlock = some g) (u0 u1 u2 u3 u4 : Value) :
    RowAt (put5 w g k u0 u1 u2 u3 u4) 71 5 v n (((((xs.set k u0).set (k + 1) u1).set (k + 2) u2).set (k + 3) u3).set (k + 4) u4) := by
  unfold put5
  exact ((((h.set hg _ _).set hg _ _).set hg _ _).set hg _ _).set hg _ _
theorem set_cells {F : List Nat} {w : World} {cs : List (Option Term)} {xs : List Value} (h : CellsV F w cs xs) (hl : xs.length = cs.length * 5) {v : Nat} {o : Option Term} {u0 u1 u2 u3 u4 : Value} (hu : CellV F w o u0 u1 u2 u3 u4) :
    CellsV F w (cs.set v o) (((((xs.set (v * 5) u0).set (v * 5 + 1) u1).set (v * 5 + 2) u2).set (v * 5 + 3) u3).set (v * 5 + 4) u4) := by
  intro j o' hj
  by_cases hjv : j = v
  · subst hjv
    have hlt : j < cs.length := by have := (List.getElem?_eq_some_iff.1 hj).1; simpa using this
    rw [List.getElem?_set_self hlt] at hj
    cases hj
    refine ⟨u0, u1, u2, u3, u4, ?_, ?_, ?_, ?_, ?_, hu⟩ <;> simp [List.getElem?_set] <;> omega
  · rw [List.getElem?_set_ne (Ne.symm hjv)] at hj
    obtain ⟨c0, c1, c2, c3, c4, e0, e1, e2, e3, e4, hc⟩ := h j o' hj
    refine ⟨c0, c1, c2, c3, c4, ?_, ?_, ?_, ?_, ?_, hc⟩ <;>
      (rw [List.getElem?_set_ne (by omega), List.getElem?_set_ne (by omega), List.getElem?_set_ne (by omega), List.getElem?_set_ne (by omega), List.getElem?_set_ne (by omega)]; assumption)

theorem bind_to {G F : List Nat} {w w1 w6 : World} {sb m g : Nat} {st : PStore} {cv tv v' : Value} {xs : List Value} {t : Term} {A : Option Addr} {cap : Nat} {o : Obj} (h1 : w.heap[sb]? = some (.cells #[cv, tv] 67 (0, 0)))
    (h2 : RowAt w 71 5 cv st.cells.length xs) (h3 : RowAt w 3 1 tv st.trail.length (st.trail.map fun (x : Nat) => Value.int .i64 (x : Int))) (h4 : CellsV F w st.cells xs) (h5 : st.OK)
    (h6 : G = sb :: (cv.ownBlock.toList ++ tv.ownBlock.toList)) (h7 : ∀ b, b ∈ G → b ∈ F) (h8 : ∀ b, b ∈ F → b < w.heap.size) (hgo : cv.ownBlock = some g)
    (ht : TermV F w t (.agg #[.int .i64 t.kind, .int .i64 t.n, .string t.s, .slice A t.kids.length cap])) (hc : st.cells[m]? = some none) (hh : st.has t m false) (F01 : Frm [] w w1)
    (hr : RowAt w6 3 1 v' (st.trail.length + 1) ((st.trail.map fun (x : Nat) => Value.int .i64 (x : Int)) ++ [.int .i64 (m : Int)]))
    (hg : ((put5 w1 g (m * 5) (.bool true) (.int .i64 t.kind) (.int .i64 t.n) (.string t.s) (.slice A t.kids.length cap)).drew.alloc o).grownBy w6 tv.ownBlock)
    (hat : v'.ownBlock = tv.ownBlock ∨ v'.ownBlock = some ((put5 w1 g (m * 5) (.bool true) (.int .i64 t.kind) (.int .i64 t.n) (.string t.s) (.slice A t.kids.length cap)).drew.alloc o).heap.size)
    (hb6 : w6.heap[sb]? = some (.cells #[cv, tv] 67 (0, 0))) : StoreTo G F w (w6.setCell ⟨sb, 1, none⟩ v') sb (st.bind m t) := by
  have hsb : sb ∈ G := by rw [h6]; simp
  have hgG : g ∈ G := by rw [h6]; simp [hgo]
  have htG : ∀ b, tv.ownBlock = some b → b ∈ G := fun b hb => by rw [h6]; simp [hb]
  have f5 : Frm [g] w (put5 w1 g (m * 5) (.bool true) (.int .i64 t.kind) (.int .i64 t.n) (.string t.s) (.slice A t.kids.length cap)) := (F01.mono (by simp)).trans' (put5_frm _ _ _ _ _ _ _ _)
  have f5' : Frm G w (put5 w1 g (m * 5) (.bool true) (.int .i64 t.kind) (.int .i64 t.n) (.string t.s) (.slice A t.kids.length cap)) := f5.mono (fun x hx => by rw [List.mem_singleton.1 hx]; exact hgG)
  have f6 : Frm G w w6 := ((f5'.drew).alloc o).grown hg (fun k hk => .inl (htG k hk))
  have fin : Frm G w (w6.setCell ⟨sb, 1, none⟩ v') := f6.setCell (.inl hsb) _
  have hgl : g < w.heap.size := (h2.lt hgo).1
  have hsg : sb ≠ g := fun e => h2.ne h1 (by decide) (by rw [hgo, e])
  generalize hP : put5 w1 g (m * 5) (.bool true) (.int .i64 t.kind) (.int .i64 t.n) (.string t.s) (.slice A t.kids.length cap) = P5 at *
  have hr5 := put5_row (k := m * 5) (h2.keep (fun b hb => F01.block b (h2.lt hb).1 (by simp))) hgo (.bool true) (.int .i64 t.kind) (.int .i64 t.n) (.string t.s) (.slice A t.kids.length cap)
  rw [hP] at hr5
  have hg6 : w6.heap[g]? = P5.heap[g]? := by
    have hl5 : g < P5.heap.size := Nat.lt_of_lt_of_le hgl f5.size
    refine (hg.block g (by simp only [heap_size_alloc]; exact Nat.lt_succ_of_lt hl5) (fun e => ?_)).trans (Below.heap_alloc _ _ _ hl5)
    rcases h3.ne_row h2 (by decide) with hn | hn
    · rw [hn] at e; cases e
    · exact hn (by rw [hgo, ← e])
  have hb7 := heap_setCell_at hb6 1 v'
  refine StoreAt.write hsb h7 h8 fin hb7 (xs' := ((((xs.set (m * 5) (.bool true)).set (m * 5 + 1) (.int .i64 t.kind)).set (m * 5 + 2) (.int .i64 t.n)).set (m * 5 + 3) (.string t.s)).set (m * 5 + 4) (.slice A t.kids.length cap)) ?_ ?_ ?_ (PStore.bind_ok h5 hc hh) ?_
  · show RowAt _ _ _ _ (st.cells.set m (some t)).length _
    rw [List.length_set]
    refine hr5.keep (fun b hb => ?_)
    rw [hgo] at hb; cases hb
    exact (heap_setCell_ne _ _ _ (Ne.symm hsg)).trans hg6
  · show RowAt _ _ _ _ (st.trail ++ [m]).length ((st.trail ++ [m]).map _)
    rw [List.length_append, List.map_append]
    exact hr.keep (fun b hb => heap_setCell_ne _ _ _ (fun e => by subst e; exact hr.ne hb6 (by decide) hb.symm))
  · intro F' hf hn
    exact set_cells (h4.over h7 fin hf hn) h2.1 ⟨rfl, ⟨A, cap, rfl, rfl, rfl, rfl⟩, ht.over h7 fin hf hn⟩
  · rintro b (hb | hb)
    · exact .inl (by rw [hgo] at hb; cases hb; exact hgG)
    · rcases hat with e | e
      · exact .inl (htG b (e ▸ hb))
      · rw [e] at hb; cases hb
        refine .inr ?_
        have := f5.size
        simp only [heap_size_alloc]
        exact Nat.le_succ_of_le this

theorem Try.infoInt0 : (Try.prog.info? 3).map (fun i => (i.zero, i.size, i.bytes)) = some (some (.int .i64 0), 1, 8) := by kernel_rfl

set_option maxRecDepth 100000 in
set_option maxHeartbeats 1000000 in
theorem store_bind (G F : List Nat) (sb : Nat) (st : PStore) (t : Term) (va : Value) (v : Int) (iv : I64 v) (c : Int) (st' : PStore) (hb : st.Binds v t c st') (w : World) (hs : StoreAt G F w sb st) (ht : TermV F w t va) :
    Calls Try.prog 85 #[.pointer (some ⟨sb, 0, none⟩), .int .i64 v, va] w fun e w' => e = .returned (.int .i64 c) ∧ StoreTo G F w w' sb st' := by
  obtain ⟨cv, tv, xs, h1, h2, h3, h4, h5, h6, h7, h8⟩ := hs
  have hs : StoreAt G F w sb st := ⟨cv, tv, xs, h1, h2, h3, h4, h5, h6, h7, h8⟩
  have h2' := h2
  have h3' := h3
  obtain ⟨hxl, A2, cap2, rfl, hcap1, hcap2, hrow⟩ := h2
  obtain ⟨s0, s1, s2, hlt⟩ := blk2 h1
  obtain ⟨iv1, iv2⟩ := iv
  have hmany := h5.many
  obtain ⟨A, cap, rfl⟩ := ht.form
  have SQ := Lib.hid (fun w' => @StoreTo.quiet G F w w' sb st hs)
  rcases hb with ⟨rfl, hst, hr⟩ | ⟨u, rfl, hst, hv0, hc⟩ | ⟨rfl, hst, hv0, hc, hh⟩ | ⟨rfl, hst, hv0, hc, hh⟩
  all_goals (have hst := hst.symm; subst hst)
  · by_cases hneg : v < 0
    · clear hr hrow h2' h3' h3 h4 h5 h6 h7 h8
      go_enter Try.func85, Try.ntmps85
      go_wp2
      go_ret
      exact ⟨rfl, SQ.out _ (by repeat (first | with_reducible (first | refine .alloc ?_ _ | refine .drewN ?_ _ | refine .drew ?_) | ((with_reducible refine .setCell ?_ ?_ _); rotate_left; focus (first | (left; simp; done) | (right; simp; (first | done | omega)))) | with_reducible (first | assumption | exact .refl _ _ | refine .trans0 ?_ ‹_›)))⟩
    · have hge : (st.cells.length : Int) ≤ v := by omega
      have hneg' : decide (v < 0) = false := by simpa using hneg
      clear hr hrow h2' h3' h3 h4 h5 h6 h7 h8 hneg
      go_enter Try.func85, Try.ntmps85
      go_wp2
      go_ret
      exact ⟨rfl, SQ.out _ (by repeat (first | with_reducible (first | refine .alloc ?_ _ | refine .drewN ?_ _ | refine .drew ?_) | ((with_reducible refine .setCell ?_ ?_ _); rotate_left; focus (first | (left; simp; done) | (right; simp; (first | done | omega)))) | with_reducible (first | assumption | exact .refl _ _ | refine .trans0 ?_ ‹_›)))⟩
  all_goals
    obtain ⟨m, rfl⟩ := Int.eq_ofNat_of_zero_le hv0
    rw [Int.toNat_natCast] at hc
    have hml := (List.getElem?_eq_some_iff.1 hc).1
    have hneg : decide ((m : Int) < 0) = false := by simp
    have hlt2 : ¬ ((st.cells.length : Int) ≤ (m : Int)) := by omega
    obtain ⟨g, cap3, c0, c1, c2, c3, c4, hcv, hgo, hgl, p0, p1, p2, p3, p4, hcell⟩ := StoreCell h2' h4 hc
    simp only [Value.slice.injEq, true_and] at hcv
    obtain ⟨rfl, rfl⟩ := hcv
    have hmi : (m : Int) < (st.cells.length : Int) := by omega
  · obtain ⟨rfl, -, -⟩ := hcell
    clear hrow h2' h3' h3 h4 h5 h6 h7 h8 hc hv0
    go_enter Try.func85, Try.ntmps85
    go_wp2
    go_ret
    exact ⟨rfl, SQ.out _ (by repeat (first | with_reducible (first | refine .alloc ?_ _ | refine .drewN ?_ _ | refine .drew ?_) | ((with_reducible refine .setCell ?_ ?_ _); rotate_left; focus (first | (left; simp; done) | (right; simp; (first | done | omega)))) | with_reducible (first | assumption | exact .refl _ _ | refine .trans0 ?_ ‹_›)))⟩
  · obtain ⟨rfl, -⟩ := hcell
    have im : I64 (m : Int) := ⟨by omega, by omega⟩
    clear hrow h2' h3' h3 h4 h5 h6 h7 h8 hc hv0
    go_enter Try.func85, Try.ntmps85
    go_wp2_with (go_at_call 96; refine (store_has G F sb st t _ (m : Int) im true hh _ (hs.keep (by repeat (first | with_reducible (first | refine .alloc ?_ _ | refine .drewN ?_ _ | refine .drew ?_) | ((with_reducible refine .setCell ?_ ?_ _); rotate_left; focus (first | (left; simp; done) | (right; simp; (first | done | omega)))) | with_reducible (first | assumption | exact .refl _ _ | refine .trans0 ?_ ‹_›)))) (ht.keep (by repeat (first | with_reducible (first | refine .alloc ?_ _ | refine .drewN ?_ _ | refine .drew ?_) | ((with_reducible refine .setCell ?_ ?_ _); rotate_left; focus (first | (left; simp; done) | (right; simp; (first | done | omega)))) | with_reducible (first | assumption | exact .refl _ _ | refine .trans0 ?_ ‹_›))))).mono ?_; rintro e w1 ⟨rfl, F1⟩)
    go_ret
    exact ⟨rfl, SQ.out _ (by repeat (first | with_reducible (first | refine .alloc ?_ _ | refine .drewN ?_ _ | refine .drew ?_) | ((with_reducible refine .setCell ?_ ?_ _); rotate_left; focus (first | (left; simp; done) | (right; simp; (first | done | omega)))) | with_reducible (first | assumption | exact .refl _ _ | refine .trans0 ?_ ‹_›)))⟩
  · obtain ⟨rfl, rfl, rfl, rfl, rfl⟩ := hcell
    have im : I64 (m : Int) := ⟨by omega, by omega⟩
    obtain ⟨i0, hi, hz0, hz1, hz2⟩ := info_parts Try.infoInt0
    have HH := Lib.hid hh
    have H3 := Lib.hid h3'
    clear hrow h3' h3 hv0 hh
    go_enter Try.func85, Try.ntmps85
    go_wp2_with (go_at_call 96; refine (store_has G F sb st t _ (m : Int) im false HH.out _ (hs.keep (by repeat (first | with_reducible (first | refine .alloc ?_ _ | refine .drewN ?_ _ | refine .drew ?_) | ((with_reducible refine .setCell ?_ ?_ _); rotate_left; focus (first | (left; simp; done) | (right; simp; (first | done | omega)))) | with_reducible (first | assumption | exact .refl _ _ | refine .trans0 ?_ ‹_›)))) (ht.keep (by repeat (first | with_reducible (first | refine .alloc ?_ _ | refine .drewN ?_ _ | refine .drew ?_) | ((with_reducible refine .setCell ?_ ?_ _); rotate_left; focus (first | (left; simp; done) | (right; simp; (first | done | omega)))) | with_reducible (first | assumption | exact .refl _ _ | refine .trans0 ?_ ‹_›))))).mono ?_; rintro e w1 ⟨rfl, F1⟩; have F01 : Frm [] w w1 := (by repeat (first | with_reducible (first | refine .alloc ?_ _ | refine .drewN ?_ _ | refine .drew ?_) | ((with_reducible refine .setCell ?_ ?_ _); rotate_left; focus (first | (left; simp; done) | (right; simp; (first | done | omega)))) | with_reducible (first | assumption | exact .refl _ _ | refine .trans0 ?_ ‹_›))); have s0 := (F01.cell hlt (by simp)).trans s0; have s1 := (F01.cell hlt (by simp)).trans s1; have p0 := (F01.cell hgl (by simp)).trans p0; have p1 := (F01.cell hgl (by simp)).trans p1; have p2 := (F01.cell hgl (by simp)).trans p2; have p3 := (F01.cell hgl (by simp)).trans p3; have p4 := (F01.cell hgl (by simp)).trans p4; obtain ⟨z0, z1, z2, z3, z4, z5⟩ := blk4 (F1.at0 (alloc_heap_new w _)))
    have hgf : ∀ o, w1.frozen? ⟨g, o, none⟩ = false := by
      obtain ⟨_, _, cur, _, hgo', _, hgh, _⟩ := h2'.own (by omega)
      rw [hgo] at hgo'; cases hgo'
      intro o; rw [F01.frozen hgl (by simp)]; simp [World.frozen?, hgh]
    go_region
    obtain ⟨W5, hW5⟩ : ∃ W5, (put5 w1 g (m * 5) (.bool true) (.int .i64 t.kind) (.int .i64 t.n) (.string t.s) (.slice A t.kids.length cap)).drew = W5 := ⟨_, rfl⟩
    rw [show (((((w1.setCell ⟨g, m * 5, none⟩ (.bool true)).setCell ⟨g, m * 5 + 1, none⟩ (.int .i64 t.kind)).setCell ⟨g, m * 5 + 2, none⟩ (.int .i64 t.n)).setCell ⟨g, m * 5 + 3, none⟩ (.string t.s)).setCell ⟨g, m * 5 + 4, none⟩ (.slice A t.kids.length cap)).drew = W5 from hW5]
    have f5 : Frm [g] w W5 := by rw [← hW5]; exact ((F01.mono (by simp)).trans' (put5_frm _ _ _ _ _ _ _ _)).drew
    have hsg : sb ≠ g := fun e => h2'.ne h1 (by decide) (by rw [hgo, e])
    have hb5 := f5.at_ h1 (by simpa using hsg)
    obtain ⟨q0, q1, q2, q3⟩ := blk2 hb5
    have hrow5 : ∀ ob, RowAt (W5.alloc ob) 3 1 tv st.trail.length (st.trail.map fun (x : Nat) => Value.int .i64 (x : Int)) := fun ob => H3.out.keep (fun b hb => by
      have hbl := (H3.out.lt hb).1
      rw [Below.heap_alloc _ _ _ (Nat.lt_of_lt_of_le hbl f5.size)]
      refine f5.block b hbl ?_
      rcases H3.out.ne_row h2' (by decide) with hn | hn
      · rw [hn] at hb; cases hb
      · intro e; rw [List.mem_singleton.1 e] at hb; exact hn (hb.trans hgo.symm))
    have htl := h5.trail_le
    have TO := Lib.hid (fun w6 v' ob => @bind_to G F w w1 w6 sb m g st _ tv v' xs t A cap ob h1 h2' H3.out h4 h5 h6 h7 h8 hgo ht hc HH.out F01)
    rw [hW5] at TO
    have hb5a : ∀ ob, (W5.alloc ob).heap[sb]? = some (.cells #[.slice (some ⟨g, 0, none⟩) st.cells.length cap2, tv] 67 (0, 0)) := fun ob => (Below.heap_alloc _ _ _ q3).trans hb5
    have hq5 : ∀ ob, sb < (W5.alloc ob).heap.size := fun ob => by simp; omega
    have hne5 : some sb ≠ tv.ownBlock := H3.out.ne h1 (by decide)
    clear z0 z1 z2 z3 z4 z5 p0 p1 p2 p3 p4 s0 s1 hgf SQ hs
    go_wp2_with (at_builtin; go_must (refine wpList_append_row _ rfl _ _ 65 rfl 3 i0 _ 1 8 Try.underlying65 hi hz0 hz1 hz2 rfl tv _ _ rfl (hrow5 _) ⟨W5.heap.size, 0, none⟩ 1 1 (by decide) [.int .i64 (m : Int)] rfl rfl (cells_new _ _ _) (by simp [Value.oneCell']) ?c3 ?c4 ?_); (case c3 => (unfold maxLen; omega)); (case c4 => omega); intro v' w6 hr6 hg6 hat6; have hb6 := (hg6.block sb (hq5 _) hne5).trans (hb5a _); obtain ⟨r0, r1, r2, r3⟩ := blk2 hb6; obtain ⟨A6, cap6, rfl⟩ := hr6.form)
    go_ret
    exact ⟨rfl, TO.out w6 _ _ hr6 hg6 hat6 hb6⟩
end Go.Proofs.Ytkiofaojokofbaa
namespace Go.Proofs.Ytkiofaojokofbaa
section
variable {P : Program} {ops : Array Oper} {Q : Exit → Act → World → Prop} {md : Region.Mode} {S : World → Prop} {ph : Nat → Bool}

/-- Whatever order is picked from here on; S holds behind every operation below N. -/
def wpAnyU (P : Program) (md : Region.Mode) (ops : Array Oper) (Q : Exit → Act → World → Prop) (S : World → Prop) (ph : Nat → Bool) : Nat → Array Bool → Act → World → Prop
  | 0, listed, a, w => Region.ready md ops listed = [] ∧ Q .normal a w
  | fuel + 1, listed, a, w =>
    (Region.ready md ops listed = [] → Q .normal a w) ∧
    ∀ i ∈ Region.ready md ops listed, wpOp P ops Q i (fun a' w' => (ph i = true → S w') ∧ wpAnyU P md ops Q S ph fuel (listed.setIfInBounds i true) a' w') a w

theorem wpAny_of_U : ∀ (fuel : Nat) (listed : Array Bool) (a : Act) (w : World), wpAnyU P md ops Q S ph fuel listed a w → wpAny P md ops Q fuel listed a w
  | 0, _, _, _, h => h
  | fuel + 1, _, _, _, h => ⟨h.1, fun i hi => wpOp_mono (fun a' w' h' => wpAny_of_U fuel _ a' w' h'.2) (h.2 i hi)⟩

theorem set_other {i j : Nat} (listed : Array Bool) (h : j ≠ i) (x d : Bool) : (listed.setIfInBounds j x).getD i d = listed.getD i d := by
  simp [Array.getD_eq_getD_getElem?, Array.getElem?_setIfInBounds_ne h]

/-- Whoever is listed has those it waits for listed. -/
def Shut' (md : Region.Mode) (ops : Array Oper) (listed : Array Bool) : Prop :=
  ∀ j oj, ops[j]? = some oj → listed.getD j true = true → ∀ e ∈ oj.after, Region.binds md e = true → listed.getD e.on false = true
def Region.closed (md : Region.Mode) (ops : Array Oper) (listed : Array Bool) : Bool :=
  (List.range ops.size).all fun j => !listed.getD j true || match ops[j]? with
    | some oj => oj.after.all fun e => !Region.binds md e || listed.getD e.on false
    | none => true
theorem Region.closed_spec {listed : Array Bool} (h : Region.closed md ops listed = true) : Shut' md ops listed := by
  intro j oj hoj hl e he hb
  unfold Region.closed at h
  rw [List.all_eq_true] at h
  have h1 := h j (List.mem_range.2 (Array.getElem?_eq_some_iff.1 hoj).1)
  rw [hl, hoj] at h1
  dsimp only at h1
  rw [Bool.not_true, Bool.false_or, Array.all_eq_true'] at h1
  have h2 := h1 e he
  rw [hb] at h2
  exact h2
theorem getD_in {listed : Array Bool} {i : Nat} (h : listed.getD i true = false) : listed.getD i false = false := by
  rw [Array.getD_eq_getD_getElem?] at h ⊢
  cases hx : listed[i]? with
  | none => rfl
  | some b => rw [hx] at h; exact h
theorem getD_up {listed : Array Bool} {i : Nat} (h : listed.getD i false = true) : listed.getD i true = true := by
  rw [Array.getD_eq_getD_getElem?] at h ⊢
  cases hx : listed[i]? with
  | none => rfl
  | some b => rw [hx] at h; exact h
theorem set_more {listed : Array Bool} {i j : Nat} (h : listed.getD i false = true) : (listed.setIfInBounds j true).getD i false = true := by
  by_cases hji : j = i
  · subst hji
    rw [Array.getD_eq_getD_getElem?] at h ⊢
    cases hx : listed[j]? with
    | none => rw [hx] at h; cases h
    | some b =>
      rw [Array.getElem?_setIfInBounds_self_of_lt (Array.getElem?_eq_some_iff.1 hx).1]; rfl
  · rw [set_other listed hji]; exact h
theorem Shut'.set {listed : Array Bool} {j : Nat} (h : Shut' md ops listed) (hj : j ∈ Region.ready md ops listed) : Shut' md ops (listed.setIfInBounds j true) := by
  obtain ⟨_, oj, hoj, hall⟩ := mem_ready.1 hj
  intro k ok hok hl e he hb
  by_cases hjk : j = k
  · subst hjk
    rw [hoj] at hok
    cases hok
    exact set_more (hall e he hb)
  · rw [set_other listed hjk] at hl
    exact set_more (h k ok hok hl e he hb)
/-- j waits for i, straight or through others. -/
def Region.waits (md : Region.Mode) (ops : Array Oper) (i : Nat) : Nat → Nat → Bool
  | 0, _ => false
  | f + 1, j => match ops[j]? with
    | some oj => oj.after.any fun e => Region.binds md e && (e.on == i || Region.waits md ops i f e.on)
    | none => false
theorem Region.waits_spec {listed : Array Bool} {i : Nat} (hc : Shut' md ops listed) (hi : listed.getD i true = false) : ∀ f j oj, ops[j]? = some oj → Region.waits md ops i f j = true →
    ∃ e ∈ oj.after, Region.binds md e = true ∧ listed.getD e.on false = false := by
  intro f
  induction f with
  | zero => intro j oj _ h; cases h
  | succ f ih =>
    intro j oj hoj h
    unfold Region.waits at h
    rw [hoj] at h
    dsimp only at h
    rw [Array.any_eq_true'] at h
    obtain ⟨e, he, hx⟩ := h
    rw [Bool.and_eq_true, Bool.or_eq_true, beq_iff_eq] at hx
    refine ⟨e, he, hx.1, ?_⟩
    rcases hx.2 with h1 | h1
    · rw [h1]; exact getD_in hi
    · cases hok : ops[e.on]? with
      | none =>
        cases f with
        | zero => cases h1
        | succ f => unfold Region.waits at h1; rw [hok] at h1; cases h1
      | some ok =>
        obtain ⟨e', he', hb', hf'⟩ := ih e.on ok hok h1
        cases hg : listed.getD e.on false with
        | false => rfl
        | true =>
          have := hc e.on ok hok (getD_up hg) e' he' hb'
          rw [hf'] at this
          cases this
/-- Every operation that ph doesn't tell of waits for number i. -/
def Region.lateU (md : Region.Mode) (ops : Array Oper) (ph : Nat → Bool) (i : Nat) : Bool :=
  ph i && (List.range ops.size).all fun j => ph j || Region.waits md ops i ops.size j
theorem Region.lateU_spec {i : Nat} (h : Region.lateU md ops ph i = true) : ph i = true ∧ ∀ listed, Shut' md ops listed → listed.getD i true = false → ∀ j ∈ Region.ready md ops listed, ph j = true := by
  unfold Region.lateU at h
  rw [Bool.and_eq_true, List.all_eq_true] at h
  refine ⟨h.1, fun listed hc hi j hj => ?_⟩
  obtain ⟨_, oj, hoj, hall⟩ := mem_ready.1 hj
  have h1 := h.2 j (List.mem_range.2 (Array.getElem?_eq_some_iff.1 hoj).1)
  rw [Bool.or_eq_true] at h1
  rcases h1 with h1 | h1
  · exact h1
  · obtain ⟨e, he, hb, hf⟩ := Region.waits_spec hc hi _ j oj hoj h1
    have := hall e he hb
    rw [hf] at this
    cases this

/-- An operation may be taken first: C says of which worlds it yields; b: it is one of the first phase, so whoever may come before it is, too. -/
theorem wpAnyU_first {C : World → Prop} {b : Bool} {i : Nat} {oi : Oper} {v : Value} (hi : ops[i]? = some oi) (hsel : ∀ (j : Nat) (o : Oper) cs b, ops[j]? = some o → o.op ≠ .select cs b)
    (hQ : ∀ c a w, Q (.panic c) (a.put oi.dst v) w → Q (.panic c) a w) (hC : ∀ w, (b = true → S w) → C w)
    (hph : b = true → ph i = true ∧ ∀ listed, Shut' md ops listed → listed.getD i true = false → ∀ j ∈ Region.ready md ops listed, ph j = true) (hb : b = false → ph i = false) :
    ∀ (fuel : Nat) (listed : Array Bool) (a : Act) (w : World),
      (∀ j oj, ops[j]? = some oj → j ≠ i → listed.getD j true = false → (∀ e ∈ oj.after, Region.binds md e = true → e.on ≠ i) → oi.apart ops oj = true) →
      i ∈ Region.ready md ops listed → YieldsIf P ops C oi v a → (b = true → S w) → (b = true → Shut' md ops listed) →
      wpAnyU P md ops Q S ph fuel (listed.setIfInBounds i true) (a.put oi.dst v) w → wpAnyU P md ops Q S ph (fuel + 1) listed a w := by
  have hiS : ∀ w, (b = true → S w) → ph i = true → S w := fun w hS hlt => by
    cases b with
    | true => exact hS rfl
    | false => have := hb rfl; rw [hlt] at this; cases this
  intro fuel
  induction fuel with
  | zero =>
    intro listed a w _ hr hy hS _ H
    refine ⟨fun h => (by rw [h] at hr; cases hr), fun j hj => ?_⟩
    by_cases hji : j = i
    · subst hji
      exact hy.wpOp hi (hC w hS) ⟨hiS w hS, H⟩
    · have := ready_mono hj hji
      rw [H.1] at this
      cases this
  | succ fuel ih =>
    intro listed a w hfree hr hy hS hcl H
    have hun := (mem_ready.1 hr).1
    refine ⟨fun h => (by rw [h] at hr; cases hr), fun j hj => ?_⟩
    by_cases hji : j = i
    · subst hji
      exact hy.wpOp hi (hC w hS) ⟨hiS w hS, H⟩
    · have h1 := H.2 j (ready_mono hj hji)
      obtain ⟨hjun, oj, hoj, hall⟩ := mem_ready.1 hj
      have hnot : ∀ e ∈ oj.after, Region.binds md e = true → e.on ≠ i := fun e he hbd heq => by
        have h2 := hall e he hbd
        rw [heq] at h2
        have h3 := getD_up h2
        rw [hun] at h3; cases h3
      have h2 := wpOp_putIf hoj (hfree j oj hoj hji hjun hnot) (fun cs b => hsel i oi cs b hi) (fun cs b => hsel j oj cs b hoj) hQ hy h1
      have hfree' : ∀ k ok, ops[k]? = some ok → k ≠ i → (listed.setIfInBounds j true).getD k true = false →
          (∀ e ∈ ok.after, Region.binds md e = true → e.on ≠ i) → oi.apart ops ok = true := fun k ok hk hki hu hno => by
        refine hfree k ok hk hki ?_ hno
        by_cases hjk : j = k
        · subst hjk; exact hjun
        · rw [set_other listed hjk] at hu; exact hu
      refine wpOp_mono (fun a' w' h3 => ?_) h2
      refine ⟨h3.2.1, ih (listed.setIfInBounds j true) a' w' hfree' (ready_mono hr (Ne.symm hji)) h3.1 (fun hbt => h3.2.1 ((hph hbt).2 listed (hcl hbt) hun j hj)) (fun hbt => (hcl hbt).set hj) ?_⟩
      rw [Array.setIfInBounds_comm _ _ hji]
      exact h3.2.2

/-- Take number i of the first phase. -/
theorem wpAnyU_take {i : Nat} {oi : Oper} {v : Value} {fuel : Nat} {listed : Array Bool} {a : Act} {w : World} (hi : ops[i]? = some oi)
    (hs : Region.noSelect ops = true) (hf : Region.free md ops listed i = true) (hr : (Region.ready md ops listed).contains i = true) (hl : (Region.lateU md ops ph i && Region.closed md ops listed) = true)
    (hQ : ∀ c a w, Q (.panic c) (a.put oi.dst v) w → Q (.panic c) a w) (hy : YieldsIf P ops S oi v a) (hS : S w)
    (h : wpAnyU P md ops Q S ph fuel (listed.setIfInBounds i true) (a.put oi.dst v) w) : wpAnyU P md ops Q S ph (fuel + 1) listed a w :=
  have hl := (Bool.and_eq_true _ _).mp hl
  wpAnyU_first (C := S) (b := true) hi (Region.noSelect_spec hs) hQ (fun _ h => h rfl) (fun _ => Region.lateU_spec hl.1) (fun h => by cases h) fuel listed a w (Region.free_spec hi hf) (by simpa using hr) hy (fun _ => hS) (fun _ => Region.closed_spec hl.2) h
/-- Take number i behind the first phase. -/
theorem wpAnyU_take' {i : Nat} {oi : Oper} {v : Value} {fuel : Nat} {listed : Array Bool} {a : Act} {w : World} (hi : ops[i]? = some oi)
    (hs : Region.noSelect ops = true) (hf : Region.free md ops listed i = true) (hr : (Region.ready md ops listed).contains i = true) (hl : (!ph i) = true)
    (hQ : ∀ c a w, Q (.panic c) (a.put oi.dst v) w → Q (.panic c) a w) (hy : YieldsIf P ops (fun _ => True) oi v a)
    (h : wpAnyU P md ops Q S ph fuel (listed.setIfInBounds i true) (a.put oi.dst v) w) : wpAnyU P md ops Q S ph (fuel + 1) listed a w :=
  wpAnyU_first (C := fun _ => True) (b := false) hi (Region.noSelect_spec hs) hQ (fun _ _ => trivial) (fun h => by cases h) (fun _ => by simpa using hl) fuel listed a w (Region.free_spec hi hf) (by simpa using hr) hy (fun h => by cases h) (fun h => by cases h) h

/-- One operation alone may come up, and is carried out. -/
theorem wpAnyU_one {i : Nat} {o : Oper} {fuel : Nat} {listed : Array Bool} {a : Act} {w : World} (hr : Region.ready md ops listed = [i]) (ho : ops[i]? = some o)
    (h : ∀ K' : Act → World → Prop, Shut (∀ a w, (ph i = true → S w) → ((ph i = true → S w) → wpAnyU P md ops Q S ph fuel (listed.setIfInBounds i true) a w) → K' a w) →
      if Region.wanted o (yielded ops a.tmps) = true then Oper.wp P o a w K' Q else K' (a.put o.dst undef) w) : wpAnyU P md ops Q S ph (fuel + 1) listed a w := by
  refine ⟨fun h => (by rw [h] at hr; cases hr), fun j hj => ?_⟩
  rw [hr] at hj
  have := List.mem_singleton.1 hj
  subst this
  exact wpOp_step ho (fun K' hK => h K' (fun a w hS hW => hK a w ⟨hS, hW hS⟩))
/-- Two operations may come up. -/
theorem wpAnyU_two {i j : Nat} {o p : Oper} {fuel : Nat} {listed : Array Bool} {a : Act} {w : World} (hr : Region.ready md ops listed = [i, j]) (ho : ops[i]? = some o) (hp : ops[j]? = some p)
    (h1 : ∀ K' : Act → World → Prop, Shut (∀ a w, (ph i = true → S w) → ((ph i = true → S w) → wpAnyU P md ops Q S ph fuel (listed.setIfInBounds i true) a w) → K' a w) →
      if Region.wanted o (yielded ops a.tmps) = true then Oper.wp P o a w K' Q else K' (a.put o.dst undef) w)
    (h2 : ∀ K' : Act → World → Prop, Shut (∀ a w, (ph j = true → S w) → ((ph j = true → S w) → wpAnyU P md ops Q S ph fuel (listed.setIfInBounds j true) a w) → K' a w) →
      if Region.wanted p (yielded ops a.tmps) = true then Oper.wp P p a w K' Q else K' (a.put p.dst undef) w) : wpAnyU P md ops Q S ph (fuel + 1) listed a w := by
  refine ⟨fun h => (by rw [h] at hr; cases hr), fun k hk => ?_⟩
  rw [hr] at hk
  rcases List.mem_cons.1 hk with rfl | hk
  · exact wpOp_step ho (fun K' hK => h1 K' (fun a w hS hW => hK a w ⟨hS, hW hS⟩))
  · have := List.mem_singleton.1 hk
    subst this
    exact wpOp_step hp (fun K' hK => h2 K' (fun a w hS hW => hK a w ⟨hS, hW hS⟩))
theorem wpAnyU_done {listed : Array Bool} {a : Act} {w : World} (hr : Region.ready md ops listed = []) (h : Q .normal a w) : ∀ fuel, wpAnyU P md ops Q S ph fuel listed a w
  | 0 => ⟨hr, h⟩
  | _ + 1 => ⟨fun _ => h, by rw [hr]; simp⟩
/-- Operations that are taken next, in this order. -/
def Pend (_ : List Nat) (p : Prop) : Prop := p
theorem Pend.start {p : Prop} (is : List Nat) (h : Pend is p) : p := h
theorem Pend.done {p : Prop} (h : p) : Pend [] p := h
section
variable {i : Nat} {is : List Nat} {oi : Oper} {fuel : Nat} {listed : Array Bool} {a : Act} {w : World}
theorem pick_op (hi : (ops.toList.drop i).head? = some oi) : ops[i]? = some oi := by
  rw [← hi, List.head?_drop]; simp
/-- May number i be taken, early or late? -/
def Region.may (md : Region.Mode) (ops : Array Oper) (ph : Nat → Bool) (listed : Array Bool) (i : Nat) : Bool :=
  Region.noSelect ops && Region.free md ops listed i && (Region.ready md ops listed).contains i && (Region.lateU md ops ph i && Region.closed md ops listed)
def Region.mayl (md : Region.Mode) (ops : Array Oper) (ph : Nat → Bool) (listed : Array Bool) (i : Nat) : Bool :=
  Region.noSelect ops && Region.free md ops listed i && (Region.ready md ops listed).contains i && !ph i
theorem tk {v : Value} (hi : (ops.toList.drop i).head? = some oi) (hc : Region.may md ops ph listed i = true) (hw : Region.wanted oi (yielded ops a.tmps) = true)
    (hQ : ∀ c a w, Q (.panic c) (a.put oi.dst v) w → Q (.panic c) a w) (hS : S w) (hy : ∀ w, S w → (execOp a.eval oi).run P w = .ok (.value v) w)
    (h : Pend is (wpAnyU P md ops Q S ph fuel (listed.setIfInBounds i true) (a.put oi.dst v) w)) : Pend (i :: is) (wpAnyU P md ops Q S ph (fuel + 1) listed a w) := by
  unfold Region.may at hc
  rw [Bool.and_eq_true, Bool.and_eq_true, Bool.and_eq_true] at hc
  exact wpAnyU_take (pick_op hi) hc.1.1.1 hc.1.1.2 hc.1.2 hc.2 hQ (.inl ⟨hw, hy⟩) hS h
theorem tkl {v : Value} (hi : (ops.toList.drop i).head? = some oi) (hc : Region.mayl md ops ph listed i = true) (hw : Region.wanted oi (yielded ops a.tmps) = true)
    (hQ : ∀ c a w, Q (.panic c) (a.put oi.dst v) w → Q (.panic c) a w) (hy : ∀ w, True → (execOp a.eval oi).run P w = .ok (.value v) w)
    (h : Pend is (wpAnyU P md ops Q S ph fuel (listed.setIfInBounds i true) (a.put oi.dst v) w)) : Pend (i :: is) (wpAnyU P md ops Q S ph (fuel + 1) listed a w) := by
  unfold Region.mayl at hc
  rw [Bool.and_eq_true, Bool.and_eq_true, Bool.and_eq_true] at hc
  exact wpAnyU_take' (pick_op hi) hc.1.1.1 hc.1.1.2 hc.1.2 hc.2 hQ (.inl ⟨hw, hy⟩) h
theorem sk (hi : (ops.toList.drop i).head? = some oi) (hc : Region.may md ops ph listed i = true) (hw : Region.wanted oi (yielded ops a.tmps) = false)
    (hQ : ∀ c a w, Q (.panic c) (a.put oi.dst undef) w → Q (.panic c) a w) (hS : S w)
    (h : Pend is (wpAnyU P md ops Q S ph fuel (listed.setIfInBounds i true) (a.put oi.dst undef) w)) : Pend (i :: is) (wpAnyU P md ops Q S ph (fuel + 1) listed a w) := by
  unfold Region.may at hc
  rw [Bool.and_eq_true, Bool.and_eq_true, Bool.and_eq_true] at hc
  exact wpAnyU_take (pick_op hi) hc.1.1.1 hc.1.1.2 hc.1.2 hc.2 hQ (.inr ⟨hw, rfl⟩) hS h
theorem skl (hi : (ops.toList.drop i).head? = some oi) (hc : Region.mayl md ops ph listed i = true) (hw : Region.wanted oi (yielded ops a.tmps) = false)
    (hQ : ∀ c a w, Q (.panic c) (a.put oi.dst undef) w → Q (.panic c) a w)
    (h : Pend is (wpAnyU P md ops Q S ph fuel (listed.setIfInBounds i true) (a.put oi.dst undef) w)) : Pend (i :: is) (wpAnyU P md ops Q S ph (fuel + 1) listed a w) := by
  unfold Region.mayl at hc
  rw [Bool.and_eq_true, Bool.and_eq_true, Bool.and_eq_true] at hc
  exact wpAnyU_take' (pick_op hi) hc.1.1.1 hc.1.1.2 hc.1.2 hc.2 hQ (.inr ⟨hw, rfl⟩) h
/-- One operation alone, or two, may come up. -/
theorem one (i : Nat) {o : Oper} (hr : Region.ready md ops listed = [i]) (ho : (ops.toList.drop i).head? = some o)
    (h : ∀ K' : Act → World → Prop, Shut (∀ a w, (ph i = true → S w) → ((ph i = true → S w) → wpAnyU P md ops Q S ph fuel (listed.setIfInBounds i true) a w) → K' a w) →
      if Region.wanted o (yielded ops a.tmps) = true then Oper.wp P o a w K' Q else K' (a.put o.dst undef) w) : wpAnyU P md ops Q S ph (fuel + 1) listed a w := wpAnyU_one hr (pick_op ho) h
theorem two (i j : Nat) {o p : Oper} (hr : Region.ready md ops listed = [i, j]) (ho : (ops.toList.drop i).head? = some o) (hp : (ops.toList.drop j).head? = some p)
    (h1 : ∀ K' : Act → World → Prop, Shut (∀ a w, (ph i = true → S w) → ((ph i = true → S w) → wpAnyU P md ops Q S ph fuel (listed.setIfInBounds i true) a w) → K' a w) →
      if Region.wanted o (yielded ops a.tmps) = true then Oper.wp P o a w K' Q else K' (a.put o.dst undef) w)
    (h2 : ∀ K' : Act → World → Prop, Shut (∀ a w, (ph j = true → S w) → ((ph j = true → S w) → wpAnyU P md ops Q S ph fuel (listed.setIfInBounds j true) a w) → K' a w) →
      if Region.wanted p (yielded ops a.tmps) = true then Oper.wp P p a w K' Q else K' (a.put p.dst undef) w) : wpAnyU P md ops Q S ph (fuel + 1) listed a w := wpAnyU_two hr (pick_op ho) (pick_op hp) h1 h2
end
theorem wp_region_U {id : Nat} {a : Act} {w : World} (S : World → Prop) (ph : Nat → Bool) (hm : P.follows .mixedOrders = true) (hS : S w.drew)
    (h : S w.drew → wpAnyU P .any ops Q S ph ops.size (Array.replicate ops.size false) a w.drew) : (Code.region id ops true).wp P Q a w :=
  wp_region_any hm (wpAny_of_U _ _ _ _ (h hS))
end
end Go.Proofs.Ytkiofaojokofbaa
namespace Go.Proofs.Ytkiofaojokofbaa
open Go.RowKit
/-- A name's bytes. -/
def nm (s : ByteArray) : List UInt8 := s.data.toList
theorem nm_eq (s : ByteArray) : s.toList = nm s := ByteArray.toList_eq s
namespace Arith
def known (s : ByteArray) (m : Int) : Bool :=
  if nm s == [45] then m == 1 || m == 2
  else if nm s == [43] || nm s == [42] || nm s == [47, 47] || nm s == [109, 111, 100] then m == 2
  else if nm s == [97, 98, 115] then m == 1
  else false
def fit (n : Int) : Except Int Int := if -9223372036854775808 ≤ n ∧ n ≤ 9223372036854775807 then .ok n else .error 10
def plus (a b : Int) : Except Int Int := fit (a + b)
def minus (a : Int) : Except Int Int := fit (-a)
def times (a b : Int) : Except Int Int := fit (a * b)
def over (a b : Int) : Except Int Int := if b = 0 then .error 10 else fit (a.tdiv b)
def rem (a b : Int) : Int := if (a.tmod b != 0) && (decide (a.tmod b < 0) != decide (b < 0)) then a.tmod b + b else a.tmod b
def mod (a b : Int) : Except Int Int := if b = 0 then .error 10 else .ok (rem a b)
theorem tdiv_range {a b : Int} (h1 : -9223372036854775808 ≤ a) (h2 : a ≤ 9223372036854775807) (hb : b ≠ 0) (hm : ¬ (a = -9223372036854775808 ∧ b = -1)) :
    -9223372036854775808 ≤ a.tdiv b ∧ a.tdiv b ≤ 9223372036854775807 := by
  have h3 : (a.tdiv b).natAbs = a.natAbs / b.natAbs := Int.natAbs_tdiv a b
  have h4 : a.natAbs / b.natAbs ≤ a.natAbs := Nat.div_le_self _ _
  by_cases h5 : a = -9223372036854775808
  · by_cases h6 : b = 1
    · subst h6; rw [Int.tdiv_one]; omega
    · have h7 : 2 ≤ b.natAbs := by omega
      have h8 : a.natAbs / b.natAbs ≤ a.natAbs / 2 := Nat.div_le_div_left h7 (by omega)
      omega
  · omega
theorem tmod_range {a b : Int} (hb : b ≠ 0) : -(b.natAbs : Int) < a.tmod b ∧ a.tmod b < b.natAbs := by
  have h1 : (a.tmod b).natAbs = a.natAbs % b.natAbs := Int.natAbs_tmod a b
  have h2 : a.natAbs % b.natAbs < b.natAbs := Nat.mod_lt _ (by omega)
  omega
theorem rem_neg_one (a : Int) : rem a (-1) = 0 := by simp [rem, Int.tmod_neg, Int.tmod_one]
theorem mul_abs (a b : Int) : a * b = if (decide (a < 0) != decide (b < 0)) then -((a.natAbs * b.natAbs : Nat) : Int) else ((a.natAbs * b.natAbs : Nat) : Int) := by
  rcases Int.natAbs_eq a with ha | ha <;> rcases Int.natAbs_eq b with hb | hb
  all_goals
    generalize a.natAbs = x at *
    generalize b.natAbs = y at *
    subst ha hb
    simp only [Int.natCast_mul]
    split
    all_goals
      rename_i h
      simp only [bne_iff_ne, ne_eq, decide_eq_decide] at h
      first
        | (simp [Int.neg_mul, Int.mul_neg]; done)
        | (have hx : x = 0 ∨ y = 0 := by omega
           rcases hx with rfl | rfl <;> simp)
theorem times_err {a b : Int} {hi lo : Nat} (h : a.natAbs * b.natAbs = hi * 18446744073709551616 + lo)
    (e : hi ≠ 0 ∨ 9223372036854775808 < lo ∨ (lo = 9223372036854775808 ∧ (decide (a < 0) != decide (b < 0)) = false)) : times a b = .error 10 := by
  unfold times fit
  rw [if_neg]
  rw [mul_abs, h]
  cases hs : (decide (a < 0) != decide (b < 0))
  · simp only [Bool.false_eq_true, if_false]; omega
  · simp only [if_true]
    rcases e with e | e | e
    · omega
    · omega
    · rw [hs] at e; exact absurd e.2 (by decide)
theorem times_neg {a b : Int} {hi lo : Nat} (h : a.natAbs * b.natAbs = hi * 18446744073709551616 + lo) (h1 : hi = 0) (h2 : lo ≤ 9223372036854775808) (hs : (decide (a < 0) != decide (b < 0)) = true) : times a b = .ok (-lo) := by
  unfold times fit
  have : a * b = -lo := by rw [mul_abs, h, hs]; simp only [if_true]; omega
  rw [this, if_pos (by omega)]
theorem times_pos {a b : Int} {hi lo : Nat} (h : a.natAbs * b.natAbs = hi * 18446744073709551616 + lo) (h1 : hi = 0) (h2 : lo < 9223372036854775808) (hs : (decide (a < 0) != decide (b < 0)) = false) : times a b = .ok lo := by
  unfold times fit
  have : a * b = lo := by rw [mul_abs, h, hs]; simp only [Bool.false_eq_true, if_false]; omega
  rw [this, if_pos (by omega)]
end Arith
end Go.Proofs.Ytkiofaojokofbaa
namespace Go.Proofs.Ytkiofaojokofbaa
open Go.RowKit

def pan (c : Int) : List PanicEntry := [{ v := .iface 29 (.int .i64 c), recovered := false }]
def ending : Except Int Int → Ending
  | .ok n => .returned (.int .i64 n)
  | .error c => .panicked (pan c)

theorem end_ok {n m : Int} (h1 : -9223372036854775808 ≤ n) (h2 : n ≤ 9223372036854775807) (h : m = n) : Ending.returned (.int .i64 m) = ending (Arith.fit n) := by
  rw [Arith.fit, if_pos ⟨h1, h2⟩, h]; rfl
theorem end_err {n : Int} (h : n < -9223372036854775808 ∨ 9223372036854775807 < n) : Ending.panicked (pan 10) = ending (Arith.fit n) := by
  rw [Arith.fit, if_neg (by omega)]; rfl

theorem arith_known (s : ByteArray) (m : Int) (w : World) :
    Calls Try.prog 78 #[.string s, .int .i64 m] w fun e w' => e = .returned (.bool (Arith.known s m)) ∧ w = w' := by
  have H : Hid (∀ b, Arith.known s m = b ↔ Arith.known s m = b) := fun _ => Iff.rfl
  clear H
  generalize hb : Arith.known s m = b
  have HB := Lib.hid hb
  clear hb
  go_enter Try.func78, Try.ntmps78
  go_wp2
  all_goals
    go_ret
    refine ⟨ret_bool ?_, rfl⟩
    rw [← HB.out]
    clear HB
    simp only [nm_eq] at *
    simp_all [Arith.known]

theorem wrap64_over {n : Int} (h1 : 9223372036854775807 < n) (h2 : n ≤ 18446744073709551614) : wrap64 n < 0 := by unfold wrap64; omega
theorem wrap64_under {n : Int} (h1 : n < -9223372036854775808) (h2 : -18446744073709551616 ≤ n) : 0 ≤ wrap64 n := by unfold wrap64; omega

theorem arith_plus (a b : Int) (w : World) (ha : I64 a) (hb : I64 b) :
    Calls Try.prog 89 #[.int .i64 a, .int .i64 b] w fun e w' => e = ending (Arith.plus a b) ∧ w = w' := by
  obtain ⟨a1, a2⟩ := ha
  obtain ⟨b1, b2⟩ := hb
  by_cases hhi : 9223372036854775807 < a + b
  · have ha0 : 0 ≤ a := by omega
    have hb0 : 0 ≤ b := by omega
    have hw := wrap64_over hhi (by omega)
    have HE : Hid (Ending.panicked (pan 10) = ending (Arith.plus a b)) := end_err (.inr hhi)
    have d1 : decide (0 ≤ a) = true := decide_eq_true ha0
    have d2 : decide (0 ≤ b) = true := decide_eq_true hb0
    have d3 : decide (0 ≤ wrap64 (a + b)) = false := decide_eq_false (by omega)
    clear hhi
    go_enter Try.func89, Try.ntmps89
    go_wp2
    exact ⟨rfl, HE.out, rfl⟩
  · by_cases hlo : a + b < -9223372036854775808
    · have ha0 : a < 0 := by omega
      have hb0 : b < 0 := by omega
      have hw := wrap64_under hlo (by omega)
      have HE : Hid (Ending.panicked (pan 10) = ending (Arith.plus a b)) := end_err (.inl hlo)
      have d1 : decide (0 ≤ a) = false := decide_eq_false (by omega)
      have d2 : decide (0 ≤ b) = false := decide_eq_false (by omega)
      have d3 : decide (0 ≤ wrap64 (a + b)) = true := decide_eq_true hw
      clear hlo hhi
      go_enter Try.func89, Try.ntmps89
      go_wp2
      exact ⟨rfl, HE.out, rfl⟩
    · have h1 : -9223372036854775808 ≤ a + b := by omega
      have h2 : a + b ≤ 9223372036854775807 := by omega
      clear hlo hhi
      cases d1 : decide (0 ≤ a) <;> cases d2 : decide (0 ≤ b) <;> cases d3 : decide (0 ≤ a + b)
      all_goals
        try (exfalso; simp only [decide_eq_true_eq, decide_eq_false_iff_not] at d1 d2 d3; omega)
      all_goals
        go_enter Try.func89, Try.ntmps89
        go_wp2
        go_ret
        exact ⟨end_ok h1 h2 rfl, rfl⟩

theorem arith_minus (a : Int) (w : World) (ha : I64 a) :
    Calls Try.prog 80 #[.int .i64 a] w fun e w' => e = ending (Arith.minus a) ∧ w = w' := by
  obtain ⟨a1, a2⟩ := ha
  cases h : (a == -9223372036854775808)
  · have h1 : a ≠ -9223372036854775808 := by simpa using h
    have h2 : -9223372036854775807 ≤ a := by omega
    clear h1 a1
    go_enter Try.func80, Try.ntmps80
    go_wp2
    go_ret
    exact ⟨end_ok (by omega) (by omega) rfl, rfl⟩
  · have HE : Hid (Ending.panicked (pan 10) = ending (Arith.minus a)) := end_err (.inr (by rw [beq_iff_eq] at h; omega))
    go_enter Try.func80, Try.ntmps80
    go_wp2
    exact ⟨rfl, HE.out, rfl⟩

theorem wrap_u64_neg {a : Int} (h1 : -9223372036854775808 ≤ a) (h2 : a < 0) : IntKind.u64.wrap (-IntKind.u64.wrap a) = (a.natAbs : Int) := by
  simp only [IntKind.wrap_u64]; omega
theorem wrap_u64_pos {a : Int} (h1 : 0 ≤ a) : (a.natAbs : Int) = a := by omega

theorem arith_size (a : Int) (w : World) (ha : I64 a) :
    Calls Try.prog 98 #[.int .i64 a] w fun e w' => e = .returned (.int .u64 a.natAbs) ∧ w = w' := by
  obtain ⟨a1, a2⟩ := ha
  by_cases h : a < 0
  · have HE := Lib.hid (wrap_u64_neg a1 h)
    go_enter Try.func98, Try.ntmps98
    go_wp2
    go_ret
    exact ⟨ret_int HE.out, rfl⟩
  · have h0 : 0 ≤ a := by omega
    have HE := Lib.hid (wrap_u64_pos h0)
    go_enter Try.func98, Try.ntmps98
    go_wp2
    go_ret
    exact ⟨ret_int HE.out.symm, rfl⟩

theorem arith_over (a b : Int) (w : World) (ha : I64 a) (hb : I64 b) :
    Calls Try.prog 91 #[.int .i64 a, .int .i64 b] w fun e w' => e = ending (Arith.over a b) ∧ w = w' := by
  obtain ⟨a1, a2⟩ := ha
  obtain ⟨b1, b2⟩ := hb
  cases h1 : (b == 0)
  · have hb0 : b ≠ 0 := by simpa using h1
    have HO : Hid (Arith.over a b = Arith.fit (a.tdiv b)) := if_neg hb0
    by_cases hm : a = -9223372036854775808 ∧ b = -1
    · obtain ⟨rfl, rfl⟩ := hm
      clear hb0 h1
      go_enter Try.func91, Try.ntmps91
      go_wp2
      exact ⟨rfl, by rw [HO.out]; rfl, rfl⟩
    · obtain ⟨r1, r2⟩ := Arith.tdiv_range a1 a2 hb0 hm
      have HM : Hid (¬ (a = -9223372036854775808 ∧ b = -1)) := hm
      clear hm
      cases h2 : (a == -9223372036854775808) <;> cases h3 : (b == -1)
      all_goals try (exfalso; rw [beq_iff_eq] at h2 h3; exact HM.out ⟨h2, h3⟩)
      all_goals
        go_enter Try.func91, Try.ntmps91
        go_wp2
        go_ret
        exact ⟨by rw [HO.out]; exact end_ok r1 r2 rfl, rfl⟩
  · have HO : Hid (Arith.over a b = .error 10) := if_pos (by simpa using h1)
    go_enter Try.func91, Try.ntmps91
    go_wp2
    exact ⟨rfl, by rw [HO.out]; rfl, rfl⟩

theorem arith_mod (a b : Int) (w : World) (ha : I64 a) (hb : I64 b) :
    Calls Try.prog 92 #[.int .i64 a, .int .i64 b] w fun e w' => e = ending (Arith.mod a b) ∧ w = w' := by
  obtain ⟨a1, a2⟩ := ha
  obtain ⟨b1, b2⟩ := hb
  cases h1 : (b == 0)
  · have hb0 : b ≠ 0 := by simpa using h1
    have HO : Hid (Arith.mod a b = .ok (Arith.rem a b)) := if_neg hb0
    cases h2 : (b == -1)
    · have HR : Hid (Arith.rem a b = if (a.tmod b != 0) && (decide (a.tmod b < 0) != decide (b < 0)) then a.tmod b + b else a.tmod b) := rfl
      obtain ⟨r1, r2⟩ := Arith.tmod_range (a := a) hb0
      have r3 : -9223372036854775808 ≤ a.tmod b := by omega
      have r4 : a.tmod b ≤ 9223372036854775807 := by omega
      clear r1 r2
      cases h3 : (a.tmod b != 0) <;> cases h4 : decide (a.tmod b < 0) <;> cases h5 : decide (b < 0)
      all_goals
        have g4 := h4
        have g5 := h5
        simp only [decide_eq_true_eq, decide_eq_false_iff_not] at g4 g5
        go_enter Try.func92, Try.ntmps92
        go_wp2
        go_ret
        exact ⟨by rw [HO.out, HR.out, h3, h4, h5]; rfl, rfl⟩
    · have HR : Hid (Arith.rem a b = 0) := by
        have : b = -1 := by simpa using h2
        subst this; exact Arith.rem_neg_one a
      clear hb0
      go_enter Try.func92, Try.ntmps92
      go_wp2
      go_ret
      exact ⟨by rw [HO.out, HR.out]; rfl, rfl⟩
  · have HO : Hid (Arith.mod a b = .error 10) := if_pos (by simpa using h1)
    go_enter Try.func92, Try.ntmps92
    go_wp2
    exact ⟨rfl, by rw [HO.out]; rfl, rfl⟩
end Go.Proofs.Ytkiofaojokofbaa
namespace Go.Proofs.Ytkiofaojokofbaa
open Go.RowKit

theorem wrap_neg_lo {lo : Nat} (h : lo ≤ 9223372036854775808) : wrap64 (IntKind.u64.wrap (-(lo : Int))) = -(lo : Int) := by
  simp only [IntKind.wrap_u64, wrap64]; omega
theorem wrap_lo {lo : Nat} (h : lo < 9223372036854775808) : wrap64 (lo : Int) = lo := by unfold wrap64; omega

set_option maxHeartbeats 1000000 in
theorem arith_times (a b : Int) (w : World) (ha : I64 a) (hb : I64 b) :
    Calls Try.prog 90 #[.int .i64 a, .int .i64 b] w fun e w' => e = ending (Arith.times a b) ∧ w = w' := by
  have hx : a.natAbs < 18446744073709551616 := by obtain ⟨a1, a2⟩ := ha; omega
  have hy : b.natAbs < 18446744073709551616 := by obtain ⟨b1, b2⟩ := hb; omega
  have HM := Lib.hid (fun w => Try.bits_Mul64 a.natAbs b.natAbs hx hy w)
  have hlo : a.natAbs * b.natAbs % 18446744073709551616 < 18446744073709551616 := Nat.mod_lt _ (by omega)
  have HE : Hid (a.natAbs * b.natAbs = (a.natAbs * b.natAbs / 18446744073709551616) * 18446744073709551616 + a.natAbs * b.natAbs % 18446744073709551616) := by
    show _ = _; omega
  generalize a.natAbs * b.natAbs / 18446744073709551616 = hi at *
  generalize a.natAbs * b.natAbs % 18446744073709551616 = lo at *
  have HLO : Hid (lo < 18446744073709551616) := hlo
  have hlo1 : 0 ≤ (lo : Int) := by omega
  clear hx hy hlo
  have HA := Lib.hid ha
  have HB := Lib.hid hb
  clear ha hb
  cases c1 : ((hi : Int) != 0) <;> cases c2 : decide ((9223372036854775808 : Int) < (lo : Int)) <;> cases c3 : ((lo : Int) == 9223372036854775808) <;> cases c4 : decide (a < 0) <;> cases c5 : decide (b < 0)
  all_goals try (exfalso; simp only [beq_iff_eq, decide_eq_true_eq] at c2 c3; omega)
  all_goals
    go_enter Try.func90, Try.ntmps90
    go_wp2_with (first
      | (go_at_call_of 98 (Value.int .i64 a); refine (arith_size a _ HA.out).mono ?_; rintro e w' ⟨rfl, rfl⟩)
      | (go_at_call_of 98 (Value.int .i64 b); refine (arith_size b _ HB.out).mono ?_; rintro e w' ⟨rfl, rfl⟩)
      | (go_at_call 97; refine (HM.out _).mono ?_; rintro e w' ⟨rfl, rfl⟩))
    first
      | (refine ⟨rfl, ?_, rfl⟩
         rw [Arith.times_err HE.out]
         · rfl
         · rw [c4, c5]
           simp only [bne_iff_ne, ne_eq, bne_eq_false_iff_eq, beq_iff_eq, beq_eq_false_iff_ne, decide_eq_true_eq, decide_eq_false_iff_not] at c1 c2 c3
           simp
           omega)
      | (go_ret
         refine ⟨?_, rfl⟩
         have g2 : lo < 9223372036854775808 := by
           have := HLO.out
           simp only [beq_eq_false_iff_ne, ne_eq, decide_eq_false_iff_not] at c2 c3
           omega
         rw [Arith.times_pos HE.out (by simpa using c1) g2 (by rw [c4, c5]; rfl)]
         exact ret_int (wrap_lo g2))
      | (go_ret
         refine ⟨?_, rfl⟩
         have g2 : lo ≤ 9223372036854775808 := by
           simp only [decide_eq_false_iff_not] at c2
           omega
         rw [Arith.times_neg HE.out (by simpa using c1) g2 (by rw [c4, c5]; rfl)]
         exact ret_int (wrap_neg_lo g2))

def Arith.two (s : ByteArray) (a b : Int) : Except Int Int :=
  if nm s == [43] then Arith.plus a b
  else if nm s == [45] then Arith.fit (a - b)
  else if nm s == [42] then Arith.times a b
  else if nm s == [47, 47] then Arith.over a b
  else Arith.mod a b

theorem Arith.fit_i64 {n m : Int} (h : Arith.fit n = .ok m) : m = n ∧ I64 m := by
  unfold Arith.fit at h
  split at h
  · rename_i hr
    simp only [Except.ok.injEq] at h
    subst h; exact ⟨rfl, hr⟩
  · cases h

theorem Arith.two_i64 {s : ByteArray} {a b m : Int} (hb : I64 b) (h : Arith.two s a b = .ok m) : I64 m := by
  unfold Arith.two at h
  split at h
  · exact (Arith.fit_i64 h).2
  split at h
  · exact (Arith.fit_i64 h).2
  split at h
  · exact (Arith.fit_i64 h).2
  split at h
  · unfold Arith.over at h
    split at h
    · cases h
    · exact (Arith.fit_i64 h).2
  · unfold Arith.mod at h
    split at h
    · cases h
    · rename_i hb0
      simp only [Except.ok.injEq] at h
      subst h
      obtain ⟨r1, r2⟩ := Arith.tmod_range (a := a) hb0
      obtain ⟨b1, b2⟩ := hb
      unfold Arith.rem
      split
      · rename_i hc
        simp only [Bool.and_eq_true, bne_iff_ne, ne_eq, decide_eq_decide] at hc
        unfold I64; omega
      · unfold I64; omega

theorem arith_two (s : ByteArray) (a b : Int) (w : World) (ha : I64 a) (hb : I64 b) :
    Calls Try.prog 79 #[.string s, .int .i64 a, .int .i64 b] w fun e w' => e = ending (Arith.two s a b) ∧ w = w' := by
  have HA := Lib.hid ha
  have HB := Lib.hid hb
  have HS : Hid (Arith.two s a b = if nm s == [43] then Arith.plus a b else if nm s == [45] then Arith.fit (a - b) else if nm s == [42] then Arith.times a b else if nm s == [47, 47] then Arith.over a b else Arith.mod a b) := rfl
  obtain ⟨b1, b2⟩ := hb
  clear ha
  cases s1 : (s.toList == [43])
  · cases s2 : (s.toList == [45])
    · cases s3 : (s.toList == [42])
      · cases s4 : (s.toList == [47, 47])
        · have HS2 : Hid (Arith.two s a b = Arith.mod a b) := by
            show _ = _
            rw [HS.out, ← nm_eq, s1, s2, s3, s4]; rfl
          go_enter Try.func79, Try.ntmps79
          go_wp2_with ((go_at_call 92; refine (arith_mod a b _ HA.out HB.out).mono ?_; rintro e w' ⟨rfl, rfl⟩; generalize hr : Arith.mod a b = r; have HR := Lib.hid hr; clear hr; cases r <;> simp only [ending]))
          · exact ⟨rfl, by rw [HS2.out, HR.out]; rfl, rfl⟩
          · go_ret
            exact ⟨by rw [HS2.out, HR.out]; rfl, rfl⟩
        · have HS2 : Hid (Arith.two s a b = Arith.over a b) := by
            show _ = _
            rw [HS.out, ← nm_eq, s1, s2, s3, s4]; rfl
          go_enter Try.func79, Try.ntmps79
          go_wp2_with ((go_at_call 91; refine (arith_over a b _ HA.out HB.out).mono ?_; rintro e w' ⟨rfl, rfl⟩; generalize hr : Arith.over a b = r; have HR := Lib.hid hr; clear hr; cases r <;> simp only [ending]))
          · exact ⟨rfl, by rw [HS2.out, HR.out]; rfl, rfl⟩
          · go_ret
            exact ⟨by rw [HS2.out, HR.out]; rfl, rfl⟩
      · have HS2 : Hid (Arith.two s a b = Arith.times a b) := by
          show _ = _
          rw [HS.out, ← nm_eq, s1, s2, s3]; rfl
        go_enter Try.func79, Try.ntmps79
        go_wp2_with ((go_at_call 90; refine (arith_times a b _ HA.out HB.out).mono ?_; rintro e w' ⟨rfl, rfl⟩; generalize hr : Arith.times a b = r; have HR := Lib.hid hr; clear hr; cases r <;> simp only [ending]))
        · exact ⟨rfl, by rw [HS2.out, HR.out]; rfl, rfl⟩
        · go_ret
          exact ⟨by rw [HS2.out, HR.out]; rfl, rfl⟩
    · have HS2 : Hid (Arith.two s a b = Arith.fit (a - b)) := by
        show _ = _
        rw [HS.out, ← nm_eq, s1, s2]; rfl
      cases hm : (b == -9223372036854775808)
      · have b3 : -9223372036854775807 ≤ b := by
          have := beq_eq_false_iff_ne.1 hm; omega
        have HP : Hid (Arith.plus a (-b) = Arith.fit (a - b)) := by
          show Arith.fit (a + -b) = _
          rw [Int.sub_eq_add_neg]
        clear b1
        go_enter Try.func79, Try.ntmps79
        go_wp2_with ((go_at_call 89; refine (arith_plus a (-b) _ HA.out (by unfold I64; omega)).mono ?_; rintro e w' ⟨rfl, rfl⟩; generalize hr : Arith.plus a (-b) = r; have HR := Lib.hid hr; clear hr; cases r <;> simp only [ending]))
        · exact ⟨rfl, by rw [HS2.out.trans HP.out.symm, HR.out]; rfl, rfl⟩
        · go_ret
          exact ⟨by rw [HS2.out.trans HP.out.symm, HR.out]; rfl, rfl⟩
      · have hb' : b = -9223372036854775808 := beq_iff_eq.1 hm
        have HP : Hid (∀ x, Arith.plus a 1 = .ok x → I64 x ∧ Arith.plus x 9223372036854775807 = Arith.fit (a - b)) := by
          intro x hx
          obtain ⟨rfl, hx⟩ := Arith.fit_i64 hx
          refine ⟨hx, ?_⟩
          show Arith.fit _ = _
          rw [hb']; congr 1; omega
        have HQ : Hid (∀ x, Arith.plus a 1 = .error x → Arith.fit (a - b) = .error x) := by
          intro x hx
          have ha2 := HA.out
          unfold I64 at ha2
          unfold Arith.plus Arith.fit at hx
          split at hx
          · cases hx
          · simp only [Except.error.injEq] at hx
            subst hx
            exact if_neg (by omega)
        clear hb'
        generalize hr : Arith.plus a 1 = r at *
        have HR := Lib.hid hr
        clear hr
        go_enter Try.func79, Try.ntmps79
        go_wp2_with fail
        refine (arith_plus a 1 _ HA.out (by unfold I64; omega)).mono ?_
        rintro e w' ⟨rfl, rfl⟩
        rw [HR.out]
        cases r with
        | error c =>
          simp only [ending]
          exact ⟨rfl, by rw [HS2.out, HQ.out c rfl]; rfl, rfl⟩
        | ok x =>
          obtain ⟨hx, hp⟩ := HP.out x rfl
          simp only [ending]
          have HX := Lib.hid hx
          have HPP := Lib.hid hp
          clear hx hp
          go_wp2_with ((go_at_call 89; refine (arith_plus x 9223372036854775807 _ HX.out (by unfold I64; omega)).mono ?_; rintro e w' ⟨rfl, rfl⟩; generalize hr : Arith.plus x 9223372036854775807 = r; have HR := Lib.hid hr; clear hr; cases r <;> simp only [ending]))
          · exact ⟨rfl, by rw [HS2.out.trans HPP.out.symm, HR.out]; rfl, rfl⟩
          · go_ret
            exact ⟨by rw [HS2.out.trans HPP.out.symm, HR.out]; rfl, rfl⟩
  · have HS2 : Hid (Arith.two s a b = Arith.plus a b) := by
      show _ = _
      rw [HS.out, ← nm_eq, s1]; rfl
    go_enter Try.func79, Try.ntmps79
    go_wp2_with ((go_at_call 89; refine (arith_plus a b _ HA.out HB.out).mono ?_; rintro e w' ⟨rfl, rfl⟩; generalize hr : Arith.plus a b = r; have HR := Lib.hid hr; clear hr; cases r <;> simp only [ending]))
    · exact ⟨rfl, by rw [HS2.out, HR.out]; rfl, rfl⟩
    · go_ret
      exact ⟨by rw [HS2.out, HR.out]; rfl, rfl⟩
end Go.Proofs.Ytkiofaojokofbaa
