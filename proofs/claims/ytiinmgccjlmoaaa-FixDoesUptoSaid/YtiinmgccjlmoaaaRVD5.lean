/- Walk: the reference's Ops, where what is wrong is of class 5. -/
import Derived.Test.YtiinmgccjlmoaaaRVC
namespace Go.Proofs.Ytiinmgccjlmoaaa
open Go.RowKit Go.Redl
set_option linter.unusedVariables false
set_option linter.unusedSimpArgs false

set_option maxRecDepth 100000 in
set_option maxHeartbeats 4000000 in
theorem rfixops5_c (s : SchemaD) (sv : Value) (n : NodeD) (v : Value) (p : List Int) (pa : Option Addr) (pc : Nat) (W : World) (hsw : s.wt ≤ 100000000) (hw : n.wt ≤ 100000000) (hs : SchemaV W W.heap.size s sv) (hv : NodeV W W.heap.size n v) (hp : RowA W W.heap.size 1 pa p.length pc (p.map (Value.int .i64))) (hpl : p.length ≤ 100000) (hc : ∃ k, atN n p = some k ∧ leafOf k = false ∧ (findN s k).1 = ((5 : Nat) : Int)) :
    Calls Try.prog 9 #[sv, v, .slice pa p.length pc] W (OpsE W (fixN s n p)) := by
  have hv0 := hv; have hs0 := hs
  have hwt := atN_wt p n
  obtain ⟨R0, hR0⟩ : ∃ R0, R0 = fixN s n p := ⟨_, rfl⟩
  have hR1 : R0 = match atN n p with
    | none => ([], 5)
    | some k => if leafOf k then ([], 7) else if (findN s k).1 = 0 then ([], 14) else (fixL (ruleOf s (typeN k)) (kidsOf k) p (findN s k), 0) := by rw [hR0]; rfl
  rw [← hR0]
  obtain ⟨a, c, rcss, ea, ec, o0, o1, o2, o3, o4, o5, rfl, -, -, -, ho⟩ := hs0.open
  have hG := fun (w1 : World) (hb : Below W.heap.size W w1) => rget_c n p v pa pc w1 hw (hv.keep hb hb.size) (hp.keep hb hb.size)
  obtain ⟨lf, ps, t, ks⟩ := n
  obtain ⟨ap, cp, at_, ct, ak, ck, css, rfl, -, -, -, -⟩ := hv0.open
  generalize NodeD.mk lf ps t ks = n at hv hw hwt hR1 hG hc
  obtain ⟨w0, hw0⟩ : ∃ w0, w0 = (W.alloc (Obj.cells #[.slice a s.rules.length c, strV s.els.type, .int .i64 s.els.text.1, strV s.els.text.2, .int .i64 s.els.other.1, strV s.els.other.2, .slice ea s.els.kids.length ec, .int .i64 s.els.fill, strV s.els.fillT, .int .i64 o0, .int .i64 o1, .int .i64 o2, .int .i64 o3, .int .i64 o4, .int .i64 o5, .int .i64 s.cap] 30)).alloc (Obj.cells #[.bool lf, .slice ap ps.length cp, .slice at_ t.length ct, .slice ak ks.length ck] 35) := ⟨_, rfl⟩
  have hb0 : Below W.heap.size W w0 := by rw [hw0]; exact two_below _ _ _
  have hA : At w0 W.heap.size [.slice a s.rules.length c, strV s.els.type, .int .i64 s.els.text.1, strV s.els.text.2, .int .i64 s.els.other.1, strV s.els.other.2, .slice ea s.els.kids.length ec, .int .i64 s.els.fill, strV s.els.fillT, .int .i64 o0, .int .i64 o1, .int .i64 o2, .int .i64 o3, .int .i64 o4, .int .i64 o5, .int .i64 s.cap] 30 := by rw [hw0]; exact (At.fresh _ _ _).alloc _
  have hX : At w0 (W.heap.size + 1) [.bool lf, .slice ap ps.length cp, .slice at_ t.length ct, .slice ak ks.length ck] 35 := by rw [hw0]; exact At.second _ _ _ _
  have HSC := Lib.hid (fun (w1 : World) (hb : Below W.heap.size W w1) => hs.keep hb (Nat.le_refl _))
  have HPA := Lib.hid (fun (w1 : World) (hb : Below W.heap.size W w1) => hp.keep hb hb.size)
  have HG := Lib.hid (hG w0 hb0)
  have Hw0 := Lib.hid hw0; have Hb0 := Lib.hid hb0; have HA := Lib.hid hA
  obtain ⟨⟨y0, y1, y2, y3⟩, -, yl⟩ := hX.f4
  clear hw0 hb0 hA hX hG hv hv0 hs hs0 hp hR0 ho
  cases hat : atN n p with
  | none =>
    obtain ⟨k, hk, -⟩ := hc
    rw [hk] at hat; cases hat
  | some k =>
    rw [hat] at HG hR1
    have hkw : k.wt ≤ 100000000 := Nat.le_trans (hwt k hat) hw
    clear hw hwt
    obtain ⟨k', hx1, hx2, hx3⟩ := hc
    rw [hat] at hx1
    injection hx1 with hx1
    subst hx1
    clear hat
    obtain ⟨lk, pk, tk, kk⟩ := k
    have hlf : leafOf (.mk lk pk tk kk) = lk := rfl
    cases lk with
    | true => rw [hx2] at hlf; cases hlf
    | false =>
      have hR2 : R0 = if (findN s (.mk false pk tk kk)).1 = 0 then ([], 14) else (fixL (ruleOf s (typeN (.mk false pk tk kk))) kk p (findN s (.mk false pk tk kk)), 0) := hR1
      have hTy := fun (v : Value) (w1 : World) (hv : NodeV w1 w1.heap.size (.mk false pk tk kk) v) => rtype_c (.mk false pk tk kk) v w1 hkw hv
      have hRo := fun (w1 : World) (hb : Below W.heap.size W w1) => rruleOf_c s _ (typeN (.mk false pk tk kk)) W.heap.size w1 hb.size hsw (HSC.out w1 hb)
      have hFi := fun (v : Value) (w1 : World) (hb : Below W.heap.size W w1) (hv : NodeV w1 w1.heap.size (.mk false pk tk kk) v) => rfind_c s _ (.mk false pk tk kk) v w1 hsw hkw (SchemaV.keep (HSC.out w1 hb) (Below.refl _ _) hb.size) hv
      have hcs := find_cases s (.mk false pk tk kk)
      have hml := many_le (ruleOf s (typeN (.mk false pk tk kk))) kk
      have hkl : wtAll kk + 1 ≤ 100000000 := by simp only [NodeD.wt] at hkw; omega
      have hRk : (ruleOf s (typeN (.mk false pk tk kk))).kids.length ≤ 100000000 := by have := kids_wt (ruleOf s (typeN (.mk false pk tk kk))); have := ruleOf_wt s (typeN (.mk false pk tk kk)); omega
      simp only [kidsOf] at hcs
      generalize typeN (.mk false pk tk kk) = ty at hTy hRo hR2 hcs hml hRk
      generalize ruleOf s ty = R at hRo hR2 hcs hml hRk
      generalize findN s (.mk false pk tk kk) = F at hFi hR2 hcs hx3
      obtain ⟨f1, f2, f3⟩ := F
      simp only at hFi hR2 hx3
      have Hcs := Lib.hid hcs; have Hml := Lib.hid hml; have HTy := Lib.hid hTy; have HRo := Lib.hid hRo; have HFi := Lib.hid hFi; have HR2 := Lib.hid hR2; have Hx3 := Lib.hid hx3
      clear hx3
      clear hcs hml hTy hRo hFi hR2 hR1
      have hls := fun (w' : World) (h : At w' W.heap.size [.slice a s.rules.length c, strV s.els.type, .int .i64 s.els.text.1, strV s.els.text.2, .int .i64 s.els.other.1, strV s.els.other.2, .slice ea s.els.kids.length ec, .int .i64 s.els.fill, strV s.els.fillT, .int .i64 o0, .int .i64 o1, .int .i64 o2, .int .i64 o3, .int .i64 o4, .int .i64 o5, .int .i64 s.cap] 30) => At.load (P := Try.prog) h Try.underlying30 rfl (by kernel_rfl)
      simp [go_sem] at hls
      have Hls := Lib.hid hls
      clear hls
      go_enter Try.func9, Try.ntmps9
      go_upto_region 1 with fail
      rw [← Hw0.out]
      clear Hw0
      go_wp2_with fail
      refine HG.out.mono ?_
      rintro e w1 ⟨cs, rfl, hq, hbel⟩
      obtain ⟨bp, dp, bt, dt, bk, dk, cqs, rfl, hq1, hq2, hqf, hq3, hq4⟩ : ∃ bp dp bt dt bk dk cqs, cs = [.bool false, .slice bp pk.length dp, .slice bt tk.length dt, .slice bk kk.length dk] ∧ RowQ w1 (fun b => w0.heap.size ≤ b) 2 bp pk.length dp (propCells pk) ∧ RowQ w1 (fun b => w0.heap.size ≤ b) 1 bt tk.length dt (tk.map (Value.int .i32)) ∧ (∀ z ∈ tk, (Lit.int .i32 z).wf = true) ∧ RowQ w1 (fun b => w0.heap.size ≤ b) 4 bk kk.length dk cqs ∧ KidsQ w1 (fun b => w0.heap.size ≤ b) kk cqs := by
        have := hq; unfold NodeQ at this; exact this
      obtain ⟨w2, hw2⟩ : ∃ w2, w2 = w1.alloc (Obj.cells #[.bool false, .slice bp pk.length dp, .slice bt tk.length dt, .slice bk kk.length dk] 35) := ⟨_, rfl⟩
      have hb12 : Below w1.heap.size w1 w2 := by rw [hw2]; exact one_below _ _
      have hbw := hbel.trans (hb12.mono hbel.size)
      have hN2 : At w2 w1.heap.size [.bool false, .slice bp pk.length dp, .slice bt tk.length dt, .slice bk kk.length dk] 35 := by rw [hw2]; exact At.fresh _ _ _
      have HNV := Lib.hid (show NodeV w2 w2.heap.size (.mk false pk tk kk) (.agg #[.bool false, .slice bp pk.length dp, .slice bt tk.length dt, .slice bk kk.length dk]) from ⟨_, rfl, NodeQ.node _ _ (hq.since hb12)⟩)
      have HKr := Lib.hid ((hq3.since hb12).row); have HKk := Lib.hid (KidsQ.kids _ _ (KidsQ.keep hb12.size (fun b _ hlt => hb12.block b hlt) (fun _ h _ => h) _ _ hq4))
      have Hbw := Lib.hid (Hb0.out.trans (hbw.mono Hb0.out.size))
      have HA2 := Lib.hid (HA.out.kept hbw); have HN2 := Lib.hid hN2
      have HFi2 := Lib.hid (HFi.out _ w2 Hbw.out HNV.out)
      have hln := fun (w' : World) (h : At w' w1.heap.size [.bool false, .slice bp pk.length dp, .slice bt tk.length dt, .slice bk kk.length dk] 35) => At.load (P := Try.prog) h Try.underlying35 rfl (by kernel_rfl)
      simp [go_sem] at hln
      have Hln := Lib.hid hln
      have Hw2 := Lib.hid hw2
      obtain ⟨⟨n0, n1, n2, n3⟩, -, nl⟩ := hN2.f4
      have hls := Hls.out
      have hA2 := HA2.out
      clear hbel HG hq hq1 hq2 hqf hq3 hq4 hw2 hb12 hbw hN2 hln y0 y1 y2 y3 yl HA HFi
      go_upto_region 2 with fail
      rw [← Hw2.out]
      clear Hw2
      go_wp2_with fail
      refine HFi2.out.mono ?_
      rintro e w3 ⟨rfl, hbel⟩
      obtain ⟨w4, hw4⟩ : ∃ w4, w4 = w3.alloc (Obj.cells #[.int .i64 f1, .int .i64 f2, .int .i64 f3] 69) := ⟨_, rfl⟩
      have hb34 : Below w3.heap.size w3 w4 := by rw [hw4]; exact one_below _ _
      have hb24 := hbel.trans (hb34.mono hbel.size)
      have hF4 : At w4 w3.heap.size [.int .i64 f1, .int .i64 f2, .int .i64 f3] 69 := by rw [hw4]; exact At.fresh _ _ _
      have HF4 := Lib.hid hF4; have HA4 := Lib.hid (HA2.out.kept hb24); have HN4 := Lib.hid (HN2.out.kept hb24)
      have Hb4 := Lib.hid (Hbw.out.trans (hb24.mono Hbw.out.size))
      have Hb24 := Lib.hid hb24
      have HTy4 := Lib.hid (fun (w' : World) (hb : Below w4.heap.size w4 w') => HTy.out _ w' (HNV.out.keep (Hb24.out.trans (hb.mono Hb24.out.size)) (Hb24.out.trans (hb.mono Hb24.out.size)).size))
      have HRo4 := Lib.hid (fun (w' : World) (hb : Below w4.heap.size w4 w') => HRo.out w' (Hb4.out.trans (hb.mono Hb4.out.size)))
      have HKr4 := Lib.hid (HKr.out.keep hb24 hb24.size); have HKk4 := Lib.hid (KidsC.keep hb24 hb24.size _ _ HKk.out)
      have Hw4 := Lib.hid hw4
      obtain ⟨⟨g0, g1, g2⟩, -, gl⟩ := hF4.f3
      clear hbel hb34 hb24 hF4 hw4 hA2 hls n0 n1 n2 n3 nl HTy HRo HNV HKr HKk HA2 HN2 HFi2 HSC
      go_upto_region 7 with fail
      rw [← Hw4.out]
      clear Hw4
      rcases Hcs.out with hF | ⟨cn, j, -, h1, h6, -, hF, hjk, hj4, hj6⟩
      · obtain ⟨rfl, rfl, rfl⟩ : f1 = 0 ∧ f2 = 0 ∧ f3 = 0 := by simpa using hF
        have := Hx3.out
        omega
      · obtain ⟨rfl, rfl, rfl⟩ : f1 = cn ∧ f2 = j ∧ f3 = manyN R kk cn := by simpa using hF
        have Hcn := Lib.hid (show cn = 5 by have := Hx3.out; omega)
        clear Hx3
        have hml1 := Hml.out (cn : Int)
        have hkn : kk.length + 1 ≤ 100000000 := by have := wtAll_len kk; omega
        have hjn : j ≤ 100000000 := by
          by_cases h : cn = 6
          · have := hj6 h; omega
          · have := hjk h; omega
        have hmk : manyN R kk cn ≤ 100000000 := by omega
        have HR := Lib.hid (show R0 = (fixL R kk p ((cn : Int), (j : Int), (manyN R kk cn : Int)), 0) by
          rw [HR2.out, if_neg (show ¬ ((cn : Int) = 0) by omega)])
        have hne0 : ((cn : Int) == 0) = false := by simp; omega
        have Hjk := Lib.hid hjk; have Hj4 := Lib.hid hj4; have Hmany := Lib.hid (trivial)
        obtain ⟨mk, hmkd⟩ : ∃ mk, mk = manyN R kk cn := ⟨_, rfl⟩
        rw [← hmkd] at hmk hml1 HR g2 HF4 ⊢
        clear hF hjk hj4 hj6 Hcs Hml HR2 hmkd Hmany
        go_upto_region 9 with fail
        clear hne0 g0 g1 g2 gl
        go_cut [11] (fun q wx => ∃ (Mr : Nat) (ra : Option Addr) (rc : Nat), q = .pointer (some ⟨Mr, 0, none⟩) ∧ At wx Mr [strV R.type, .int .i64 R.text.1, strV R.text.2, .int .i64 R.other.1, strV R.other.2, .slice ra R.kids.length rc, .int .i64 R.fill, strV R.fillT] 27 ∧ RowA wx W.heap.size 3 ra R.kids.length rc (pairCells R.kids) ∧ w4.heap.size ≤ Mr ∧ Below w4.heap.size w4 wx)
        case first =>
          clear HKr4 HKk4 HPA Hjk Hj4 HR
          have hls := Hls.out
          have hln := Hln.out
          have HS0 := Lib.hid (fun (w' : World) (hb : Below w4.heap.size w4 w') => And.intro (HA4.out.kept hb) (HN4.out.kept hb))
          have hsW := Hb4.out.size
          go_region_held3 (fun w' => At w' W.heap.size [.slice a s.rules.length c, strV s.els.type, .int .i64 s.els.text.1, strV s.els.text.2, .int .i64 s.els.other.1, strV s.els.other.2, .slice ea s.els.kids.length ec, .int .i64 s.els.fill, strV s.els.fillT, .int .i64 o0, .int .i64 o1, .int .i64 o2, .int .i64 o3, .int .i64 o4, .int .i64 o5, .int .i64 s.cap] 30 ∧ At w' w1.heap.size [.bool false, .slice bp pk.length dp, .slice bt tk.length dt, .slice bk kk.length dk] 35) (refine HS0.out _ (by ((repeat (first | with_reducible exact Hb6.out | with_reducible exact Hb5.out | with_reducible exact Below.refl _ _ | with_reducible refine Below.drew ?_ | with_reducible refine Below.alloc ?_ ?_ _ | with_reducible refine Below.setCell ?_ ?_ _)) <;> (first | with_reducible exact Nat.le_refl _ | with_reducible exact Hb6.out.size | with_reducible exact Hb5.out.size | (have hsz := Hb6.out.size; simp [World.setCell]; omega) | (have hsz := Hb5.out.size; simp [World.setCell]; omega) | (simp; done) | (simp; omega) | omega))))
            (first
            | (refine step_call rfl 35 _ _ rfl rtype_ent [.agg #[.bool false, .slice bp pk.length dp, .slice bt tk.length dt, .slice bk kk.length dk]] ?_ _ (HTy4.out _ (by ((repeat (first | with_reducible exact Below.refl _ _ | with_reducible refine Below.drew ?_ | with_reducible refine Below.alloc ?_ ?_ _ | with_reducible refine Below.setCell ?_ ?_ _)) <;> (first | with_reducible exact Nat.le_refl _ | (simp; done) | (simp; omega) | omega)))) ?_
               · go_simp
               rintro e w5 ⟨rfl, hbel⟩
               refine ⟨_, rfl, ?_⟩
               have Hz5 := Lib.hid hbel.size
               have Hb5 := Lib.hid (Below.and (w0 := w4) (by ((repeat (first | with_reducible exact Below.refl _ _ | with_reducible refine Below.drew ?_ | with_reducible refine Below.alloc ?_ ?_ _ | with_reducible refine Below.setCell ?_ ?_ _)) <;> (first | with_reducible exact Nat.le_refl _ | (simp; done) | (simp; omega) | omega))) hbel)
               first
                 | (refine At.lay (N := ?_) (cs := [strV [], .int .i64 0, strV [], .int .i64 0, strV [], .slice none 0 0, .int .i64 0, strV []]) (T := 27) (At.kept ?_ hbel) ?_
                    rotate_left
                    · (repeat (first | with_reducible exact At.second _ _ _ _ | with_reducible exact At.fresh _ _ _ | with_reducible refine At.drew ?_ | with_reducible refine At.alloc ?_ _))
                    intro HM5)
                 | skip
               clear hbel)
            | (refine step_call rfl 34 _ _ rfl rruleOf_ent [.agg #[.slice a s.rules.length c, strV s.els.type, .int .i64 s.els.text.1, strV s.els.text.2, .int .i64 s.els.other.1, strV s.els.other.2, .slice ea s.els.kids.length ec, .int .i64 s.els.fill, strV s.els.fillT, .int .i64 o0, .int .i64 o1, .int .i64 o2, .int .i64 o3, .int .i64 o4, .int .i64 o5, .int .i64 s.cap], strV ty] ?_ _ (HRo4.out _ (by ((repeat (first | with_reducible exact Hb5.out | with_reducible exact Below.refl _ _ | with_reducible refine Below.drew ?_ | with_reducible refine Below.alloc ?_ ?_ _ | with_reducible refine Below.setCell ?_ ?_ _)) <;> (first | with_reducible exact Nat.le_refl _ | with_reducible exact Hb5.out.size | (have hsz := Hb5.out.size; simp [World.setCell]; omega) | (simp; done) | (simp; omega) | omega)))) ?_
               · go_simp
               rintro e w6 ⟨ra, rc, rfl, hrow, hbel⟩
               refine ⟨_, rfl, ?_⟩
               have Hz6 := Lib.hid hbel.size
               have Hb6 := Lib.hid (Below.and (w0 := w4) (by ((repeat (first | with_reducible exact Hb5.out | with_reducible exact Below.refl _ _ | with_reducible refine Below.drew ?_ | with_reducible refine Below.alloc ?_ ?_ _ | with_reducible refine Below.setCell ?_ ?_ _)) <;> (first | with_reducible exact Nat.le_refl _ | with_reducible exact Hb5.out.size | (have hsz := Hb5.out.size; simp [World.setCell]; omega) | (simp; done) | (simp; omega) | omega))) hbel)
               have Hrow := Lib.hid hrow
               first
                 | (refine At.lay (N := ?_) (cs := [strV [], .int .i64 0, strV [], .int .i64 0, strV [], .slice none 0 0, .int .i64 0, strV []]) (T := 27) (At.kept ?_ hbel) ?_
                    rotate_left
                    · (repeat (first | with_reducible exact HM5.out | with_reducible exact At.second _ _ _ _ | with_reducible exact At.fresh _ _ _ | with_reducible refine At.drew ?_ | with_reducible refine At.alloc ?_ _))
                    intro HM6)
                 | skip
               first
                 | (obtain ⟨⟨r0, r1, r2, r3, r4, r5, r6, r7⟩, rf, rl⟩ := HM6.out.f8)
                 | skip
               clear hbel hrow))
          all_goals
            clear hls hln
            go_wp2_with fail
            go_meet
            case rel =>
              have hz5 := Hz5.out; have hz6 := Hz6.out
              simp at hz5 hz6
              refine ⟨_, ra, rc, rfl, ?_, ?_, ?_, ?_⟩
              · (repeat (first | with_reducible exact HM6.out | with_reducible exact HM6.out.s8 _ _ _ _ _ _ _ _ | with_reducible exact (HM6.out.alloc _).s8 _ _ _ _ _ _ _ _ | with_reducible exact At.second _ _ _ _ | with_reducible exact At.fresh _ _ _ | (with_reducible refine At.fresh2 ?_; (simp [World.setCell]; done)) | with_reducible refine At.drew ?_ | with_reducible refine At.alloc ?_ _ | (with_reducible refine At.n8 ?_ ?_ _ _ _ _ _ _ _ _; rotate_left; (omega))))
              · exact Hrow.out.keep (by (repeat (first | with_reducible refine Below.alloc ?_ ?_ _ | with_reducible refine Below.setCell ?_ ?_ _ | with_reducible exact Below.refl _ _)) <;> (first | (have := Hb6.out.size; omega) | (simp; omega))) (Nat.le_refl _)
              · omega
              · ((repeat (first | with_reducible exact Hb6.out | with_reducible exact Below.refl _ _ | with_reducible refine Below.drew ?_ | with_reducible refine Below.alloc ?_ ?_ _ | with_reducible refine Below.setCell ?_ ?_ _)) <;> (first | with_reducible exact Nat.le_refl _ | with_reducible exact Hb6.out.size | (have hsz := Hb6.out.size; simp [World.setCell]; omega) | (simp; done) | (simp; omega) | omega))
        case rest =>
          obtain ⟨Mr, ra, rc, rfl, hR, hrow, hMr, hbc⟩ := hcut
          have hbW := Hb4.out.trans (hbc.mono Hb4.out.size)
          obtain ⟨zs, hzs⟩ : ∃ zs, zs = p ++ [(j : Int)] := ⟨_, rfl⟩
          have hb5 := one_below wc (Obj.cells #[.int .i64 (j : Int)] 3)
          have HW1 := Lib.hid (with_c p [(j : Int)] pa pc (some ⟨wc.heap.size, 0, none⟩) 1 (wc.alloc (Obj.cells #[.int .i64 (j : Int)] 3)) (HPA.out _ (hbW.trans (hb5.mono hbW.size))) (by
            have h := (rowq_at (ok := fun _ => True) (At.fresh wc [.int .i64 (j : Int)] 3) 1 1 rfl (by omega) (ints_one [(j : Int)]) trivial).row
            simpa using h) (by simp; omega))
          rw [← hzs] at HW1
          have HFc := Lib.hid (HF4.out.kept hbc); have HNc := Lib.hid (HN4.out.kept hbc); have HRc := Lib.hid hR
          have Hrow := Lib.hid hrow; have Hbc := Lib.hid hbW; have Hb45 := Lib.hid (hbc.trans (hb5.mono hbc.size))
          have Hb5 := Lib.hid hb5; have Hzs := Lib.hid hzs
          have hF := HFc.out
          obtain ⟨⟨g0, g1, g2⟩, -, gl⟩ := hF.f3
          clear hR hrow hbc hbW hzs hb5 hF HTy4 HRo4 Hls
          go_wp2_with fail
          refine HW1.out.mono ?_
          rintro e w6 ⟨za, zc, rfl, hz, hbel⟩
          have Hb6 := Lib.hid (Hb5.out.trans (hbel.mono Hb5.out.size))
          have HbW := Lib.hid (Hbc.out.trans (Hb6.out.mono Hbc.out.size))
          have Hz := Lib.hid hz.any
          have HF := Lib.hid (HFc.out.kept Hb6.out); have HN := Lib.hid (HNc.out.kept Hb6.out); have HR6 := Lib.hid (HRc.out.kept Hb6.out)
          have HKr := Lib.hid (HKr4.out.keep (Hb45.out.trans (hbel.mono Hb45.out.size)) (Hb45.out.trans (hbel.mono Hb45.out.size)).size)
          have HKk := Lib.hid (KidsC.keep (Hb45.out.trans (hbel.mono Hb45.out.size)) (Hb45.out.trans (hbel.mono Hb45.out.size)).size _ _ HKk4.out)
          have HP6 := Lib.hid (HPA.out w6 HbW.out)
          have Hrw := Lib.hid (Hrow.out.keep (B' := w6.heap.size) ((Hb6.out).mono Hbc.out.size) HbW.out.size)
          have HWt := Lib.hid (fun (q l : List Int) (qa : Option Addr) (qc : Nat) (la : Option Addr) (lc : Nat) (w : World) (h1 : RowA w w.heap.size 1 qa q.length qc (q.map (Value.int .i64))) (h2 : RowA w w.heap.size 1 la l.length lc (l.map (Value.int .i64))) (hn : q.length + l.length ≤ 1000000) => with_c q l qa qc la lc w h1 h2 hn)
          have hF := HF.out; have hN := HN.out
          clear hbel hz HW1 g0 g1 g2 gl HFc HNc HRc HF4 HN4 HA4 Hrow Hb24 Hb45 HKr4 HKk4 HPA
          obtain ⟨⟨g0, g1, g2⟩, -, gl⟩ := hF.f3
          obtain ⟨⟨n0, n1, n2, n3⟩, -, nl⟩ := hN.f4
          clear hF hN
          have hcn := Hcn.out
          subst hcn
          have hjl := Hjk.out (by omega)
          have hji : (j : Int) < kk.length := by omega
          have HL := Lib.hid (show fixL R kk p (((5 : Nat) : Int), (j : Int), (mk : Int)) = [⟨2, zs, [], 0, kidAt kk j, []⟩] by rw [Hzs.out]; simp [fixL])
          obtain ⟨kb, ko, a1, c1, a2, c2, a3, c3, rfl, hkb, hnv, -, q0, q1, q2, q3⟩ := kidO HKr.out HKk.out j hjl
          rw [kid_get hjl] at HL
          generalize kk[j] = q at hnv q0 q1 q2 q3 HL
          have Hq := Lib.hid (show NodeQ w6 (fun _ => True) q [.bool (leafOf q), .slice a1 (propsOf q).length c1, .slice a2 (textOf q).length c2, .slice a3 (kidsOf q).length c3] by
            obtain ⟨cs, h1, h2⟩ := hnv
            injection h1 with h1
            have h3 : cs = [.bool (leafOf q), .slice a1 (propsOf q).length c1, .slice a2 (textOf q).length c2, .slice a3 (kidsOf q).length c3] := by simpa using (congrArg Array.toList h1).symm
            rw [h3] at h2
            exact NodeC.any (Nat.le_refl _) h2)
          clear hnv
          go_wp2_with (at_builtin; refine wpList_push rfl _ _ rfl Try.underlying39 info_op 0 W.heap.size (.slice none 0 0) [] rfl (OpsO.nil _ _ _) ⟨2, zs, [], 0, q, []⟩ (opCells ⟨2, zs, [], 0, q, []⟩ za zc none 0 (.bool (leafOf q)) (.slice a1 (propsOf q).length c1) (.slice a2 (textOf q).length c2) (.slice a3 (kidsOf q).length c3) none 0) rfl rfl ?hq (by simp) HbW.out.size ?_)
          case hq => exact ⟨za, zc, none, 0, _, _, _, _, none, 0, rfl, Hz.out.imp (fun b _ => ⟨Nat.zero_le _, by simp [Value.ownBlock]⟩), RowQ.empty _ _ _, NodeQ.keep (Nat.le_refl _) (fun _ _ _ => rfl) (fun b _ _ => ⟨Nat.zero_le _, by simp [Value.ownBlock]⟩) _ _ Hq.out, RowQ.empty _ _ _⟩
          intro v' w8 hO8 hb8
          have HO8 := Lib.hid hO8; have Hb8 := Lib.hid hb8
          clear hO8 hb8
          go_wp2_with fail
          go_ret2
          rw [HR.out, HL.out]
          exact ⟨_, rfl, HO8.out.ops, HbW.out.trans Hb8.out⟩

end Go.Proofs.Ytiinmgccjlmoaaa
