/- Walks: the reference's Ops, whatever is wrong. -/
import Derived.Test.YtiinmgccjlmoaaaRVD1
import Derived.Test.YtiinmgccjlmoaaaRVD2
import Derived.Test.YtiinmgccjlmoaaaRVD3
import Derived.Test.YtiinmgccjlmoaaaRVD4
import Derived.Test.YtiinmgccjlmoaaaRVD5
import Derived.Test.YtiinmgccjlmoaaaRVD6
namespace Go.Proofs.Ytiinmgccjlmoaaa
open Go.RowKit Go.Redl
set_option linter.unusedVariables false
set_option linter.unusedSimpArgs false

set_option maxRecDepth 100000 in
set_option maxHeartbeats 4000000 in
theorem rfixops0_c (s : SchemaD) (sv : Value) (n : NodeD) (v : Value) (p : List Int) (pa : Option Addr) (pc : Nat) (W : World) (hsw : s.wt ≤ 100000000) (hw : n.wt ≤ 100000000) (hs : SchemaV W W.heap.size s sv) (hv : NodeV W W.heap.size n v) (hp : RowA W W.heap.size 1 pa p.length pc (p.map (Value.int .i64))) (hpl : p.length ≤ 100000) (hc : ∀ k, atN n p = some k → leafOf k = false → (findN s k).1 = 0) :
    Calls Try.prog 9 #[sv, v, .slice pa p.length pc] W (OpsE W (fixN s n p)) := by
  have hv0 := hv; have hs0 := hs
  have hwt := atN_wt p n
  obtain ⟨R0, hR0⟩ : ∃ R0, R0 = fixN s n p := ⟨_, rfl⟩
  have hR1 : R0 = match atN n p with
    | none => ([], 5)
    | some k => if leafOf k then ([], 7) else if (findN s k).1 = 0 then ([], 14) else (fixL (ruleOf s (typeN k)) (kidsOf k) p (findN s k), 0) := by rw [hR0]; rfl
  rw [← hR0]
  obtain ⟨a, c, rcss, ea, ec, o0, o1, o2, o3, o4, o5, rfl, -, -, -, ho⟩ := hs0.open
  have hG := fun (w1 : World) (hb : Below W.heap.size W w1) => rget_c n p v pa pc w1 hw (hv.keep hb hb.size) (hp.keep hb hb.size)
  obtain ⟨lf, ps, t, ks⟩ := n
  obtain ⟨ap, cp, at_, ct, ak, ck, css, rfl, -, -, -, -⟩ := hv0.open
  generalize NodeD.mk lf ps t ks = n at hv hw hwt hR1 hG hc
  obtain ⟨w0, hw0⟩ : ∃ w0, w0 = (W.alloc (Obj.cells #[.slice a s.rules.length c, strV s.els.type, .int .i64 s.els.text.1, strV s.els.text.2, .int .i64 s.els.other.1, strV s.els.other.2, .slice ea s.els.kids.length ec, .int .i64 s.els.fill, strV s.els.fillT, .int .i64 o0, .int .i64 o1, .int .i64 o2, .int .i64 o3, .int .i64 o4, .int .i64 o5, .int .i64 s.cap] 30)).alloc (Obj.cells #[.bool lf, .slice ap ps.length cp, .slice at_ t.length ct, .slice ak ks.length ck] 35) := ⟨_, rfl⟩
  have hb0 : Below W.heap.size W w0 := by rw [hw0]; exact two_below _ _ _
  have hA : At w0 W.heap.size [.slice a s.rules.length c, strV s.els.type, .int .i64 s.els.text.1, strV s.els.text.2, .int .i64 s.els.other.1, strV s.els.other.2, .slice ea s.els.kids.length ec, .int .i64 s.els.fill, strV s.els.fillT, .int .i64 o0, .int .i64 o1, .int .i64 o2, .int .i64 o3, .int .i64 o4, .int .i64 o5, .int .i64 s.cap] 30 := by rw [hw0]; exact (At.fresh _ _ _).alloc _
  have hX : At w0 (W.heap.size + 1) [.bool lf, .slice ap ps.length cp, .slice at_ t.length ct, .slice ak ks.length ck] 35 := by rw [hw0]; exact At.second _ _ _ _
  have HSC := Lib.hid (fun (w1 : World) (hb : Below W.heap.size W w1) => hs.keep hb (Nat.le_refl _))
  have HPA := Lib.hid (fun (w1 : World) (hb : Below W.heap.size W w1) => hp.keep hb hb.size)
  have HG := Lib.hid (hG w0 hb0)
  have Hw0 := Lib.hid hw0; have Hb0 := Lib.hid hb0; have HA := Lib.hid hA
  obtain ⟨⟨y0, y1, y2, y3⟩, -, yl⟩ := hX.f4
  clear hw0 hb0 hA hX hG hv hv0 hs hs0 hp hR0 ho
  cases hat : atN n p with
  | none =>
    rw [hat] at HG hR1
    have HR := Lib.hid (show R0 = ([], 5) from hR1)
    clear hR1 hat hwt hc
    go_enter Try.func9, Try.ntmps9
    go_upto_region 1 with fail
    rw [← Hw0.out]
    clear Hw0
    go_wp2_with fail
    refine HG.out.mono ?_
    rintro e w1 ⟨rfl, hbel⟩
    have Hb1 := Lib.hid (Hb0.out.trans (hbel.mono Hb0.out.size))
    clear hbel HG
    go_wp2_with fail
    go_ret2
    rw [HR.out]
    exact ⟨_, rfl, OpsV.nil _, Hb1.out.alloc Hb1.out.size _⟩
  | some k =>
    rw [hat] at HG hR1
    have hkw : k.wt ≤ 100000000 := Nat.le_trans (hwt k hat) hw
    have hc2 := hc k hat
    clear hw hwt hat hc
    obtain ⟨lk, pk, tk, kk⟩ := k
    cases lk with
    | true =>
      have HR := Lib.hid (show R0 = ([], 7) from hR1)
      clear hR1 hc2
      go_enter Try.func9, Try.ntmps9
      go_upto_region 1 with fail
      rw [← Hw0.out]
      clear Hw0
      go_wp2_with fail
      refine HG.out.mono ?_
      rintro e w1 ⟨cs, rfl, hq, hbel⟩
      obtain ⟨bp, dp, bt, dt, bk, dk, cqs, rfl, -, -, -, -, -⟩ : ∃ bp dp bt dt bk dk cqs, cs = [.bool true, .slice bp pk.length dp, .slice bt tk.length dt, .slice bk kk.length dk] ∧ RowQ w1 (fun b => w0.heap.size ≤ b) 2 bp pk.length dp (propCells pk) ∧ RowQ w1 (fun b => w0.heap.size ≤ b) 1 bt tk.length dt (tk.map (Value.int .i32)) ∧ (∀ z ∈ tk, (Lit.int .i32 z).wf = true) ∧ RowQ w1 (fun b => w0.heap.size ≤ b) 4 bk kk.length dk cqs ∧ KidsQ w1 (fun b => w0.heap.size ≤ b) kk cqs := by
        unfold NodeQ at hq; exact hq
      have Hb1 := Lib.hid (Hb0.out.trans (hbel.mono Hb0.out.size))
      clear hbel HG hq
      go_wp2_with fail
      go_ret2
      rw [HR.out]
      exact ⟨_, rfl, OpsV.nil _, Hb1.out.alloc Hb1.out.size _⟩
    | false =>
      have hx3 := hc2 rfl
      clear hc2
      have hR2 : R0 = if (findN s (.mk false pk tk kk)).1 = 0 then ([], 14) else (fixL (ruleOf s (typeN (.mk false pk tk kk))) kk p (findN s (.mk false pk tk kk)), 0) := hR1
      have hTy := fun (v : Value) (w1 : World) (hv : NodeV w1 w1.heap.size (.mk false pk tk kk) v) => rtype_c (.mk false pk tk kk) v w1 hkw hv
      have hRo := fun (w1 : World) (hb : Below W.heap.size W w1) => rruleOf_c s _ (typeN (.mk false pk tk kk)) W.heap.size w1 hb.size hsw (HSC.out w1 hb)
      have hFi := fun (v : Value) (w1 : World) (hb : Below W.heap.size W w1) (hv : NodeV w1 w1.heap.size (.mk false pk tk kk) v) => rfind_c s _ (.mk false pk tk kk) v w1 hsw hkw (SchemaV.keep (HSC.out w1 hb) (Below.refl _ _) hb.size) hv
      have hcs := find_cases s (.mk false pk tk kk)
      have hml := many_le (ruleOf s (typeN (.mk false pk tk kk))) kk
      have hkl : wtAll kk + 1 ≤ 100000000 := by simp only [NodeD.wt] at hkw; omega
      have hRk : (ruleOf s (typeN (.mk false pk tk kk))).kids.length ≤ 100000000 := by have := kids_wt (ruleOf s (typeN (.mk false pk tk kk))); have := ruleOf_wt s (typeN (.mk false pk tk kk)); omega
      simp only [kidsOf] at hcs
      generalize typeN (.mk false pk tk kk) = ty at hTy hRo hR2 hcs hml hRk
      generalize ruleOf s ty = R at hRo hR2 hcs hml hRk
      generalize findN s (.mk false pk tk kk) = F at hFi hR2 hcs hx3
      obtain ⟨f1, f2, f3⟩ := F
      simp only at hFi hR2 hx3
      have Hcs := Lib.hid hcs; have Hml := Lib.hid hml; have HTy := Lib.hid hTy; have HRo := Lib.hid hRo; have HFi := Lib.hid hFi; have HR2 := Lib.hid hR2; have Hx3 := Lib.hid hx3
      clear hx3
      clear hcs hml hTy hRo hFi hR2 hR1
      have hls := fun (w' : World) (h : At w' W.heap.size [.slice a s.rules.length c, strV s.els.type, .int .i64 s.els.text.1, strV s.els.text.2, .int .i64 s.els.other.1, strV s.els.other.2, .slice ea s.els.kids.length ec, .int .i64 s.els.fill, strV s.els.fillT, .int .i64 o0, .int .i64 o1, .int .i64 o2, .int .i64 o3, .int .i64 o4, .int .i64 o5, .int .i64 s.cap] 30) => At.load (P := Try.prog) h Try.underlying30 rfl (by kernel_rfl)
      simp [go_sem] at hls
      have Hls := Lib.hid hls
      clear hls
      go_enter Try.func9, Try.ntmps9
      go_upto_region 1 with fail
      rw [← Hw0.out]
      clear Hw0
      go_wp2_with fail
      refine HG.out.mono ?_
      rintro e w1 ⟨cs, rfl, hq, hbel⟩
      obtain ⟨bp, dp, bt, dt, bk, dk, cqs, rfl, hq1, hq2, hqf, hq3, hq4⟩ : ∃ bp dp bt dt bk dk cqs, cs = [.bool false, .slice bp pk.length dp, .slice bt tk.length dt, .slice bk kk.length dk] ∧ RowQ w1 (fun b => w0.heap.size ≤ b) 2 bp pk.length dp (propCells pk) ∧ RowQ w1 (fun b => w0.heap.size ≤ b) 1 bt tk.length dt (tk.map (Value.int .i32)) ∧ (∀ z ∈ tk, (Lit.int .i32 z).wf = true) ∧ RowQ w1 (fun b => w0.heap.size ≤ b) 4 bk kk.length dk cqs ∧ KidsQ w1 (fun b => w0.heap.size ≤ b) kk cqs := by
        have := hq; unfold NodeQ at this; exact this
      obtain ⟨w2, hw2⟩ : ∃ w2, w2 = w1.alloc (Obj.cells #[.bool false, .slice bp pk.length dp, .slice bt tk.length dt, .slice bk kk.length dk] 35) := ⟨_, rfl⟩
      have hb12 : Below w1.heap.size w1 w2 := by rw [hw2]; exact one_below _ _
      have hbw := hbel.trans (hb12.mono hbel.size)
      have hN2 : At w2 w1.heap.size [.bool false, .slice bp pk.length dp, .slice bt tk.length dt, .slice bk kk.length dk] 35 := by rw [hw2]; exact At.fresh _ _ _
      have HNV := Lib.hid (show NodeV w2 w2.heap.size (.mk false pk tk kk) (.agg #[.bool false, .slice bp pk.length dp, .slice bt tk.length dt, .slice bk kk.length dk]) from ⟨_, rfl, NodeQ.node _ _ (hq.since hb12)⟩)
      have HKr := Lib.hid ((hq3.since hb12).row); have HKk := Lib.hid (KidsQ.kids _ _ (KidsQ.keep hb12.size (fun b _ hlt => hb12.block b hlt) (fun _ h _ => h) _ _ hq4))
      have Hbw := Lib.hid (Hb0.out.trans (hbw.mono Hb0.out.size))
      have HA2 := Lib.hid (HA.out.kept hbw); have HN2 := Lib.hid hN2
      have HFi2 := Lib.hid (HFi.out _ w2 Hbw.out HNV.out)
      have hln := fun (w' : World) (h : At w' w1.heap.size [.bool false, .slice bp pk.length dp, .slice bt tk.length dt, .slice bk kk.length dk] 35) => At.load (P := Try.prog) h Try.underlying35 rfl (by kernel_rfl)
      simp [go_sem] at hln
      have Hln := Lib.hid hln
      have Hw2 := Lib.hid hw2
      obtain ⟨⟨n0, n1, n2, n3⟩, -, nl⟩ := hN2.f4
      have hls := Hls.out
      have hA2 := HA2.out
      clear hbel HG hq hq1 hq2 hqf hq3 hq4 hw2 hb12 hbw hN2 hln y0 y1 y2 y3 yl HA HFi
      go_upto_region 2 with fail
      rw [← Hw2.out]
      clear Hw2
      go_wp2_with fail
      refine HFi2.out.mono ?_
      rintro e w3 ⟨rfl, hbel⟩
      obtain ⟨w4, hw4⟩ : ∃ w4, w4 = w3.alloc (Obj.cells #[.int .i64 f1, .int .i64 f2, .int .i64 f3] 69) := ⟨_, rfl⟩
      have hb34 : Below w3.heap.size w3 w4 := by rw [hw4]; exact one_below _ _
      have hb24 := hbel.trans (hb34.mono hbel.size)
      have hF4 : At w4 w3.heap.size [.int .i64 f1, .int .i64 f2, .int .i64 f3] 69 := by rw [hw4]; exact At.fresh _ _ _
      have HF4 := Lib.hid hF4; have HA4 := Lib.hid (HA2.out.kept hb24); have HN4 := Lib.hid (HN2.out.kept hb24)
      have Hb4 := Lib.hid (Hbw.out.trans (hb24.mono Hbw.out.size))
      have Hb24 := Lib.hid hb24
      have HTy4 := Lib.hid (fun (w' : World) (hb : Below w4.heap.size w4 w') => HTy.out _ w' (HNV.out.keep (Hb24.out.trans (hb.mono Hb24.out.size)) (Hb24.out.trans (hb.mono Hb24.out.size)).size))
      have HRo4 := Lib.hid (fun (w' : World) (hb : Below w4.heap.size w4 w') => HRo.out w' (Hb4.out.trans (hb.mono Hb4.out.size)))
      have HKr4 := Lib.hid (HKr.out.keep hb24 hb24.size); have HKk4 := Lib.hid (KidsC.keep hb24 hb24.size _ _ HKk.out)
      have Hw4 := Lib.hid hw4
      obtain ⟨⟨g0, g1, g2⟩, -, gl⟩ := hF4.f3
      clear hbel hb34 hb24 hF4 hw4 hA2 hls n0 n1 n2 n3 nl HTy HRo HNV HKr HKk HA2 HN2 HFi2 HSC
      go_upto_region 7 with fail
      rw [← Hw4.out]
      clear Hw4
      rcases Hcs.out with hF | ⟨cn, j, -, h1, h6, -, hF, hjk, hj4, hj6⟩
      · obtain ⟨rfl, rfl, rfl⟩ : f1 = 0 ∧ f2 = 0 ∧ f3 = 0 := by simpa using hF
        have HR := Lib.hid (show R0 = ([], 14) from HR2.out)
        clear hF
        go_wp2_with fail
        go_ret2
        rw [HR.out]
        exact ⟨_, rfl, OpsV.nil _, Hb4.out⟩
      · obtain ⟨rfl, rfl, rfl⟩ : f1 = cn ∧ f2 = j ∧ f3 = manyN R kk cn := by simpa using hF
        have := Hx3.out
        omega

theorem rfixops_c (s : SchemaD) (sv : Value) (n : NodeD) (v : Value) (p : List Int) (pa : Option Addr) (pc : Nat) (W : World) (hsw : s.wt ≤ 100000000) (hw : n.wt ≤ 100000000) (hs : SchemaV W W.heap.size s sv) (hv : NodeV W W.heap.size n v) (hp : RowA W W.heap.size 1 pa p.length pc (p.map (Value.int .i64))) (hpl : p.length ≤ 100000) :
    Calls Try.prog 9 #[sv, v, .slice pa p.length pc] W (OpsE W (fixN s n p)) := by
  by_cases hc : ∀ k, atN n p = some k → leafOf k = false → (findN s k).1 = 0
  · exact rfixops0_c s sv n v p pa pc W hsw hw hs hv hp hpl hc
  · obtain ⟨k, hk0⟩ := Classical.not_forall.1 hc
    obtain ⟨hk, hk1⟩ := Classical.not_imp.1 hk0
    obtain ⟨hl, hne⟩ := Classical.not_imp.1 hk1
    rcases find_cases s k with hF | ⟨c, j, -, h1, h6, -, hF, -, -, -⟩
    · exact absurd (by rw [hF]) hne
    · have hex : ∀ c' : Nat, c = c' → ∃ k, atN n p = some k ∧ leafOf k = false ∧ (findN s k).1 = ((c' : Nat) : Int) := fun c' h => ⟨k, hk, hl, by rw [hF, h]⟩
      rcases (show c = 1 ∨ c = 2 ∨ c = 3 ∨ c = 4 ∨ c = 5 ∨ c = 6 by omega) with h | h | h | h | h | h
      · exact rfixops1_c s sv n v p pa pc W hsw hw hs hv hp hpl (hex 1 h)
      · exact rfixops2_c s sv n v p pa pc W hsw hw hs hv hp hpl (hex 2 h)
      · exact rfixops3_c s sv n v p pa pc W hsw hw hs hv hp hpl (hex 3 h)
      · exact rfixops4_c s sv n v p pa pc W hsw hw hs hv hp hpl (hex 4 h)
      · exact rfixops5_c s sv n v p pa pc W hsw hw hs hv hp hpl (hex 5 h)
      · exact rfixops6_c s sv n v p pa pc W hsw hw hs hv hp hpl (hex 6 h)

end Go.Proofs.Ytiinmgccjlmoaaa
