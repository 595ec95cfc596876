/- Parts of the proof, one behind the other: RVA, ROD, RMA, ROE. -/
import Derived.Test.YtbommcakcmhalaaGreatDoorLM21
import Derived.Test.YtbommcakcmhalaaGreatDoorLM22
import Derived.Test.YtbommcakcmhalaaGreatDoorLM15
import Derived.Test.YtbommcakcmhalaaGreatDoorLM3
import Derived.Test.YtbommcakcmhalaaGreatDoorLM9
import Derived.Test.YtbommcakcmhalaaGreatDoorLM4
import Derived.Test.YtbommcakcmhalaaGreatDoorLM7
/- Walks: fix.Ops. -/
set_option linter.unusedVariables false
set_option linter.unusedSimpArgs false
set_option maxHeartbeats 4000000
set_option maxRecDepth 100000
namespace Go.Proofs.YtbommcakcmhalaaGreatDoor
open Go.RowKit Go.Redl
theorem find_ent : ∀ args w, (callFunc 17 args).run Tryz.prog w = .ok (.enter 17 args) w := by intro args w; kernel_rfl
theorem remove_ent : ∀ args w, (callFunc 58 args).run Tryz.prog w = .ok (.enter 58 args) w := by intro args w; kernel_rfl
theorem lift_ent : ∀ args w, (callFunc 59 args).run Tryz.prog w = .ok (.enter 59 args) w := by intro args w; kernel_rfl
theorem wrap_ent : ∀ args w, (callFunc 60 args).run Tryz.prog w = .ok (.enter 60 args) w := by intro args w; kernel_rfl
theorem fixmerge_ent : ∀ args w, (callFunc 61 args).run Tryz.prog w = .ok (.enter 61 args) w := by intro args w; kernel_rfl
theorem fixfill_ent : ∀ args w, (callFunc 62 args).run Tryz.prog w = .ok (.enter 62 args) w := by intro args w; kernel_rfl
/-- What Ops answers. -/
abbrev OpsE (W : World) (r : List OpD × Int) (e : Ending) (w' : World) : Prop := ∃ v, e = .returned (.tuple #[v, .int .i64 r.2]) /\ OpsV w' r.1 v /\ Below W.heap.size W w'
/-- What Ops answers; nothing of it lies in a block that was there. -/
abbrev OpsEF (W : World) (r : List OpD × Int) (e : Ending) (w' : World) : Prop := ∃ v, e = .returned (.tuple #[v, .int .i64 r.2]) /\ OpsF W.heap.size w' r.1 v /\ Below W.heap.size W w'
theorem findL_cases (r : RuleD) (ks : List NodeD) : ∀ cs : List Int, findL r ks cs = (0, 0, 0) ∨ ∃ c ∈ cs, 0 <= lookN r ks c /\ findL r ks cs = (c, lookN r ks c, (manyN r ks c : Int))
 | [] => .inl rfl
 | c :: cs => by
   by_cases h : 0 <= lookN r ks c
   . exact .inr ⟨c, by simp, h, by unfold findL; rw [if_pos h]⟩
   . rw [show findL r ks (c :: cs) = findL r ks cs by conv => lhs; unfold findL
                                                      rw [if_neg h]]
     rcases findL_cases r ks cs with h' | ⟨c', hc, h1, h2⟩
     . exact .inl h'
     . exact .inr ⟨c', by simp [hc], h1, h2⟩
/-- What is wrong, by cases: the class, the place, how many. -/
theorem find_cases (s : SchemaD) (n : NodeD) : findN s n = (0, 0, 0) ∨ ∃ (c j : Nat), leafOf n = false /\ 1 <= c /\ c <= 6 /\ lookN (ruleOf s (typeN n)) (kidsOf n) c = j /\ findN s n = ((c : Int), (j : Int), (manyN (ruleOf s (typeN n)) (kidsOf n) c : Int)) /\ (c ≠ 6 -> j < (kidsOf n).length) /\ (c = 4 -> 0 < j) /\ (c = 6 -> j = 0) := by
 unfold findN
 cases hl : leafOf n with
 | true => exact .inl (by simp)
 | false =>
   simp only [Bool.false_eq_true, if_false]
   rcases findL_cases (ruleOf s (typeN n)) (kidsOf n) s.order with h | ⟨c, -, h1, h2⟩
   . exact .inl h
   . have hr := lookN_range h1
     generalize ruleOf s (typeN n) = r at h1 h2 ⊢
     generalize kidsOf n = ks at h1 h2 ⊢
     refine .inr ⟨c.toNat, (lookN r ks c).toNat, trivial, by omega, by omega, ?_, ?_, fun h6 => ?_, fun h4 => ?_, fun h6 => ?_⟩
     . rw [show ((c.toNat : Nat) : Int) = c by omega]; omega
     . rw [h2, show ((c.toNat : Nat) : Int) = c by omega, show (((lookN r ks c).toNat : Nat) : Int) = lookN r ks c by omega]
     . unfold lookN at h1 ⊢
       rw [if_neg (by omega)] at h1 ⊢
       rcases idxP_cases (wrongB r ks c) ks.length with ⟨k, hk, -, -, he⟩ | ⟨-, he⟩
       . rw [he]; simpa using hk
       . rw [he] at h1; omega
     . obtain rfl : c = 4 := by omega
       rw [look_four] at h1 ⊢
       rcases idxP_cases (mergeB ks) ks.length with ⟨k, hk, hp, -, he⟩ | ⟨-, he⟩
       . rw [he]
         unfold mergeB at hp
         simp only [Bool.and_eq_true, decide_eq_true_eq] at hp
         simpa using hp.1
       . rw [he] at h1; omega
     . obtain rfl : c = 6 := by omega
       rw [look_last] at h1 ⊢
       split at h1
       . rename_i h; rw [if_pos h]; rfl
       . omega
theorem many_le (r : RuleD) (ks : List NodeD) (c : Int) : manyN r ks c <= ks.length + 1 := by
 unfold manyN
 split
 . unfold runA
   have := (List.takeWhile_sublist (fun a => decide (a = (actsOf r ks).getD (lookN r ks c).toNat (0, []))) (l := (actsOf r ks).drop ((lookN r ks c).toNat + 1))).length_le
   simp only [List.length_drop, List.length_map] at this
   omega
 . omega
theorem At.map {w w' : World} {N b : Nat} {cs : List Value} {T : TypeId} (h : At w N cs T) (ho : OnlyMap b w w') (hne : N ≠ b) : At w' N cs T := by
 unfold At; rw [ho.block N hne]; exact h
theorem fixopsF_c (s : SchemaD) (sv : Value) (n : NodeD) (v : Value) (p : List Int) (pa : Option Addr) (pc : Nat) (W : World) (hsw : s.wt <= 100000000) (hw : n.wt <= 100000000) (hs : SchemaV W W.heap.size s sv) (hv : NodeV W W.heap.size n v) (hp : RowA W W.heap.size 1 pa p.length pc (p.map (Value.int .i64))) (hpl : p.length <= 100000) :
 Calls Tryz.prog 13 #[sv, v, .slice pa p.length pc] W (OpsEF W (fixN s n p)) := by
 have hv0 := hv; have hs0 := hs
 have hwt := atN_wt p n
 obtain ⟨R0, hR0⟩ : ∃ R0, R0 = fixN s n p := ⟨_, rfl⟩
 have hR1 : R0 = match atN n p with
  | none => ([], 5)
  | some k => if leafOf k then ([], 7) else if (findN s k).1 = 0 then ([], 14) else (fixL (ruleOf s (typeN k)) (kidsOf k) p (findN s k), 0) := by rw [hR0]; rfl
 rw [<- hR0]
 obtain ⟨a, c, rcss, ea, ec, o0, o1, o2, o3, o4, o5, rfl, -, -, -, ho⟩ := hs0.open
 have hbs := two_below W (Obj.cells #[.slice a s.rules.length c, strV s.els.type, .int .i64 s.els.text.1, strV s.els.text.2, .int .i64 s.els.other.1, strV s.els.other.2, .slice ea s.els.kids.length ec, .int .i64 s.els.fill, strV s.els.fillT, .int .i64 o0, .int .i64 o1, .int .i64 o2, .int .i64 o3, .int .i64 o4, .int .i64 o5, .int .i64 s.cap] 30)
 have hG := fun (w1 : World) (hb : Below W.heap.size W w1) => get_c n p v pa pc w1 hw (hv.keep hb hb.size) (hp.keep hb hb.size)
 obtain ⟨lf, ps, t, ks⟩ := n
 obtain ⟨ap, cp, at_, ct, ak, ck, css, rfl, -, -, -, -⟩ := hv0.open
 generalize NodeD.mk lf ps t ks = n at hv hw hwt hR1 hG
 obtain ⟨w0, hw0⟩ : ∃ w0, w0 = (W.alloc (Obj.cells #[.slice a s.rules.length c, strV s.els.type, .int .i64 s.els.text.1, strV s.els.text.2, .int .i64 s.els.other.1, strV s.els.other.2, .slice ea s.els.kids.length ec, .int .i64 s.els.fill, strV s.els.fillT, .int .i64 o0, .int .i64 o1, .int .i64 o2, .int .i64 o3, .int .i64 o4, .int .i64 o5, .int .i64 s.cap] 30)).alloc (Obj.cells #[.bool lf, .slice ap ps.length cp, .slice at_ t.length ct, .slice ak ks.length ck] 35) := ⟨_, rfl⟩
 have hb0 : Below W.heap.size W w0 := by rw [hw0]; exact two_below _ _ _
 have hA : At w0 W.heap.size [.slice a s.rules.length c, strV s.els.type, .int .i64 s.els.text.1, strV s.els.text.2, .int .i64 s.els.other.1, strV s.els.other.2, .slice ea s.els.kids.length ec, .int .i64 s.els.fill, strV s.els.fillT, .int .i64 o0, .int .i64 o1, .int .i64 o2, .int .i64 o3, .int .i64 o4, .int .i64 o5, .int .i64 s.cap] 30 := by rw [hw0]; exact (At.fresh _ _ _).alloc _
 have hX : At w0 (W.heap.size + 1) [.bool lf, .slice ap ps.length cp, .slice at_ t.length ct, .slice ak ks.length ck] 35 := by rw [hw0]; exact At.second _ _ _ _
 have hSC := fun (w1 : World) (hb : Below w0.heap.size w0 w1) => hs.keep (hb0.trans (hb.mono hb0.size)) (hb0.trans (hb.mono hb0.size)).size
 have HSC := Lib.hid hSC
 have HPA := Lib.hid (fun (w1 : World) (hb : Below w0.heap.size w0 w1) => hp.keep (hb0.trans (hb.mono hb0.size)) (hb0.trans (hb.mono hb0.size)).size)
 have HG := Lib.hid (hG w0 hb0)
 have Hw0 := Lib.hid hw0; have Hb0 := Lib.hid hb0; have HA := Lib.hid hA
 obtain ⟨⟨y0, y1, y2, y3⟩, -, yl⟩ := hX.f4
 clear hw0 hb0 hA hX hSC hG hv hv0 hs hs0 hp hR0 ho hbs
 cases hat : atN n p with
 | none =>
   rw [hat] at HG hR1
   have HR := Lib.hid (show R0 = ([], 5) from hR1)
   clear hR1 hat hwt
   go_enter Tryz.func13, Tryz.ntmps13
   go_upto_region 1 with fail
   rw [<- Hw0.out]
   clear Hw0
   go_wp2_with fail
   refine HG.out.mono ?_
   rintro e w1 ⟨rfl, hbel⟩
   have Hb1 := Lib.hid (Hb0.out.trans (hbel.mono Hb0.out.size))
   clear hbel HG
   go_wp2_with fail
   go_ret2
   rw [HR.out]
   exact ⟨_, rfl, OpsF.nil _ _, Hb1.out.alloc Hb1.out.size _⟩
 | some k =>
   rw [hat] at HG hR1
   have hkw : k.wt <= 100000000 := Nat.le_trans (hwt k hat) hw
   clear hw hwt hat
   obtain ⟨lk, pk, tk, kk⟩ := k
   cases lk with
   | true =>
     have HR := Lib.hid (show R0 = ([], 7) from hR1)
     clear hR1
     go_enter Tryz.func13, Tryz.ntmps13
     go_upto_region 1 with fail
     rw [<- Hw0.out]
     clear Hw0
     go_wp2_with fail
     refine HG.out.mono ?_
     rintro e w1 ⟨cs, rfl, hq, hbel⟩
     obtain ⟨bp, dp, bt, dt, bk, dk, cqs, rfl, -, -, -, -, -⟩ : ∃ bp dp bt dt bk dk cqs, cs = [.bool true, .slice bp pk.length dp, .slice bt tk.length dt, .slice bk kk.length dk] /\ RowQ w1 (fun b => w0.heap.size <= b) 2 bp pk.length dp (propCells pk) /\ RowQ w1 (fun b => w0.heap.size <= b) 1 bt tk.length dt (tk.map (Value.int .i32)) /\ (∀ z ∈ tk, (Lit.int .i32 z).wf = true) /\ RowQ w1 (fun b => w0.heap.size <= b) 4 bk kk.length dk cqs /\ KidsQ w1 (fun b => w0.heap.size <= b) kk cqs := by
      unfold NodeQ at hq; exact hq
     have Hb1 := Lib.hid (Hb0.out.trans (hbel.mono Hb0.out.size))
     clear hbel HG hq
     go_wp2_with fail
     go_ret2
     rw [HR.out]
     exact ⟨_, rfl, OpsF.nil _ _, Hb1.out.alloc Hb1.out.size _⟩
   | false =>
     have hR2 : R0 = if (findN s (.mk false pk tk kk)).1 = 0 then ([], 14) else (fixL (ruleOf s (typeN (.mk false pk tk kk))) kk p (findN s (.mk false pk tk kk)), 0) := hR1
     have hTy := fun (v : Value) (w1 : World) (hv : NodeV w1 w1.heap.size (.mk false pk tk kk) v) => type_c (.mk false pk tk kk) v w1 hkw hv
     have hRo := fun (w1 : World) (hb : Below w0.heap.size w0 w1) => ruleOf_c s _ (typeN (.mk false pk tk kk)) w1 hsw (HSC.out w1 hb)
     have hFi := fun (v : Value) (w1 : World) (hb : Below w0.heap.size w0 w1) (hv : NodeV w1 w1.heap.size (.mk false pk tk kk) v) => find_c s _ (.mk false pk tk kk) v w1 hsw hkw (HSC.out w1 hb) hv
     have hcs := find_cases s (.mk false pk tk kk)
     have hml := many_le (ruleOf s (typeN (.mk false pk tk kk))) kk
     have hkl : wtAll kk <= 100000000 := by simp only [NodeD.wt] at hkw; omega
     have hRk : (ruleOf s (typeN (.mk false pk tk kk))).kids.length <= 100000000 := by have := kids_wt (ruleOf s (typeN (.mk false pk tk kk))); have := ruleOf_wt s (typeN (.mk false pk tk kk)); omega
     simp only [kidsOf] at hcs
     generalize typeN (.mk false pk tk kk) = ty at hTy hRo hR2 hcs hml hRk
     generalize ruleOf s ty = R at hRo hR2 hcs hml hRk
     generalize findN s (.mk false pk tk kk) = F at hFi hR2 hcs
     obtain ⟨f1, f2, f3⟩ := F
     simp only at hFi hR2
     have Hcs := Lib.hid hcs; have Hml := Lib.hid hml; have HTy := Lib.hid hTy; have HRo := Lib.hid hRo; have HFi := Lib.hid hFi; have HR2 := Lib.hid hR2
     clear hcs hml hTy hRo hFi hR2 hR1
     have hls := fun (w' : World) (h : At w' W.heap.size [.slice a s.rules.length c, strV s.els.type, .int .i64 s.els.text.1, strV s.els.text.2, .int .i64 s.els.other.1, strV s.els.other.2, .slice ea s.els.kids.length ec, .int .i64 s.els.fill, strV s.els.fillT, .int .i64 o0, .int .i64 o1, .int .i64 o2, .int .i64 o3, .int .i64 o4, .int .i64 o5, .int .i64 s.cap] 30) => At.load (P := Tryz.prog) h Tryz.underlying30 rfl (by kernel_rfl)
     simp [go_sem] at hls
     have Hls := Lib.hid hls
     clear hls
     go_enter Tryz.func13, Tryz.ntmps13
     go_upto_region 1 with fail
     rw [<- Hw0.out]
     clear Hw0
     go_wp2_with fail
     refine HG.out.mono ?_
     rintro e w1 ⟨cs, rfl, hq, hbel⟩
     obtain ⟨bp, dp, bt, dt, bk, dk, cqs, rfl, hq1, hq2, hqf, hq3, hq4⟩ : ∃ bp dp bt dt bk dk cqs, cs = [.bool false, .slice bp pk.length dp, .slice bt tk.length dt, .slice bk kk.length dk] /\ RowQ w1 (fun b => w0.heap.size <= b) 2 bp pk.length dp (propCells pk) /\ RowQ w1 (fun b => w0.heap.size <= b) 1 bt tk.length dt (tk.map (Value.int .i32)) /\ (∀ z ∈ tk, (Lit.int .i32 z).wf = true) /\ RowQ w1 (fun b => w0.heap.size <= b) 4 bk kk.length dk cqs /\ KidsQ w1 (fun b => w0.heap.size <= b) kk cqs := by
      have := hq; unfold NodeQ at this; exact this
     obtain ⟨w2, hw2⟩ : ∃ w2, w2 = w1.alloc (Obj.cells #[.bool false, .slice bp pk.length dp, .slice bt tk.length dt, .slice bk kk.length dk] 35) := ⟨_, rfl⟩
     have hb12 : Below w1.heap.size w1 w2 := by rw [hw2]; exact one_below _ _
     have hbw := hbel.trans (hb12.mono hbel.size)
     have hN2 : At w2 w1.heap.size [.bool false, .slice bp pk.length dp, .slice bt tk.length dt, .slice bk kk.length dk] 35 := by rw [hw2]; exact At.fresh _ _ _
     have HNV := Lib.hid (show NodeV w2 w2.heap.size (.mk false pk tk kk) (.agg #[.bool false, .slice bp pk.length dp, .slice bt tk.length dt, .slice bk kk.length dk]) from ⟨_, rfl, NodeQ.node _ _ (hq.since hb12)⟩)
     have HKr := Lib.hid ((hq3.since hb12).row); have HKk := Lib.hid (KidsQ.kids _ _ (KidsQ.keep hb12.size (fun b _ hlt => hb12.block b hlt) (fun _ h _ => h) _ _ hq4))
     have Hbw := Lib.hid hbw
     have HA2 := Lib.hid (HA.out.kept hbw); have HN2 := Lib.hid hN2
     have HRo2 := Lib.hid (fun (w' : World) (hb : Below w2.heap.size w2 w') => HRo.out w' (Hbw.out.trans (hb.mono Hbw.out.size)))
     have HFi2 := Lib.hid (fun (w' : World) (hb : Below w2.heap.size w2 w') => HFi.out _ w' (Hbw.out.trans (hb.mono Hbw.out.size)) (HNV.out.keep hb hb.size))
     have HTy2 := Lib.hid (fun (w' : World) (hb : Below w2.heap.size w2 w') => HTy.out _ w' (HNV.out.keep hb hb.size))
     have hln := fun (w' : World) (h : At w' w1.heap.size [.bool false, .slice bp pk.length dp, .slice bt tk.length dt, .slice bk kk.length dk] 35) => At.load (P := Tryz.prog) h Tryz.underlying35 rfl (by kernel_rfl)
     simp [go_sem] at hln
     have Hln := Lib.hid hln
     have Hw2 := Lib.hid hw2
     obtain ⟨⟨n0, n1, n2, n3⟩, -, nl⟩ := hN2.f4
     clear hbel HG hq hq1 hq2 hqf hq3 hq4 hw2 hb12 hbw hN2 hln HRo HFi HTy HSC y0 y1 y2 y3 yl HA
     go_upto_region 2 with fail
     rw [<- Hw2.out]
     clear Hw2
     go_upto_region 6 with fail
     go_cut [10] (fun q wx => ∃ (M : Nat) (ra : Option Addr) (rc : Nat), q = .pointer (some ⟨M, 0, none⟩) /\ At wx M [.slice pa p.length pc, .bool false, .slice bp pk.length dp, .slice bt tk.length dt, .slice bk kk.length dk, strV R.type, .int .i64 R.text.1, strV R.text.2, .int .i64 R.other.1, strV R.other.2, .slice ra R.kids.length rc, .int .i64 R.fill, strV R.fillT, .int .i64 f1, .int .i64 f2, .int .i64 f3] 101 /\ RowQ wx (fun b => b ≠ M) 3 ra R.kids.length rc (pairCells R.kids) /\ w2.heap.size <= M /\ Below w2.heap.size w2 wx)
     case first =>
      clear n0 n1 n2 n3 nl HR2 Hcs Hml HKr HKk HPA
      have hls := Hls.out
      have hln := Hln.out
      have HS0 := Lib.hid (fun (w' : World) (hb : Below w2.heap.size w2 w') => And.intro (HA2.out.kept hb) (HN2.out.kept hb))
      go_region_held3 (fun w' => At w' W.heap.size [.slice a s.rules.length c, strV s.els.type, .int .i64 s.els.text.1, strV s.els.text.2, .int .i64 s.els.other.1, strV s.els.other.2, .slice ea s.els.kids.length ec, .int .i64 s.els.fill, strV s.els.fillT, .int .i64 o0, .int .i64 o1, .int .i64 o2, .int .i64 o3, .int .i64 o4, .int .i64 o5, .int .i64 s.cap] 30 /\ At w' w1.heap.size [.bool false, .slice bp pk.length dp, .slice bt tk.length dt, .slice bk kk.length dk] 35) (refine HS0.out _ (by ((repeat (first | with_reducible exact Hb5.out | with_reducible exact Hb4.out | with_reducible exact Hb3.out | with_reducible exact Below.refl _ _ | with_reducible refine Below.drew ?_ | with_reducible refine Below.alloc ?_ ?_ _ | with_reducible refine Below.setCell ?_ ?_ _)) <;> (first | with_reducible exact Nat.le_refl _ | with_reducible exact Hb5.out.size | with_reducible exact Hb4.out.size | with_reducible exact Hb3.out.size | (have hsz := Hb5.out.size; simp [World.setCell]; omega) | (have hsz := Hb4.out.size; simp [World.setCell]; omega) | (have hsz := Hb3.out.size; simp [World.setCell]; omega) | (simp; done) | (simp; omega) | omega))))
       (first
       | (refine step_call rfl 57 _ _ rfl type_ent [.agg #[.bool false, .slice bp pk.length dp, .slice bt tk.length dt, .slice bk kk.length dk]] ?_ _ (HTy2.out _ (by ((repeat (first | with_reducible exact Below.refl _ _ | with_reducible refine Below.drew ?_ | with_reducible refine Below.alloc ?_ ?_ _ | with_reducible refine Below.setCell ?_ ?_ _)) <;> (first | with_reducible exact Nat.le_refl _ | (simp; done) | (simp; omega) | omega)))) ?_
          . go_simp
          rintro e w3 ⟨rfl, hbel⟩
          refine ⟨_, rfl, ?_⟩
          have Hz3 := Lib.hid hbel.size
          have Hb3 := Lib.hid (Below.and (w0 := w2) (by ((repeat (first | with_reducible exact Below.refl _ _ | with_reducible refine Below.drew ?_ | with_reducible refine Below.alloc ?_ ?_ _ | with_reducible refine Below.setCell ?_ ?_ _)) <;> (first | with_reducible exact Nat.le_refl _ | (simp; done) | (simp; omega) | omega))) hbel)
          first
           | (refine At.lay (N := ?_) (cs := [.slice none 0 0, .bool false, .slice none 0 0, .slice none 0 0, .slice none 0 0, strV [], .int .i64 0, strV [], .int .i64 0, strV [], .slice none 0 0, .int .i64 0, strV [], .int .i64 0, .int .i64 0, .int .i64 0]) (T := 101) (At.kept ?_ hbel) ?_
              rotate_left
              . (repeat (first | with_reducible exact At.second _ _ _ _ | with_reducible exact At.fresh _ _ _ | with_reducible refine At.drew ?_ | with_reducible refine At.alloc ?_ _))
              intro HM3)
           | skip
          clear hbel)
       | (refine step_call rfl 56 _ _ rfl ruleOf_ent [.agg #[.slice a s.rules.length c, strV s.els.type, .int .i64 s.els.text.1, strV s.els.text.2, .int .i64 s.els.other.1, strV s.els.other.2, .slice ea s.els.kids.length ec, .int .i64 s.els.fill, strV s.els.fillT, .int .i64 o0, .int .i64 o1, .int .i64 o2, .int .i64 o3, .int .i64 o4, .int .i64 o5, .int .i64 s.cap], strV ty] ?_ _ (HRo2.out _ (by ((repeat (first | with_reducible exact Hb3.out | with_reducible exact Below.refl _ _ | with_reducible refine Below.drew ?_ | with_reducible refine Below.alloc ?_ ?_ _ | with_reducible refine Below.setCell ?_ ?_ _)) <;> (first | with_reducible exact Nat.le_refl _ | with_reducible exact Hb3.out.size | (have hsz := Hb3.out.size; simp [World.setCell]; omega) | (simp; done) | (simp; omega) | omega)))) ?_
          . go_simp
          rintro e w4 ⟨ra, rc, rfl, hrow, hbel⟩
          refine ⟨_, rfl, ?_⟩
          have Hz4 := Lib.hid hbel.size
          have Hb4 := Lib.hid (Below.and (w0 := w2) (by ((repeat (first | with_reducible exact Hb3.out | with_reducible exact Below.refl _ _ | with_reducible refine Below.drew ?_ | with_reducible refine Below.alloc ?_ ?_ _ | with_reducible refine Below.setCell ?_ ?_ _)) <;> (first | with_reducible exact Nat.le_refl _ | with_reducible exact Hb3.out.size | (have hsz := Hb3.out.size; simp [World.setCell]; omega) | (simp; done) | (simp; omega) | omega))) hbel)
          have Hrow := Lib.hid (hrow.keep (Nat.le_refl _) (fun _ _ _ => rfl) (fun b hb hlt => And.intro hb hlt))
          first
           | (refine At.lay (N := ?_) (cs := [.slice none 0 0, .bool false, .slice none 0 0, .slice none 0 0, .slice none 0 0, strV [], .int .i64 0, strV [], .int .i64 0, strV [], .slice none 0 0, .int .i64 0, strV [], .int .i64 0, .int .i64 0, .int .i64 0]) (T := 101) (At.kept ?_ hbel) ?_
              rotate_left
              . (repeat (first | with_reducible exact HM3.out | with_reducible exact At.second _ _ _ _ | with_reducible exact At.fresh _ _ _ | with_reducible refine At.drew ?_ | with_reducible refine At.alloc ?_ _))
              intro HM4)
           | skip
          clear hbel hrow)
       | (refine step_call rfl 17 _ _ rfl find_ent [.agg #[.slice a s.rules.length c, strV s.els.type, .int .i64 s.els.text.1, strV s.els.text.2, .int .i64 s.els.other.1, strV s.els.other.2, .slice ea s.els.kids.length ec, .int .i64 s.els.fill, strV s.els.fillT, .int .i64 o0, .int .i64 o1, .int .i64 o2, .int .i64 o3, .int .i64 o4, .int .i64 o5, .int .i64 s.cap], .agg #[.bool false, .slice bp pk.length dp, .slice bt tk.length dt, .slice bk kk.length dk]] ?_ _ (HFi2.out _ (by ((repeat (first | with_reducible exact Hb4.out | with_reducible exact Below.refl _ _ | with_reducible refine Below.drew ?_ | with_reducible refine Below.alloc ?_ ?_ _ | with_reducible refine Below.setCell ?_ ?_ _)) <;> (first | with_reducible exact Nat.le_refl _ | with_reducible exact Hb4.out.size | (have hsz := Hb4.out.size; simp [World.setCell]; omega) | (simp; done) | (simp; omega) | omega)))) ?_
          . go_simp
          rintro e w5 ⟨rfl, hbel⟩
          refine ⟨_, rfl, ?_⟩
          have Hz5 := Lib.hid hbel.size
          have Hb5 := Lib.hid (Below.and (w0 := w2) (by ((repeat (first | with_reducible exact Hb4.out | with_reducible exact Below.refl _ _ | with_reducible refine Below.drew ?_ | with_reducible refine Below.alloc ?_ ?_ _ | with_reducible refine Below.setCell ?_ ?_ _)) <;> (first | with_reducible exact Nat.le_refl _ | with_reducible exact Hb4.out.size | (have hsz := Hb4.out.size; simp [World.setCell]; omega) | (simp; done) | (simp; omega) | omega))) hbel)
          have Hs5 := Lib.hid (Below.and (w0 := w4) (by ((repeat (first | with_reducible exact Below.refl _ _ | with_reducible refine Below.drew ?_ | with_reducible refine Below.alloc ?_ ?_ _ | with_reducible refine Below.setCell ?_ ?_ _)) <;> (first | with_reducible exact Nat.le_refl _ | (simp; done) | (simp; omega) | omega))) hbel)
          first
           | (refine At.lay (N := ?_) (cs := [.slice none 0 0, .bool false, .slice none 0 0, .slice none 0 0, .slice none 0 0, strV [], .int .i64 0, strV [], .int .i64 0, strV [], .slice none 0 0, .int .i64 0, strV [], .int .i64 0, .int .i64 0, .int .i64 0]) (T := 101) (At.kept ?_ hbel) ?_
              rotate_left
              . (repeat (first | with_reducible exact HM4.out | with_reducible exact At.second _ _ _ _ | with_reducible exact At.fresh _ _ _ | with_reducible refine At.drew ?_ | with_reducible refine At.alloc ?_ _))
              intro HM5)
           | skip
          first
           | (obtain ⟨⟨r0, r1, r2, r3, r4, r5, r6, r7, r8, r9, r10, r11, r12, r13, r14, r15⟩, rf, rl⟩ := HM5.out.f16)
           | skip
          clear hbel))
      all_goals
       clear hls hln
       go_wp2_with fail
       go_meet
       case rel =>
        have hz3 := Hz3.out; have hz4 := Hz4.out; have hz5 := Hz5.out
        simp at hz3 hz4 hz5
        refine ⟨_, ra, rc, rfl, ?_, ?_, ?_, ?_⟩
        . (repeat (first | with_reducible exact HM5.out | with_reducible exact HM5.out.s16 _ _ _ _ _ _ _ _ _ _ _ _ _ _ _ _ | with_reducible exact (HM5.out.alloc _).s16 _ _ _ _ _ _ _ _ _ _ _ _ _ _ _ _ | with_reducible exact At.second _ _ _ _ | with_reducible exact At.fresh _ _ _ | (with_reducible refine At.fresh2 ?_; (simp [World.setCell]; done)) | with_reducible refine At.drew ?_ | with_reducible refine At.alloc ?_ _ | (with_reducible refine At.n16 ?_ ?_ _ _ _ _ _ _ _ _ _ _ _ _ _ _ _ _; rotate_left; (omega))))
        . (repeat (first | with_reducible refine rowq_s16 ?_ (by simp) _ _ _ _ _ _ _ _ _ _ _ _ _ _ _ _ | with_reducible refine rowq_alloc ?_ _))
          refine (Hrow.out.since Hs5.out).keep (Nat.le_refl _) (fun _ _ _ => rfl) (fun b hb hlt => ?_)
          try simp at hb
          intro e
          omega
        . omega
        . ((repeat (first | with_reducible exact Hb5.out | with_reducible exact Below.refl _ _ | with_reducible refine Below.drew ?_ | with_reducible refine Below.alloc ?_ ?_ _ | with_reducible refine Below.setCell ?_ ?_ _)) <;> (first | with_reducible exact Nat.le_refl _ | with_reducible exact Hb5.out.size | (have hsz := Hb5.out.size; simp [World.setCell]; omega) | (simp; done) | (simp; omega) | omega))
     case rest =>
      obtain ⟨M, ra, rc, rfl, hM, hrow, hM2, hbc⟩ := hcut
      obtain ⟨J, hJ⟩ : ∃ J : Value, J = .agg #[.slice pa p.length pc, .bool false, .slice bp pk.length dp, .slice bt tk.length dt, .slice bk kk.length dk, strV R.type, .int .i64 R.text.1, strV R.text.2, .int .i64 R.other.1, strV R.other.2, .slice ra R.kids.length rc, .int .i64 R.fill, strV R.fillT, .int .i64 f1, .int .i64 f2, .int .i64 f3] := ⟨_, rfl⟩
      have hlj := fun (w' : World) (h : At w' M [.slice pa p.length pc, .bool false, .slice bp pk.length dp, .slice bt tk.length dt, .slice bk kk.length dk, strV R.type, .int .i64 R.text.1, strV R.text.2, .int .i64 R.other.1, strV R.other.2, .slice ra R.kids.length rc, .int .i64 R.fill, strV R.fillT, .int .i64 f1, .int .i64 f2, .int .i64 f3] 101) => (show (Instr.loadAt 101 (.pointer (some ⟨M, 0, none⟩))).run Tryz.prog w' = .ok J w' by
       rw [hJ]; exact At.load (P := Tryz.prog) h Tryz.underlying101 rfl (by kernel_rfl))
      simp [go_sem] at hlj
      have hmf : ∀ (fn : Fn) (first cap : Array Value) (w : World), (Instr.makeFunc fn first cap).run Tryz.prog w = .ok (.func fn first cap) w := fun _ _ _ _ => rfl
      have HM := Lib.hid hM; have Hrow := Lib.hid hrow; have Hbc := Lib.hid hbc; have HJ := Lib.hid hJ
      have hMl := hM.lt
      clear hrow hbc hJ hM HRo2 HFi2 HTy2 HA2 HN2 n0 n1 n2 n3 nl
      go_upto_region 7 with fail
      go_upto_region 8 with (first
       | (refine wpList_makeMap rfl _ rfl ?_
          intro p0 hp0
          have hJ0 : At p0 M [.slice pa p.length pc, .bool false, .slice bp pk.length dp, .slice bt tk.length dt, .slice bk kk.length dk, strV R.type, .int .i64 R.text.1, strV R.text.2, .int .i64 R.other.1, strV R.other.2, .slice ra R.kids.length rc, .int .i64 R.fill, strV R.fillT, .int .i64 f1, .int .i64 f2, .int .i64 f3] 101 := by rw [hp0]; exact HM.out.alloc _
          have Hm0 := Lib.hid (show MapAt p0 wc.heap.size [] by rw [hp0]; exact MapAt.fresh wc)
          have Hp0 := Lib.hid (show Below wc.heap.size wc p0 by rw [hp0]; exact one_below wc (.map #[] 0))
          clear hp0)
       | (refine wpList_put rfl 103 3 102 _ _ 1 rfl wc.heap.size [] (.func (.func 58) #[J] #[]) rfl rfl Hm0.out Tryz.underlying103 Tryz.underlying3 (by simp) rfl ?_
          intro p1 hm1 ho1
          have hJ1 := hJ0.map ho1 (by omega)
          have Hm1 := Lib.hid hm1
          have Hp1 := Lib.hid (ho1.below Hp0.out (Nat.le_refl _))
          clear hm1 ho1)
       | (refine wpList_put rfl 103 3 102 _ _ 5 rfl wc.heap.size [(1, .func (.func 58) #[J] #[])] (.func (.func 58) #[J] #[]) rfl rfl Hm1.out Tryz.underlying103 Tryz.underlying3 (by simp) rfl ?_
          intro p2 hm2 ho2
          have hJ2 := hJ1.map ho2 (by omega)
          have Hm2 := Lib.hid hm2
          have Hp2 := Lib.hid (ho2.below Hp1.out (Nat.le_refl _))
          clear hm2 ho2)
       | (refine wpList_put rfl 103 3 102 _ _ 2 rfl wc.heap.size [(1, .func (.func 58) #[J] #[]), (5, .func (.func 58) #[J] #[])] (.func (.func 59) #[J] #[]) rfl rfl Hm2.out Tryz.underlying103 Tryz.underlying3 (by simp) rfl ?_
          intro p3 hm3 ho3
          have hJ3 := hJ2.map ho3 (by omega)
          have Hm3 := Lib.hid hm3
          have Hp3 := Lib.hid (ho3.below Hp2.out (Nat.le_refl _))
          clear hm3 ho3)
       | (refine wpList_put rfl 103 3 102 _ _ 3 rfl wc.heap.size [(1, .func (.func 58) #[J] #[]), (5, .func (.func 58) #[J] #[]), (2, .func (.func 59) #[J] #[])] (.func (.func 60) #[J] #[]) rfl rfl Hm3.out Tryz.underlying103 Tryz.underlying3 (by simp) rfl ?_
          intro p4 hm4 ho4
          have hJ4 := hJ3.map ho4 (by omega)
          have Hm4 := Lib.hid hm4
          have Hp4 := Lib.hid (ho4.below Hp3.out (Nat.le_refl _))
          clear hm4 ho4)
       | (refine wpList_put rfl 103 3 102 _ _ 4 rfl wc.heap.size [(1, .func (.func 58) #[J] #[]), (5, .func (.func 58) #[J] #[]), (2, .func (.func 59) #[J] #[]), (3, .func (.func 60) #[J] #[])] (.func (.func 61) #[J] #[]) rfl rfl Hm4.out Tryz.underlying103 Tryz.underlying3 (by simp) rfl ?_
          intro p5 hm5 ho5
          have hJ5 := hJ4.map ho5 (by omega)
          have Hm5 := Lib.hid hm5
          have Hp5 := Lib.hid (ho5.below Hp4.out (Nat.le_refl _))
          clear hm5 ho5)
       | (refine wpList_put rfl 103 3 102 _ _ 6 rfl wc.heap.size [(1, .func (.func 58) #[J] #[]), (5, .func (.func 58) #[J] #[]), (2, .func (.func 59) #[J] #[]), (3, .func (.func 60) #[J] #[]), (4, .func (.func 61) #[J] #[])] (.func (.func 62) #[J] #[]) rfl rfl Hm5.out Tryz.underlying103 Tryz.underlying3 (by simp) rfl ?_
          intro p6 hm6 ho6
          have hJ6 := hJ5.map ho6 (by omega)
          have Hm6 := Lib.hid hm6
          have Hp6 := Lib.hid (ho6.below Hp5.out (Nat.le_refl _))
          clear hm6 ho6))
      have x13 := hJ6.cell 13 rfl
      have xl := hJ6.lt
      have hzf : ∀ w, (zeroValue 102).run Tryz.prog w = .ok .nilFunc w := by intro w; kernel_rfl
      have HAK := Lib.hid (fun (k : Int) => run_ask (P := Tryz.prog) (K := 3) Hm6.out Tryz.underlying103 Tryz.underlying3 .nilFunc hzf k (show ([1, 5, 2, 3, 4, 6] : List Int).Nodup by decide))
      have Hb6 := Lib.hid (Hbw.out.trans ((Hbc.out.trans (Hp6.out.mono Hbc.out.size)).mono Hbw.out.size))
      have HbF := Lib.hid (Hb0.out.trans (Hb6.out.mono Hb0.out.size))
      have Hb2 := Lib.hid (Hbc.out.trans (Hp6.out.mono Hbc.out.size))
      have hkn : kk.length + 1 <= 100000000 := by have := wtAll_len kk; simp only [NodeD.wt] at hkw; omega
      have HJA := Lib.hid (fun (j : Nat) (hj : j <= 100000000) => (show JobAt p6 p pa pc kk bk dk cqs j from ⟨HPA.out _ Hb6.out, hpl, HKr.out.keep Hb2.out Hb2.out.size, KidsC.keep Hb2.out Hb2.out.size _ _ HKk.out, hkl, hj⟩))
      have Hrw := Lib.hid ((Hrow.out.since Hp6.out).row)
      clear hlj hmf hJ0 hJ1 hJ2 hJ3 hJ4 hJ5 hJ6 hzf
      rcases Hcs.out with hF | ⟨cn, j, -, h1, h6, -, hF, hjk, hj4, hj6⟩
      . obtain ⟨rfl, rfl, rfl⟩ : f1 = 0 /\ f2 = 0 /\ f3 = 0 := by simpa using hF
        have HR := Lib.hid (show R0 = ([], 14) from HR2.out)
        have ha : (Instr.lookup 103 (.map (some wc.heap.size)) (.int .i64 0) true).run Tryz.prog p6 = .ok (.tuple #[.nilFunc, .bool false]) p6 := HAK.out 0
        go_wp2_with fail
        go_ret2
        rw [HR.out]
        exact ⟨_, rfl, OpsF.nil _ _, HbF.out⟩
      . obtain ⟨rfl, rfl, rfl⟩ : f1 = cn /\ f2 = j /\ f3 = manyN R kk cn := by simpa using hF
        have hjn : cn ≠ 6 -> j <= 100000000 := fun h => by have := hjk h; omega
        have hml1 := Hml.out (cn : Int)
        rcases (show cn = 1 ∨ cn = 2 ∨ cn = 3 ∨ cn = 4 ∨ cn = 5 ∨ cn = 6 by omega) with rfl | rfl | rfl | rfl | rfl | rfl
        . -- class 1
          have HR := Lib.hid (show R0 = (fixL R kk p (1, (j : Int), (manyN R kk 1 : Int)), 0) from HR2.out)
          have ha : (Instr.lookup 103 (.map (some wc.heap.size)) (.int .i64 1) true).run Tryz.prog p6 = .ok (.tuple #[.func (.func 58) #[J] #[], .bool true]) p6 := HAK.out 1
          have HC := Lib.hid (show Calls Tryz.prog 58 #[J] p6 (OpsP p6 (fixL R kk p (1, (j : Int), (manyN R kk 1 : Int)))) by
           rw [HJ.out]
           have h := remove_c p pa pc kk bk dk cqs (.bool false) (.slice bp pk.length dp) (.slice bt tk.length dt) (strV R.type) (.int .i64 R.text.1) (strV R.text.2) (.int .i64 R.other.1) (strV R.other.2) (.slice ra R.kids.length rc) (.int .i64 R.fill) (strV R.fillT) (.int .i64 1) (.int .i64 (manyN R kk 1)) j p6 (HJA.out j (by omega)) (hjk (by omega))
           simpa [fixL, liftOps, wrapOps] using h)
          generalize fixL R kk p (1, (j : Int), (manyN R kk 1 : Int)) = l at HR HC
          have hent := remove_ent
          go_wp2_with fail
          refine HC.out.mono ?_
          rintro e w9 ⟨v9, rfl, hv9, hbel⟩
          have Hv9 := Lib.hid hv9; have Hb9 := Lib.hid (HbF.out.trans (hbel.mono HbF.out.size))
          clear hbel hv9 HC
          go_wp2_with fail
          go_ret2
          rw [HR.out]
          exact ⟨_, rfl, Hv9.out.from HbF.out.size, Hb9.out⟩
        . -- class 2
          have HR := Lib.hid (show R0 = (fixL R kk p (2, (j : Int), (manyN R kk 2 : Int)), 0) from HR2.out)
          have ha : (Instr.lookup 103 (.map (some wc.heap.size)) (.int .i64 2) true).run Tryz.prog p6 = .ok (.tuple #[.func (.func 59) #[J] #[], .bool true]) p6 := HAK.out 2
          have HC := Lib.hid (show Calls Tryz.prog 59 #[J] p6 (OpsP p6 (fixL R kk p (2, (j : Int), (manyN R kk 2 : Int)))) by
           rw [HJ.out]
           have h := lift_c p pa pc kk bk dk cqs (.bool false) (.slice bp pk.length dp) (.slice bt tk.length dt) (strV R.type) (.int .i64 R.text.1) (strV R.text.2) (.int .i64 R.other.1) (strV R.other.2) (.slice ra R.kids.length rc) (.int .i64 R.fill) (strV R.fillT) (.int .i64 2) (.int .i64 (manyN R kk 2)) j p6 (HJA.out j (by omega)) (hjk (by omega))
           simpa [fixL, liftOps, wrapOps] using h)
          generalize fixL R kk p (2, (j : Int), (manyN R kk 2 : Int)) = l at HR HC
          have hent := lift_ent
          go_wp2_with fail
          refine HC.out.mono ?_
          rintro e w9 ⟨v9, rfl, hv9, hbel⟩
          have Hv9 := Lib.hid hv9; have Hb9 := Lib.hid (HbF.out.trans (hbel.mono HbF.out.size))
          clear hbel hv9 HC
          go_wp2_with fail
          go_ret2
          rw [HR.out]
          exact ⟨_, rfl, Hv9.out.from HbF.out.size, Hb9.out⟩
        . -- class 3
          have HR := Lib.hid (show R0 = (fixL R kk p (3, (j : Int), (manyN R kk 3 : Int)), 0) from HR2.out)
          have ha : (Instr.lookup 103 (.map (some wc.heap.size)) (.int .i64 3) true).run Tryz.prog p6 = .ok (.tuple #[.func (.func 60) #[J] #[], .bool true]) p6 := HAK.out 3
          have HC := Lib.hid (show Calls Tryz.prog 60 #[J] p6 (OpsP p6 (fixL R kk p (3, (j : Int), (manyN R kk 3 : Int)))) by
           rw [HJ.out]
           have h := wrap_c p pa pc kk bk dk cqs R ra rc (.bool false) (.slice bp pk.length dp) (.slice bt tk.length dt) (.int .i64 3) j (manyN R kk 3) p6 (HJA.out j (by omega)) (hjk (by omega)) Hrw.out hRk (by have := Hml.out 3; omega)
           simpa [fixL, liftOps, wrapOps] using h)
          generalize fixL R kk p (3, (j : Int), (manyN R kk 3 : Int)) = l at HR HC
          have hent := wrap_ent
          go_wp2_with fail
          refine HC.out.mono ?_
          rintro e w9 ⟨v9, rfl, hv9, hbel⟩
          have Hv9 := Lib.hid hv9; have Hb9 := Lib.hid (HbF.out.trans (hbel.mono HbF.out.size))
          clear hbel hv9 HC
          go_wp2_with fail
          go_ret2
          rw [HR.out]
          exact ⟨_, rfl, Hv9.out.from HbF.out.size, Hb9.out⟩
        . -- class 4
          have HR := Lib.hid (show R0 = (fixL R kk p (4, (j : Int), (manyN R kk 4 : Int)), 0) from HR2.out)
          have ha : (Instr.lookup 103 (.map (some wc.heap.size)) (.int .i64 4) true).run Tryz.prog p6 = .ok (.tuple #[.func (.func 61) #[J] #[], .bool true]) p6 := HAK.out 4
          have HC := Lib.hid (show Calls Tryz.prog 61 #[J] p6 (OpsP p6 (fixL R kk p (4, (j : Int), (manyN R kk 4 : Int)))) by
           rw [HJ.out]
           have h := fixmerge_c p pa pc kk bk dk cqs (.bool false) (.slice bp pk.length dp) (.slice bt tk.length dt) (strV R.type) (.int .i64 R.text.1) (strV R.text.2) (.int .i64 R.other.1) (strV R.other.2) (.slice ra R.kids.length rc) (.int .i64 R.fill) (strV R.fillT) (.int .i64 4) (.int .i64 (manyN R kk 4)) j p6 (HJA.out j (by omega)) (hjk (by omega)) (hj4 rfl)
           simpa [fixL, liftOps, wrapOps] using h)
          generalize fixL R kk p (4, (j : Int), (manyN R kk 4 : Int)) = l at HR HC
          have hent := fixmerge_ent
          go_wp2_with fail
          refine HC.out.mono ?_
          rintro e w9 ⟨v9, rfl, hv9, hbel⟩
          have Hv9 := Lib.hid hv9; have Hb9 := Lib.hid (HbF.out.trans (hbel.mono HbF.out.size))
          clear hbel hv9 HC
          go_wp2_with fail
          go_ret2
          rw [HR.out]
          exact ⟨_, rfl, Hv9.out.from HbF.out.size, Hb9.out⟩
        . -- class 5
          have HR := Lib.hid (show R0 = (fixL R kk p (5, (j : Int), (manyN R kk 5 : Int)), 0) from HR2.out)
          have ha : (Instr.lookup 103 (.map (some wc.heap.size)) (.int .i64 5) true).run Tryz.prog p6 = .ok (.tuple #[.func (.func 58) #[J] #[], .bool true]) p6 := HAK.out 5
          have HC := Lib.hid (show Calls Tryz.prog 58 #[J] p6 (OpsP p6 (fixL R kk p (5, (j : Int), (manyN R kk 5 : Int)))) by
           rw [HJ.out]
           have h := remove_c p pa pc kk bk dk cqs (.bool false) (.slice bp pk.length dp) (.slice bt tk.length dt) (strV R.type) (.int .i64 R.text.1) (strV R.text.2) (.int .i64 R.other.1) (strV R.other.2) (.slice ra R.kids.length rc) (.int .i64 R.fill) (strV R.fillT) (.int .i64 5) (.int .i64 (manyN R kk 5)) j p6 (HJA.out j (by omega)) (hjk (by omega))
           simpa [fixL, liftOps, wrapOps] using h)
          generalize fixL R kk p (5, (j : Int), (manyN R kk 5 : Int)) = l at HR HC
          have hent := remove_ent
          go_wp2_with fail
          refine HC.out.mono ?_
          rintro e w9 ⟨v9, rfl, hv9, hbel⟩
          have Hv9 := Lib.hid hv9; have Hb9 := Lib.hid (HbF.out.trans (hbel.mono HbF.out.size))
          clear hbel hv9 HC
          go_wp2_with fail
          go_ret2
          rw [HR.out]
          exact ⟨_, rfl, Hv9.out.from HbF.out.size, Hb9.out⟩
        . -- class 6
          have HR := Lib.hid (show R0 = (fixL R kk p (6, (j : Int), (manyN R kk 6 : Int)), 0) from HR2.out)
          have ha : (Instr.lookup 103 (.map (some wc.heap.size)) (.int .i64 6) true).run Tryz.prog p6 = .ok (.tuple #[.func (.func 62) #[J] #[], .bool true]) p6 := HAK.out 6
          have HC := Lib.hid (show Calls Tryz.prog 62 #[J] p6 (OpsP p6 (fixL R kk p (6, (j : Int), (manyN R kk 6 : Int)))) by
           rw [HJ.out]
           have h := fixfill_c p pa pc kk bk dk cqs (.bool false) (.slice bp pk.length dp) (.slice bt tk.length dt) (strV R.type) (.int .i64 R.text.1) (strV R.text.2) (.int .i64 R.other.1) (strV R.other.2) (.slice ra R.kids.length rc) (.int .i64 6) (.int .i64 (manyN R kk 6)) R.fill R.fillT j p6 (HJA.out j (by have := hj6 rfl; omega))
           simpa [fixL, liftOps, wrapOps] using h)
          generalize fixL R kk p (6, (j : Int), (manyN R kk 6 : Int)) = l at HR HC
          have hent := fixfill_ent
          go_wp2_with fail
          refine HC.out.mono ?_
          rintro e w9 ⟨v9, rfl, hv9, hbel⟩
          have Hv9 := Lib.hid hv9; have Hb9 := Lib.hid (HbF.out.trans (hbel.mono HbF.out.size))
          clear hbel hv9 HC
          go_wp2_with fail
          go_ret2
          rw [HR.out]
          exact ⟨_, rfl, Hv9.out.from HbF.out.size, Hb9.out⟩
theorem fixops_c (s : SchemaD) (sv : Value) (n : NodeD) (v : Value) (p : List Int) (pa : Option Addr) (pc : Nat) (W : World) (hsw : s.wt <= 100000000) (hw : n.wt <= 100000000) (hs : SchemaV W W.heap.size s sv) (hv : NodeV W W.heap.size n v) (hp : RowA W W.heap.size 1 pa p.length pc (p.map (Value.int .i64))) (hpl : p.length <= 100000) :
 Calls Tryz.prog 13 #[sv, v, .slice pa p.length pc] W (OpsE W (fixN s n p)) :=
 (fixopsF_c s sv n v p pa pc W hsw hw hs hv hp hpl).mono fun e w' ⟨v, h1, h2, h3⟩ => ⟨v, h1, h2.ops, h3⟩
end Go.Proofs.YtbommcakcmhalaaGreatDoor
/- Plain laws: the repair of an element can be done, and what it comes to. -/
namespace Go.Proofs.YtbommcakcmhalaaGreatDoor
open Go.RowKit Go.Redl
/-- What a repair puts in may be. -/
def newOk (r : RuleD) (ks : List NodeD) (f : FindD) : Prop := (f.1 = 3 -> nodeE (elemN (actOf r (kidAt ks f.2.1.toNat)).2) = 0) /\ (f.1 = 6 -> r.fill ≠ 1 -> nodeE (elemN r.fillT) = 0)
theorem merge_at {r : RuleD} {ks : List NodeD} {j : Nat} (h : lookN r ks 4 = j) : 0 < j /\ j < ks.length /\ leafOf (kidAt ks j) = true /\ leafOf (kidAt ks (j - 1)) = true /\ propsOf (kidAt ks j) = propsOf (kidAt ks (j - 1)) := by
 unfold lookN at h
 rw [if_neg (by decide)] at h
 rcases idxP_cases (wrongB r ks 4) ks.length with ⟨k, hk, hp, -, he⟩ | ⟨-, he⟩
 . rw [he] at h
   have : k = j := by omega
   subst this
   have h2 : (decide (0 < k) && (leafOf (kidAt ks k) && (leafOf (kidAt ks (k - 1)) && decide (propsOf (kidAt ks k) = propsOf (kidAt ks (k - 1)))))) = true := hp
   simp only [Bool.and_eq_true, decide_eq_true_eq] at h2
   exact ⟨h2.1, hk, h2.2.1, h2.2.2.1, h2.2.2.2⟩
 . rw [he] at h; omega
theorem leaf_elem (t : List UInt8) : leafOf (elemN t) = false := rfl
theorem nodeE_leaf0 : nodeE (.mk true [] [] []) = 0 := by decide
/-- The operations of the repair of an element, played. -/
theorem fix_play {s : SchemaD} {n k : NodeD} {p : List Int} (hn : nodeE n = 0) (hr : leafOf n = false) (ha : atN n p = some k) (hf : (findN s k).1 ≠ 0) (hw : newOk (ruleOf s (typeN k)) (kidsOf k) (findN s k)) :
 playN n ((fixL (ruleOf s (typeN k)) (kidsOf k) p (findN s k)).map OpD.full) = some (putN n p (setKids k (fixK (ruleOf s (typeN k)) (kidsOf k) (findN s k)))) := by
 rcases find_cases s k with h | ⟨c, j, hk, h1, h6, hj, hF, hlt, h4, h66⟩
 . rw [h] at hf; exact absurd rfl hf
 generalize ruleOf s (typeN k) = r at hj hF hw ⊢
 rw [hF] at hw ⊢
 unfold newOk at hw
 simp only [Int.toNat_natCast] at hw
 have hE := nodeE_kids (nodeE_at p n k hn ha)
 obtain rfl | rfl | rfl | rfl | rfl | rfl : c = 1 ∨ c = 2 ∨ c = 3 ∨ c = 4 ∨ c = 5 ∨ c = 6 := by omega
 . have hjl := hlt (by omega)
   rw [fixL_one (.inl rfl), fixK_one (.inl rfl)]
   simp only [Int.toNat_natCast]
   rw [kid_at hjl]
   rw [List.map_cons, playN_cons (rem_kid hn hr ha hk hjl)]
   rfl
 . have hjl := hlt (by omega)
   rw [fixL_two rfl, fixK_two rfl]
   simp only [Int.toNat_natCast]
   rw [kid_at hjl, List.map_append, playN_append, List.map_map, List.range_eq_range']
   have h := lift_all hn hr ha hk hjl (kidsOf (kidsOf k)[j]).length 0 (by omega)
   rw [liftL_zero hjl, setKids_self, putN_same p n k ha] at h
   rw [show ((List.range' 0 (kidsOf (kidsOf k)[j]).length).map (OpD.full ∘ fun i : Nat => (⟨5, p ++ [(j : Int), 0], p ++ [(j : Int) + (1 + (i : Int))], 0, zeroN, []⟩ : OpD))) = _ from rfl] at *
   have h' : playN n (List.map (OpD.full ∘ fun i : Nat => (⟨5, p ++ [(j : Int), 0], p ++ [(j : Int) + (1 + (i : Int))], 0, zeroN, []⟩ : OpD)) (List.range' 0 (kidsOf (kidsOf k)[j]).length)) = _ := h
   rw [h']
   show playN _ _ = _
   have hat := atN_put p n k (setKids k (liftL (kidsOf k) j (kidsOf k)[j] (kidsOf (kidsOf k)[j]).length)) ha
   have hjl2 : j < (kidsOf (setKids k (liftL (kidsOf k) j (kidsOf k)[j] (kidsOf (kidsOf k)[j]).length))).length := by rw [kids_setKids, liftL_len hjl (Nat.le_refl _)]; omega
   have hx : (kidsOf (setKids k (liftL (kidsOf k) j (kidsOf k)[j] (kidsOf (kidsOf k)[j]).length)))[j] = noKids (kidsOf k)[j] := by
    have := liftL_at (x := (kidsOf k)[j]) (t := (kidsOf (kidsOf k)[j]).length) hjl
    simp only [kids_setKids]
    rw [List.getElem?_eq_getElem (by rw [kids_setKids] at hjl2; exact hjl2)] at this
    rw [Option.some.inj this]
    rw [List.drop_eq_nil_of_le (Nat.le_refl _)]
    generalize (kidsOf k)[j] = x
    cases x; rfl
   have hrem := rem_kid (nodeE_putK hn ha hk (liftL_mem hjl rfl hE)) ((leaf_putK ha).trans hr) hat ((leaf_setKids _ _).trans hk) hjl2
   rw [hx] at hrem
   rw [List.map_cons, playN_cons hrem, kids_setKids, setKids_setKids, putN_put p n k _ _ ha]
   show some _ = some _
   congr 3
   unfold liftL
   rw [List.eraseIdx_append_of_length_le (by simp; omega)]
   simp [Nat.min_eq_left (Nat.le_of_lt hjl)]
 . have hjl := hlt (by omega)
   rw [fixL_three rfl, fixK_three rfl]
   simp only [Int.toNat_natCast]
   have hxE := hw.1 rfl
   have hm := many_fits r (kidsOf k) j hjl (by exact_mod_cast hj)
   have hm' : manyN r (kidsOf k) ((3 : Nat) : Int) = manyN r (kidsOf k) 3 := rfl
   rw [hm']
   generalize manyN r (kidsOf k) 3 = m at hm ⊢
   have hxl : leafOf (elemN (actOf r (kidAt (kidsOf k) j)).2) = false := rfl
   have hxk : kidsOf (elemN (actOf r (kidAt (kidsOf k) j)).2) = [] := rfl
   generalize elemN (actOf r (kidAt (kidsOf k) j)).2 = x at hxE hxl hxk ⊢
   rw [List.map_cons, playN_cons (ins_kid hn hr ha hk hxE (Nat.le_of_lt hjl)), <- wrapL_zero hxk, List.map_map, List.range_eq_range']
   exact (wrap_all hn hr ha hk hxE hxl m 0 (by omega)).trans (by rw [Nat.zero_add])
 . have hj4 : lookN r (kidsOf k) 4 = j := hj
   obtain ⟨g1, g2, g3, g4, g5⟩ := merge_at hj4
   rw [fixL_four rfl, fixK_four rfl]
   simp only [Int.toNat_natCast]
   obtain ⟨i, rfl⟩ : ∃ i, j = i + 1 := ⟨j - 1, by omega⟩
   have e : i + 1 - 1 = i := by omega
   rw [e] at g4 g5 ⊢
   rw [kid_at g2] at g3 g5
   rw [kid_at (show i < (kidsOf k).length by omega)] at g4 g5
   rw [kid_at g2, kid_at (show i < (kidsOf k).length by omega), List.map_cons, playN_cons (mrg_kid hn hr ha hk g2 g4 g3)]
   rfl
 . have hjl := hlt (by omega)
   rw [fixL_one (.inr rfl), fixK_one (.inr rfl)]
   simp only [Int.toNat_natCast]
   rw [kid_at hjl]
   rw [List.map_cons, playN_cons (rem_kid hn hr ha hk hjl)]
   rfl
 . obtain rfl := h66 rfl
   rw [fixL_six rfl, fixK_six rfl]
   have hx : nodeE (if r.fill = 1 then NodeD.mk true [] [] [] else elemN r.fillT) = 0 := by
    split
    . exact nodeE_leaf0
    . rename_i h; exact hw.2 rfl h
   generalize (if r.fill = 1 then NodeD.mk true [] [] [] else elemN r.fillT) = x at hx ⊢
   have hnil : kidsOf k = [] := by
    have hj6 : lookN r (kidsOf k) 6 = 0 := hj
    rw [look_last] at hj6
    split at hj6
    . rename_i h; exact List.eq_nil_of_length_eq_zero h.1
    . cases hj6
   rw [List.map_cons, playN_cons (ins_kid (i := 0) hn hr ha hk hx (Nat.zero_le _)), hnil]
   rfl
end Go.Proofs.YtbommcakcmhalaaGreatDoor
/- Plain words: which schemas may be, and how far their fills go (table.Check, table.Fills). No walk yet. -/
namespace Go.Proofs.YtbommcakcmhalaaGreatDoor
open Go.RowKit Go.Redl
/-- A text is a name. -/
def nameB (t : List UInt8) : Bool := decide (t ≠ []) && valB t
/-- An action may be. -/
def actB (lift : Bool) (a : ActD) : Bool := if a.1 = 4 then nameB a.2 else if a.1 = 3 then lift && decide (a.2 = []) else if a.1 = 1 ∨ a.1 = 2 then decide (a.2 = []) else false
/-- Names, and they rise. -/
def riseGo : Option (List UInt8) -> List (List UInt8) -> Bool
 | _, [] => true
 | none, t :: l => nameB t && riseGo (some t) l
 | some p, t :: l => nameB t && (!leB t p && riseGo (some t) l)
def riseB (l : List (List UInt8)) : Bool := riseGo none l && decide (l.length <= 32)
def fillB (r : RuleD) : Bool := (decide (r.fill = 0 ∨ r.fill = 1) && decide (r.fillT = [])) || (decide (r.fill = 2) && nameB r.fillT)
/-- A rule may be by itself. -/
def formedB (r : RuleD) : Bool := r.kids.all (fun p => actB true p.2) && (fillB r && (actB false r.text && (actB true r.other && riseB (r.kids.map (·.1)))))
/-- All rules. -/
abbrev allR (s : SchemaD) : List RuleD := s.rules ++ [s.els]
def ruleNames (r : RuleD) : List (List UInt8) := [r.type, r.text.2, r.other.2, r.fillT] ++ r.kids.flatMap (fun p => [p.1, p.2.2])
/-- All names, and the empty one; in no order. -/
def namesS (s : SchemaD) : List (List UInt8) := (allR s).flatMap ruleNames ++ [[]]
def wrapOk (s : SchemaD) (r : RuleD) (n : List UInt8) : Bool := !(decide ((actIn r n).1 = 4) && (decide ((actIn r (actIn r n).2).1 ≠ 1) || decide ((actIn (ruleOf s (actIn r n).2) n).1 ≠ 1)))
/-- What a rule wraps, and fills with, stays. -/
def settledB (s : SchemaD) (r : RuleD) : Bool :=
 !(decide (r.text.1 = 4) && (decide ((actIn r r.text.2).1 ≠ 1) || decide ((ruleOf s r.text.2).text.1 ≠ 1))) && ((namesS s).all (wrapOk s r) &&
   (if r.fill = 1 then decide (r.text.1 = 1) else if r.fill = 2 then decide ((actIn r r.fillT).1 = 1) else true))
/-- How many nodes fill an element of a rule, with so much fuel; -1: without an end. -/
def depthF (s : SchemaD) : Nat -> List (List UInt8) -> RuleD -> Nat -> Int
 | 0, _, _, _ => -1
 | f + 1, met, r, n => if r.fill = 0 then n else if r.fill = 1 then (n : Int) + 1 else if r.type ∈ met then -1 else depthF s f (r.type :: met) (ruleOf s r.fillT) (n + 1)
def depthN (s : SchemaD) (r : RuleD) : Int := depthF s (s.rules.length + 2) [] r 0
def orderB (s : SchemaD) : Bool := [1, 2, 3, 4, 5, 6].all fun c => decide ((s.order.filter (fun x => decide (x = c))).length = 1)
/-- Whether a schema may be: 12, or 0. -/
def checkS (s : SchemaD) : Int :=
 if orderB s && (decide (1 <= s.cap) && decide (s.cap <= 1048576)) && (decide (s.els.type = []) && (riseB (s.rules.map (·.type)) && (allR s).all formedB)) && (allR s).all (fun r => settledB s r && decide (0 <= depthN s r)) then 0 else 12
end Go.Proofs.YtbommcakcmhalaaGreatDoor
/- Plain laws: what a schema that may be says of repairs. -/
namespace Go.Proofs.YtbommcakcmhalaaGreatDoor
open Go.RowKit Go.Redl
theorem check_all {s : SchemaD} (h : checkS s = 0) : ∀ r ∈ allR s, formedB r = true /\ settledB s r = true /\ 0 <= depthN s r := by
 unfold checkS at h
 split at h
 . rename_i h2
   simp only [Bool.and_eq_true, List.all_eq_true, decide_eq_true_eq] at h2
   intro r hr
   exact ⟨h2.1.2.2.2 r hr, (h2.2 r hr).1, (h2.2 r hr).2⟩
 . cases h
theorem rule_in (s : SchemaD) (k : List UInt8) : ruleOf s k ∈ allR s := by
 rcases ruleOf_cases s k with h | h
 . exact List.mem_append_left _ h
 . rw [h]; simp [allR]
theorem rise_names : ∀ (l : List (List UInt8)) (o : Option (List UInt8)), riseGo o l = true -> ∀ t ∈ l, nameB t = true
 | [], o, h, t, ht => by cases ht
 | x :: l, none, h, t, ht => by
   simp only [riseGo, Bool.and_eq_true] at h
   rcases List.mem_cons.1 ht with rfl | ht
   . exact h.1
   . exact rise_names l _ h.2 t ht
 | x :: l, some p, h, t, ht => by
   simp only [riseGo, Bool.and_eq_true] at h
   rcases List.mem_cons.1 ht with rfl | ht
   . exact h.1
   . exact rise_names l _ h.2.2 t ht
structure FormedR (r : RuleD) : Prop where
 acts : ∀ p ∈ r.kids, actB true p.2 = true
 fill : fillB r = true
 text : actB false r.text = true
 other : actB true r.other = true
 names : ∀ p ∈ r.kids, nameB p.1 = true
theorem formed_of {r : RuleD} (h : formedB r = true) : FormedR r := by
 unfold formedB at h
 simp only [Bool.and_eq_true, List.all_eq_true] at h
 obtain ⟨h1, h2, h3, h4, h5⟩ := h
 unfold riseB at h5
 simp only [Bool.and_eq_true] at h5
 exact ⟨h1, h2, h3, h4, fun p hp => rise_names _ _ h5.1 p.1 (List.mem_map.2 ⟨p, hp, rfl⟩)⟩
theorem actIn_cases (r : RuleD) (k : List UInt8) : (∃ p ∈ r.kids, p.1 = k /\ actIn r k = p.2) ∨ ((∀ p ∈ r.kids, p.1 ≠ k) /\ actIn r k = r.other) := by
 unfold actIn
 cases h : r.kids.find? (fun p => decide (p.1 = k)) with
 | none =>
   rw [List.find?_eq_none] at h
   exact .inr ⟨fun p hp => by simpa using h p hp, rfl⟩
 | some p =>
   exact .inl ⟨p, List.mem_of_find?_eq_some h, by simpa using List.find?_some h, rfl⟩
theorem actIn_other {r : RuleD} {k : List UInt8} (h : ∀ p ∈ r.kids, p.1 ≠ k) : actIn r k = r.other := by
 rcases actIn_cases r k with ⟨p, hp, he, -⟩ | ⟨-, he⟩
 . exact absurd he (h p hp)
 . exact he
theorem actIn_ok {r : RuleD} (h : FormedR r) (k : List UInt8) : actB true (actIn r k) = true := by
 rcases actIn_cases r k with ⟨p, hp, -, he⟩ | ⟨-, he⟩
 . rw [he]; exact h.acts p hp
 . rw [he]; exact h.other
theorem actB_lift {a : ActD} (h : actB false a = true) : actB true a = true := by
 unfold actB at h ⊢
 split at h
 . rename_i h4; rw [if_pos h4]; exact h
 . rename_i h4
   rw [if_neg h4]
   split at h
   . simp at h
   . rename_i h3
     rw [if_neg h3]; exact h
theorem actOf_ok {r : RuleD} (h : FormedR r) (n : NodeD) : actB true (actOf r n) = true := by
 unfold actOf
 split
 . exact actB_lift h.text
 . exact actIn_ok h _
theorem act_wrap {a : ActD} (h : actB true a = true) (h4 : a.1 = 4) : nameB a.2 = true := by
 unfold actB at h
 rwa [if_pos h4] at h
theorem name_val {t : List UInt8} (h : nameB t = true) : t ≠ [] /\ valB t = true := by
 unfold nameB at h
 simpa using h
theorem elem_ok {t : List UInt8} (h : nameB t = true) : nodeE (elemN t) = 0 := by
 obtain ⟨h1, h2⟩ := name_val h
 unfold elemN
 rw [if_neg h1]
 refine nodeE_zero.2 ⟨ownE_zero.2 ⟨?_, fun h => (by cases h), fun _ => rfl, by decide⟩, by simp⟩
 unfold propsE
 rw [if_neg (by simp)]
 have hk : keyB typeB = true := by decide
 have hl : leB typeB [] = false := by decide
 simp [propsGo, hk, h2, hl]
theorem type_elem {t : List UInt8} : typeN (elemN t) = t := by
 unfold elemN typeN
 by_cases h : t = []
 . simp [h, leafOf, propsOf, getP]
 . simp [h, leafOf, propsOf, getP]
theorem fill_two {r : RuleD} (h : FormedR r) (h0 : r.fill ≠ 0) (h1 : r.fill ≠ 1) : r.fill = 2 /\ nameB r.fillT = true := by
 have := h.fill
 unfold fillB at this
 simp [h0, h1] at this
 exact this
/-- What a repair puts in may be. -/
theorem new_ok {s : SchemaD} {k : NodeD} (hs : checkS s = 0) (hf : (findN s k).1 ≠ 0) : newOk (ruleOf s (typeN k)) (kidsOf k) (findN s k) := by
 have hF := formed_of (check_all hs _ (rule_in s (typeN k))).1
 rcases find_cases s k with h | ⟨c, j, hk, h1, h6, hj, he, hlt, h4, h66⟩
 . rw [h] at hf; exact absurd rfl hf
 rw [he]
 generalize ruleOf s (typeN k) = r at hF hj ⊢
 constructor
 . intro h3
   have h3c : (c : Int) = 3 := h3
   obtain rfl : c = 3 := by omega
   have hj3 : lookN r (kidsOf k) 3 = j := hj
   refine elem_ok (act_wrap (actOf_ok hF _) ?_)
   unfold lookN at hj3
   rw [if_neg (by decide)] at hj3
   rcases idxP_cases (wrongB r (kidsOf k) 3) (kidsOf k).length with ⟨i, hi, hp, -, hx⟩ | ⟨-, hx⟩
   . rw [hx] at hj3
     have : i = j := by omega
     subst this
     have : decide ((actOf r (kidAt (kidsOf k) i)).1 = 4) = true := hp
     simpa using this
   . rw [hx] at hj3; omega
 . intro h6 hn1
   have h6c : (c : Int) = 6 := h6
   obtain rfl : c = 6 := by omega
   have hj6 : lookN r (kidsOf k) 6 = j := hj
   rw [look_last] at hj6
   split at hj6
   . rename_i h; exact elem_ok (fill_two hF h.2 hn1).2
   . omega
theorem names_kid {s : SchemaD} {r : RuleD} (hr : r ∈ allR s) {p : PairD} (hp : p ∈ r.kids) : p.1 ∈ namesS s := by
 unfold namesS
 refine List.mem_append_left _ (List.mem_flatMap.2 ⟨r, hr, ?_⟩)
 unfold ruleNames
 exact List.mem_append_right _ (List.mem_flatMap.2 ⟨p, hp, by simp⟩)
theorem names_nil (s : SchemaD) : [] ∈ namesS s := by unfold namesS; simp
theorem wrapOk_elim {s : SchemaD} {r : RuleD} {n : List UInt8} (h : wrapOk s r n = true) (h4 : (actIn r n).1 = 4) : (actIn r (actIn r n).2).1 = 1 /\ (actIn (ruleOf s (actIn r n).2) n).1 = 1 := by
 unfold wrapOk at h
 simpa [h4] using h
theorem wrap_kept {s : SchemaD} {r : RuleD} (hs : checkS s = 0) (hr : r ∈ allR s) {x : NodeD} (h4 : (actOf r x).1 = 4) : (actIn r (actOf r x).2).1 = 1 /\ (actOf (ruleOf s (actOf r x).2) x).1 = 1 := by
 obtain ⟨hf, hset, -⟩ := check_all hs r hr
 have hF := formed_of hf
 unfold settledB at hset
 simp only [Bool.and_eq_true, List.all_eq_true] at hset
 obtain ⟨h1, h2, -⟩ := hset
 cases hl : leafOf x with
 | true =>
   have e : ∀ q : RuleD, actOf q x = q.text := fun q => by unfold actOf; rw [if_pos hl]
   rw [e] at h4 ⊢
   rw [e]
   simpa [h4] using h1
 | false =>
   have e : ∀ q : RuleD, actOf q x = actIn q (typeN x) := fun q => by unfold actOf; rw [hl]; rfl
   rw [e] at h4 ⊢
   rw [e]
   generalize typeN x = n at h4 ⊢
   by_cases hn : n ∈ namesS s
   . exact wrapOk_elim (h2 n hn) h4
   . have hno : ∀ q ∈ allR s, actIn q n = q.other /\ actIn q [] = q.other := fun q hq => by
      refine ⟨actIn_other fun p hp e => hn (by rw [<- e]; exact names_kid hq hp), actIn_other fun p hp e => ?_⟩
      have := (formed_of (check_all hs q hq).1).names p hp
      rw [e] at this
      exact absurd rfl (name_val this).1
     have h3 : (actIn r []).1 = 4 := by rw [(hno r hr).2, <- (hno r hr).1]; exact h4
     have h5 := wrapOk_elim (h2 [] (names_nil s)) h3
     rw [(hno r hr).2] at h5
     rw [(hno r hr).1]
     refine ⟨h5.1, ?_⟩
     rw [(hno _ (rule_in s _)).1, <- (hno _ (rule_in s _)).2]
     exact h5.2
theorem fill_kept {s : SchemaD} {r : RuleD} (hs : checkS s = 0) (hr : r ∈ allR s) (h0 : r.fill ≠ 0) : (actOf r (if r.fill = 1 then .mk true [] [] [] else elemN r.fillT)).1 = 1 := by
 obtain ⟨hf, hset, -⟩ := check_all hs r hr
 have hF := formed_of hf
 unfold settledB at hset
 simp only [Bool.and_eq_true] at hset
 obtain ⟨-, -, h3⟩ := hset
 by_cases h1 : r.fill = 1
 . rw [if_pos h1] at h3 ⊢
   unfold actOf
   simpa [leafOf] using h3
 . rw [if_neg h1] at h3 ⊢
   rw [if_pos (fill_two hF h0 h1).1] at h3
   unfold actOf
   rw [leaf_elem, type_elem]
   simpa using h3
end Go.Proofs.YtbommcakcmhalaaGreatDoor
