/- Parts of the proof: 19. -/
import Derived.Test.YtmadpclcmjahoaaGreatDoorFN1
import Derived.Test.YtmadpclcmjahoaaGreatDoorFN14
set_option linter.unusedVariables false
set_option linter.unusedSimpArgs false
set_option maxHeartbeats 8000000
set_option maxRecDepth 100000
namespace Go.Proofs.YtmadpclcmjahoaaGreatDoor
open Go.RowKit Go.Redl
theorem f_C (l:Bool) (a:Option Addr) (n c:Nat) (b:Option Addr) (m d:Nat) (e:Option Addr) (k f:Nat) (w:World):(Instr.field 35 (.agg #[.bool l, .slice a n c, .slice b m d, .slice e k f]) 1).run Tryz.prog w= .ok (.slice a n c) w:=by kernel_rfl
theorem m_8 (w:World) (ok:Nat ->Prop):NodeQ w ok (.mk true [] [] []) [.bool true, .slice none 0 0, .slice none 0 0, .slice none 0 0]:=by
 unfold NodeQ
 exact⟨none,0,none,0,none,0, [],rfl,RowQ.empty _ _ _,RowQ.empty _ _ _,by simp,RowQ.empty _ _ _,by unfold bX;rfl⟩
theorem i_E (p:List Int) (pa:Option Addr) (pc:Nat) (ks:List aK) (ak:Option Addr) (ck:Nat) (css:List Value) (v1 v2 v3 v5 v6 v7 v8 v9 v10 v13 v15:Value) (fl:Int) (ft:List UInt8) (j:Nat) (W:World)
 (hJ:a_w W p pa pc ks ak ck css j):
 Calls Tryz.prog 59 #[.agg #[.slice pa p.length pc,v1,v2,v3, .slice ak ks.length ck,v5,v6,v7,v8,v9,v10, .int .i64 fl,aV ft,v13, .int .i64 j,v15]] W (c_u W [⟨1,p ++ [(j:Int)], [],0,if fl=1 then .mk true [] [] [] else fQ ft, []⟩]):=by
 obtain⟨Q,hQ⟩:∃Q,Q=(if fl=1 then aK.mk true [] [] [] else fQ ft):=⟨_,rfl⟩
 rw [<- hQ]
 have HQ:=a6 hQ
 clear hQ
 obtain⟨w0,hw0⟩:∃w0,w0=(W.alloc (Obj.cells #[.slice pa p.length pc,v1,v2,v3, .slice ak ks.length ck,v5,v6,v7,v8,v9,v10, .int .i64 fl,aV ft,v13, .int .i64 j,v15] 98)).alloc (Obj.cells #[.bool true, .slice none 0 0, .slice none 0 0, .slice none 0 0] 35):=⟨_,rfl⟩
 have hb0:Below W.heap.size W w0:=by rw [hw0];exact i8 _ _ _
 have hB:At w0 W.heap.size [.slice pa p.length pc,v1,v2,v3, .slice ak ks.length ck,v5,v6,v7,v8,v9,v10, .int .i64 fl,aV ft,v13, .int .i64 j,v15] 98:=by rw [hw0];exact(At.fresh _ _ _).alloc _
 have hN:At w0 (W.heap.size+1) [.bool true, .slice none 0 0, .slice none 0 0, .slice none 0 0] 35:=by rw [hw0];exact At.second _ _ _ _
 have hAt:=fun(w1:World) (hb:Below W.heap.size W w1)=>f_h p pa pc v1 v2 v3 (.slice ak ks.length ck) v5 v6 v7 v8 v9 v10 (.int .i64 fl) (aV ft) v13 v15 j 0 w1 (hJ.keep hb).path hJ.pl hJ.at_ (by omega) (by omega)
 rw [Int.add_zero]at hAt
 generalize p ++ [(j:Int)]=zs at hAt⊢
 have HAt:=a6 hAt
 have HT:=a6 (fun(w1:World)=>f_i ft w1)
 have hld:=fun(w':World) (h:At w' W.heap.size [.slice pa p.length pc,v1,v2,v3, .slice ak ks.length ck,v5,v6,v7,v8,v9,v10, .int .i64 fl,aV ft,v13, .int .i64 j,v15] 98)=>At.load (P:=Tryz.prog) h Tryz.underlying98 rfl (by kernel_rfl)
 simp [go_sem]at hld
 have Hw0:=a6 hw0;have Hb0:=a6 hb0;have HB:=a6 hB;have HN:=a6 hN
 have x11:=hB.cell 11 rfl
 have xl:=hB.lt
 obtain⟨⟨n0,n1,n2,n3⟩,nf,nl⟩:=hN.f4
 clear hw0 hb0 hB hN hAt hJ
 go_enter Tryz.func59,Tryz.ntmps59
 go_upto_region 2 with fail
 rw [<- Hw0.o]
 clear Hw0
 go_upto_if 8 with fail
 go_cut [] (fun wx=>∃l a1 m1 k1 a2 m2 k2 a3 m3 k3,At wx (W.heap.size+1) [.bool l, .slice a1 m1 k1, .slice a2 m2 k2, .slice a3 m3 k3] 35/\At wx W.heap.size [.slice pa p.length pc,v1,v2,v3, .slice ak ks.length ck,v5,v6,v7,v8,v9,v10, .int .i64 fl,aV ft,v13, .int .i64 j,v15] 98/\NodeQ wx (fun b=>w0.heap.size <= b) Q [.bool l, .slice a1 m1 k1, .slice a2 m2 k2, .slice a3 m3 k3]/\Below W.heap.size W wx)
 case first=>
  by_cases h1:fl=1
  . subst h1
    have HQ1:=a6 (show Q= .mk true [] [] []by rw [HQ.o,if_pos rfl])
    go_wp2_with fail
    go_meet
    case rel=>
     refine⟨_,_,_,_,_,_,_,_,_,_,HN.o,HB.o, ?_,Hb0.o⟩
     rw [HQ1.o];exact m_8 _ _
  . have h1I:(fl != 1)=true:=by simpa using h1
    have HQ1:=a6 (show Q=fQ ft by rw [HQ.o,if_neg h1])
    have x12:=HB.o.cell 12 rfl
    have HT1:=a6 (HT.o w0)
    clear h1 hld
    go_wp2_with fail
    refine HT1.o.mono ?_
    rintro e w1 ⟨cs,rfl,hn,hbel⟩
    obtain⟨l,a1,m1,k1,a2,m2,k2,a3,m3,k3,rfl⟩:=hn.form
    have Hn:=a6 hn;have Hb1:=a6 (Hb0.o.trans (hbel.mono Hb0.o.size))
    have HN1:=a6 (HN.o.kept hbel);have HB1:=a6 (HB.o.kept hbel)
    clear hbel hn n0 n1 n2 n3 nf nl x11 x12 HT1
    obtain⟨⟨n0,n1,n2,n3⟩,nf,nl⟩:=HN1.o.f4
    go_wp2_with fail
    go_meet
    case rel=>
     have hcl:W.heap.size <= W.heap.size+1:=by omega
     have hn0:¬w0.heap.size <= W.heap.size+1:=by have:=HN.o.lt;omega
     refine⟨_,_,_,_,_,_,_,_,_,_,HN1.o.s4 _ _ _ _,HB1.o.n4 (by omega) _ _ _ _, ?_,iQ Hb1.o hcl _ _ _ _⟩
     rw [HQ1.o]
     exact cQ (cQ (cQ (cQ Hn.o hn0) hn0) hn0) hn0
 case rest=>
  obtain⟨l,a1,m1,k1,a2,m2,k2,a3,m3,k3,hN2,hB2,hq2,hb2⟩:=hcut
  have HN2:=a6 hN2;have HB2:=a6 hB2;have Hq2:=a6 hq2;have HbW:=a6 hb2
  have HAt2:=a6 (fun(w1:World) (hb:Below wc.heap.size wc w1)=>HAt.o w1 (HbW.o.trans (hb.mono HbW.o.size)))
  have HS0:=a6 (fun(w':World) (hb:Below wc.heap.size wc w')=>And.intro (HB2.o.kept hb) (HN2.o.kept hb))
  have hln:=fun(w':World) (h:At w' (W.heap.size+1) [.bool l, .slice a1 m1 k1, .slice a2 m2 k2, .slice a3 m3 k3] 35)=>At.load (P:=Tryz.prog) h Tryz.underlying35 rfl (by kernel_rfl)
  simp [go_sem]at hln
  clear hN2 hB2 hq2 hb2 n0 n1 n2 n3 nf nl x11 HN HB HT HAt
  go_upto_region 4 with fail
  go_region_held3 (fun w'=>At w' W.heap.size [.slice pa p.length pc,v1,v2,v3, .slice ak ks.length ck,v5,v6,v7,v8,v9,v10, .int .i64 fl,aV ft,v13, .int .i64 j,v15] 98/\At w' (W.heap.size+1) [.bool l, .slice a1 m1 k1, .slice a2 m2 k2, .slice a3 m3 k3] 35) (refine HS0.o _ (by((repeat (first | with_reducible exact Hb1.o | with_reducible exact a7 | with_reducible refine Below.drew ?_ | with_reducible refine Below.alloc ?_ ?_ _ | with_reducible refine Below.setCell ?_ ?_ _)) <;> (first | with_reducible exact a8 | with_reducible exact Hb1.o.size | (have hsz:=Hb1.o.size;simp [World.setCell];omega) | (simp;done) | (simp;omega) | omega))))
   (first
   | (refine b9 rfl 109 _ _ rfl BV [.agg #[.slice pa p.length pc,v1,v2,v3, .slice ak ks.length ck,v5,v6,v7,v8,v9,v10, .int .i64 fl,aV ft,v13, .int .i64 j,v15], .int .i64 0] ?_ _ (HAt2.o _ (by((repeat (first | with_reducible exact a7 | with_reducible refine Below.drew ?_ | with_reducible refine Below.alloc ?_ ?_ _ | with_reducible refine Below.setCell ?_ ?_ _)) <;> (first | with_reducible exact a8 | (simp;done) | (simp;omega) | omega)))) ?_
      . go_simp
      rintro e w1 ⟨za,zc,rfl,hq,hbel⟩
      refine⟨_,rfl, ?_⟩
      have Hb1:=a6 (Below.and (w0:=wc) (by((repeat (first | with_reducible exact a7 | with_reducible refine Below.drew ?_ | with_reducible refine Below.alloc ?_ ?_ _ | with_reducible refine Below.setCell ?_ ?_ _)) <;> (first | with_reducible exact a8 | (simp;done) | (simp;omega) | omega))) hbel)
      have Hz:=a6 (RowQ.imp hq (fun b hb=>(show W.heap.size <= b from aJ (aJ HbW.o.size (by(first | exact a8 | (simp;done) | (simp;omega) | omega))) hb)))
      clear hbel hq))
  all_goals
   go_wp2_with fail
   go_ret
   refine⟨_,rfl,c_t (o:=⟨1,zs, [],0,Q, []⟩) ⟨za,zc,none,0,_,_,_,_,none,0,rfl,Hz.o,RowQ.empty _ _ _,NodeQ.keep (a8) (fun _ _ _=>rfl) (fun b hb _=>aJ Hb0.o.size hb) _ _ (Hq2.o.since Hb1.o),RowQ.empty _ _ _⟩ (aJ HbW.o.size Hb1.o.size),HbW.o.trans ((Hb1.o.alloc Hb1.o.size _).mono HbW.o.size)⟩
theorem g_S (p:List Int) (pa:Option Addr) (pc:Nat) (ks:List aK) (ak:Option Addr) (ck:Nat) (css:List Value) (v1 v2 v3 v5 v6 v7 v8 v9 v10 v11 v12 v13 v15:Value) (j:Nat) (W:World)
 (hJ:a_w W p pa pc ks ak ck css j) (hj:j < ks.length) (hj0:0 < j):
 Calls Tryz.prog 58 #[.agg #[.slice pa p.length pc,v1,v2,v3, .slice ak ks.length ck,v5,v6,v7,v8,v9,v10,v11,v12,v13, .int .i64 j,v15]] W (c_u W [⟨3,p ++ [(j:Int)], [],(gJ (cX ks (j - 1))).length,bZ,cV (cX ks j)⟩]):=by
 have hkl:ks.length <= 100000000:=by have:=fX ks;have:=hJ.kl;omega
 have hqw:(cX ks j).wt <= 100000000:=by rw [u_9 hj];have:=iK (List.getElem_mem hj);have:=hJ.kl;omega
 have hpl:(cV (cX ks j)).length <= 100000000:=by
  generalize cX ks j=q at hqw
  obtain⟨l,ps,t,kk⟩:=q
  have:=rV ps
  simp only [aK.wt]at hqw
  simp only [cV];omega
 obtain⟨w0,hw0⟩:∃w0,w0=W.alloc (Obj.cells #[.slice pa p.length pc,v1,v2,v3, .slice ak ks.length ck,v5,v6,v7,v8,v9,v10,v11,v12,v13, .int .i64 j,v15] 98):=⟨_,rfl⟩
 have hb0:Below W.heap.size W w0:=by rw [hw0];exact aX _ _
 have hB:At w0 W.heap.size [.slice pa p.length pc,v1,v2,v3, .slice ak ks.length ck,v5,v6,v7,v8,v9,v10,v11,v12,v13, .int .i64 j,v15] 98:=by rw [hw0];exact At.fresh _ _ _
 have hAt:=fun(w1:World) (hb:Below W.heap.size W w1)=>f_h p pa pc v1 v2 v3 (.slice ak ks.length ck) v5 v6 v7 v8 v9 v10 v11 v12 v13 v15 j 0 w1 (hJ.keep hb).path hJ.pl hJ.at_ (by omega) (by omega)
 rw [Int.add_zero]at hAt
 generalize p ++ [(j:Int)]=zs at hAt⊢
 have HAt:=a6 (fun(w1:World) (hb:Below w0.heap.size w0 w1)=>hAt w1 (hb0.trans (hb.mono hb0.size)))
 have HKd:=a6 (fun(w1:World) (hb:Below w0.heap.size w0 w1)=>e_j ks ak ck css (.slice pa p.length pc) v1 v2 v3 v5 v6 v7 v8 v9 v10 v11 v12 v13 v15 j w1 (hJ.keep (hb0.trans (hb.mono hb0.size))).kids (hJ.keep (hb0.trans (hb.mono hb0.size))).kids' hj hkl)
 have hld:=fun(w':World) (h:At w' W.heap.size [.slice pa p.length pc,v1,v2,v3, .slice ak ks.length ck,v5,v6,v7,v8,v9,v10,v11,v12,v13, .int .i64 j,v15] 98)=>At.load (P:=Tryz.prog) h Tryz.underlying98 rfl (by kernel_rfl)
 simp [go_sem]at hld
 have Hld:=a6 hld
 obtain⟨kb,ko,a1,c1,a2,c2,a3,c3,hak,hkb, -, -,g0,g1,g2,g3⟩:=i_m hJ.kids hJ.kids' (j - 1) (by omega)
 have f0:=(hb0.cell (p:=⟨kb,ko+(j - 1) * 4,none⟩) hkb).trans g0
 have f1:=(hb0.cell (p:=⟨kb,ko+(j - 1) * 4+1,none⟩) hkb).trans g1
 have f2:=(hb0.cell (p:=⟨kb,ko+(j - 1) * 4+2,none⟩) hkb).trans g2
 have f3:=(hb0.cell (p:=⟨kb,ko+(j - 1) * 4+3,none⟩) hkb).trans g3
 rw [<- u_9 (show j - 1 < ks.length by omega)]at f0 f1 f2 f3
 have hjI:(j:Int) <= ks.length:=by omega
 have hwr:IntKind.i64.wrap ((j:Int) - 1)=((j - 1:Nat):Int):=by rw [show ((j:Int) - 1)=((j - 1:Nat):Int)by omega];exact IntWalk.i64_in _ (by omega)
 have hj1:((j - 1:Nat):Int) < ks.length:=by omega
 generalize cX ks j=q at HKd hpl⊢
 generalize cX ks (j - 1)=qa at f0 f1 f2 f3⊢
 have hHB:=a6 hB;have Hb0:=a6 hb0;have Hw0:=a6 hw0
 have x4:=hB.cell 4 rfl;have x14:=hB.cell 14 rfl;have xl:=hB.lt
 rw [hak]at x4
 have Hak:=a6 hak
 clear hw0 hb0 hB hAt hJ hj hqw g0 g1 g2 g3 hld hak
 go_enter Tryz.func58,Tryz.ntmps58
 go_upto_region 1 with fail
 rw [<- Hw0.o]
 clear Hw0
 go_upto_region 2 with fail
 obtain⟨w1,hw1⟩:∃w1,w1=w0.alloc (Obj.cells #[.bool (aZ qa), .slice a1 (cV qa).length c1, .slice a2 (gJ qa).length c2, .slice a3 (aQ qa).length c3] 35):=⟨_,rfl⟩
 rw [<- hw1]
 have hb1:Below w0.heap.size w0 w1:=by rw [hw1];exact aX _ _
 have hN1:At w1 w0.heap.size [.bool (aZ qa), .slice a1 (cV qa).length c1, .slice a2 (gJ qa).length c2, .slice a3 (aQ qa).length c3] 35:=by rw [hw1];exact At.fresh _ _ _
 have hB1:=hHB.o.kept hb1
 have HB:=a6 hB1;have HN:=a6 hN1;have Hb1:=a6 hb1
 have HS0:=a6 (fun(w':World) (hb:Below w1.heap.size w1 w')=>And.intro (HB.o.kept hb) ((HN.o.kept hb).cell 2 rfl))
 have HAt2:=a6 (fun(w':World) (hb:Below w1.heap.size w1 w')=>HAt.o w' (Hb1.o.trans (hb.mono Hb1.o.size)))
 have HKd2:=a6 (fun(w':World) (hb:Below w1.heap.size w1 w')=>HKd.o w' (Hb1.o.trans (hb.mono Hb1.o.size)))
 have hld:=Hld.o
 have hfp:=f_C
 clear hw1 hb1 hN1 hB1 hHB f0 f1 f2 f3 x4 x14 HAt HKd
 go_region_held3 (fun w'=>At w' W.heap.size [.slice pa p.length pc,v1,v2,v3, .slice ak ks.length ck,v5,v6,v7,v8,v9,v10,v11,v12,v13, .int .i64 j,v15] 98/\w'.cell? ⟨w0.heap.size,2,none⟩=some (.slice a2 (gJ qa).length c2)) (refine HS0.o _ (by((repeat (first | with_reducible exact Hb4.o | with_reducible exact Hb3.o | with_reducible exact Hb2.o | with_reducible exact a7 | with_reducible refine Below.drew ?_ | with_reducible refine Below.alloc ?_ ?_ _ | with_reducible refine Below.setCell ?_ ?_ _)) <;> (first | with_reducible exact a8 | with_reducible exact Hb4.o.size | with_reducible exact Hb3.o.size | with_reducible exact Hb2.o.size | (have hsz:=Hb4.o.size;simp [World.setCell];omega) | (have hsz:=Hb3.o.size;simp [World.setCell];omega) | (have hsz:=Hb2.o.size;simp [World.setCell];omega) | (simp;done) | (simp;omega) | omega))))
  (first
  | (refine b9 rfl 109 _ _ rfl BV [.agg #[.slice pa p.length pc,v1,v2,v3, .slice ak ks.length ck,v5,v6,v7,v8,v9,v10,v11,v12,v13, .int .i64 j,v15], .int .i64 0] ?_ _ (HAt2.o _ (by((repeat (first | with_reducible exact a7 | with_reducible refine Below.drew ?_ | with_reducible refine Below.alloc ?_ ?_ _ | with_reducible refine Below.setCell ?_ ?_ _)) <;> (first | with_reducible exact a8 | (simp;done) | (simp;omega) | omega)))) ?_
     . go_simp
     rintro e w2 ⟨za,zc,rfl,hq,hbel⟩
     refine⟨_,rfl, ?_⟩
     have Hb2:=a6 (Below.and (w0:=w1) (by((repeat (first | with_reducible exact a7 | with_reducible refine Below.drew ?_ | with_reducible refine Below.alloc ?_ ?_ _ | with_reducible refine Below.setCell ?_ ?_ _)) <;> (first | with_reducible exact a8 | (simp;done) | (simp;omega) | omega))) hbel)
     have Hz:=a6 (RowQ.imp hq (fun b hb=>(show W.heap.size <= b from aJ (aJ Hb0.o.size (aJ Hb1.o.size (by(first | exact a8 | (simp;done) | (simp;omega) | omega)))) hb)))
     clear hbel hq)
  | (refine b9 rfl 110 _ _ rfl c_s [.agg #[.slice pa p.length pc,v1,v2,v3, .slice ak ks.length ck,v5,v6,v7,v8,v9,v10,v11,v12,v13, .int .i64 j,v15]] ?_ _ (HKd2.o _ (by((repeat (first | with_reducible exact Hb2.o | with_reducible exact a7 | with_reducible refine Below.drew ?_ | with_reducible refine Below.alloc ?_ ?_ _ | with_reducible refine Below.setCell ?_ ?_ _)) <;> (first | with_reducible exact a8 | with_reducible exact Hb2.o.size | (have hsz:=Hb2.o.size;simp [World.setCell];omega) | (simp;done) | (simp;omega) | omega)))) ?_
     . go_simp
     rintro e w3 ⟨kv,rfl,hkv,hbel⟩
     obtain⟨lq,pq,tq,kq⟩:=q
     obtain⟨aq,cq,bq,dq,eq_,fq,gq,rfl,hpr, -, -, -⟩:=hkv.open
     refine⟨_,rfl, ?_⟩
     have Hb3:=a6 (Below.and (w0:=w1) (by((repeat (first | with_reducible exact Hb2.o | with_reducible exact a7 | with_reducible refine Below.drew ?_ | with_reducible refine Below.alloc ?_ ?_ _ | with_reducible refine Below.setCell ?_ ?_ _)) <;> (first | with_reducible exact a8 | with_reducible exact Hb2.o.size | (have hsz:=Hb2.o.size;simp [World.setCell];omega) | (simp;done) | (simp;omega) | omega))) hbel)
     have Hs3:=a6 hbel
     have Hpr:=a6 hpr
     clear hbel hkv hpr)
  | (refine b9 rfl 113 _ _ rfl f_k [.slice aq pq.length cq] ?_ _ (yY _ pq.length aq cq _ _ Hpr.o (a8) hpl) ?_
     . go_simp
     rintro e w4 ⟨ov,rfl,hown,hbel⟩
     obtain⟨oa,oc,rfl,hoq⟩:=oK hown (m7 _)
     refine⟨_,rfl, ?_⟩
     have Hb4:=a6 (Below.and (w0:=w1) (by((repeat (first | with_reducible exact Hb3.o | with_reducible exact a7 | with_reducible refine Below.drew ?_ | with_reducible refine Below.alloc ?_ ?_ _ | with_reducible refine Below.setCell ?_ ?_ _)) <;> (first | with_reducible exact a8 | with_reducible exact Hb3.o.size | (have hsz:=Hb3.o.size;simp [World.setCell];omega) | (simp;done) | (simp;omega) | omega))) hbel)
     have Hs4:=a6 hbel
     have Hoq:=a6 (RowQ.imp hoq (fun b hb=>(show W.heap.size <= b from aJ (aJ Hb0.o.size (aJ Hb1.o.size (by(first | exact Hb3.o.size | (have hsz:=Hb3.o.size;simp;omega) | exact a8 | (simp;done) | (simp;omega) | omega)))) hb)))
     clear hbel hown hoq))
 all_goals
  go_wp2_with fail
  go_ret
  refine⟨_,rfl,c_t (o:=⟨3,zs, [],(gJ qa).length,bZ,pq⟩) ⟨za,zc,none,0,_,_,_,_,oa,oc,rfl,(Hz.o.since Hs3.o).since Hs4.o,RowQ.empty _ _ _,b_Y _ _,Hoq.o⟩ (aJ Hb0.o.size (aJ Hb1.o.size Hb4.o.size)),Hb0.o.trans ((Below.and Hb1.o (Hb4.o.alloc Hb4.o.size _)).mono Hb0.o.size)⟩
def m6 (p:List Int) (j n:Nat):List j7:=(List.range n).map (fun i:Nat=>(⟨5,p ++ [(j:Int),0],p ++ [(j:Int)+(1+(i:Int))],0,bZ, []⟩:j7))
theorem b_s (p:List Int) (j n:Nat):(m6 p j n).length=n:=by simp [m6]
theorem e_p (p:List Int) (j n:Nat):m6 p j (n+1)=m6 p j n ++ [⟨5,p ++ [(j:Int),0],p ++ [(j:Int)+(1+(n:Int))],0,bZ, []⟩]:=by
 simp [m6,List.range_succ]
theorem n_g (p:List Int) (pa:Option Addr) (pc:Nat) (ks:List aK) (ak:Option Addr) (ck:Nat) (css:List Value) (v1 v2 v3 v5 v6 v7 v8 v9 v10 v11 v12 v13 v15:Value) (j:Nat) (W:World)
 (hJ:a_w W p pa pc ks ak ck css j) (hj:j < ks.length):
 Calls Tryz.prog 56 #[.agg #[.slice pa p.length pc,v1,v2,v3, .slice ak ks.length ck,v5,v6,v7,v8,v9,v10,v11,v12,v13, .int .i64 j,v15]] W (c_u W (m6 p j (aQ (cX ks j)).length ++ [⟨2,p ++ [(j:Int)], [],0,G6 (cX ks j), []⟩])):=by
 have hkl:ks.length <= 100000000:=by have:=fX ks;have:=hJ.kl;omega
 have hqw:(cX ks j).wt <= 100000000:=by rw [u_9 hj];have:=iK (List.getElem_mem hj);have:=hJ.kl;omega
 have hpl:=hJ.pl
 have hAt:=a6 (fun(d:Int) (h0:0 <= d) (h1:d <= 100000000) (w1:World) (hb:Below W.heap.size W w1)=>f_h p pa pc v1 v2 v3 (.slice ak ks.length ck) v5 v6 v7 v8 v9 v10 v11 v12 v13 v15 j d w1 (hJ.keep hb).path hJ.pl hJ.at_ h0 h1)
 have hK:=fun(w1:World) (hb:Below W.heap.size W w1)=>e_j ks ak ck css (.slice pa p.length pc) v1 v2 v3 v5 v6 v7 v8 v9 v10 v11 v12 v13 v15 j w1 (hJ.keep hb).kids (hJ.keep hb).kids' hj hkl
 have hld:=fun(w':World) (h:At w' W.heap.size [.slice pa p.length pc,v1,v2,v3, .slice ak ks.length ck,v5,v6,v7,v8,v9,v10,v11,v12,v13, .int .i64 j,v15] 98)=>At.load (P:=Tryz.prog) h Tryz.underlying98 rfl (by kernel_rfl)
 simp [go_sem]at hld
 have Hld:=a6 hld
 generalize cX ks j=q at hK hqw⊢
 have HC:=a6 (fun(v:Value) (w1:World) (hv:bY w1 w1.heap.size q v)=>a_N _ q v w1 (a8) hqw hv)
 obtain⟨lq,pq,tq,kq⟩:=q
 simp only [aQ,G6]
 have hkq:kq.length <= 100000000:=by have:=fX kq;simp only [aK.wt]at hqw;omega
 obtain⟨w0,hw0⟩:∃w0,w0=W.alloc (Obj.cells #[.slice pa p.length pc,v1,v2,v3, .slice ak ks.length ck,v5,v6,v7,v8,v9,v10,v11,v12,v13, .int .i64 j,v15] 98):=⟨_,rfl⟩
 have hb0:Below W.heap.size W w0:=by rw [hw0];exact aX _ _
 have hB:At w0 W.heap.size [.slice pa p.length pc,v1,v2,v3, .slice ak ks.length ck,v5,v6,v7,v8,v9,v10,v11,v12,v13, .int .i64 j,v15] 98:=by rw [hw0];exact At.fresh _ _ _
 have HKd:=a6 (hK w0 hb0)
 have Hw0:=a6 hw0;have Hb0:=a6 hb0;have HB:=a6 hB
 have hB0:=hB
 clear hw0 hb0 hB hJ hj hqw hK
 go_enter Tryz.func56,Tryz.ntmps56
 go_upto_region 1 with fail
 rw [<- Hw0.o]
 clear Hw0
 go_wp2_with fail
 refine HKd.o.mono ?_
 rintro e w1 ⟨kv,rfl,hkv,hbel⟩
 have Hb1:=a6 (Hb0.o.trans (hbel.mono Hb0.o.size))
 have HB1:=a6 (HB.o.kept hbel)
 have HC1:=a6 (HC.o kv w1 hkv)
 clear hbel hB0 HKd hkv hld
 go_wp2_with fail
 refine HC1.o.mono ?_
 rintro e w2 ⟨cs,rfl,hn,hbel⟩
 obtain⟨ap,cp,at_,ct,aq,cq,cqs,rfl,hqp,hqt,hqf,hqk,hqkk⟩:∃ap cp at_ ct aq cq cqs,cs= [.bool lq, .slice ap pq.length cp, .slice at_ tq.length ct, .slice aq kq.length cq]/\RowQ w2 (fun b=>w1.heap.size <= b) 2 ap pq.length cp (bK pq)/\RowQ w2 (fun b=>w1.heap.size <= b) 1 at_ tq.length ct (tq.map (Value.int .i32))/\(∀z∈tq,(Lit.int .i32 z).wf=true)/\RowQ w2 (fun b=>w1.heap.size <= b) 4 aq kq.length cq cqs/\bX w2 (fun b=>w1.heap.size <= b) kq cqs:=by
  unfold NodeQ at hn;exact hn
 have Hq0:=a6 (show NodeQ w2 (fun b=>W.heap.size <= b/\b < w2.heap.size) (.mk lq pq tq []) [.bool lq, .slice ap pq.length cp, .slice at_ tq.length ct, .slice none 0 0]by
  unfold NodeQ
  exact⟨ap,cp,at_,ct,none,0, [],rfl,hqp.keep (a8) (fun _ _ _=>rfl) (fun b hb hlt=>⟨aJ Hb1.o.size hb,hlt⟩),hqt.keep (a8) (fun _ _ _=>rfl) (fun b hb hlt=>⟨aJ Hb1.o.size hb,hlt⟩),hqf,RowQ.empty _ _ _,by unfold bX;rfl⟩)
 have Hb2:=a6 (Hb1.o.trans (hbel.mono Hb1.o.size))
 have HB2:=a6 (HB1.o.kept hbel)
 clear hbel hn hqp hqt hqf hqk hqkk HC1 HC HB1 HB
 obtain⟨w3,hw3⟩:∃w3,w3=w2.alloc (Obj.cells #[.bool lq, .slice ap pq.length cp, .slice at_ tq.length ct, .slice aq kq.length cq] 35):=⟨_,rfl⟩
 have hb3:Below w2.heap.size w2 w3:=by rw [hw3];exact aX _ _
 have hN3:At w3 w2.heap.size [.bool lq, .slice ap pq.length cp, .slice at_ tq.length ct, .slice aq kq.length cq] 35:=by rw [hw3];exact At.fresh _ _ _
 have hs3:w3.heap.size=w2.heap.size+1:=by rw [hw3];simp
 have Hb3:=a6 (Hb2.o.trans (hb3.mono Hb2.o.size))
 have HB3:=a6 (HB2.o.kept hb3);have HN3:=a6 hN3
 have Hq3:=a6 (Hq0.o.since hb3)
 have Hw3:=a6 hw3
 have HA3:=a6 (fun(d:Int) (h0:0 <= d) (h1:d <= 100000000) (w1:World) (hb:Below w3.heap.size w3 w1)=>hAt.o d h0 h1 w1 (Hb3.o.trans (hb.mono Hb3.o.size)))
 obtain⟨⟨n0,n1,n2,n3⟩,nf,nl⟩:=hN3.f4
 have hBl:=HB3.o.lt
 have hB2l:=HB2.o.lt
 have hAt0:=a6 (fun(w1:World) (hb:Below W.heap.size W w1)=>hAt.o 0 (Int.le_refl _) (by omega) w1 hb)
 clear hw3 hb3 hN3 hAt Hq0 HB2
 go_upto_region 2 with fail
 rw [<- Hw3.o]
 clear Hw3
 go_wp2_with fail
 obtain⟨zs,hzs⟩:∃zs,zs=p ++ [(j:Int)]:=⟨_,rfl⟩
 obtain⟨ys,hys⟩:∃ys,ys=p ++ [(j:Int),0]:=⟨_,rfl⟩
 have HZ:=a6 (fun(w1:World) (hb:Below w3.heap.size w3 w1)=>(show Calls Tryz.prog 109 #[.agg #[.slice pa p.length pc,v1,v2,v3, .slice ak ks.length ck,v5,v6,v7,v8,v9,v10,v11,v12,v13, .int .i64 j,v15], .int .i64 0] w1 (a_v w1 zs)by
  have h:=HA3.o 0 (Int.le_refl _) (by omega) w1 hb
  rw [Int.add_zero, <- hzs]at h
  exact h))
 have HU:=a6 (fun(za:Option Addr) (zc:Nat) (la:Option Addr) (w1:World) (h1:RowA w1 w1.heap.size 1 za zs.length zc (zs.map (Value.int .i64))) (h2:RowA w1 w1.heap.size 1 la 1 1 [.int .i64 0])=>(show Calls Tryz.prog 111 #[.slice za zs.length zc, .slice la 1 1] w1 (a_v w1 ys)by
  have h:=e_i zs [0] za zc la 1 w1 h1 h2 (by rw [hzs];simp;omega)
  rw [show zs ++ [0]=ys by rw [hzs,hys];simp]at h
  exact h))
 have Hzs:=a6 hzs;have Hys:=a6 hys
 clear hzs hys n0 n1 n2 n3 nf nl
 go_loopg [4,12] kq.length (fun g v c wr=>∃i:Nat,c= .int .i64 i/\i+g=kq.length/\sY w3.heap.size w3.heap.size wr v (m6 p j i)/\Below w3.heap.size w3 wr)
 case atStart=>exact⟨0,rfl,by omega,sY.nil _ _ _,a7⟩
 case round =>
  obtain⟨i,rfl,hg,hO,hbr⟩:=hrel
  have HO:=a6 hO;have Hbr:=a6 hbr
  have HBr:=a6 (HB3.o.kept hbr)
  have hwr3:=hbr.size
  clear hO hbr
  by_cases hlt:i < kq.length
  . --<1
    have hlti:(i:Int) < kq.length:=by omega
    have hwr:IntKind.i64.wrap (1+(i:Int))=1+(i:Int):=IntWalk.i64_in _ (by omega)
    have HX:=a6 (fun(w1:World) (hb:Below wr.heap.size wr w1)=>HA3.o (1+(i:Int)) (by omega) (by omega) w1 (Hbr.o.trans (hb.mono hwr3)))
    have HZr:=a6 (fun(w1:World) (hb:Below wr.heap.size wr w1)=>HZ.o w1 (Hbr.o.trans (hb.mono hwr3)))
    have HV:=a6 HO.o.lt
    obtain⟨xs,hxs⟩:∃xs,xs=p ++ [(j:Int)+(1+(i:Int))]:=⟨_,rfl⟩
    rw [<- hxs]at HX
    have Hsucc:=a6 (show m6 p j (i+1)=m6 p j i ++ [⟨5,ys,xs,0,bZ, []⟩]by rw [e_p,hxs,Hys.o])
    have hll:(m6 p j i).length <= 100000000:=by rw [b_s];omega
    have hld:=Hld.o
    generalize m6 p j i=L1 at HO Hsucc hll
    clear hxs
    go_upto_region 6 with fail
    go_region_held3 (fun w'=>At w' W.heap.size [.slice pa p.length pc,v1,v2,v3, .slice ak ks.length ck,v5,v6,v7,v8,v9,v10,v11,v12,v13, .int .i64 j,v15] 98) ((repeat (first | with_reducible exact HB8.o | with_reducible exact HB6.o | with_reducible exact HB5.o | with_reducible exact HB4.o | with_reducible exact HBr.o | with_reducible exact At.second _ _ _ _ | with_reducible exact At.fresh _ _ _ | with_reducible refine At.drew ?_ | with_reducible refine At.alloc ?_ _)))
     (first
     | (refine b9 rfl 109 _ _ rfl BV [.agg #[.slice pa p.length pc,v1,v2,v3, .slice ak ks.length ck,v5,v6,v7,v8,v9,v10,v11,v12,v13, .int .i64 j,v15], .int .i64 0] ?_ _ (HZr.o _ (by((repeat (first | with_reducible exact a7 | with_reducible refine Below.drew ?_ | with_reducible refine Below.alloc ?_ ?_ _ | with_reducible refine Below.setCell ?_ ?_ _)) <;> (first | with_reducible exact a8 | (simp;done) | (simp;omega) | omega)))) ?_
        . go_simp
        rintro e w4 ⟨za,zc,rfl,hq,hbel⟩
        refine⟨_,rfl, ?_⟩
        have Hb4:=a6 (Below.and (w0:=wr) (by((repeat (first | with_reducible exact a7 | with_reducible refine Below.drew ?_ | with_reducible refine Below.alloc ?_ ?_ _ | with_reducible refine Below.setCell ?_ ?_ _)) <;> (first | with_reducible exact a8 | (simp;done) | (simp;omega) | omega))) hbel)
        first
         | (refine At.lay (N:= ?_) (cs:= [.int .i64 0]) (T:=3) (At.kept ?_ hbel) ?_
            rotate_left
            . (repeat (first | with_reducible exact At.second _ _ _ _ | with_reducible exact At.fresh _ _ _ | with_reducible refine At.drew ?_ | with_reducible refine At.alloc ?_ _))
            intro HL4)
         | skip
        have HB4:=a6 (HBr.o.kept Hb4.o)
        have Hz:=a6 hq.any
        clear hbel hq)
     | (refine b9 rfl 111 _ _ rfl FY [.slice za zs.length zc, .slice (some ⟨w4.heap.size,0,none⟩) 1 1] ?_ _ (HU.o _ _ _ _ (RowQ.row (ok:=fun _=>True) (by(repeat (first | with_reducible exact Hz.o | with_reducible refine uQ ?_ _)))) (RowQ.row (ok:=fun _=>True) (wZ (T:=3) (by(repeat (first | with_reducible exact HL4.o | with_reducible exact At.second _ _ _ _ | with_reducible exact At.fresh _ _ _ | with_reducible refine At.drew ?_ | with_reducible refine At.alloc ?_ _))) 1 1 rfl (by omega) (tQ [0]) trivial))) ?_
        . go_simp
        rintro e w5 ⟨ya,yc,rfl,hq,hbel⟩
        refine⟨_,rfl, ?_⟩
        have Hb5:=a6 (Below.and (w0:=wr) (by((repeat (first | with_reducible exact Hb4.o | with_reducible exact a7 | with_reducible refine Below.drew ?_ | with_reducible refine Below.alloc ?_ ?_ _ | with_reducible refine Below.setCell ?_ ?_ _)) <;> (first | with_reducible exact a8 | with_reducible exact Hb4.o.size | (have hsz:=Hb4.o.size;simp [World.setCell];omega) | (simp;done) | (simp;omega) | omega))) hbel)
        have HB5:=a6 (HBr.o.kept Hb5.o)
        have Hy:=a6 (RowQ.imp hq (fun b hb=>(show wr.heap.size <= b from aJ (by(first | exact Hb4.o.size | (have hsz:=Hb4.o.size;simp;omega) | exact a8 | (simp;done) | (simp;omega) | omega)) hb)))
        clear hbel hq)
     | (refine b9 rfl 111 _ _ rfl FY [.slice za zs.length zc, .slice (some ⟨wr.heap.size,0,none⟩) 1 1] ?_ _ (HU.o _ _ _ _ (RowQ.row (ok:=fun _=>True) (by(repeat (first | with_reducible exact Hz.o | with_reducible refine uQ ?_ _)))) (RowQ.row (ok:=fun _=>True) (wZ (T:=3) (by(repeat (first | with_reducible exact HL4.o | with_reducible exact At.second _ _ _ _ | with_reducible exact At.fresh _ _ _ | with_reducible refine At.drew ?_ | with_reducible refine At.alloc ?_ _))) 1 1 rfl (by omega) (tQ [0]) trivial))) ?_
        . go_simp
        rintro e w5 ⟨ya,yc,rfl,hq,hbel⟩
        refine⟨_,rfl, ?_⟩
        have Hb5:=a6 (Below.and (w0:=wr) (by((repeat (first | with_reducible exact Hb4.o | with_reducible exact a7 | with_reducible refine Below.drew ?_ | with_reducible refine Below.alloc ?_ ?_ _ | with_reducible refine Below.setCell ?_ ?_ _)) <;> (first | with_reducible exact a8 | with_reducible exact Hb4.o.size | (have hsz:=Hb4.o.size;simp [World.setCell];omega) | (simp;done) | (simp;omega) | omega))) hbel)
        have HB5:=a6 (HBr.o.kept Hb5.o)
        have Hy:=a6 (RowQ.imp hq (fun b hb=>(show wr.heap.size <= b from aJ (by(first | exact Hb4.o.size | (have hsz:=Hb4.o.size;simp;omega) | exact a8 | (simp;done) | (simp;omega) | omega)) hb)))
        clear hbel hq)
     | (refine b9 rfl 109 _ _ rfl BV [.agg #[.slice pa p.length pc,v1,v2,v3, .slice ak ks.length ck,v5,v6,v7,v8,v9,v10,v11,v12,v13, .int .i64 j,v15], .int .i64 (1+(i:Int))] ?_ _ (HX.o _ (by((repeat (first | with_reducible exact Hb5.o | with_reducible exact Hb4.o | with_reducible exact a7 | with_reducible refine Below.drew ?_ | with_reducible refine Below.alloc ?_ ?_ _ | with_reducible refine Below.setCell ?_ ?_ _)) <;> (first | with_reducible exact a8 | with_reducible exact Hb5.o.size | with_reducible exact Hb4.o.size | (have hsz:=Hb5.o.size;simp [World.setCell];omega) | (have hsz:=Hb4.o.size;simp [World.setCell];omega) | (simp;done) | (simp;omega) | omega)))) ?_
        . go_simp
        rintro e w6 ⟨xa,xc,rfl,hq,hbel⟩
        refine⟨_,rfl, ?_⟩
        have Hb6:=a6 (Below.and (w0:=wr) (by((repeat (first | with_reducible exact Hb5.o | with_reducible exact Hb4.o | with_reducible exact a7 | with_reducible refine Below.drew ?_ | with_reducible refine Below.alloc ?_ ?_ _ | with_reducible refine Below.setCell ?_ ?_ _)) <;> (first | with_reducible exact a8 | with_reducible exact Hb5.o.size | with_reducible exact Hb4.o.size | (have hsz:=Hb5.o.size;simp [World.setCell];omega) | (have hsz:=Hb4.o.size;simp [World.setCell];omega) | (simp;done) | (simp;omega) | omega))) hbel)
        have Hs6:=a6 hbel
        have HB6:=a6 (HBr.o.kept Hb6.o)
        have Hx:=a6 (RowQ.imp hq (fun b hb=>(show wr.heap.size <= b from aJ (by(first | exact Hb5.o.size | (have hsz:=Hb5.o.size;simp;omega) | exact a8 | (simp;done) | (simp;omega) | omega)) hb)))
        clear hbel hq)
     | (refine b_2 rfl _ _ rfl Tryz.underlying42 e_k w3.heap.size w3.heap.size _ L1 ?_ (HO.o.below Hb6.o) ⟨5,ys,xs,0,bZ, []⟩ (BK ⟨5,ys,xs,0,bZ, []⟩ ya yc xa xc (.bool false) (.slice none 0 0) (.slice none 0 0) (.slice none 0 0) none 0) rfl ?_ ?_ hll ?_ ?_
        . go_simp
        . go_simp
        . exact⟨ya,yc,xa,xc,_,_,_,_,none,0,rfl,(Hy.o.since Hs6.o).imp (fun b hb=>⟨aJ hwr3 hb,HV.o b hb⟩),Hx.o.imp (fun b hb=>⟨aJ hwr3 hb,HV.o b hb⟩),b_Y _ _,RowQ.empty _ _ _⟩
        . exact aJ hwr3 Hb6.o.size
        intro v' w8 hO8 hb8
        have HO8:=a6 hO8
        have Hb8:=a6 ((Hbr.o.trans (Hb6.o.mono hwr3)).trans hb8)
        have HB8:=a6 (HB6.o.keep (hb8.mono hBl))
        clear hO8 hb8))
    all_goals
     clear hld
     go_wp2_with fail
     go_roundg (kq.length - (i+1))
     case measure=>omega
     case rel=>exact⟨i+1,by go_num,by omega,by rw [Hsucc.o];exact HO8.o,Hb8.o⟩
  . --<2
    obtain rfl:i=kq.length:=by omega
    have hN:=HN3.o.kept Hbr.o
    have hlr:=hN.lt
    obtain⟨⟨n0,n1,n2,n3⟩,nf,nl⟩:=hN.f4
    have HNr:=a6 hN
    clear hN
    obtain⟨va,vc,hv⟩:=HO.o.form
    subst hv
    have hll:=b_s p j kq.length
    go_upto_region 9 with fail
    obtain⟨w5,hw5⟩:∃w5,w5=wr.setCell ⟨w2.heap.size,3,none⟩ (.slice none 0 0):=⟨_,rfl⟩
    rw [<- hw5]
    have HO5:=a6 (show sY w3.heap.size w3.heap.size w5 _ (m6 p j kq.length)by rw [hw5];exact HO.o.set (by omega) (by omega) _)
    have HN5:=a6 (show At w5 w2.heap.size [.bool lq, .slice ap pq.length cp, .slice at_ tq.length ct, .slice none 0 0] 35 by rw [hw5];exact HNr.o.set 3 _)
    have HB5:=a6 (show At w5 W.heap.size [.slice pa p.length pc,v1,v2,v3, .slice ak ks.length ck,v5,v6,v7,v8,v9,v10,v11,v12,v13, .int .i64 j,v15] 98 by rw [hw5];exact HBr.o.set_ne (by omega) _)
    have Hq5:=a6 (show NodeQ w5 (fun b=>W.heap.size <= b/\b < w2.heap.size) (.mk lq pq tq []) [.bool lq, .slice ap pq.length cp, .slice at_ tq.length ct, .slice none 0 0]by rw [hw5];exact cQ ((Hq3.o).since Hbr.o) (by omega))
    have Hb5:=a6 (show Below W.heap.size W w5 by rw [hw5];exact(Hb3.o.trans (Hbr.o.mono Hb3.o.size)).setCell (p:=⟨w2.heap.size,3,none⟩) (by show W.heap.size <= w2.heap.size;omega) _)
    have hs5:w5.heap.size=wr.heap.size:=by rw [hw5];simp [World.setCell]
    have HZ5:=a6 (fun(w1:World) (hb:Below w5.heap.size w5 w1)=>(show Calls Tryz.prog 109 #[.agg #[.slice pa p.length pc,v1,v2,v3, .slice ak ks.length ck,v5,v6,v7,v8,v9,v10,v11,v12,v13, .int .i64 j,v15], .int .i64 0] w1 (a_v w1 zs)by
     have h:=hAt0.o w1 (Hb5.o.trans (hb.mono Hb5.o.size))
     rw [Int.add_zero, <- Hzs.o]at h
     exact h))
    have HS0:=a6 (fun(w':World) (hb:Below w5.heap.size w5 w')=>And.intro (HB5.o.kept hb) (HN5.o.kept hb))
    have hln:=fun(w':World) (h:At w' w2.heap.size [.bool lq, .slice ap pq.length cp, .slice at_ tq.length ct, .slice none 0 0] 35)=>At.load (P:=Tryz.prog) h Tryz.underlying35 rfl (by kernel_rfl)
    simp [go_sem]at hln
    have hld:=Hld.o
    clear hw5 n0 n1 n2 n3 nf nl HB3 HN3 HBr HNr HO Hq3 HZ HU
    go_region_held3 (fun w'=>At w' W.heap.size [.slice pa p.length pc,v1,v2,v3, .slice ak ks.length ck,v5,v6,v7,v8,v9,v10,v11,v12,v13, .int .i64 j,v15] 98/\At w' w2.heap.size [.bool lq, .slice ap pq.length cp, .slice at_ tq.length ct, .slice none 0 0] 35) (first | with_reducible exact HS8.o | (refine HS0.o _ (by((repeat (first | with_reducible exact Hb6.o | with_reducible exact a7 | with_reducible refine Below.drew ?_ | with_reducible refine Below.alloc ?_ ?_ _ | with_reducible refine Below.setCell ?_ ?_ _)) <;> (first | with_reducible exact a8 | with_reducible exact Hb6.o.size | (have hsz:=Hb6.o.size;simp [World.setCell];omega) | (simp;done) | (simp;omega) | omega)))))
     (first
     | (refine b9 rfl 109 _ _ rfl BV [.agg #[.slice pa p.length pc,v1,v2,v3, .slice ak ks.length ck,v5,v6,v7,v8,v9,v10,v11,v12,v13, .int .i64 j,v15], .int .i64 0] ?_ _ (HZ5.o _ (by((repeat (first | with_reducible exact a7 | with_reducible refine Below.drew ?_ | with_reducible refine Below.alloc ?_ ?_ _ | with_reducible refine Below.setCell ?_ ?_ _)) <;> (first | with_reducible exact a8 | (simp;done) | (simp;omega) | omega)))) ?_
        . go_simp
        rintro e w6 ⟨za,zc,rfl,hq,hbel⟩
        refine⟨_,rfl, ?_⟩
        have Hb6:=a6 (Below.and (w0:=w5) (by((repeat (first | with_reducible exact a7 | with_reducible refine Below.drew ?_ | with_reducible refine Below.alloc ?_ ?_ _ | with_reducible refine Below.setCell ?_ ?_ _)) <;> (first | with_reducible exact a8 | (simp;done) | (simp;omega) | omega))) hbel)
        have Hz:=a6 hq
        clear hbel hq)
     | (refine b_2 rfl _ _ rfl Tryz.underlying42 e_k W.heap.size w3.heap.size _ (m6 p j kq.length) ?_ ((HO5.o.below Hb6.o).from Hb3.o.size) ⟨2,zs, [],0, .mk lq pq tq [], []⟩ (BK ⟨2,zs, [],0, .mk lq pq tq [], []⟩ za zc none 0 (.bool lq) (.slice ap pq.length cp) (.slice at_ tq.length ct) (.slice none 0 0) none 0) rfl ?_ ?_ (by omega) ?_ ?_
        . go_simp
        . go_simp
        . exact⟨za,zc,none,0,_,_,_,_,none,0,rfl,Hz.o.imp (fun b hb=>⟨aJ Hb5.o.size hb,HO5.o.lt b hb⟩),RowQ.empty _ _ _,NodeQ.keep (a8) (fun _ _ _=>rfl) (fun b hb _=>⟨hb.1,fun e=>by have:=HO5.o.ge b e;have:=hb.2;omega⟩) _ _ (Hq5.o.since Hb6.o),RowQ.empty _ _ _⟩
        . exact aJ (by omega) Hb6.o.size
        intro v' w8 hO8 hb8
        have HO8:=a6 hO8
        have Hb8:=a6 ((Hb5.o.trans (Hb6.o.mono Hb5.o.size)).trans (hb8.mono (by omega)))
        have HS8:=a6 (And.intro ((HB5.o.kept Hb6.o).keep (hb8.mono hBl)) ((HN5.o.kept Hb6.o).keep (hb8.mono (by omega))))
        clear hO8 hb8))
    all_goals
     go_wp2_with fail
     go_ret
     refine⟨_,rfl, ?_,Hb8.o⟩
     rw [<- Hzs.o]
     exact HO8.o.opsF (a8) Hb3.o.size
theorem At.part {P:Program} {w:World} {N:Nat} {cs:List Value} {T U:TypeId} {d:TypeDesc} (h:At w N cs T) (o:Nat) (ds:List Value) (hds:(cs.drop o).take ds.length=ds) (hu:P.underlying U=some d) (hd:d.isRow=true) (hi:(P.info? U).map (·.size)=some ds.length):
 (Instr.loadAt U (.pointer (some ⟨N,o,none⟩))).run P w= .ok (.agg ds.toArray) w:=
 run_loadAt_mid w N o U ds d (fun j v hj=>h.cell (o+j) (by
  rw [<- hds,List.getElem?_take]at hj
  split at hj
  . rw [List.getElem?_drop]at hj;exact hj
  . cases hj)) hu hd hi
theorem sY.lit {L M:Nat} {w:World} {o:j7} {c:List Value} (h:OpQ w (fun b=>L <= b) o c) (hM:M <= w.heap.size):sY L M (w.alloc (.cells c.toArray 55)) (.slice (some ⟨w.heap.size,0,none⟩) 1 1) [o]:=by
 have hat:=At.fresh w c 55
 have hl:=h.len
 refine⟨c,⟨by rw [hl];rfl, .inr ⟨w.heap.size,1,c.toArray,rfl,hM,hat,a8,by unfold maxLen;omega,by simp [hl], ?_⟩⟩,lZ.single (h.stay ⟨by simp,fun b _ hlt=>Lib.alloc_old _ _ _ hlt,fun b hb hlt=>⟨hb, ?_⟩⟩)⟩
 . show List.take (1 * 21) c=c
   exact List.take_of_length_le (by omega)
 . intro e
   injection e with e
   simp at e;omega
theorem g_T (d:Int) (t:ByteArray) (w:World):(Instr.field 24 (.agg #[.int .i64 d, .string t]) 1).run Tryz.prog w= .ok (.string t) w:=by kernel_rfl
def nX (p:List Int) (j n:Nat):List j7:=(List.range n).map (fun i:Nat=>(⟨5,p ++ [(j:Int)+1],p ++ [(j:Int),(i:Int)],0,bZ, []⟩:j7))
theorem f_D (p:List Int) (j n:Nat):(nX p j n).length=n:=by simp [nX]
theorem e_q (p:List Int) (j n:Nat):nX p j (n+1)=nX p j n ++ [⟨5,p ++ [(j:Int)+1],p ++ [(j:Int),(n:Int)],0,bZ, []⟩]:=by
 simp [nX,List.range_succ]
theorem n_h (p:List Int) (pa:Option Addr) (pc:Nat) (ks:List aK) (ak:Option Addr) (ck:Nat) (css:List Value) (R:bJ) (ra:Option Addr) (rc:Nat) (v1 v2 v3 v13:Value) (j mk:Nat) (W:World)
 (hJ:a_w W p pa pc ks ak ck css j) (hj:j < ks.length) (hR:RowA W W.heap.size 3 ra R.kids.length rc (dY R.kids)) (hRk:R.kids.length <= 100000000) (hmk:mk <= 100000000):
 Calls Tryz.prog 57 #[.agg #[.slice pa p.length pc,v1,v2,v3, .slice ak ks.length ck,aV R.type, .int .i64 R.text.1,aV R.text.2, .int .i64 R.other.1,aV R.other.2, .slice ra R.kids.length rc, .int .i64 R.fill,aV R.fillT,v13, .int .i64 j, .int .i64 mk]] W (c_u W (⟨1,p ++ [(j:Int)], [],0,fQ (eY R (cX ks j)).2, []⟩::nX p j mk)):=by
 have hkl:ks.length <= 100000000:=by have:=fX ks;have:=hJ.kl;omega
 have hqw:(cX ks j).wt <= 100000000:=by rw [u_9 hj];have:=iK (List.getElem_mem hj);have:=hJ.kl;omega
 have hpl:=hJ.pl
 obtain⟨w0,hw0⟩:∃w0,w0=W.alloc (Obj.cells #[.slice pa p.length pc,v1,v2,v3, .slice ak ks.length ck,aV R.type, .int .i64 R.text.1,aV R.text.2, .int .i64 R.other.1,aV R.other.2, .slice ra R.kids.length rc, .int .i64 R.fill,aV R.fillT,v13, .int .i64 j, .int .i64 mk] 98):=⟨_,rfl⟩
 have hb0:Below W.heap.size W w0:=by rw [hw0];exact aX _ _
 have hB:At w0 W.heap.size [.slice pa p.length pc,v1,v2,v3, .slice ak ks.length ck,aV R.type, .int .i64 R.text.1,aV R.text.2, .int .i64 R.other.1,aV R.other.2, .slice ra R.kids.length rc, .int .i64 R.fill,aV R.fillT,v13, .int .i64 j, .int .i64 mk] 98:=by rw [hw0];exact At.fresh _ _ _
 have HAt:=a6 (fun(d:Int) (h0:0 <= d) (h1:d <= 100000000) (w1:World) (hb:Below w0.heap.size w0 w1)=>f_h p pa pc v1 v2 v3 (.slice ak ks.length ck) (aV R.type) (.int .i64 R.text.1) (aV R.text.2) (.int .i64 R.other.1) (aV R.other.2) (.slice ra R.kids.length rc) (.int .i64 R.fill) (aV R.fillT) v13 (.int .i64 mk) j d w1 (hJ.keep (hb0.trans (hb.mono hb0.size))).path hJ.pl hJ.at_ h0 h1)
 have HKd:=a6 (fun(w1:World) (hb:Below w0.heap.size w0 w1)=>e_j ks ak ck css (.slice pa p.length pc) v1 v2 v3 (aV R.type) (.int .i64 R.text.1) (aV R.text.2) (.int .i64 R.other.1) (aV R.other.2) (.slice ra R.kids.length rc) (.int .i64 R.fill) (aV R.fillT) v13 (.int .i64 mk) j w1 (hJ.keep (hb0.trans (hb.mono hb0.size))).kids (hJ.keep (hb0.trans (hb.mono hb0.size))).kids' hj hkl)
 have HAc:=a6 (fun(kv:Value) (w1:World) (hb:Below w0.heap.size w0 w1) (hv:bY w1 w1.heap.size (cX ks j) kv)=>(show Calls Tryz.prog 71 #[.agg #[aV R.type, .int .i64 R.text.1,aV R.text.2, .int .i64 R.other.1,aV R.other.2, .slice ra R.kids.length rc, .int .i64 R.fill,aV R.fillT],kv] w1 (l_n w1 (eY R (cX ks j)))from h_y R ra rc (cX ks j) kv w1 (hR.keep (hb0.trans (hb.mono hb0.size)) (hb0.trans (hb.mono hb0.size)).size) hRk hv hqw))
 have HTy:=a6 (fun(k:List UInt8) (w1:World)=>f_i k w1)
 have hld:=fun(w':World) (h:At w' W.heap.size [.slice pa p.length pc,v1,v2,v3, .slice ak ks.length ck,aV R.type, .int .i64 R.text.1,aV R.text.2, .int .i64 R.other.1,aV R.other.2, .slice ra R.kids.length rc, .int .i64 R.fill,aV R.fillT,v13, .int .i64 j, .int .i64 mk] 98)=>At.load (P:=Tryz.prog) h Tryz.underlying98 rfl (by kernel_rfl)
 simp [go_sem]at hld
 have hlr:=fun(w':World) (h:At w' W.heap.size [.slice pa p.length pc,v1,v2,v3, .slice ak ks.length ck,aV R.type, .int .i64 R.text.1,aV R.text.2, .int .i64 R.other.1,aV R.other.2, .slice ra R.kids.length rc, .int .i64 R.fill,aV R.fillT,v13, .int .i64 j, .int .i64 mk] 98)=>At.part (P:=Tryz.prog) h 5 [aV R.type, .int .i64 R.text.1,aV R.text.2, .int .i64 R.other.1,aV R.other.2, .slice ra R.kids.length rc, .int .i64 R.fill,aV R.fillT] rfl Tryz.underlying27 rfl (by kernel_rfl)
 simp [go_sem]at hlr
 obtain⟨zs,hzs⟩:∃zs,zs=p ++ [(j:Int)]:=⟨_,rfl⟩
 rw [<- hzs]
 generalize cX ks j=q at HKd HAc⊢
 generalize eY R q=A at HAc⊢
 have HZ:=a6 (fun(w1:World) (hb:Below w0.heap.size w0 w1)=>(show Calls Tryz.prog 109 #[.agg #[.slice pa p.length pc,v1,v2,v3, .slice ak ks.length ck,aV R.type, .int .i64 R.text.1,aV R.text.2, .int .i64 R.other.1,aV R.other.2, .slice ra R.kids.length rc, .int .i64 R.fill,aV R.fillT,v13, .int .i64 j, .int .i64 mk], .int .i64 0] w1 (a_v w1 zs)by
  have h:=HAt.o 0 (Int.le_refl _) (by omega) w1 hb
  rw [Int.add_zero, <- hzs]at h
  exact h))
 have HU:=a6 (fun(i:Nat) (za:Option Addr) (zc:Nat) (la:Option Addr) (w1:World) (h1:RowA w1 w1.heap.size 1 za zs.length zc (zs.map (Value.int .i64))) (h2:RowA w1 w1.heap.size 1 la 1 1 [.int .i64 i])=>(show Calls Tryz.prog 111 #[.slice za zs.length zc, .slice la 1 1] w1 (a_v w1 (p ++ [(j:Int),(i:Int)]))by
  have h:=e_i zs [(i:Int)] za zc la 1 w1 h1 h2 (by rw [hzs];simp;omega)
  rw [show zs ++ [(i:Int)]=p ++ [(j:Int),(i:Int)]by rw [hzs];simp]at h
  exact h))
 have Hw0:=a6 hw0;have Hb0:=a6 hb0;have HB:=a6 hB;have Hld:=a6 hld
 have hBl:=hB.lt
 have hft:=g_T
 clear hw0 hb0 hB hJ hj hqw hzs
 go_enter Tryz.func57,Tryz.ntmps57
 go_upto_region 1 with fail
 rw [<- Hw0.o]
 clear Hw0
 go_cut [3] (fun v wx=>sY w0.heap.size w0.heap.size wx v [⟨1,zs, [],0,fQ A.2, []⟩]/\Below w0.heap.size w0 wx)
 case first=>
  go_region_held3 (fun w'=>At w' W.heap.size [.slice pa p.length pc,v1,v2,v3, .slice ak ks.length ck,aV R.type, .int .i64 R.text.1,aV R.text.2, .int .i64 R.other.1,aV R.other.2, .slice ra R.kids.length rc, .int .i64 R.fill,aV R.fillT,v13, .int .i64 j, .int .i64 mk] 98) ((repeat (first | with_reducible exact HB4.o | with_reducible exact HB3.o | with_reducible exact HB2.o | with_reducible exact HB1.o | with_reducible exact HB.o | with_reducible exact At.second _ _ _ _ | with_reducible exact At.fresh _ _ _ | with_reducible refine At.drew ?_ | with_reducible refine At.alloc ?_ _)))
   (first
   | (refine b9 rfl 109 _ _ rfl BV [.agg #[.slice pa p.length pc,v1,v2,v3, .slice ak ks.length ck,aV R.type, .int .i64 R.text.1,aV R.text.2, .int .i64 R.other.1,aV R.other.2, .slice ra R.kids.length rc, .int .i64 R.fill,aV R.fillT,v13, .int .i64 j, .int .i64 mk], .int .i64 0] ?_ _ (HZ.o _ (by((repeat (first | with_reducible exact a7 | with_reducible refine Below.drew ?_ | with_reducible refine Below.alloc ?_ ?_ _ | with_reducible refine Below.setCell ?_ ?_ _)) <;> (first | with_reducible exact a8 | (simp;done) | (simp;omega) | omega)))) ?_
      . go_simp
      rintro e w1 ⟨za,zc,rfl,hq,hbel⟩
      refine⟨_,rfl, ?_⟩
      have Hb1:=a6 (Below.and (w0:=w0) (by((repeat (first | with_reducible exact a7 | with_reducible refine Below.drew ?_ | with_reducible refine Below.alloc ?_ ?_ _ | with_reducible refine Below.setCell ?_ ?_ _)) <;> (first | with_reducible exact a8 | (simp;done) | (simp;omega) | omega))) hbel)
      have HB1:=a6 (HB.o.kept Hb1.o)
      have Hz:=a6 (RowQ.imp hq (fun b hb=>(show w0.heap.size <= b from aJ (by(first | exact a8 | (simp;done) | (simp;omega) | omega)) hb)))
      clear hbel hq)
   | (refine b9 rfl 110 _ _ rfl c_s [.agg #[.slice pa p.length pc,v1,v2,v3, .slice ak ks.length ck,aV R.type, .int .i64 R.text.1,aV R.text.2, .int .i64 R.other.1,aV R.other.2, .slice ra R.kids.length rc, .int .i64 R.fill,aV R.fillT,v13, .int .i64 j, .int .i64 mk]] ?_ _ (HKd.o _ (by((repeat (first | with_reducible exact Hb1.o | with_reducible exact a7 | with_reducible refine Below.drew ?_ | with_reducible refine Below.alloc ?_ ?_ _ | with_reducible refine Below.setCell ?_ ?_ _)) <;> (first | with_reducible exact a8 | with_reducible exact Hb1.o.size | (have hsz:=Hb1.o.size;simp [World.setCell];omega) | (simp;done) | (simp;omega) | omega)))) ?_
      . go_simp
      rintro e w2 ⟨kv,rfl,hkv,hbel⟩
      refine⟨_,rfl, ?_⟩
      have Hb2:=a6 (Below.and (w0:=w0) (by((repeat (first | with_reducible exact Hb1.o | with_reducible exact a7 | with_reducible refine Below.drew ?_ | with_reducible refine Below.alloc ?_ ?_ _ | with_reducible refine Below.setCell ?_ ?_ _)) <;> (first | with_reducible exact a8 | with_reducible exact Hb1.o.size | (have hsz:=Hb1.o.size;simp [World.setCell];omega) | (simp;done) | (simp;omega) | omega))) hbel)
      have Hs2:=a6 hbel
      have HB2:=a6 (HB.o.kept Hb2.o)
      have Hkv:=a6 hkv
      clear hbel hkv)
   | (refine b9 rfl 71 _ _ rfl d_y [.agg #[aV R.type, .int .i64 R.text.1,aV R.text.2, .int .i64 R.other.1,aV R.other.2, .slice ra R.kids.length rc, .int .i64 R.fill,aV R.fillT],kv] ?_ _ (HAc.o kv _ Hb2.o Hkv.o) ?_
      . go_simp
      rintro e w3 ⟨rfl,hbel⟩
      refine⟨_,rfl, ?_⟩
      have Hb3:=a6 (Below.and (w0:=w0) (by((repeat (first | with_reducible exact Hb2.o | with_reducible exact a7 | with_reducible refine Below.drew ?_ | with_reducible refine Below.alloc ?_ ?_ _ | with_reducible refine Below.setCell ?_ ?_ _)) <;> (first | with_reducible exact a8 | with_reducible exact Hb2.o.size | (have hsz:=Hb2.o.size;simp [World.setCell];omega) | (simp;done) | (simp;omega) | omega))) hbel)
      have Hs3:=a6 hbel
      have HB3:=a6 (HB.o.kept Hb3.o)
      clear hbel)
   | (refine b9 rfl 112 _ _ rfl g_J [aV A.2] ?_ _ (HTy.o A.2 _) ?_
      . go_simp
      rintro e w4 ⟨cs,rfl,hn,hbel⟩
      obtain⟨l,a1,m1,k1,a2,m2,k2,a3,m3,k3,rfl⟩:=hn.form
      refine⟨_,rfl, ?_⟩
      have Hb4:=a6 (Below.and (w0:=w0) (by((repeat (first | with_reducible exact Hb3.o | with_reducible exact a7 | with_reducible refine Below.drew ?_ | with_reducible refine Below.alloc ?_ ?_ _ | with_reducible refine Below.setCell ?_ ?_ _)) <;> (first | with_reducible exact a8 | with_reducible exact Hb3.o.size | (have hsz:=Hb3.o.size;simp [World.setCell];omega) | (simp;done) | (simp;omega) | omega))) hbel)
      have Hs4:=a6 hbel
      have HB4:=a6 (HB.o.kept Hb4.o)
      have Hn:=a6 (NodeQ.keep (ok':=fun b=>w0.heap.size <= b) (a8) (fun _ _ _=>rfl) (fun b hb _=>aJ (by(first | exact Hb3.o.size | (have hsz:=Hb3.o.size;simp;omega) | exact a8 | (simp;done) | (simp;omega) | omega)) hb) _ _ hn)
      clear hbel hn))
  all_goals
   go_wp2_with fail
   go_meet
   case rel=>
    refine⟨sY.lit (o:=⟨1,zs, [],0,fQ A.2, []⟩) ⟨za,zc,none,0,_,_,_,_,none,0,rfl,(((Hz.o.since Hs2.o).since Hs3.o).since Hs4.o),RowQ.empty _ _ _,Hn.o,RowQ.empty _ _ _⟩ Hb4.o.size,Hb4.o.alloc Hb4.o.size _⟩
 case rest=>
  obtain⟨hO,hbc⟩:=hcut
  have HBc:=a6 (HB.o.kept hbc)
  have HO0:=a6 hO;have Hbc:=a6 hbc
  have hBc:=HBc.o
  have x15:=hBc.cell 15 rfl
  have xl:=hBc.lt
  clear hO hbc hBc
  go_wp2_with fail
  clear x15
  go_loopg [3,19] mk (fun g v c wr=>∃i:Nat,c= .int .i64 i/\i+g=mk/\sY w0.heap.size w0.heap.size wr v (⟨1,zs, [],0,fQ A.2, []⟩::nX p j i)/\Below w0.heap.size w0 wr)
  case atStart=>exact⟨0,rfl,by omega,HO0.o,Hbc.o⟩
  case round=>
   obtain⟨i,rfl,hg,hO,hbr⟩:=hrel
   have HO:=a6 hO;have Hbr:=a6 hbr
   have HBr:=a6 (HB.o.kept hbr)
   have hwr3:=hbr.size
   clear hO hbr
   by_cases hlt:i < mk
   . have hlti:(i:Int) < mk:=by omega
     have HX:=a6 (fun(w1:World) (hb:Below wr.heap.size wr w1)=>HAt.o 1 (by omega) (by omega) w1 (Hbr.o.trans (hb.mono hwr3)))
     have HZr:=a6 (fun(w1:World) (hb:Below wr.heap.size wr w1)=>HZ.o w1 (Hbr.o.trans (hb.mono hwr3)))
     have HV:=a6 HO.o.lt
     have hll:((⟨1,zs, [],0,fQ A.2, []⟩:j7)::nX p j i).length <= 100000000:=by rw [List.length_cons,f_D];omega
     have Hsucc:=a6 (show (⟨1,zs, [],0,fQ A.2, []⟩:j7)::nX p j (i+1)=(⟨1,zs, [],0,fQ A.2, []⟩::nX p j i) ++ [⟨5,p ++ [(j:Int)+1],p ++ [(j:Int),(i:Int)],0,bZ, []⟩]by rw [e_q];rfl)
     generalize (⟨1,zs, [],0,fQ A.2, []⟩:j7)::nX p j i=L1 at HO Hsucc hll
     have HUi:=a6 (HU.o i)
     generalize p ++ [(j:Int)+1]=xs at HX Hsucc
     generalize p ++ [(j:Int),(i:Int)]=ys at HUi Hsucc
     go_upto_region 5 with fail
     go_region_held3 (fun w'=>At w' W.heap.size [.slice pa p.length pc,v1,v2,v3, .slice ak ks.length ck,aV R.type, .int .i64 R.text.1,aV R.text.2, .int .i64 R.other.1,aV R.other.2, .slice ra R.kids.length rc, .int .i64 R.fill,aV R.fillT,v13, .int .i64 j, .int .i64 mk] 98) ((repeat (first | with_reducible exact HB8.o | with_reducible exact HB7.o | with_reducible exact HB6.o | with_reducible exact HB5.o | with_reducible exact HBr.o | with_reducible exact At.second _ _ _ _ | with_reducible exact At.fresh _ _ _ | with_reducible refine At.drew ?_ | with_reducible refine At.alloc ?_ _)))
      (first
     | (refine b9 rfl 109 _ _ rfl BV [.agg #[.slice pa p.length pc,v1,v2,v3, .slice ak ks.length ck,aV R.type, .int .i64 R.text.1,aV R.text.2, .int .i64 R.other.1,aV R.other.2, .slice ra R.kids.length rc, .int .i64 R.fill,aV R.fillT,v13, .int .i64 j, .int .i64 mk], .int .i64 1] ?_ _ (HX.o _ (by((repeat (first | with_reducible exact a7 | with_reducible refine Below.drew ?_ | with_reducible refine Below.alloc ?_ ?_ _ | with_reducible refine Below.setCell ?_ ?_ _)) <;> (first | with_reducible exact a8 | (simp;done) | (simp;omega) | omega)))) ?_
        . go_simp
        rintro e w5 ⟨xa,xc,rfl,hq,hbel⟩
        refine⟨_,rfl, ?_⟩
        have Hb5:=a6 (Below.and (w0:=wr) (by((repeat (first | with_reducible exact a7 | with_reducible refine Below.drew ?_ | with_reducible refine Below.alloc ?_ ?_ _ | with_reducible refine Below.setCell ?_ ?_ _)) <;> (first | with_reducible exact a8 | (simp;done) | (simp;omega) | omega))) hbel)
        first
         | (refine At.lay (N:= ?_) (cs:= [.int .i64 i]) (T:=3) (At.kept ?_ hbel) ?_
            rotate_left
            . (repeat (first | with_reducible exact At.second _ _ _ _ | with_reducible exact At.fresh _ _ _ | with_reducible refine At.drew ?_ | with_reducible refine At.alloc ?_ _))
            intro HL5)
         | skip
        have HB5:=a6 (HBr.o.kept Hb5.o)
        have Hx:=a6 (RowQ.imp hq (fun b hb=>(show wr.heap.size <= b from aJ (by(first | exact a8 | (simp;done) | (simp;omega) | omega)) hb)))
        clear hbel hq)
     | (refine b9 rfl 109 _ _ rfl BV [.agg #[.slice pa p.length pc,v1,v2,v3, .slice ak ks.length ck,aV R.type, .int .i64 R.text.1,aV R.text.2, .int .i64 R.other.1,aV R.other.2, .slice ra R.kids.length rc, .int .i64 R.fill,aV R.fillT,v13, .int .i64 j, .int .i64 mk], .int .i64 0] ?_ _ (HZr.o _ (by((repeat (first | with_reducible exact Hb5.o | with_reducible exact a7 | with_reducible refine Below.drew ?_ | with_reducible refine Below.alloc ?_ ?_ _ | with_reducible refine Below.setCell ?_ ?_ _)) <;> (first | with_reducible exact a8 | with_reducible exact Hb5.o.size | (have hsz:=Hb5.o.size;simp [World.setCell];omega) | (simp;done) | (simp;omega) | omega)))) ?_
        . go_simp
        rintro e w6 ⟨za,zc,rfl,hq,hbel⟩
        refine⟨_,rfl, ?_⟩
        have Hb6:=a6 (Below.and (w0:=wr) (by((repeat (first | with_reducible exact Hb5.o | with_reducible exact a7 | with_reducible refine Below.drew ?_ | with_reducible refine Below.alloc ?_ ?_ _ | with_reducible refine Below.setCell ?_ ?_ _)) <;> (first | with_reducible exact a8 | with_reducible exact Hb5.o.size | (have hsz:=Hb5.o.size;simp [World.setCell];omega) | (simp;done) | (simp;omega) | omega))) hbel)
        have Hs6:=a6 (Below.and (w0:=w5) (by((repeat (first | with_reducible exact a7 | with_reducible refine Below.drew ?_ | with_reducible refine Below.alloc ?_ ?_ _ | with_reducible refine Below.setCell ?_ ?_ _)) <;> (first | with_reducible exact a8 | (simp;done) | (simp;omega) | omega))) hbel)
        first
         | (refine At.lay (N:= ?_) (cs:= [.int .i64 i]) (T:=3) (At.kept ?_ hbel) ?_
            rotate_left
            . (repeat (first | with_reducible exact HL5.o | with_reducible exact At.second _ _ _ _ | with_reducible exact At.fresh _ _ _ | with_reducible refine At.drew ?_ | with_reducible refine At.alloc ?_ _))
            intro HL6)
         | skip
        have HB6:=a6 (HBr.o.kept Hb6.o)
        have Hz:=a6 hq.any
        clear hbel hq)
     | (refine b9 rfl 111 _ _ rfl FY [.slice za zs.length zc, .slice (some ⟨w6.heap.size,0,none⟩) 1 1] ?_ _ (HUi.o _ _ _ _ (RowQ.row (ok:=fun _=>True) (by(repeat (first | with_reducible exact Hz.o | with_reducible refine uQ ?_ _)))) (RowQ.row (ok:=fun _=>True) (wZ (T:=3) (by(repeat (first | with_reducible exact HL6.o | with_reducible exact At.second _ _ _ _ | with_reducible exact At.fresh _ _ _ | with_reducible refine At.drew ?_ | with_reducible refine At.alloc ?_ _))) 1 1 rfl (by omega) (tQ [(i:Int)]) trivial))) ?_
        . go_simp
        rintro e w7 ⟨ya,yc,rfl,hq,hbel⟩
        refine⟨_,rfl, ?_⟩
        have Hb7:=a6 (Below.and (w0:=wr) (by((repeat (first | with_reducible exact Hb6.o | with_reducible exact a7 | with_reducible refine Below.drew ?_ | with_reducible refine Below.alloc ?_ ?_ _ | with_reducible refine Below.setCell ?_ ?_ _)) <;> (first | with_reducible exact a8 | with_reducible exact Hb6.o.size | (have hsz:=Hb6.o.size;simp [World.setCell];omega) | (simp;done) | (simp;omega) | omega))) hbel)
        have Hs7:=a6 (Below.and (w0:=w6) (by((repeat (first | with_reducible exact a7 | with_reducible refine Below.drew ?_ | with_reducible refine Below.alloc ?_ ?_ _ | with_reducible refine Below.setCell ?_ ?_ _)) <;> (first | with_reducible exact a8 | (simp;done) | (simp;omega) | omega))) hbel)
        have HB7:=a6 (HBr.o.kept Hb7.o)
        have Hy:=a6 (RowQ.imp hq (fun b hb=>(show wr.heap.size <= b from aJ (by(first | exact Hb6.o.size | (have hsz:=Hb6.o.size;simp;omega) | exact a8 | (simp;done) | (simp;omega) | omega)) hb)))
        clear hbel hq)
     | (refine b9 rfl 111 _ _ rfl FY [.slice za zs.length zc, .slice (some ⟨w5.heap.size,0,none⟩) 1 1] ?_ _ (HUi.o _ _ _ _ (RowQ.row (ok:=fun _=>True) (by(repeat (first | with_reducible exact Hz.o | with_reducible refine uQ ?_ _)))) (RowQ.row (ok:=fun _=>True) (wZ (T:=3) (by(repeat (first | with_reducible exact HL6.o | with_reducible exact At.second _ _ _ _ | with_reducible exact At.fresh _ _ _ | with_reducible refine At.drew ?_ | with_reducible refine At.alloc ?_ _))) 1 1 rfl (by omega) (tQ [(i:Int)]) trivial))) ?_
        . go_simp
        rintro e w7 ⟨ya,yc,rfl,hq,hbel⟩
        refine⟨_,rfl, ?_⟩
        have Hb7:=a6 (Below.and (w0:=wr) (by((repeat (first | with_reducible exact Hb6.o | with_reducible exact a7 | with_reducible refine Below.drew ?_ | with_reducible refine Below.alloc ?_ ?_ _ | with_reducible refine Below.setCell ?_ ?_ _)) <;> (first | with_reducible exact a8 | with_reducible exact Hb6.o.size | (have hsz:=Hb6.o.size;simp [World.setCell];omega) | (simp;done) | (simp;omega) | omega))) hbel)
        have Hs7:=a6 (Below.and (w0:=w6) (by((repeat (first | with_reducible exact a7 | with_reducible refine Below.drew ?_ | with_reducible refine Below.alloc ?_ ?_ _ | with_reducible refine Below.setCell ?_ ?_ _)) <;> (first | with_reducible exact a8 | (simp;done) | (simp;omega) | omega))) hbel)
        have HB7:=a6 (HBr.o.kept Hb7.o)
        have Hy:=a6 (RowQ.imp hq (fun b hb=>(show wr.heap.size <= b from aJ (by(first | exact Hb6.o.size | (have hsz:=Hb6.o.size;simp;omega) | exact a8 | (simp;done) | (simp;omega) | omega)) hb)))
        clear hbel hq)
     | (refine b9 rfl 111 _ _ rfl FY [.slice za zs.length zc, .slice (some ⟨wr.heap.size,0,none⟩) 1 1] ?_ _ (HUi.o _ _ _ _ (RowQ.row (ok:=fun _=>True) (by(repeat (first | with_reducible exact Hz.o | with_reducible refine uQ ?_ _)))) (RowQ.row (ok:=fun _=>True) (wZ (T:=3) (by(repeat (first | with_reducible exact HL6.o | with_reducible exact At.second _ _ _ _ | with_reducible exact At.fresh _ _ _ | with_reducible refine At.drew ?_ | with_reducible refine At.alloc ?_ _))) 1 1 rfl (by omega) (tQ [(i:Int)]) trivial))) ?_
        . go_simp
        rintro e w7 ⟨ya,yc,rfl,hq,hbel⟩
        refine⟨_,rfl, ?_⟩
        have Hb7:=a6 (Below.and (w0:=wr) (by((repeat (first | with_reducible exact Hb6.o | with_reducible exact a7 | with_reducible refine Below.drew ?_ | with_reducible refine Below.alloc ?_ ?_ _ | with_reducible refine Below.setCell ?_ ?_ _)) <;> (first | with_reducible exact a8 | with_reducible exact Hb6.o.size | (have hsz:=Hb6.o.size;simp [World.setCell];omega) | (simp;done) | (simp;omega) | omega))) hbel)
        have Hs7:=a6 (Below.and (w0:=w6) (by((repeat (first | with_reducible exact a7 | with_reducible refine Below.drew ?_ | with_reducible refine Below.alloc ?_ ?_ _ | with_reducible refine Below.setCell ?_ ?_ _)) <;> (first | with_reducible exact a8 | (simp;done) | (simp;omega) | omega))) hbel)
        have HB7:=a6 (HBr.o.kept Hb7.o)
        have Hy:=a6 (RowQ.imp hq (fun b hb=>(show wr.heap.size <= b from aJ (by(first | exact Hb6.o.size | (have hsz:=Hb6.o.size;simp;omega) | exact a8 | (simp;done) | (simp;omega) | omega)) hb)))
        clear hbel hq)
     | (refine b_2 rfl _ _ rfl Tryz.underlying42 e_k w0.heap.size w0.heap.size _ L1 ?_ (HO.o.below Hb7.o) ⟨5,xs,ys,0,bZ, []⟩ (BK ⟨5,xs,ys,0,bZ, []⟩ xa xc ya yc (.bool false) (.slice none 0 0) (.slice none 0 0) (.slice none 0 0) none 0) rfl ?_ ?_ hll ?_ ?_
        . go_simp
        . go_simp
        . exact⟨xa,xc,ya,yc,_,_,_,_,none,0,rfl,((Hx.o.since Hs6.o).since Hs7.o).imp (fun b hb=>⟨aJ hwr3 hb,HV.o b hb⟩),Hy.o.imp (fun b hb=>⟨aJ hwr3 hb,HV.o b hb⟩),b_Y _ _,RowQ.empty _ _ _⟩
        . exact aJ hwr3 Hb7.o.size
        intro v' w8 hO8 hb8
        have HO8:=a6 hO8
        have Hb8:=a6 ((Hbr.o.trans (Hb7.o.mono hwr3)).trans hb8)
        have HB8:=a6 (HB7.o.keep (hb8.mono hBl))
        clear hO8 hb8))
     all_goals
      clear hld hlr
      go_wp2_with fail
      go_roundg (mk - (i+1))
      case measure=>omega
      case rel=>exact⟨i+1,by go_num,by omega,by rw [Hsucc.o];exact HO8.o,Hb8.o⟩
   . obtain rfl:i=mk:=by omega
     clear hld hlr
     go_wp2_with fail
     go_ret
     exact⟨_,rfl,HO.o.opsF Hb0.o.size Hb0.o.size,Hb0.o.trans (Hbr.o.mono Hb0.o.size)⟩
end Go.Proofs.YtmadpclcmjahoaaGreatDoor
