/- Parts of the proof: 15. -/
import Derived.Test.YtmadpclcmjahoaaGreatDoorFN1
import Derived.Test.YtmadpclcmjahoaaGreatDoorFN14
import Derived.Test.YtmadpclcmjahoaaGreatDoorFN8
import Derived.Test.YtmadpclcmjahoaaGreatDoorFN11
import Derived.Deep.RegionHeld3
set_option linter.unusedVariables false
set_option linter.unusedSimpArgs false
set_option maxHeartbeats 8000000
set_option maxRecDepth 100000
namespace Go.Proofs.YtmadpclcmjahoaaGreatDoor
open Go.RowKit Go.Redl
abbrev b_3:List (Int×Value):= [(1, .string ⟨#[112,110]⟩),(2, .string ⟨#[112,110]⟩),(3, .string ⟨#[112,97,111]⟩),(4, .string ⟨#[112,97,119]⟩),(5, .string ⟨#[112,116]⟩),(6, .string ⟨#[112,111,119]⟩),(7, .string ⟨#[112,97,120]⟩),(8, .string ⟨#[112,97,120]⟩),(9, .string ⟨#[115]⟩)]
theorem l_V:∀args w,(callFunc 175 args).run Tryz.prog w= .ok (.enter 175 args) w:=by intro args w;kernel_rfl
theorem h_L (p d:List Int) (kd pos:Int) (nd:aK) (ol:List eK) (pa ta oa:Option Addr) (pc tc oc:Nat) (l0:Bool) (a1 a2 a3:Option Addr) (m1 m2 m3 c1 c2 c3:Nat) (W:World) (hbig:nd.wt <= 100000000) (hn:bY W W.heap.size nd (.agg #[.bool l0, .slice a1 m1 c1, .slice a2 m2 c2, .slice a3 m3 c3])) (hne:p≠ [])
 (fs:List UInt8) (hfs:JV b_3 kd (.string ⟨#[]⟩)=(.string ⟨fs.toArray⟩,true)) (hfl:fs.length <= 1000) (hall:∀c∈onB (AQ p d pos nd ol),c∈fs):
 Calls Tryz.prog 116 #[.agg #[.int .i64 kd, .slice pa p.length pc, .slice ta d.length tc, .int .i64 pos, .bool l0, .slice a1 m1 c1, .slice a2 m2 c2, .slice a3 m3 c3, .slice oa ol.length oc, .slice none 0 0, .slice none 0 0, .bool false, .slice none 0 0, .int .i64 0, .slice none 0 0, .int .i64 0, .bool false, .slice none 0 0, .int .i64 0, .slice none 0 0, .int .i64 0]] W (fun e w'=>e= .returned (.int .i64 0)/\Below W.heap.size W w'):=by
 obtain⟨w0,hw0⟩:∃w0,w0=W.alloc (Obj.cells #[.int .i64 kd, .slice pa p.length pc, .slice ta d.length tc, .int .i64 pos, .bool l0, .slice a1 m1 c1, .slice a2 m2 c2, .slice a3 m3 c3, .slice oa ol.length oc, .slice none 0 0, .slice none 0 0, .bool false, .slice none 0 0, .int .i64 0, .slice none 0 0, .int .i64 0, .bool false, .slice none 0 0, .int .i64 0, .slice none 0 0, .int .i64 0] 55):=⟨_,rfl⟩
 have hb0:Below W.heap.size W w0:=by rw [hw0];exact aX _ _
 have hA:At w0 W.heap.size [.int .i64 kd, .slice pa p.length pc, .slice ta d.length tc, .int .i64 pos, .bool l0, .slice a1 m1 c1, .slice a2 m2 c2, .slice a3 m3 c3, .slice oa ol.length oc, .slice none 0 0, .slice none 0 0, .bool false, .slice none 0 0, .int .i64 0, .slice none 0 0, .int .i64 0, .bool false, .slice none 0 0, .int .i64 0, .slice none 0 0, .int .i64 0] 55:=by rw [hw0];exact At.fresh W _ _
 have HS0:=a6 (fun(w':World) (hb:Below w0.heap.size w0 w')=>(hA.kept hb).cell 0 rfl)
 have HA:=a6 hA
 have HB:=a6 (fun(w':World) (hb:Below w0.heap.size w0 w')=>n_2 p d kd pos nd ol pa ta oa pc tc oc l0 a1 a2 a3 m1 m2 m3 c1 c2 c3 w' hbig (by obtain⟨cs,he,hc⟩:=hn;exact⟨cs,he,dJ.keep (hb0.trans (hb.mono hb0.size)) (hb0.trans (hb.mono hb0.size)).size _ _ hc⟩) hne)
 have hLl:(onB (AQ p d pos nd ol)).length <= 9:=by
  unfold onB
  rw [List.length_map]
  exact aJ (List.length_filter_le _ _) (by unfold AQ;simp)
 have HAll:=a6 hall
 generalize onB (AQ p d pos nd ol)=L at HB HAll hLl
 have hzs:∀w,(zeroValue 9).run Tryz.prog w= .ok (.string ⟨#[]⟩) w:=by intro w;kernel_rfl
 have HAK:=a6 (fun(w:World) (b:Nat) (hm:tJ w b b_3)=>h_K (P:=Tryz.prog) (K:=3) hm Tryz.underlying204 Tryz.underlying3 (.string ⟨#[]⟩) hzs kd (by decide))
 rw [hfs]at HAK
 have Hb0:=a6 hb0;have Hw0:=a6 hw0
 clear hn hA hb0 hw0 hzs hfs hall hne
 go_enter Tryz.func116,Tryz.ntmps116
 go_upto_region 1 with fail
 rw [<- Hw0.o]
 clear Hw0
 go_cut [3,4] (fun f b wx=>f= .string ⟨fs.toArray⟩/\b= .bool true/\Below w0.heap.size w0 wx)
 case first=>
  go_region_held3 (fun w'=>w'.cell? ⟨W.heap.size,0,none⟩=some (.int .i64 kd)) (refine HS0.o _ (by((repeat (first | with_reducible exact Hb1.o | with_reducible exact a7 | with_reducible refine Below.drew ?_ | with_reducible refine Below.alloc ?_ ?_ _ | with_reducible refine Below.setCell ?_ ?_ _)) <;> (first | with_reducible exact a8 | with_reducible exact Hb1.o.size | (have hsz:=Hb1.o.size;simp [World.setCell];omega) | (simp;done) | (simp;omega) | omega))))
   (first
   | (refine b9 rfl 175 _ _ rfl l_V [] ?_ _ (n_J _) ?_
      . go_simp
      rintro e w1 ⟨rfl,hm,hbel⟩
      refine⟨_,rfl, ?_⟩
      have ha:(Instr.lookup 204 (.map (some w0.heap.size)) (.int .i64 kd) true).run Tryz.prog w1= .ok (.tuple #[.string ⟨fs.toArray⟩, .bool true]) w1:=HAK.o _ _ hm
      have Hb1:=a6 (Below.and (w0:=w0) (by((repeat (first | with_reducible exact a7 | with_reducible refine Below.drew ?_ | with_reducible refine Below.alloc ?_ ?_ _ | with_reducible refine Below.setCell ?_ ?_ _)) <;> (first | with_reducible exact a8 | (simp;done) | (simp;omega) | omega))) hbel)
      clear hbel hm))
  all_goals
   go_wp2_with fail
   go_meet
   case rel=>exact⟨rfl,rfl,Hb1.o⟩
 case rest=>
  obtain⟨rfl,rfl,hbc⟩:=hcut
  have Hb1:=a6 hbc
  clear hbc
  go_upto_region 4 with fail
  have hA1:=HA.o.kept Hb1.o
  have hl1:=At.load (P:=Tryz.prog) hA1 Tryz.underlying55 rfl (by kernel_rfl)
  simp [go_sem]at hl1
  have HB1:=a6 (HB.o _ Hb1.o)
  clear hA1
  go_wp2_with fail
  refine HB1.o.mono ?_
  rintro e w2 ⟨rfl,hbel⟩
  obtain⟨cap,wb,hcv,hbb,hlt,hcell⟩:=b_o L w2
  have Hb2:=a6 (((Hb0.o.trans (Hb1.o.mono Hb0.o.size)).trans (hbel.mono (aJ Hb0.o.size Hb1.o.size))).trans (hbb.mono (aJ (aJ Hb0.o.size Hb1.o.size) hbel.size)))
  have Hcell:=a6 hcell;have Hlt:=a6 hlt
  clear HB1 hbel hbb hcell hlt hl1
  go_wp2_with fail
  clear hcv
  go_loopg [20,6] L.length (fun g i _ wr=>∃j:Nat,i= .int .i64 j/\j+g=L.length/\Below wb.heap.size wb wr)
  case atStart=>exact⟨0,rfl,by omega,a7⟩
  case round=>
   obtain⟨j,rfl,hg,hbr⟩:=hrel
   by_cases hj:j < L.length
   . have hji:(j:Int) < L.length:=by omega
     have x0:=(hbr.cell (p:=⟨w2.heap.size,j,none⟩) Hlt.o).trans (Hcell.o j hj)
     have hmem:L.getD j 0∈L:=by rw [List.getD_eq_getElem?_getD,List.getElem?_eq_getElem hj];exact List.getElem_mem hj
     generalize L.getD j 0=y at x0 hmem
     have hf:=HAll.o y hmem
     have hxl:w2.heap.size < wr.heap.size:=Nat.lt_of_lt_of_le Hlt.o hbr.size
     obtain⟨cap2,wb2,hcv2,hbb2,hlt2,hcell2⟩:=b_o fs wr
     have HC:=a6 (l_U fs y wr.heap.size cap2 wb2 hcell2 hfl)
     rw [decide_eq_true hf]at HC
     have Hbn:=a6 (hbr.trans (hbb2.mono hbr.size))
     clear hmem hf hbb2 hlt2 hcell2 hbr
     go_wp2_with fail
     refine HC.o.mono ?_
     rintro e w5 ⟨rfl,rfl⟩
     clear HC hcv2
     go_wp2_with fail
     go_roundg (L.length - (j+1))
     case measure=>omega
     case rel=>exact⟨j+1,by go_num,by omega,Hbn.o⟩
   . obtain rfl:j=L.length:=by omega
     have Hbe:=a6 (Hb2.o.trans (hbr.mono Hb2.o.size))
     clear hbr
     go_wp2_with fail
     go_ret
     exact⟨rfl,Hbe.o⟩
theorem n_3 (n:aK) (p d:List Int) (kd pos:Int) (nd:aK) (ol:List eK) (b1 b2 b3:Option Addr) (o1 o2 o3 d1 d2 d3:Nat) (pa ta oa:Option Addr) (pc tc oc:Nat) (l0:Bool) (a1 a2 a3:Option Addr) (m1 m2 m3 c1 c2 c3:Nat) (W:World)
 (hbn:n.wt <= 1048576) (hv:bY W W.heap.size n (.agg #[.bool false, .slice b1 o1 d1, .slice b2 o2 d2, .slice b3 o3 d3])) (hE:eQ n=0)
 (hbig:nd.wt <= 100000000) (hn:bY W W.heap.size nd (.agg #[.bool l0, .slice a1 m1 c1, .slice a2 m2 c2, .slice a3 m3 c3])) (hne:p≠ [])
 (fs:List UInt8) (hfs:JV b_3 kd (.string ⟨#[]⟩)=(.string ⟨fs.toArray⟩,true)) (hfl:fs.length <= 1000) (hall:∀c∈onB (AQ p d pos nd ol),c∈fs):
 Calls Tryz.prog 62 #[.agg #[.bool false, .slice b1 o1 d1, .slice b2 o2 d2, .slice b3 o3 d3],IK, .agg #[.int .i64 kd, .slice pa p.length pc, .slice ta d.length tc, .int .i64 pos, .bool l0, .slice a1 m1 c1, .slice a2 m2 c2, .slice a3 m3 c3, .slice oa ol.length oc, .slice none 0 0, .slice none 0 0, .bool false, .slice none 0 0, .int .i64 0, .slice none 0 0, .int .i64 0, .bool false, .slice none 0 0, .int .i64 0, .slice none 0 0, .int .i64 0]] W (fun e w'=>e= .returned (.int .i64 0)/\Below W.heap.size W w'):=by
 obtain⟨w0,hw0⟩:∃w0,w0=((W.alloc (Obj.cells #[.bool false, .slice b1 o1 d1, .slice b2 o2 d2, .slice b3 o3 d3] 35)).alloc (Obj.cells #[.bool false, .slice none 0 0, .int .i64 0, .slice none 0 0, .int .i64 0] 53)).alloc (Obj.cells #[.int .i64 kd, .slice pa p.length pc, .slice ta d.length tc, .int .i64 pos, .bool l0, .slice a1 m1 c1, .slice a2 m2 c2, .slice a3 m3 c3, .slice oa ol.length oc, .slice none 0 0, .slice none 0 0, .bool false, .slice none 0 0, .int .i64 0, .slice none 0 0, .int .i64 0, .bool false, .slice none 0 0, .int .i64 0, .slice none 0 0, .int .i64 0] 55):=⟨_,rfl⟩
 have hb0:Below W.heap.size W w0:=by rw [hw0];exact iX _ _ _ _
 have hA:At w0 W.heap.size [.bool false, .slice b1 o1 d1, .slice b2 o2 d2, .slice b3 o3 d3] 35:=by rw [hw0];exact((At.fresh W _ _).alloc _).alloc _
 have hB:At w0 (W.heap.size+1) [.bool false, .slice none 0 0, .int .i64 0, .slice none 0 0, .int .i64 0] 53:=by rw [hw0];exact(At.second W _ _ _).alloc _
 have hC:At w0 (W.heap.size+1+1) [.int .i64 kd, .slice pa p.length pc, .slice ta d.length tc, .int .i64 pos, .bool l0, .slice a1 m1 c1, .slice a2 m2 c2, .slice a3 m3 c3, .slice oa ol.length oc, .slice none 0 0, .slice none 0 0, .bool false, .slice none 0 0, .int .i64 0, .slice none 0 0, .int .i64 0, .bool false, .slice none 0 0, .int .i64 0, .slice none 0 0, .int .i64 0] 55:=by rw [hw0];exact At.third W _ _ _ _
 have HV:=a6 (fun(w':World) (hb:Below w0.heap.size w0 w')=>(show bY w' w'.heap.size n (.agg #[.bool false, .slice b1 o1 d1, .slice b2 o2 d2, .slice b3 o3 d3])by obtain⟨cs,he,hc⟩:=hv;exact⟨cs,he,dJ.keep (hb0.trans (hb.mono hb0.size)) (hb0.trans (hb.mono hb0.size)).size _ _ hc⟩))
 have HF:=a6 (fun(w':World) (hb:Below w0.heap.size w0 w')=>h_L p d kd pos nd ol pa ta oa pc tc oc l0 a1 a2 a3 m1 m2 m3 c1 c2 c3 w' hbig (by obtain⟨cs,he,hc⟩:=hn;exact⟨cs,he,dJ.keep (hb0.trans (hb.mono hb0.size)) (hb0.trans (hb.mono hb0.size)).size _ _ hc⟩) hne fs hfs hfl hall)
 have hck:=c_d n _ w0.heap.size w0 hbn (HV.o w0 (a7)) (a8)
 rw [hE]at hck
 have HCk:=a6 hck
 have HA:=a6 hA;have HB:=a6 hB;have HC:=a6 hC
 have Hb0:=a6 hb0;have Hw0:=a6 hw0
 obtain⟨y0,y1,y2,y3, -, -⟩:=b6.facts hA
 clear hv hn hA hB hC hb0 hw0 hfs hall hne hck
 go_enter Tryz.func62,Tryz.ntmps62
 go_upto_region 1 with fail
 rw [<- Hw0.o]
 clear Hw0
 go_wp2_with fail
 refine HCk.o.mono ?_
 rintro e w1 ⟨rfl,hb1⟩
 have hA1:=HA.o.kept hb1
 obtain⟨z0,z1,z2,z3, -, -⟩:=b6.facts hA1
 obtain⟨⟨s0,s1,s2,s3,s4⟩, -, -⟩:=(HB.o.kept hb1).f5
 have HS:=a6 (f_d _ n w1 (HV.o w1 hb1))
 have Hb1:=a6 hb1
 clear HCk hb1 hA1 y0 y1 y2 y3
 go_wp2_with fail
 refine HS.o.mono ?_
 rintro e w2 ⟨rfl,hb2⟩
 have hb02:=Hb1.o.trans (hb2.mono Hb1.o.size)
 have hl:=At.load (P:=Tryz.prog) (HC.o.kept hb02) Tryz.underlying55 rfl (by kernel_rfl)
 simp [go_sem]at hl
 have HF2:=a6 (HF.o w2 hb02)
 have Hb2:=a6 (Hb0.o.trans (hb02.mono Hb0.o.size))
 clear HS hb2 hb02 z0 z1 z2 z3 s0 s1 s2 s3 s4
 go_wp2_with fail
 refine HF2.o.mono ?_
 rintro e w3 ⟨rfl,hb3⟩
 have Hb3:=a6 (Hb2.o.trans (hb3.mono Hb2.o.size))
 clear HF2 hb3 hl
 go_wp2_with fail
 go_ret
 exact⟨rfl,Hb3.o⟩
theorem g_L:∀args w,(callFunc 184 args).run Tryz.prog w= .ok (.enter 184 args) w:=by intro args w;kernel_rfl
theorem k_g (n:aK) (v:Value) (W:World) (hv:bY W W.heap.size n v):
 Calls Tryz.prog 184 #[v] W (fun e w'=>e= .returned (.int .i64 (BQ n))/\Below W.heap.size W w'):=by
 obtain⟨l,ps,t,ks⟩:=n
 obtain⟨ap,cp,at_,ct,ak,ck,css,rfl,hp,ht,hk,hkk⟩:=hv.open
 clear hv hp ht hk hkk
 have hl:BQ (.mk l ps t ks)=if l then t.length else ks.length:=rfl
 rw [hl]
 cases l
 all_goals
  go_enter Tryz.func184,Tryz.ntmps184
  go_wp2_with fail
  go_ret
  exact⟨rfl,aX _ _⟩
def jZ (w:World) (M N:Nat):aK ->List Value ->Prop
 | .mk l ps t ks,cs=>∃ (ap:Option Addr) (cp:Nat) (at_:Option Addr) (ct:Nat) (ak:Option Addr) (ck:Nat) (css:List Value),cs= [.bool l, .slice ap ps.length cp, .slice at_ t.length ct, .slice ak ks.length ck]/\
     RowQ w (fun b=>b≠N/\(Value.slice ak ks.length ck).ownBlock≠some b/\(Value.slice at_ t.length ct).ownBlock≠some b) 2 ap ps.length cp (bK ps)/\w.ownsRow M 21 1 (.slice at_ t.length ct) t.length (t.map (Value.int .i32))/\(∀z∈t,(Lit.int .i32 z).wf=true)/\
     w.ownsRow M 35 4 (.slice ak ks.length ck) ks.length css/\bX w (fun b=>b≠N/\(Value.slice ak ks.length ck).ownBlock≠some b/\(Value.slice at_ t.length ct).ownBlock≠some b) ks css/\(∀b,(Value.slice at_ t.length ct).ownBlock=some b ->b≠N/\(Value.slice ak ks.length ck).ownBlock≠some b)/\(Value.slice ak ks.length ck).ownBlock≠some N
theorem jZ.of {w w':World} {M N:Nat} {n:aK} {cs:List Value} (h:rQ w M n cs) (hN:w.heap.size <= N) (hb:Below w.heap.size w w'):jZ w' M N n cs:=by
 obtain⟨l,ps,t,ks⟩:=n
 unfold rQ at h
 unfold jZ
 obtain⟨ap,cp,at_,ct,ak,ck,css,h1,h2,h3,h4,h5,h6,h7⟩:=h
 exact⟨ap,cp,at_,ct,ak,ck,css,h1,h2.keep hb.size (fun b _ hlt=>hb.block b hlt) (fun b h hlt=>⟨by omega,h.2⟩),j4 h3 hb,h4,j4 h5 hb,bX.keep hb.size (fun b _ hlt=>hb.block b hlt) (fun b h hlt=>⟨by omega,h.2⟩) _ _ h6,fun b h=>⟨by have:=(h3.lt b h).2;omega,h7 b h⟩,fun h=>by have:=(h5.lt N h).2;omega⟩
theorem jZ.set {w:World} {M N o:Nat} {n:aK} {cs:List Value} {u:Value} (h:jZ w M N n cs):jZ (w.setCell ⟨N,o,none⟩ u) M N n cs:=by
 obtain⟨l,ps,t,ks⟩:=n
 unfold jZ at h⊢
 obtain⟨ap,cp,at_,ct,ak,ck,css,h1,h2,h3,h4,h5,h6,h7,h8⟩:=h
 have hh:∀b,b≠N ->(w.setCell ⟨N,o,none⟩ u).heap[b]? =w.heap[b]? :=fun b hb=>Below.heap_setCell w ⟨N,o,none⟩ u b hb
 exact⟨ap,cp,at_,ct,ak,ck,css,h1,h2.keep (by simp [World.setCell]) (fun b hb _=>hh b hb.1) (fun _ hb _=>hb),zK h3 (fun e=>(h7 N e).1 rfl),h4,zK h5 h8,bX.keep (by simp [World.setCell]) (fun b hb _=>hh b hb.1) (fun _ hb _=>hb) _ _ h6,h7,h8⟩
theorem jZ.drew {w:World} {M N:Nat} {n:aK} {cs:List Value} (h:jZ w M N n cs):jZ w.drew M N n cs:=by
 obtain⟨l,ps,t,ks⟩:=n
 unfold jZ at h⊢
 obtain⟨ap,cp,at_,ct,ak,ck,css,h1,h2,h3,h4,h5,h6,h7,h8⟩:=h
 have hb:Below w.heap.size w w.drew:=(a7).drew
 exact⟨ap,cp,at_,ct,ak,ck,css,h1,h2.keep hb.size (fun b _ hlt=>hb.block b hlt) (fun _ h _=>h),j4 h3 hb,h4,j4 h5 hb,bX.keep hb.size (fun b _ hlt=>hb.block b hlt) (fun _ h _=>h) _ _ h6,h7,h8⟩
theorem jZ.q {w:World} {M N:Nat} {n:aK} {cs:List Value} (h:jZ w M N n cs):NodeQ w (fun b=>True) n cs:=by
 obtain⟨l,ps,t,ks⟩:=n
 unfold jZ at h
 unfold NodeQ
 obtain⟨ap,cp,at_,ct,ak,ck,css,h1,h2,h3,h4,h5,h6,h7,h8⟩:=h
 obtain⟨a1,c1,hv1,hr1⟩:=RowQ.of_own h3 (by intro u hu;obtain⟨z, -,rfl⟩:=List.mem_map.1 hu;rfl)
 obtain⟨a2,c2,hv2,hr2⟩:=RowQ.of_own h5 h6.onec
 injection hv1 with e1 e2 e3
 injection hv2 with g1 g2 g3
 subst e1;subst e3;subst g1;subst g3
 exact⟨ap,cp,at_,ct,ak,ck,css,h1,h2.keep (a8) (fun _ _ _=>rfl) (fun b hb _=>trivial),hr1.keep (a8) (fun _ _ _=>rfl) (fun b hb _=>trivial),h4,hr2.keep (a8) (fun _ _ _=>rfl) (fun b hb _=>trivial),bX.keep (a8) (fun _ _ _=>rfl) (fun b hb _=>trivial) _ _ h6⟩
theorem a_z {w w':World} {M e sz n:Nat} {v:Value} {cs:List Value} {r:Option Nat} (h:w.ownsRow M e sz v n cs) (hg:w.grownBy w' r) (hne:∀b,v.ownBlock=some b ->r≠some b):w'.ownsRow M e sz v n cs:=by
 refine⟨h.1, ?_⟩
 rcases h.2 with hn | ⟨k,cap,cur,hv,hb,hg2,hr⟩
 . exact .inl hn
 . refine .inr ⟨k,cap,cur,hv,hb, ?_,hr⟩
   have hlt:=(h.lt k (by rw [hv];rfl)).2
   rw [hg.block k hlt (fun e=>hne k (by rw [hv];rfl) e.symm)]
   exact hg2
theorem jZ.text {w w':World} {M N:Nat} {l:Bool} {ps:List eK} {t t2:List Int} {ks:List aK} {pv tv kv tv':Value} (h:jZ w M N (.mk l ps t ks) [.bool l,pv,tv,kv]) (hN:N < w.heap.size) (ht2:∀z∈t2,(Lit.int .i32 z).wf=true)
 (hown:w'.ownsRow M 21 1 tv' (t.length+t2.length) (t.map (Value.int .i32) ++ t2.map (Value.int .i32))) (hg:w.grownBy w' tv.ownBlock) (hw:tv'.ownBlock=tv.ownBlock∨ ∀k,tv'.ownBlock=some k ->w.heap.size <= k):
 jZ w' M N (.mk l ps (t ++ t2) ks) [.bool l,pv,tv',kv]:=by
 unfold jZ at h⊢
 obtain⟨ap,cp,at_,ct,ak,ck,css,h1,h2,h3,h4,h5,h6,h7,h8⟩:=h
 injection h1 with _ h1
 injection h1 with e1 h1
 injection h1 with e2 h1
 injection h1 with e3 h1
 subst e1;subst e2;subst e3
 have hs:=hg.size
 rw [<- List.length_append, <- List.map_append]at hown
 obtain⟨a',c',rfl, -⟩:=cK hown (by intro u hu;obtain⟨z, -,rfl⟩:=List.mem_map.1 hu;rfl)
 have hok:∀b,(b≠N/\(Value.slice ak ks.length ck).ownBlock≠some b/\(Value.slice at_ t.length ct).ownBlock≠some b) ->b < w.heap.size ->(b≠N/\(Value.slice ak ks.length ck).ownBlock≠some b/\(Value.slice a' (t ++ t2).length c').ownBlock≠some b):=fun b hb hlt=>by
  refine⟨hb.1,hb.2.1, ?_⟩
  rcases hw with e | e
  . rw [e];exact hb.2.2
  . intro e2;have:=e b e2;omega
 have hbl:∀b,(b≠N/\(Value.slice ak ks.length ck).ownBlock≠some b/\(Value.slice at_ t.length ct).ownBlock≠some b) ->b < w.heap.size ->w'.heap[b]? =w.heap[b]? :=fun b hb hlt=>hg.block b hlt (fun e=>hb.2.2 e.symm)
 refine⟨ap,cp,a',c',ak,ck,css,rfl,h2.keep hs hbl hok,hown,fun z hz=>(List.mem_append.1 hz).elim (h4 z) (ht2 z),a_z h5 hg (fun b hb e=>(h7 b e).2 hb),bX.keep hs hbl hok _ _ h6,fun b hb=> ?_,h8⟩
 rcases hw with e | e
 . exact h7 b (by rw [<- e];exact hb)
 . have h9:=e b hb
   exact⟨by omega,fun h=>by have:=(h5.lt b h).2;omega⟩
theorem jZ.kids {w w':World} {M N:Nat} {l:Bool} {ps:List eK} {t:List Int} {ks ks2:List aK} {css2:List Value} {pv tv kv kv':Value} (h:jZ w M N (.mk l ps t ks) [.bool l,pv,tv,kv]) (hN:N < w.heap.size) (hM:M <= N) (hk2:bX w (fun b=>b < M) ks2 css2)
 (hown:∀css,css.length=ks.length * 4 ->w.ownsRow M 35 4 kv ks.length css ->w'.ownsRow M 35 4 kv' (ks.length+ks2.length) (css ++ css2)) (hg:w.grownBy w' kv.ownBlock) (hw:kv'.ownBlock=kv.ownBlock∨ ∀k,kv'.ownBlock=some k ->w.heap.size <= k):
 jZ w' M N (.mk l ps t (ks ++ ks2)) [.bool l,pv,tv,kv']:=by
 unfold jZ at h⊢
 obtain⟨ap,cp,at_,ct,ak,ck,css,h1,h2,h3,h4,h5,h6,h7,h8⟩:=h
 injection h1 with _ h1
 injection h1 with e1 h1
 injection h1 with e2 h1
 injection h1 with e3 h1
 subst e1;subst e2;subst e3
 have hs:=hg.size
 have hown:=hown css (bX.len' h6) h5
 have hq6:=h6
 have hkge:∀b,kv'.ownBlock=some b ->M <= b:=fun b hb=>(hown.lt b hb).1
 have htge:∀b,(Value.slice at_ t.length ct).ownBlock=some b ->M <= b:=fun b hb=>(h3.lt b hb).1
 have hkgeo:∀b,(Value.slice ak ks.length ck).ownBlock=some b ->M <= b:=fun b hb=>(h5.lt b hb).1
 have hone:∀u∈css ++ css2,u.oneCell'=true:=fun u hu=>(List.mem_append.1 hu).elim (h6.onec u) (hk2.onec u)
 rw [<- List.length_append]at hown
 obtain⟨a',c',rfl, -⟩:=cK hown hone
 have hok:∀b,(b≠N/\(Value.slice ak ks.length ck).ownBlock≠some b/\(Value.slice at_ t.length ct).ownBlock≠some b) ->b < w.heap.size ->(b≠N/\(Value.slice a' (ks ++ ks2).length c').ownBlock≠some b/\(Value.slice at_ t.length ct).ownBlock≠some b):=fun b hb hlt=>by
  refine⟨hb.1, ?_,hb.2.2⟩
  rcases hw with e | e
  . rw [e];exact hb.2.1
  . intro e2;have:=e b e2;omega
 have hbl:∀b,(b≠N/\(Value.slice ak ks.length ck).ownBlock≠some b/\(Value.slice at_ t.length ct).ownBlock≠some b) ->b < w.heap.size ->w'.heap[b]? =w.heap[b]? :=fun b hb hlt=>hg.block b hlt (fun e=>hb.2.1 e.symm)
 refine⟨ap,cp,at_,ct,a',c',css ++ css2,rfl,h2.keep hs hbl hok,a_z h3 hg (fun b hb e=>(h7 b hb).2 e),h4,hown,bX.append (bX.keep hs hbl hok _ _ h6) (bX.keep hs (fun b hb hlt=>hg.block b hlt (fun e=>by have:=hkgeo b e.symm;omega)) (fun b hb hlt=>⟨by omega,fun e=>by have:=hkge b e;omega,fun e=>by have:=htge b e;omega⟩) _ _ hk2),fun b hb=>⟨(h7 b hb).1, ?_⟩, ?_⟩
 . rcases hw with e | e
   . rw [e];exact(h7 b hb).2
   . intro e2;have:=e b e2;have:=(h3.lt b hb).2;omega
 . rcases hw with e | e
   . rw [e];exact h8
   . intro e2;have:=e N e2;omega
theorem a_A {M:Nat} {w w':World} {e sz n:Nat} {v:Value} {cs:List Value} (hown:w.ownsRow M e sz v n cs) (hg:w.grownBy w' v.ownBlock) (hM:M <= w.heap.size):Below M w w':=(Below.refl M w).grown hg hM (fun k hk=>(hown.lt k hk).1)
theorem k_h {w:World} {M e sz n:Nat} {v:Value} {cs cs':List Value} (h:w.ownsRow M e sz v n cs) (h':w.ownsRow M e sz v n cs'):cs=cs':=by
 have hl:=h.1;have hl':=h'.1
 rcases h.2 with⟨rfl,rfl⟩ | ⟨g,cap,cur,rfl,hb,hg,hnc,hcm,hcs,htake⟩
 . rw [List.eq_nil_of_length_eq_zero (by omega:cs.length=0),List.eq_nil_of_length_eq_zero (by omega:cs'.length=0)]
 . rcases h'.2 with⟨hv,_⟩ | ⟨g',cap',cur',hv,hb',hg',hnc',hcm',hcs',htake'⟩
   . cases hv
   . injection hv with e1 e2 e3
     injection e1 with e1
     injection e1 with e1 _ _
     subst e1
     rw [hg]at hg'
     injection hg' with hg'
     injection hg' with e4 _ _
     subst e4
     rw [<- htake, <- htake']
theorem jZ.owns {w:World} {M N:Nat} {l:Bool} {ps:List eK} {t:List Int} {ks:List aK} {pv tv kv:Value} (h:jZ w M N (.mk l ps t ks) [.bool l,pv,tv,kv]):w.ownsRow M 21 1 tv t.length (t.map (Value.int .i32))/\(∃css,css.length=ks.length * 4/\w.ownsRow M 35 4 kv ks.length css)/\tv.ownBlock≠some N/\kv.ownBlock≠some N:=by
 unfold jZ at h
 obtain⟨ap,cp,at_,ct,ak,ck,css,h1,h2,h3,h4,h5,h6,h7,h8⟩:=h
 injection h1 with _ h1
 injection h1 with e1 h1
 injection h1 with e2 h1
 injection h1 with e3 h1
 subst e1;subst e2;subst e3
 exact⟨h3,⟨css,bX.len' h6,h5⟩,fun e=>(h7 N e).1 rfl,h8⟩
theorem jZ.form {w:World} {M N:Nat} {n:aK} {cs:List Value} (h:jZ w M N n cs):∃l a1 n1 c1 a2 n2 c2 a3 n3 c3,cs= [.bool l, .slice a1 n1 c1, .slice a2 n2 c2, .slice a3 n3 c3]:=h.q.form
theorem i_v {ops:Array Oper} {o:Oper} {a:Act} {w:World} {K:Act ->World ->Prop} {Q:Exit ->Act ->World ->Prop} {E:Prop}
 (hg:o.guard=none) (s x:Operand) (ho:o.op= .call { callee:= .builtin .append,args:= #[s,x],argTypes:= #[32,32] })
 (M N:Nat) (l:Bool) (ps:List eK) (t t2:List Int) (ks:List aK) (pv tv kv:Value) (hs:a.eval s=tv) (hX:jZ w M N (.mk l ps t ks) [.bool l,pv,tv,kv]) (hN:N < w.heap.size) (hM:M <= N)
 (ya:Option Addr) (yc B:Nat) (hx:a.eval x= .slice ya t2.length yc) (hr:RowA w B 1 ya t2.length yc (t2.map (Value.int .i32))) (ht2:∀z∈t2,(Lit.int .i32 z).wf=true) (hn:t.length+t2.length <= 200000000)
 (h:∀a' c' w',jZ w' M N (.mk l ps (t ++ t2) ks) [.bool l,pv, .slice a' (t ++ t2).length c',kv] ->Below M w w' ->w'.heap[N]? =w.heap[N]? ->K (a.put o.dst (.slice a' (t ++ t2).length c')) w'):if Region.wanted o (yielded ops a.tmps)=true then Oper.wp Tryz.prog o a w K Q else E:=by
 obtain⟨hto, -,htn, -⟩:=hX.owns
 cases ya with
 | none=>
   have hc0:yc=0:=hr.nil rfl
   have hn0:t2.length=0:=by have:=hr.le;omega
   obtain rfl:t2= []:=List.eq_nil_of_length_eq_zero hn0
   subst hc0
   have hw:Region.wanted o (yielded ops a.tmps)=true:=by simp [Region.wanted,hg]
   rw [if_pos hw]
   obtain⟨i,hi', -,hsize, -⟩:=info_parts (P:=Tryz.prog) LY
   have hrun:=run_append_owned_none (P:=Tryz.prog) (w:=w) M 32 o.type 21 i 1 Tryz.underlying32 hi' tv t.length (t.map (Value.int .i32)) hto
   unfold Oper.wp execOp
   simp only [ho,resolve,invoke,builtin,Sem.run_bind,Sem.run_pure,Result.andThen_ok,List.map_toArray,List.map_cons,List.map_nil,hs,hx,List.length_nil,hrun]
   obtain⟨a',c',rfl, -⟩:=cK hto (by intro u hu;obtain⟨z, -,rfl⟩:=List.mem_map.1 hu;rfl)
   have:=h a' c' w (by rw [List.append_nil];exact hX) (a7) rfl
   rw [List.append_nil]at this
   exact this
 | some ad=>
   refine KJ hg s x 32 ho M 21 (.int .i32 0) 1 4 Tryz.underlying32 LY rfl (by decide) tv t.length (t.map (Value.int .i32)) hs hto ad t2.length yc B (t2.map (Value.int .i32)) hx hr (by unfold maxLen;omega) (by omega) (by omega) fun v' w' hown hgrow hwh=> ?_
   have hX':=hX.text hN ht2 hown hgrow hwh
   rw [<- List.length_append, <- List.map_append]at hown
   obtain⟨a',c',rfl, -⟩:=cK hown (by intro u hu;obtain⟨z, -,rfl⟩:=List.mem_map.1 hu;rfl)
   exact h a' c' w' hX' (a_A hto hgrow (by omega)) (hgrow.block N hN (fun e=>htn e.symm))
theorem i_w {ops:Array Oper} {o:Oper} {a:Act} {w:World} {K:Act ->World ->Prop} {Q:Exit ->Act ->World ->Prop} {E:Prop}
 (hg:o.guard=none) (s x:Operand) (ho:o.op= .call { callee:= .builtin .append,args:= #[s,x],argTypes:= #[33,33] })
 (M N:Nat) (l:Bool) (ps:List eK) (t:List Int) (ks ks2:List aK) (pv tv kv:Value) (hs:a.eval s=kv) (hX:jZ w M N (.mk l ps t ks) [.bool l,pv,tv,kv]) (hN:N < w.heap.size) (hM:M <= N)
 (ya:Option Addr) (yc B:Nat) (css2:List Value) (hx:a.eval x= .slice ya ks2.length yc) (hr:RowA w B 4 ya ks2.length yc css2) (hk2:bX w (fun b=>b < M) ks2 css2) (hn:ks.length+ks2.length <= 200000000)
 (h:∀a' c' w',jZ w' M N (.mk l ps t (ks ++ ks2)) [.bool l,pv,tv, .slice a' (ks ++ ks2).length c'] ->Below M w w' ->w'.heap[N]? =w.heap[N]? ->K (a.put o.dst (.slice a' (ks ++ ks2).length c')) w'):if Region.wanted o (yielded ops a.tmps)=true then Oper.wp Tryz.prog o a w K Q else E:=by
 obtain⟨-,⟨css,hcl,hko⟩, -,hkn⟩:=hX.owns
 obtain⟨l',a1,n1,c1,a2,n2,c2,a3,n3,c3,hf⟩:=hX.form
 injection hf with _ hf
 injection hf with _ hf
 injection hf with _ hf
 injection hf with e3 _
 subst e3
 obtain rfl:n3=ks.length:=by
  unfold jZ at hX
  obtain⟨_,_,_,_,_,_,_,h1,_⟩:=hX
  injection h1 with _ h1
  injection h1 with _ h1
  injection h1 with _ h1
  injection h1 with e3 _
  injection e3
 cases ya with
 | none=>
   have hc0:yc=0:=hr.nil rfl
   have hn0:ks2.length=0:=by have:=hr.le;omega
   obtain rfl:ks2= []:=List.eq_nil_of_length_eq_zero hn0
   subst hc0
   have hw:Region.wanted o (yielded ops a.tmps)=true:=by simp [Region.wanted,hg]
   rw [if_pos hw]
   obtain⟨i,hi', -,hsize, -⟩:=info_parts (P:=Tryz.prog) uJ
   have hrun:=run_append_owned_none (P:=Tryz.prog) (w:=w) M 33 o.type 35 i 4 Tryz.underlying33 hi' _ ks.length css hko
   unfold Oper.wp execOp
   simp only [ho,resolve,invoke,builtin,Sem.run_bind,Sem.run_pure,Result.andThen_ok,List.map_toArray,List.map_cons,List.map_nil,hs,hx,List.length_nil,hrun]
   have:=h a3 c3 w (by rw [List.append_nil];exact hX) (a7) rfl
   rw [List.append_nil]at this
   exact this
 | some ad=>
   refine KJ hg s x 33 ho M 35 (.agg #[.bool false, .slice none 0 0, .slice none 0 0, .slice none 0 0]) 4 80 Tryz.underlying33 uJ rfl (by decide) _ ks.length css hs hko ad ks2.length yc B css2 hx hr (by unfold maxLen;omega) (by omega) (by omega) fun v' w' hown hgrow hwh=> ?_
   have hX':=hX.kids (kv':=v') (ks2:=ks2) (css2:=css2) (w':=w') hN hM hk2 (fun css' hl hk=> ?_) hgrow hwh
   . have hX2:=hX'
     unfold jZ at hX2
     obtain⟨_,_,_,_,ak,ck,_,h1,_⟩:=hX2
     injection h1 with _ h1
     injection h1 with _ h1
     injection h1 with _ h1
     injection h1 with e3 _
     subst e3
     exact h ak ck w' hX' (a_A hko hgrow (by omega)) (hgrow.block N hN (fun e=>hkn e.symm))
   . obtain rfl:css'=css:=k_h hk hko
     exact hown
theorem f_n {p:List Int} (hne:p≠ []) (hl:0 < iJ p):sX p (-1)=(j5 p,0):=by
 unfold sX j5
 rw [if_neg hne,if_neg (by omega)]
 rfl
theorem jZ.since {w w':World} {M N:Nat} {n:aK} {cs:List Value} (h:jZ w M N n cs) (hb:Below w.heap.size w w'):jZ w' M N n cs:=by
 obtain⟨l,ps,t,ks⟩:=n
 unfold jZ at h⊢
 obtain⟨ap,cp,at_,ct,ak,ck,css,h1,h2,h3,h4,h5,h6,h7,h8⟩:=h
 exact⟨ap,cp,at_,ct,ak,ck,css,h1,h2.keep hb.size (fun b _ hlt=>hb.block b hlt) (fun _ h _=>h),j4 h3 hb,h4,j4 h5 hb,bX.keep hb.size (fun b _ hlt=>hb.block b hlt) (fun _ h _=>h) _ _ h6,h7,h8⟩
theorem i_x (rest k into:aK) (p d:List Int) (ol:List eK) (kd pos:Int) (vr vk n0 n1 n2 n3:Value) (pa ta oa:Option Addr) (pc tc oc:Nat) (W:World)
 (hbr:rest.wt <= 100000000) (hbk:k.wt <= 100000000) (hbj:(pQ into k).wt <= 100000000) (hvr:bY W W.heap.size rest vr) (hvk:bY W W.heap.size k vk)
 (hp:RowA W W.heap.size 1 pa p.length pc (p.map (Value.int .i64))) (hpl:p.length <= 1000000) (hpw:∀z∈p, -9223372036854775807 <= z/\z <= 9223372036854775807)
 (ho:RowA W W.heap.size 2 oa ol.length oc (bK ol)) (hne:p≠ []) (hlast:0 < iJ p) (hat:kK rest (j5 p)=some into) (hlf:aZ into=aZ k) (hpos:(BQ into:Int)=pos) (hprops:cV k=ol):
 Calls Tryz.prog 122 #[vr,vk, .agg #[.int .i64 kd, .slice pa p.length pc, .slice ta d.length tc, .int .i64 pos,n0,n1,n2,n3, .slice oa ol.length oc, .slice none 0 0, .slice none 0 0, .bool false, .slice none 0 0, .int .i64 0, .slice none 0 0, .int .i64 0, .bool false, .slice none 0 0, .int .i64 0, .slice none 0 0, .int .i64 0]] W (vX W (gY rest (j5 p) (pQ into k),0)):=by
 obtain⟨R,hR⟩:∃R,R=gY rest (j5 p) (pQ into k):=⟨_,rfl⟩
 rw [<- hR]
 have HRR:=a6 hR
 clear hR
 have hiw:=uK _ rest into hat
 obtain⟨csr,rfl,hcr⟩:=hvr
 obtain⟨lr,a1,m1,c1,a2,m2,c2,a3,m3,c3,rfl⟩:=hcr.form
 obtain⟨l,ps,t,ks⟩:=k
 obtain⟨ap,cp,at_,ct,ak,ck,css,rfl,hkp,hkt,hkk,hkkk⟩:=hvk.open
 clear hvk
 obtain⟨⟨at2,ct2,htv,htr⟩,htw⟩:=hkt
 injection htv with e1 e2 e3
 subst e1;subst e3
 obtain⟨w0,hw0⟩:∃w0,w0=((((W.alloc (Obj.cells #[.bool lr, .slice a1 m1 c1, .slice a2 m2 c2, .slice a3 m3 c3] 35)).alloc (Obj.cells #[.bool l, .slice ap ps.length cp, .slice at_ t.length ct, .slice ak ks.length ck] 35)).alloc (Obj.cells #[.int .i64 kd, .slice pa p.length pc, .slice ta d.length tc, .int .i64 pos,n0,n1,n2,n3, .slice oa ol.length oc, .slice none 0 0, .slice none 0 0, .bool false, .slice none 0 0, .int .i64 0, .slice none 0 0, .int .i64 0, .bool false, .slice none 0 0, .int .i64 0, .slice none 0 0, .int .i64 0] 55)).alloc (Obj.cells #[.bool false, .slice none 0 0, .slice none 0 0, .slice none 0 0] 35)):=⟨_,rfl⟩
 have hb0:Below W.heap.size W w0:=by rw [hw0];exact(iX _ _ _ _).alloc (by simp;omega) _
 have hs0:w0.heap.size=W.heap.size+4:=by rw [hw0];simp
 have hA:At w0 W.heap.size [.bool lr, .slice a1 m1 c1, .slice a2 m2 c2, .slice a3 m3 c3] 35:=by rw [hw0];exact(((At.fresh W _ _).alloc _).alloc _).alloc _
 have hK:At w0 (W.heap.size+1) [.bool l, .slice ap ps.length cp, .slice at_ t.length ct, .slice ak ks.length ck] 35:=by rw [hw0];exact((At.second W _ _ _).alloc _).alloc _
 have hO:At w0 (W.heap.size+1+1) [.int .i64 kd, .slice pa p.length pc, .slice ta d.length tc, .int .i64 pos,n0,n1,n2,n3, .slice oa ol.length oc, .slice none 0 0, .slice none 0 0, .bool false, .slice none 0 0, .int .i64 0, .slice none 0 0, .int .i64 0, .bool false, .slice none 0 0, .int .i64 0, .slice none 0 0, .int .i64 0] 55:=by rw [hw0];exact(At.third W _ _ _ _).alloc _
 have hR:At w0 (W.heap.size+1+1+1) [.bool false, .slice none 0 0, .slice none 0 0, .slice none 0 0] 35:=by rw [hw0];exact At.fourth W _ _ _ _ _
 have hbk0:=g_A p pa pc W.heap.size w0 (hp.keep hb0 (a8)) hb0.size hpl hpw
 rw [f_n hne hlast]at hbk0
 have HBK:=a6 hbk0;have Hb0:=a6 hb0;have HA:=a6 hA;have HK:=a6 hK;have HO:=a6 hO;have HR:=a6 hR;have Hs0:=a6 hs0;have Hw0:=a6 hw0
 have Hcr:=a6 hcr;have Hkp:=a6 hkp;have Htr:=a6 htr;have Htw:=a6 htw;have Hkk:=a6 hkk;have Hkkk:=a6 hkkk;have Ho:=a6 ho
 have y1:w0.cell? ⟨W.heap.size+1+1,1,none⟩=some (.slice pa p.length pc):=hO.cell 1 rfl
 clear hbk0 hb0 hA hK hO hR hs0 hw0 hcr hkp htr htw hkk hkkk ho hp hpl hpw
 go_enter Tryz.func122,Tryz.ntmps122
 go_upto_region 1 with fail
 rw [<- Hw0.o]
 clear Hw0
 go_wp2_with fail
 refine HBK.o.mono ?_
 rintro e w1 ⟨hb1,v,rfl,hv⟩
 have hvr:=hv
 obtain⟨qa,qc,rfl,hq⟩:=RowQ.of_own hv (by intro u hu;obtain⟨z, -,rfl⟩:=List.mem_map.1 hu;rfl)
 have hbW:=Hb0.o.trans (hb1.mono Hb0.o.size)
 have hA1:=HA.o.kept hb1
 obtain⟨y0,y2,y3,y4, -, -⟩:=b6.facts hA1
 have HG:=a6 (m_V rest into (j5 p) (.agg #[.bool lr, .slice a1 m1 c1, .slice a2 m2 c2, .slice a3 m3 c3]) qa qc w1 hbr ⟨_,rfl,dJ.keep hbW hbW.size _ _ Hcr.o⟩ hq.row hat)
 have Hb1:=a6 hb1;have HbW:=a6 hbW;have Hq:=a6 hq.row
 clear HBK hb1 hv hvr hq hbW hA1 y1
 go_wp2_with fail
 refine HG.o.mono ?_
 rintro e w2 ⟨cs,rfl,hin,hb2⟩
 obtain⟨l2,ps2,t2,ks2⟩:=into
 obtain⟨l2',b1,o1,d1,b2,o2,d2,b3,o3,d3,rfl⟩:=hin.form
 obtain rfl:l2'=l2:=by
  unfold rQ at hin
  obtain⟨_,_,_,_,_,_,_,h1,_⟩:=hin
  injection h1 with h1 _
  injection h1
 have hll:l=l2':=hlf.symm
 subst hll
 obtain⟨w3,hw3⟩:∃w3,w3=w2.alloc (Obj.cells #[.bool l, .slice b1 o1 d1, .slice b2 o2 d2, .slice b3 o3 d3] 35):=⟨_,rfl⟩
 have hb3:Below w2.heap.size w2 w3:=by rw [hw3];exact aX _ _
 have hs3:w3.heap.size=w2.heap.size+1:=by rw [hw3];simp
 have hN3:At w3 w2.heap.size [.bool l, .slice b1 o1 d1, .slice b2 o2 d2, .slice b3 o3 d3] 35:=by rw [hw3];exact At.fresh _ _ _
 have hb13:=hb2.trans (hb3.mono hb2.size)
 have hb03:=Hb1.o.trans (hb13.mono Hb1.o.size)
 have hbW3:=HbW.o.trans (hb13.mono HbW.o.size)
 have hX3:jZ w3 w1.heap.size w2.heap.size (.mk l ps2 t2 ks2) [.bool l, .slice b1 o1 d1, .slice b2 o2 d2, .slice b3 o3 d3]:=jZ.of hin (a8) hb3
 have Hw3:=a6 hw3;have Hb3:=a6 hb3;have Hb13:=a6 hb13;have HbW3:=a6 hbW3;have HX3:=a6 hX3;have Hs3:=a6 hs3;have HN3:=a6 hN3
 have Hb2:=a6 hb2
 have HK3:=a6 (HK.o.kept hb03);have HO3:=a6 (HO.o.kept hb03)
 have y5:w3.cell? ⟨W.heap.size+1,0,none⟩=some (.bool l):=HK3.o.cell 0 rfl
 have y6:w3.cell? ⟨w2.heap.size,0,none⟩=some (.bool l):=HN3.o.cell 0 rfl
 have HS3:=a6 (fun(w':World) (hb:Below w3.heap.size w3 w')=>(show w'.cell? ⟨W.heap.size+1+1,3,none⟩=some (.int .i64 pos)/\At w' w2.heap.size [.bool l, .slice b1 o1 d1, .slice b2 o2 d2, .slice b3 o3 d3] 35 from⟨(HO3.o.kept hb).cell 3 rfl,HN3.o.kept hb⟩))
 have HL:=a6 (fun(w':World) (hb:Below w3.heap.size w3 w')=>k_g (.mk l ps2 t2 ks2) (.agg #[.bool l, .slice b1 o1 d1, .slice b2 o2 d2, .slice b3 o3 d3]) w' ⟨_,rfl,dJ.keep hb hb.size _ _ (NodeQ.node _ _ hX3.q)⟩)
 have hld:=fun(w':World) (h:At w' w2.heap.size [.bool l, .slice b1 o1 d1, .slice b2 o2 d2, .slice b3 o3 d3] 35)=>At.load (P:=Tryz.prog) h Tryz.underlying35 rfl (by kernel_rfl)
 simp [go_sem]at hld
 have hps:((BQ (.mk l ps2 t2 ks2):Int) != pos)=false:=by rw [hpos];simp
 generalize hLN:(BQ (.mk l ps2 t2 ks2):Int)=LN at HL hps
 clear HG hin hb2 y0 y2 y3 y4 hw3 hb3 hs3 hN3 hb13 hb03 hbW3 hX3 hlf hpos hLN
 go_upto_region 5 with fail
 rw [<- Hw3.o]
 clear Hw3
 go_upto_region 9 with fail
 go_region_held3 (fun w'=>w'.cell? ⟨W.heap.size+1+1,3,none⟩=some (.int .i64 pos)/\At w' w2.heap.size [.bool l, .slice b1 o1 d1, .slice b2 o2 d2, .slice b3 o3 d3] 35) (refine HS3.o _ (by((repeat (first | with_reducible exact Hb4.o | with_reducible exact a7 | with_reducible refine Below.drew ?_ | with_reducible refine Below.alloc ?_ ?_ _ | with_reducible refine Below.setCell ?_ ?_ _)) <;> (first | with_reducible exact a8 | with_reducible exact Hb4.o.size | (have hsz:=Hb4.o.size;simp [World.setCell];omega) | (simp;done) | (simp;omega) | omega))))
  (first
  | (refine b9 rfl 184 _ _ rfl g_L [.agg #[.bool l, .slice b1 o1 d1, .slice b2 o2 d2, .slice b3 o3 d3]] ?_ _ (HL.o _ (by((repeat (first | with_reducible exact a7 | with_reducible refine Below.drew ?_ | with_reducible refine Below.alloc ?_ ?_ _ | with_reducible refine Below.setCell ?_ ?_ _)) <;> (first | with_reducible exact a8 | (simp;done) | (simp;omega) | omega)))) ?_
     . go_simp
     rintro e w4 ⟨rfl,hbel⟩
     refine⟨_,rfl, ?_⟩
     have Hb4:=a6 (Below.and (w0:=w3) (by((repeat (first | with_reducible exact a7 | with_reducible refine Below.drew ?_ | with_reducible refine Below.alloc ?_ ?_ _ | with_reducible refine Below.setCell ?_ ?_ _)) <;> (first | with_reducible exact a8 | (simp;done) | (simp;omega) | omega))) hbel)
     clear hbel))
 all_goals
  have hbW4:=HbW3.o.trans (Hb4.o.mono HbW3.o.size)
  have HP:=a6 (e_5 ap oa cp oc W.heap.size ps ol w4 (Hkp.o.keep hbW4 (a8)) (Ho.o.keep hbW4 (a8)))
  have hpo:decide (ps=ol)=true:=decide_eq_true hprops
  rw [hpo]at HP
  have y7:w4.cell? ⟨W.heap.size+1,1,none⟩=some (.slice ap ps.length cp):=(HK3.o.kept Hb4.o).cell 1 rfl
  have y8:w4.cell? ⟨W.heap.size+1+1,8,none⟩=some (.slice oa ol.length oc):=(HO3.o.kept Hb4.o).cell 8 rfl
  clear y5 y6 hld hpo hbW4
  go_upto_region 11 with fail
  go_wp2_with fail
  refine HP.o.mono ?_
  rintro e w5 ⟨rfl,hd⟩
  have hb5:=Hb4.o.trans ((hd.below w4.heap.size).mono Hb4.o.size)
  have HK5:=a6 (HK3.o.kept hb5)
  have HN5:=a6 (HN3.o.kept hb5)
  have HA5:=a6 ((HA.o.kept (Hb1.o.trans (Hb13.o.mono Hb1.o.size))).kept hb5)
  have HR5:=a6 ((HR.o.kept (Hb1.o.trans (Hb13.o.mono Hb1.o.size))).kept hb5)
  have HX5:=a6 (HX3.o.since hb5)
  have HbW5:=a6 (HbW3.o.trans (hb5.mono HbW3.o.size))
  have Hb35:=a6 hb5
  have Hs5:=a6 (show w2.heap.size < w5.heap.size from HN5.o.lt)
  have HMN:=a6 (show w1.heap.size <= w2.heap.size from Hb2.o.size)
  obtain⟨z0,z1,z2,z3,⟨g0,g1,g2,g3⟩, -⟩:=b6.facts HN5.o
  obtain⟨k0,k1,k2,k3, -, -⟩:=b6.facts HK5.o
  clear HP hd hb5 y7 y8
  go_upto_region 13 with fail
  have hbd:Below w5.heap.size w5 w5.drew:=(a7).drew
  have HT5:=a6 ((Htr.o.keep HbW5.o (a8)).keep (hbd.mono HbW5.o.size) (a8))
  have HKr5:=a6 (Hkk.o.keep HbW5.o (a8))
  have HKq5:=a6 (show bX w5 (fun b=>b < w1.heap.size) ks css from bX.keep (a8) (fun _ _ _=>rfl) (fun b hb _=>by have:=HbW.o.size;omega) _ _ (dQ.q HbW5.o.size _ _ (dQ.keep HbW5.o (a8) _ _ Hkkk.o)))
  have hn1:t2.length+t.length <= 200000000:=by simp only [pQ,aK.wt,List.length_append]at hbj;omega
  have hn2:ks2.length+ks.length <= 200000000:=by have:=fX (ks2 ++ ks);simp only [pQ,aK.wt,List.length_append]at hbj this;omega
  have HWM:=a6 (show W.heap.size+4 <= w1.heap.size by have:=Hb1.o.size;have:=Hs0.o;omega)
  go_cut [] (fun wx=>∃ta' tc' ka' kc',jZ wx w1.heap.size w2.heap.size (.mk l ps2 (t2 ++ t) (ks2 ++ ks)) [.bool l, .slice b1 o1 d1, .slice ta' (t2 ++ t).length tc', .slice ka' (ks2 ++ ks).length kc']/\At wx w2.heap.size [.bool l, .slice b1 o1 d1, .slice ta' (t2 ++ t).length tc', .slice ka' (ks2 ++ ks).length kc'] 35/\Below w1.heap.size w5 wx)
  case first=>
   go_region_law (first
  | (refine i_v rfl _ _ rfl w1.heap.size w2.heap.size l ps2 t2 t ks2 (.slice b1 o1 d1) (.slice b2 o2 d2) (.slice b3 o3 d3) ?_ HX5.o.drew Hs5.o HMN.o at_ ct W.heap.size ?_ HT5.o Htw.o hn1 ?_
     . go_simp
     . go_simp
     intro ta' tc' w6 hx6 hb6 he6
     have HX6:=a6 hx6
     have hb6':=(hbd.mono (Nat.le_of_lt (Nat.lt_of_le_of_lt HMN.o Hs5.o))).trans hb6
     have HN6:=a6 (show At w6 w2.heap.size [.bool l, .slice b1 o1 d1, .slice b2 o2 d2, .slice b3 o3 d3] 35 by unfold At;rw [he6];exact HN5.o)
     have HKr6:=a6 (HKr5.o.keep (hb6'.mono (by have:=HWM.o;omega)) (a8))
     have HKq6:=a6 (bX.keep hb6'.size (fun b h _=>hb6'.block b h) (fun _ h _=>h) _ _ HKq5.o)
     have hK6:=HK5.o.keep (hb6'.mono (by have:=HWM.o;omega))
     have Hb6:=a6 hb6'
     obtain⟨p0,p1,p2,p3, -, -⟩:=b6.facts hK6
     obtain⟨q0,q1,q2,q3,⟨f0,f1,f2,f3⟩, -⟩:=b6.facts HN6.o
     clear hx6 he6 hb6 hb6' hK6)
  | (refine i_w rfl _ _ rfl w1.heap.size w2.heap.size l ps2 (t2 ++ t) ks2 ks (.slice b1 o1 d1) (.slice ta' (t2 ++ t).length tc') (.slice b3 o3 d3) ?_ HX6.o HN6.o.lt HMN.o ak ck W.heap.size css ?_ HKr6.o HKq6.o hn2 ?_
     . go_simp
     . go_simp
     intro ka' kc' w7 hx7 hb7 he7
     have HX7:=a6 hx7
     have HN7:=a6 (show At w7 w2.heap.size [.bool l, .slice b1 o1 d1, .slice b2 o2 d2, .slice b3 o3 d3] 35 by unfold At;rw [he7];exact HN6.o)
     have Hb7:=a6 (Hb6.o.trans hb7)
     obtain⟨r0,r1,r2,r3,⟨s0,s1,s2,s3⟩, -⟩:=b6.facts HN7.o
     clear hx7 he7 hb7))
   all_goals
    go_wp2_with fail
    go_meet
    case rel=>
     have hx:=(HX7.o.set (o:=2) (u:= .slice ta' (t2 ++ t).length tc')).set (o:=3) (u:= .slice ka' (ks2 ++ ks).length kc')
     have ha:=(HN7.o.set 2 (.slice ta' (t2 ++ t).length tc')).set 3 (.slice ka' (ks2 ++ ks).length kc')
     have hb:=(Hb7.o.setCell (p:=⟨w2.heap.size,2,none⟩) HMN.o (.slice ta' (t2 ++ t).length tc')).setCell (p:=⟨w2.heap.size,3,none⟩) HMN.o (.slice ka' (ks2 ++ ks).length kc')
     refine⟨ta',tc',ka',kc', ?_⟩
     simp only [List.length_append]at hx ha hb⊢
     exact⟨hx,ha,hb⟩
  case rest=>
   obtain⟨ta',tc',ka',kc',hx,ha,hb⟩:=hcut
   have hb1x:=(Hb13.o.trans (Hb35.o.mono Hb13.o.size)).trans hb
   have hbWx:=HbW.o.trans (hb1x.mono HbW.o.size)
   have hAx:=HA5.o.keep (hb.mono (by have:=HWM.o;omega))
   have hRx:=HR5.o.keep (hb.mono (by have:=HWM.o;omega))
   have hput:=n_D rest (.mk l (ps2) (t2 ++ t) (ks2 ++ ks)) (j5 p) (.agg #[.bool lr, .slice a1 m1 c1, .slice a2 m2 c2, .slice a3 m3 c3]) (.agg #[.bool l, .slice b1 o1 d1, .slice ta' (t2 ++ t).length tc', .slice ka' (ks2 ++ ks).length kc']) qa qc wc hbr hbj ⟨_,rfl,dJ.keep hbWx hbWx.size _ _ Hcr.o⟩ ⟨_,rfl,NodeQ.node _ _ hx.q⟩ (Hq.o.keep hb1x hb1x.size)
   have hpe:j_K rest (j5 p) (.mk l ps2 (t2 ++ t) (ks2 ++ ks))=(gY rest (j5 p) (pQ (.mk l ps2 t2 ks2) (.mk l ps t ks)),0):=by unfold j_K;rw [hat];rfl
   rw [hpe]at hput
   simp only [List.length_append]at hput ha
   have HPut:=a6 hput;have HRx:=a6 hRx;have HbWx:=a6 hbWx
   obtain⟨y0,y1,y2,y3, -, -⟩:=b6.facts hAx
   obtain⟨z4,z5,z6,z7, -, -⟩:=b6.facts ha
   have HWx:=a6 (show W.heap.size+1+1+1 < wc.heap.size from hRx.lt)
   rw [<- HRR.o]at HPut
   clear hput hpe hx ha hb hb1x hbWx hAx hRx hbd z0 z1 z2 z3 g0 g1 g2 g3 k0 k1 k2 k3
   go_wp2_with fail
   refine HPut.o.mono ?_
   intro e w8 ht
   obtain⟨hb8,⟨hz,l',k1,o4,r1,k2,o5,r2,k3,o6,r3,rfl,hq8⟩ | ⟨hz,rfl⟩⟩:=ht.cases
   . have hR8:=HRx.o.keep (hb8.mono (by have:=HWx.o;omega))
     obtain⟨x0,x1,x2,x3,⟨f0,f1,f2,f3⟩, -⟩:=b6.facts hR8
     have Hq8:=a6 hq8;have Hb8:=a6 (HbWx.o.trans (hb8.mono HbWx.o.size))
     clear HPut ht hb8 hq8 hR8 y0 y1 y2 y3 z4 z5 z6 z7 hz
     go_wp2_with fail
     refine bodyPost_ret (v:= .tuple #[.agg #[.bool l', .slice k1 o4 r1, .slice k2 o5 r2, .slice k3 o6 r3], .int .i64 0]) (by simp [results,Tryz.results122,go_sem,x0,x1,x2,x3,f0,f1,f2,f3]) rfl ?_
     exact GX (N:=W.heap.size+1+1+1) Hb8.o HbWx.o.size HWx.o (by omega) Hq8.o
   . exact absurd rfl hz
def h_M (kd pos:Int) (p d:List Int) (nd:aK) (ol:List eK) (R k X:aK):Prop:=
 (kd=2/\wV k nd=true/\X=R)∨ (kd=3/\∃into,0 < iJ p/\kK R (j5 p)=some into/\aZ into=aZ k/\(BQ into:Int)=pos/\cV k=ol/\(pQ into k).wt <= 100000000/\X=gY R (j5 p) (pQ into k))∨ (kd=5/\FK R d k=(X,0))
theorem N4 (W:World) (o1 o2 o3 o4 o5:Obj):Below W.heap.size W (((((W.alloc o1).alloc o2).alloc o3).alloc o4).alloc o5):=((iX _ _ _ _).alloc (by simp;omega) _).alloc (by simp;omega) _
theorem At.fifth (W:World) (o1 o2 o3 o4:Obj) (cs:List Value) (T:TypeId):At (((((W.alloc o1).alloc o2).alloc o3).alloc o4).alloc (.cells cs.toArray T)) (W.heap.size+1+1+1+1) cs T:=by
 have h:=At.fourth (W.alloc o1) o2 o3 o4 cs T
 rw [show (W.alloc o1).heap.size=W.heap.size+1 by simp]at h
 exact h
theorem g_M (n R k X:aK) (p d:List Int) (kd pos:Int) (nd:aK) (ol:List eK) (v:Value) (pa ta oa:Option Addr) (pc tc oc:Nat) (l0:Bool) (a1 a2 a3:Option Addr) (m1 m2 m3 c1 c2 c3:Nat) (W:World)
 (hbn:n.wt <= 100000000) (hbR:R.wt <= 100000000) (hbk:k.wt <= 100000000) (hv:bY W W.heap.size n v) (hbig:nd.wt <= 100000000) (hn:bY W W.heap.size nd (.agg #[.bool l0, .slice a1 m1 c1, .slice a2 m2 c2, .slice a3 m3 c3])) (hne:p≠ [])
 (hp:RowA W W.heap.size 1 pa p.length pc (p.map (Value.int .i64))) (hpl:p.length <= 1000000) (hpw:∀z∈p, -9223372036854775807 <= z/\z <= 9223372036854775807) (hd:RowA W W.heap.size 1 ta d.length tc (d.map (Value.int .i64))) (hdl:d.length <= 1000000)
 (ho:RowA W W.heap.size 2 oa ol.length oc (bK ol)) (hcut:B4 n p=(R,k,0)) (hdo:h_M kd pos p d nd ol R k X):
 Calls Tryz.prog 66 #[v, .agg #[.int .i64 kd, .slice pa p.length pc, .slice ta d.length tc, .int .i64 pos, .bool l0, .slice a1 m1 c1, .slice a2 m2 c2, .slice a3 m3 c3, .slice oa ol.length oc, .slice none 0 0, .slice none 0 0, .bool false, .slice none 0 0, .int .i64 0, .slice none 0 0, .int .i64 0, .bool false, .slice none 0 0, .int .i64 0, .slice none 0 0, .int .i64 0]] W (vX W (X,0)):=by
 obtain⟨csn,rfl,hc⟩:=hv
 obtain⟨l,b1,o1,d1,b2,o2,d2,b3,o3,d3,rfl⟩:=hc.form
 obtain⟨w0,hw0⟩:∃w0,w0=(((((W.alloc (Obj.cells #[.bool l, .slice b1 o1 d1, .slice b2 o2 d2, .slice b3 o3 d3] 35)).alloc (Obj.cells #[.int .i64 kd, .slice pa p.length pc, .slice ta d.length tc, .int .i64 pos, .bool l0, .slice a1 m1 c1, .slice a2 m2 c2, .slice a3 m3 c3, .slice oa ol.length oc, .slice none 0 0, .slice none 0 0, .bool false, .slice none 0 0, .int .i64 0, .slice none 0 0, .int .i64 0, .bool false, .slice none 0 0, .int .i64 0, .slice none 0 0, .int .i64 0] 55)).alloc (Obj.cells #[.bool false, .slice none 0 0, .slice none 0 0, .slice none 0 0] 35)).alloc (Obj.cells #[.bool false, .slice none 0 0, .slice none 0 0, .slice none 0 0] 35)).alloc (Obj.cells #[.bool false, .slice none 0 0, .slice none 0 0, .slice none 0 0] 35)):=⟨_,rfl⟩
 have hb0:Below W.heap.size W w0:=by rw [hw0];exact N4 _ _ _ _ _ _
 have hs0:w0.heap.size=W.heap.size+5:=by rw [hw0];simp
 have hA:b6 w0 W.heap.size (.bool l) (.slice b1 o1 d1) (.slice b2 o2 d2) (.slice b3 o3 d3):=by rw [hw0];exact((((At.fresh W _ _).alloc _).alloc _).alloc _).alloc _
 have hO:At w0 (W.heap.size+1) [.int .i64 kd, .slice pa p.length pc, .slice ta d.length tc, .int .i64 pos, .bool l0, .slice a1 m1 c1, .slice a2 m2 c2, .slice a3 m3 c3, .slice oa ol.length oc, .slice none 0 0, .slice none 0 0, .bool false, .slice none 0 0, .int .i64 0, .slice none 0 0, .int .i64 0, .bool false, .slice none 0 0, .int .i64 0, .slice none 0 0, .int .i64 0] 55:=by rw [hw0];exact(((At.second W _ _ _).alloc _).alloc _).alloc _
 have hX:b6 w0 (W.heap.size+1+1) (.bool false) (.slice none 0 0) (.slice none 0 0) (.slice none 0 0):=by rw [hw0];exact((At.third W _ _ _ _).alloc _).alloc _
 have hR:b6 w0 (W.heap.size+1+1+1) (.bool false) (.slice none 0 0) (.slice none 0 0) (.slice none 0 0):=by rw [hw0];exact(At.fourth W _ _ _ _ _).alloc _
 have hK:b6 w0 (W.heap.size+1+1+1+1) (.bool false) (.slice none 0 0) (.slice none 0 0) (.slice none 0 0):=by rw [hw0];exact At.fifth W _ _ _ _ _ _
 have hcc:=n_E n p (.agg #[.bool l, .slice b1 o1 d1, .slice b2 o2 d2, .slice b3 o3 d3]) pa pc w0 hbn ⟨_,rfl,dJ.keep hb0 hb0.size _ _ hc⟩ (hp.keep hb0 hb0.size) hpl
 rw [hcut]at hcc
 have HCut:=a6 hcc
 obtain⟨y0,y1,y2,y3, -, -⟩:=hA.facts
 have x0:=hO.cell 0 rfl;have x1:=hO.cell 1 rfl;have xl:=hO.lt
 have HO:=a6 hO;have HX:=a6 hX;have HR:=a6 hR;have HK:=a6 hK;have Hb0:=a6 hb0;have Hs0:=a6 hs0;have Hw0:=a6 hw0
 have Hn:=a6 hn;have Hp:=a6 hp;have Hpw:=a6 hpw;have Hd:=a6 hd;have Ho:=a6 ho
 have hk3:kd=2∨kd=3∨kd=5:=by
  rcases hdo with⟨h, -⟩ | ⟨h, -⟩ | ⟨h, -⟩
  . exact .inl h
  . exact .inr (.inl h)
  . exact .inr (.inr h)
 have q4:(kd == 4)=false:=by rcases hk3 with h | h | h <;> (subst h;rfl)
 have q1:(kd == 1)=false:=by rcases hk3 with h | h | h <;> (subst h;rfl)
 have Hdo:=a6 hdo;have Hne:=a6 hne
 clear hc hn hp hpw hd ho hb0 hs0 hA hO hX hR hK hcc hcut hw0 hdo hne
 rcases hk3 with rfl | rfl | rfl
 all_goals
  go_enter Tryz.func66,Tryz.ntmps66
  go_upto_region 2 with fail
  rw [<- Hw0.o]
  clear Hw0
  go_wp2_with fail
  refine HCut.o.mono ?_
  rintro e w1 ⟨hb1,hh⟩
  simp only [if_true]at hh
  obtain⟨cs,ds,rfl,hqr,hqk⟩:=hh
  obtain⟨lr,r1,e1,f1,r2,e2,f2,r3,e3,f3,rfl⟩:=hqr.form
  obtain⟨lk,s1,g1,h1,s2,g2,h2,s3,g3,h3,rfl⟩:=hqk.form
  have hs0:=Hs0.o
  have hR1:=HR.o.keep (hb1.mono (by omega))
  have hK1:=HK.o.keep (hb1.mono (by omega))
  have hX1:=HX.o.keep (hb1.mono (by omega))
  have hO1:=HO.o.kept hb1
  have hbW1:=Hb0.o.trans (hb1.mono Hb0.o.size)
  obtain⟨z0,z1,z2,z3,⟨fz0,fz1,fz2,fz3⟩,zl⟩:=hR1.facts
  obtain⟨k0,k1,k2,k3,⟨fk0,fk1,fk2,fk3⟩,kl⟩:=hK1.facts
  have HR1:=a6 hR1;have HK1:=a6 hK1;have HX1:=a6 hX1;have HO1:=a6 hO1;have HbW1:=a6 hbW1;have Hqr:=a6 hqr;have Hqk:=a6 hqk;have Hs1:=a6 hb1.size
  clear HCut hb1 hR1 hK1 hX1 hO1 hbW1 hqr hqk y0 y1 y2 y3 x0 x1 xl HR HK HX HO hs0
  go_upto_region 12 with fail
  have hs0:=Hs0.o;have hs1:=Hs1.o
  have hn3:¬ (w0.heap.size <= W.heap.size+1+1+1):=by omega
  have hn4:¬ (w0.heap.size <= W.heap.size+1+1+1+1):=by omega
  have t1:=iQ (iQ HbW1.o (N:=W.heap.size+1+1+1) (by omega) (.bool lr) (.slice r1 e1 f1) (.slice r2 e2 f2) (.slice r3 e3 f3)) (N:=W.heap.size+1+1+1+1) (by omega) (.bool lk) (.slice s1 g1 h1) (.slice s2 g2 h2) (.slice s3 g3 h3)
  have t2:=b6.set4 (N:=W.heap.size+1+1+1+1) (b6.all HR1.o (.bool lr) (.slice r1 e1 f1) (.slice r2 e2 f2) (.slice r3 e3 f3)) (by omega) (.bool lk) (.slice s1 g1 h1) (.slice s2 g2 h2) (.slice s3 g3 h3)
  have t3:=b6.all (b6.set4 (N:=W.heap.size+1+1+1) HK1.o (by omega) (.bool lr) (.slice r1 e1 f1) (.slice r2 e2 f2) (.slice r3 e3 f3)) (.bool lk) (.slice s1 g1 h1) (.slice s2 g2 h2) (.slice s3 g3 h3)
  have t4:=b6.set4 (N:=W.heap.size+1+1+1+1) (b6.set4 (N:=W.heap.size+1+1+1) HX1.o (by omega) (.bool lr) (.slice r1 e1 f1) (.slice r2 e2 f2) (.slice r3 e3 f3)) (by omega) (.bool lk) (.slice s1 g1 h1) (.slice s2 g2 h2) (.slice s3 g3 h3)
  have t5:=At.n4 (N:=W.heap.size+1+1+1+1) (At.n4 (N:=W.heap.size+1+1+1) HO1.o (by omega) (.bool lr) (.slice r1 e1 f1) (.slice r2 e2 f2) (.slice r3 e3 f3)) (by omega) (.bool lk) (.slice s1 g1 h1) (.slice s2 g2 h2) (.slice s3 g3 h3)
  have t6:=pZ (pZ Hqr.o hn3 (.bool lr) (.slice r1 e1 f1) (.slice r2 e2 f2) (.slice r3 e3 f3)) hn4 (.bool lk) (.slice s1 g1 h1) (.slice s2 g2 h2) (.slice s3 g3 h3)
  have t7:=pZ (pZ Hqk.o hn3 (.bool lr) (.slice r1 e1 f1) (.slice r2 e2 f2) (.slice r3 e3 f3)) hn4 (.bool lk) (.slice s1 g1 h1) (.slice s2 g2 h2) (.slice s3 g3 h3)
  clear z0 z1 z2 z3 fz0 fz1 fz2 fz3 zl k0 k1 k2 k3 fk0 fk1 fk2 fk3 kl hn3 hn4
  with_reducible generalize World.setCell (World.setCell (World.setCell (World.setCell (World.setCell (World.setCell (World.setCell (World.setCell w1 _ _) _ _) _ _) _ _) _ _) _ _) _ _) _ _=w2 at t1 t2 t3 t4 t5 t6 t7⊢
  obtain⟨z0,z1,z2,z3, -, -⟩:=t2.facts
  obtain⟨k0,k1,k2,k3, -, -⟩:=t3.facts
  obtain⟨x0,x1,x2,x3,⟨fx0,fx1,fx2,fx3⟩,xl⟩:=t4.facts
  have c0:=t5.cell 0 rfl
  have cl:=t5.lt
  have Hs2:=a6 (show w0.heap.size <= w2.heap.size by rw [Hs0.o];have:=t3.facts.2.2.2.2.2;omega)
  have T1:=a6 t1;have T2:=a6 t2;have T3:=a6 t3;have T4:=a6 t4;have T5:=a6 t5;have T6:=a6 t6;have T7:=a6 t7
  clear t1 t2 t3 t4 t5 t6 t7 HR1 HK1 HX1 HO1 HbW1 Hqr Hqk Hs1 hs0 hs1
 . have hdo2:wV k nd=true/\X=R:=by
    rcases Hdo.o with⟨-,h⟩ | ⟨h, -⟩ | ⟨h, -⟩
    . exact h
    . exact absurd h (by decide)
    . exact absurd h (by decide)
   obtain⟨hsm,rfl⟩:=hdo2
   have hsc:=j_r k.wt k nd (.agg #[.bool lk, .slice s1 g1 h1, .slice s2 g2 h2, .slice s3 g3 h3]) (.agg #[.bool l0, .slice a1 m1 c1, .slice a2 m2 c2, .slice a3 m3 c3]) w2 (a8) ⟨_,rfl,NodeQ.node _ _ T7.o⟩ (by obtain⟨cs,he,hc⟩:=Hn.o;exact⟨cs,he,dJ.keep T1.o T1.o.size _ _ hc⟩)
   rw [hsm]at hsc
   have HSm:=a6 hsc
   have e4:=T5.o.cell 4 rfl;have e5:=T5.o.cell 5 rfl;have e6:=T5.o.cell 6 rfl;have e7:=T5.o.cell 7 rfl
   clear hsc hsm Hdo
   go_wp2_with fail
   refine HSm.o.mono ?_
   rintro e w3 ⟨rfl,hb3⟩
   have hR3:=T2.o.keep (hb3.mono (by have:=T2.o.facts.2.2.2.2.2;omega))
   have hX3:=T4.o.keep (hb3.mono (by have:=T4.o.facts.2.2.2.2.2;omega))
   have Hb3:=a6 (T1.o.trans (hb3.mono T1.o.size));have Hq3:=a6 (AK T6.o hb3)
   clear HSm hb3 e4 e5 e6 e7 c0 cl z0 z1 z2 z3 k0 k1 k2 k3 x0 x1 x2 x3 fx0 fx1 fx2 fx3 xl
   obtain⟨z0,z1,z2,z3, -, -⟩:=hR3.facts
   obtain⟨x0,x1,x2,x3,⟨fx0,fx1,fx2,fx3⟩,xl⟩:=hX3.facts
   clear hR3 hX3
   go_wp2_with fail
   refine bodyPost_ret (v:= .tuple #[.agg #[.bool lr, .slice r1 e1 f1, .slice r2 e2 f2, .slice r3 e3 f3], .int .i64 0]) (by simp [results,Tryz.results66,go_sem,x0,x1,x2,x3,fx0,fx1,fx2,fx3]) rfl ?_
   exact GX (N:=W.heap.size+1+1) Hb3.o Hb0.o.size (by rw [Hs0.o];omega) (by omega) Hq3.o
 . have hdo2:∃into,0 < iJ p/\kK R (j5 p)=some into/\aZ into=aZ k/\(BQ into:Int)=pos/\cV k=ol/\(pQ into k).wt <= 100000000/\X=gY R (j5 p) (pQ into k):=by
    rcases Hdo.o with⟨h, -⟩ | ⟨-,h⟩ | ⟨h, -⟩
    . exact absurd h (by decide)
    . exact h
    . exact absurd h (by decide)
   obtain⟨into,i1,i2,i3,i4,i5,i6,hXe⟩:=hdo2
   have hmg:=i_x R k into p d ol 3 pos (.agg #[.bool lr, .slice r1 e1 f1, .slice r2 e2 f2, .slice r3 e3 f3]) (.agg #[.bool lk, .slice s1 g1 h1, .slice s2 g2 h2, .slice s3 g3 h3]) (.bool l0) (.slice a1 m1 c1) (.slice a2 m2 c2) (.slice a3 m3 c3) pa ta oa pc tc oc w2 hbR hbk i6 ⟨_,rfl,NodeQ.node _ _ T6.o⟩ ⟨_,rfl,NodeQ.node _ _ T7.o⟩ (Hp.o.keep T1.o T1.o.size) hpl Hpw.o (Ho.o.keep T1.o T1.o.size) Hne.o i1 i2 i3 i4 i5
   rw [<- hXe]at hmg
   have HM:=a6 hmg
   clear hmg Hdo i1 i2 i3 i4 i5 i6 hXe
   go_upto_region 25 with fail
   have hl:=At.load (P:=Tryz.prog) T5.o Tryz.underlying55 rfl (by kernel_rfl)
   simp [go_sem]at hl
   clear c0
   go_wp2_with fail
   refine HM.o.mono ?_
   intro e w3 ht
   obtain⟨hb3,⟨-,l',k1',o4,r1',k2',o5,r2',k3',o6,r3',rfl,hq3⟩ | ⟨hz, -⟩⟩:=ht.cases
   . have hX3:=T4.o.keep (hb3.mono (by have:=T4.o.facts.2.2.2.2.2;omega))
     have Hb3:=a6 (T1.o.trans (hb3.mono T1.o.size))
     have Hq3:=a6 (show NodeQ w3 (fun b=>w0.heap.size <= b) X [.bool l', .slice k1' o4 r1', .slice k2' o5 r2', .slice k3' o6 r3']from NodeQ.keep (a8) (fun _ _ _=>rfl) (fun b hb _=>aJ Hs2.o hb) _ _ hq3)
     clear HM ht hb3 hq3 cl z0 z1 z2 z3 k0 k1 k2 k3 x0 x1 x2 x3 fx0 fx1 fx2 fx3 xl hl
     obtain⟨x0,x1,x2,x3,⟨fx0,fx1,fx2,fx3⟩,xl⟩:=hX3.facts
     clear hX3
     go_wp2_with fail
     refine bodyPost_ret (v:= .tuple #[.agg #[.bool l', .slice k1' o4 r1', .slice k2' o5 r2', .slice k3' o6 r3'], .int .i64 0]) (by simp [results,Tryz.results66,go_sem,x0,x1,x2,x3,fx0,fx1,fx2,fx3]) rfl ?_
     exact GX (N:=W.heap.size+1+1) Hb3.o Hb0.o.size (by rw [Hs0.o];omega) (by omega) Hq3.o
   . exact absurd rfl hz
 . have hdo2:FK R d k=(X,0):=by
    rcases Hdo.o with⟨h, -⟩ | ⟨h, -⟩ | ⟨-,h⟩
    . exact absurd h (by decide)
    . exact absurd h (by decide)
    . exact h
   have had:=m_y R k d (.agg #[.bool lr, .slice r1 e1 f1, .slice r2 e2 f2, .slice r3 e3 f3]) (.agg #[.bool lk, .slice s1 g1 h1, .slice s2 g2 h2, .slice s3 g3 h3]) ta tc w2 hbR hbk ⟨_,rfl,NodeQ.node _ _ T6.o⟩ ⟨_,rfl,NodeQ.node _ _ T7.o⟩ (Hd.o.keep T1.o T1.o.size) hdl
   rw [hdo2]at had
   have HM:=a6 had
   have e2':=T5.o.cell 2 rfl
   clear had Hdo hdo2
   go_wp2_with fail
   refine HM.o.mono ?_
   intro e w3 ht
   obtain⟨hb3,⟨-,l',k1',o4,r1',k2',o5,r2',k3',o6,r3',rfl,hq3⟩ | ⟨hz, -⟩⟩:=ht.cases
   . have hX3:=T4.o.keep (hb3.mono (by have:=T4.o.facts.2.2.2.2.2;omega))
     have Hb3:=a6 (T1.o.trans (hb3.mono T1.o.size))
     have Hq3:=a6 (show NodeQ w3 (fun b=>w0.heap.size <= b) X [.bool l', .slice k1' o4 r1', .slice k2' o5 r2', .slice k3' o6 r3']from NodeQ.keep (a8) (fun _ _ _=>rfl) (fun b hb _=>aJ Hs2.o hb) _ _ hq3)
     clear HM ht hb3 hq3 c0 cl e2' z0 z1 z2 z3 k0 k1 k2 k3 x0 x1 x2 x3 fx0 fx1 fx2 fx3 xl
     obtain⟨x0,x1,x2,x3,⟨fx0,fx1,fx2,fx3⟩,xl⟩:=hX3.facts
     clear hX3
     go_wp2_with fail
     refine bodyPost_ret (v:= .tuple #[.agg #[.bool l', .slice k1' o4 r1', .slice k2' o5 r2', .slice k3' o6 r3'], .int .i64 0]) (by simp [results,Tryz.results66,go_sem,x0,x1,x2,x3,fx0,fx1,fx2,fx3]) rfl ?_
     exact GX (N:=W.heap.size+1+1) Hb3.o Hb0.o.size (by rw [Hs0.o];omega) (by omega) Hq3.o
   . exact absurd rfl hz
end Go.Proofs.YtmadpclcmjahoaaGreatDoor
