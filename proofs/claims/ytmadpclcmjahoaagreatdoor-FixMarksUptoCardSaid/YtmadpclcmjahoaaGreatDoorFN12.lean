/- Parts of the proof: 12. -/
import Derived.Test.YtmadpclcmjahoaaGreatDoorFN1
import Derived.Test.YtmadpclcmjahoaaGreatDoorFN11
import Derived.Test.YtmadpclcmjahoaaGreatDoorFN6
import Derived.Deep.DeepCutAuto
import Derived.Deep.RegionHeld3
set_option linter.unusedVariables false
set_option linter.unusedSimpArgs false
set_option maxHeartbeats 8000000
set_option maxRecDepth 100000
namespace Go.Proofs.YtmadpclcmjahoaaGreatDoor
open Go.RowKit Go.Redl
def wY (ks:List aK) (i:Nat):Bool:=decide (0 < i) && (aZ (cX ks i) && (aZ (cX ks (i - 1)) && decide (cV (cX ks i)=cV (cX ks (i - 1)))))
def EV (ks:List aK) (i:Nat):Bool:=aZ (cX ks i) && (decide ((gJ (cX ks i)).length=0) && decide (1 < ks.length))
theorem d_x (r:bJ) (ks:List aK):i7 r ks 4=rX (wY ks) ks.length:=by
 unfold i7;rw [if_neg (by omega)];congr 1
theorem i_n (r:bJ) (ks:List aK):i7 r ks 5=rX (EV ks) ks.length:=by
 unfold i7;rw [if_neg (by omega)];congr 1
theorem m_Z (e0 e1 e2:Value) (ak:Option Addr) (kn ck:Nat) (e4 e5 e6 e7 e8 e9:Value) (fl:Int) (e11 e12:Value) (W:World) (hn:kn <= 100000000):
 Calls Tryz.prog 152 #[.agg #[e0,e1,e2, .slice ak kn ck,e4,e5,e6,e7,e8,e9, .int .i64 fl,e11,e12]] W (a_u W (if kn=0/\fl≠0 then 0 else -1) 1):=by
 obtain⟨z,hz⟩:∃z:Int,z=if kn=0/\fl≠0 then 0 else -1:=⟨_,rfl⟩
 rw [<- hz]
 obtain⟨w0,hw0⟩:∃w0,w0=W.alloc (Obj.cells #[e0,e1,e2, .slice ak kn ck,e4,e5,e6,e7,e8,e9, .int .i64 fl,e11,e12] 118):=⟨_,rfl⟩
 have hb0:Below W.heap.size W w0:=by rw [hw0];exact aX _ _
 have hA:At w0 W.heap.size [e0,e1,e2, .slice ak kn ck,e4,e5,e6,e7,e8,e9, .int .i64 fl,e11,e12] 118:=by rw [hw0];exact At.fresh W _ _
 have x3:=hA.cell 3 rfl;have x10:=hA.cell 10 rfl;have xl:=hA.lt
 have Hb0:=a6 hb0;have Hw0:=a6 hw0
 clear hb0 hA hw0
 by_cases h0:kn=0
 . have h0I:decide (0 < kn)=false:=by simp;omega
   by_cases hf:fl=0
   . have Hz:=a6 (show z= -1 by rw [hz,if_neg (fun h=>h.2 hf)])
     have hfI:(fl == 0)=true:=by simpa using hf
     clear h0 hf hz
     go_enter Tryz.func152,Tryz.ntmps152
     go_upto_region 1 with fail
     rw [<- Hw0.o]
     clear Hw0
     go_wp2_with fail
     go_ret2
     rw [Hz.o]
     exact⟨_,rfl,fun h=>by omega,Hb0.o⟩
   . have Hz:=a6 (show z=0 by rw [hz,if_pos ⟨h0,hf⟩])
     have hfI:(fl == 0)=false:=by simpa using hf
     clear h0 hf hz
     go_enter Tryz.func152,Tryz.ntmps152
     go_upto_region 1 with fail
     rw [<- Hw0.o]
     clear Hw0
     go_wp2_with fail
     go_ret2
     rw [Hz.o]
     exact⟨_,rfl,fun h=>rfl,Hb0.o⟩
 . have h0I:decide (0 < kn)=true:=by simp;omega
   have Hz:=a6 (show z= -1 by rw [hz,if_neg (fun h=>h0 h.1)])
   clear h0 hz
   go_enter Tryz.func152,Tryz.ntmps152
   go_upto_region 1 with fail
   rw [<- Hw0.o]
   clear Hw0
   go_wp2_with fail
   go_ret2
   rw [Hz.o]
   exact⟨_,rfl,fun h=>by omega,Hb0.o⟩
theorem j_Z (q:aK) (v:Value) (W:World) (hv:bY W W.heap.size q v):
 Calls Tryz.prog 203 (#[v] ++ #[]) W fun e w'=>e= .returned (.bool (aZ q && decide ((gJ q).length=0)))/\Below W.heap.size W w':=by
 obtain⟨lf,ps,t,ks⟩:=q
 obtain⟨ap,cp,at_,ct,ak,ck,css,rfl, -, -, -, -⟩:=hv.open
 have Hb:=a6 (aX W (Obj.cells #[.bool lf, .slice ap ps.length cp, .slice at_ t.length ct, .slice ak ks.length ck] 35))
 show Calls Tryz.prog 203 #[.agg #[.bool lf, .slice ap ps.length cp, .slice at_ t.length ct, .slice ak ks.length ck]] W _
 simp only [aZ,gJ]
 clear hv
 cases lf with
 | false=>
   go_enter Tryz.func203,Tryz.ntmps203
   go_wp2_with fail
   go_ret
   exact⟨rfl,Hb.o⟩
 | true=>
   go_enter Tryz.func203,Tryz.ntmps203
   go_wp2_with fail
   go_ret
   exact⟨b7 (by simp [h_J]),Hb.o⟩
theorem g_G:∀args w,(callFunc 203 args).run Tryz.prog w= .ok (.enter 203 args) w:=by intro args w;kernel_rfl
theorem l_P (e0 e1 e2:Value) (ak:Option Addr) (ck:Nat) (ks:List aK) (css:List Value) (e4 e5 e6 e7 e8 e9 e10 e11 e12:Value) (W:World) (hn:ks.length <= 100000000) (hk:RowA W W.heap.size 4 ak ks.length ck css) (hkk:dQ W W.heap.size ks css):
 Calls Tryz.prog 151 #[.agg #[e0,e1,e2, .slice ak ks.length ck,e4,e5,e6,e7,e8,e9,e10,e11,e12]] W (a_u W (rX (EV ks) ks.length) 1):=by
 obtain⟨w0,hw0⟩:∃w0,w0=W.alloc (Obj.cells #[e0,e1,e2, .slice ak ks.length ck,e4,e5,e6,e7,e8,e9,e10,e11,e12] 118):=⟨_,rfl⟩
 have hb0:Below W.heap.size W w0:=by rw [hw0];exact aX _ _
 have hA:At w0 W.heap.size [e0,e1,e2, .slice ak ks.length ck,e4,e5,e6,e7,e8,e9,e10,e11,e12] 118:=by rw [hw0];exact At.fresh W _ _
 have x3:=hA.cell 3 rfl;have xl:=hA.lt
 have hk0:=hk.keep hb0 hb0.size;have hkk0:=dQ.keep hb0 hb0.size _ _ hkk
 have Hb0:=a6 hb0;have Hw0:=a6 hw0
 by_cases h2:ks.length < 2
 . have h2I:decide ((ks.length:Int) < 2)=true:=by simp;omega
   have Hz:=a6 (show rX (EV ks) ks.length= -1 from oX (fun j hj=>by unfold EV;rw [decide_eq_false (show ¬ (1 < ks.length)by omega)];simp))
   generalize rX (EV ks) ks.length=z at Hz⊢
   clear hb0 hA hw0 hk0 hkk0 hk hkk h2
   go_enter Tryz.func151,Tryz.ntmps151
   go_upto_region 1 with fail
   rw [<- Hw0.o]
   clear Hw0
   go_wp2_with fail
   go_ret2
   rw [Hz.o]
   exact⟨_,rfl,fun h=>by omega,Hb0.o⟩
 . have h2I:decide ((ks.length:Int) < 2)=false:=by simp;omega
   have hpe:EV ks=fun i=>(aZ (cX ks i) && decide ((gJ (cX ks i)).length=0)):=by
    funext i;unfold EV;rw [decide_eq_true (show 1 < ks.length by omega)];simp
   have HI:=a6 (j_g ks.length ak ck 203 #[] (EV ks) w0 hn g_G (fun j W' hj hb=>by
    obtain⟨b,off,a1,c1,a2,c2,a3,c3,ha,hlt,hnv, -,g0,g1,g2,g3⟩:=i_m (hk0.keep hb hb.size) (dQ.keep hb hb.size _ _ hkk0) j hj
    refine⟨b,off,_,_,_,_,ha,g0,g1,g2,g3, ?_⟩
    rw [hpe]
    simp only [u_9 hj]
    exact j_Z _ _ _ hnv))
   generalize rX (EV ks) ks.length=z at HI⊢
   clear hb0 hA hw0 hk0 hkk0 hk hkk h2 hpe
   go_enter Tryz.func151,Tryz.ntmps151
   go_upto_region 1 with fail
   rw [<- Hw0.o]
   clear Hw0
   go_wp2_with fail
   refine HI.o.mono ?_
   rintro e w1 ⟨rfl,hbel⟩
   have Hb1:=a6 (Hb0.o.trans (hbel.mono Hb0.o.size))
   clear hbel HI
   go_wp2_with fail
   go_ret2
   exact⟨_,rfl,fun h=>rfl,Hb1.o⟩
theorem At.s4 {w:World} {N:Nat} {c0 c1 c2 c3:Value} {T:TypeId} (h:At w N [c0,c1,c2,c3] T) (d0 d1 d2 d3:Value):At ((((w.setCell ⟨N,0,none⟩ d0).setCell ⟨N,1,none⟩ d1).setCell ⟨N,2,none⟩ d2).setCell ⟨N,3,none⟩ d3) N [d0,d1,d2,d3] T:=by
 have h0:At (w.setCell ⟨N,0,none⟩ d0) N [d0,c1,c2,c3] T:=h.set 0 d0
 have h1:At ((w.setCell ⟨N,0,none⟩ d0).setCell ⟨N,1,none⟩ d1) N [d0,d1,c2,c3] T:=h0.set 1 d1
 have h2:At (((w.setCell ⟨N,0,none⟩ d0).setCell ⟨N,1,none⟩ d1).setCell ⟨N,2,none⟩ d2) N [d0,d1,d2,c3] T:=h1.set 2 d2
 exact h2.set 3 d3
theorem At.n4 {w:World} {N M:Nat} {cs:List Value} {T:TypeId} (h:At w M cs T) (hne:M≠N) (d0 d1 d2 d3:Value):At ((((w.setCell ⟨N,0,none⟩ d0).setCell ⟨N,1,none⟩ d1).setCell ⟨N,2,none⟩ d2).setCell ⟨N,3,none⟩ d3) M cs T:=
 (((h.set_ne hne _).set_ne hne _).set_ne hne _).set_ne hne _
theorem n_0 {w:World} {B cap:Nat} {a:Option Addr} {ks:List aK} {css:List Value} {b off:Nat} (h:RowA w B 4 a ks.length cap css) (hk:dQ w B ks css) (ha:a=some ⟨b,off,none⟩) (i:Nat) (hi:i < ks.length):
 ∃ ap cp at_ ct ak ck,bY w B ks[i] (.agg #[.bool (aZ ks[i]), .slice ap (cV ks[i]).length cp, .slice at_ (gJ ks[i]).length ct, .slice ak (aQ ks[i]).length ck])/\RowA w B 2 ap (cV ks[i]).length cp (bK (cV ks[i]))/\
   w.cell? ⟨b,off+i * 4,none⟩=some (.bool (aZ ks[i]))/\w.cell? ⟨b,off+i * 4+1,none⟩=some (.slice ap (cV ks[i]).length cp)/\w.cell? ⟨b,off+i * 4+2,none⟩=some (.slice at_ (gJ ks[i]).length ct)/\w.cell? ⟨b,off+i * 4+3,none⟩=some (.slice ak (aQ ks[i]).length ck):=by
 obtain⟨b',off',ap,cp,at_,ct,ak,ck,ha',hb,h1,h2,h3,h4,h5,h6⟩:=i_m h hk i hi
 rw [ha]at ha';injection ha' with e;injection e with e1 e2;subst e1;subst e2
 exact⟨_,_,_,_,_,_,h1,h2,h3,h4,h5,h6⟩
theorem l_Q (e0 e1 e2:Value) (ak:Option Addr) (ck:Nat) (ks:List aK) (css:List Value) (e4 e5 e6 e7 e8 e9 e10 e11 e12:Value) (W:World) (hn:ks.length <= 100000000) (hk:RowA W W.heap.size 4 ak ks.length ck css) (hkk:dQ W W.heap.size ks css):
 Calls Tryz.prog 150 #[.agg #[e0,e1,e2, .slice ak ks.length ck,e4,e5,e6,e7,e8,e9,e10,e11,e12]] W (a_u W (rX (wY ks) ks.length) 1):=by
 obtain⟨z,hz⟩:∃z,z=rX (wY ks) ks.length:=⟨_,rfl⟩
 rw [<- hz]
 have Hzs:=a6 (show ∀k:Nat,k < ks.length ->wY ks k=true ->(∀j,j < k ->wY ks j=false) ->z=(k:Int)from fun k h1 h2 h3=>by rw [hz];exact qQ h1 h2 h3)
 have Hzn:=a6 (show (∀j,j < ks.length ->wY ks j=false) ->z= -1 from fun h=>by rw [hz];exact oX h)
 obtain⟨w0,hw0⟩:∃w0,w0=W.alloc (Obj.cells #[e0,e1,e2, .slice ak ks.length ck,e4,e5,e6,e7,e8,e9,e10,e11,e12] 118):=⟨_,rfl⟩
 have hb0:Below W.heap.size W w0:=by rw [hw0];exact aX _ _
 have hA:At w0 W.heap.size [e0,e1,e2, .slice ak ks.length ck,e4,e5,e6,e7,e8,e9,e10,e11,e12] 118:=by rw [hw0];exact At.fresh W _ _
 have Hk:=a6 (hk.keep hb0 hb0.size);have Hkk:=a6 (dQ.keep hb0 hb0.size _ _ hkk)
 have Hb0:=a6 hb0;have Hw0:=a6 hw0;have HA:=a6 hA
 clear hz hb0 hA hw0 hk hkk
 go_enter Tryz.func150,Tryz.ntmps150
 go_upto_region 1 with fail
 rw [<- Hw0.o]
 clear Hw0
 go_wp2_with fail
 go_loopg [4] ks.length (fun g i wr=>∃k:Nat,i= .int .i64 k/\1 <= k/\k+g=ks.length+1/\(∀j,j < k ->wY ks j=false)/\Below w0.heap.size w0 wr)
 case atStart=>
  refine⟨1,rfl,by omega,by omega,fun j hj=> ?_,a7⟩
  obtain rfl:j=0:=by omega
  rfl
 case round=>
  obtain⟨k,rfl,h1,hg,hbj,hbr⟩:=hrel
  have Hbj:=a6 hbj;have Hbr:=a6 hbr
  have HbW:=a6 (Hb0.o.trans (hbr.mono Hb0.o.size))
  have x3:=(HA.o.kept hbr).cell 3 rfl
  have xl:=(HA.o.kept hbr).lt
  by_cases hlt:k < ks.length
  . have hltI:(k:Int) < ks.length:=by omega
    have hsub:IntKind.i64.wrap ((k:Int) - 1)=((k - 1:Nat):Int):=by rw [show ((k:Int) - 1)=((k - 1:Nat):Int)by omega];exact IntWalk.i64_in _ (by omega)
    have hi1:((k - 1:Nat):Int) < ks.length:=by omega
    have hkr:=Hk.o.keep hbr hbr.size;have hkkr:=dQ.keep hbr hbr.size _ _ Hkk.o
    obtain⟨kb,ko,a1,c1,a2,c2,a3,c3,rfl,hkb, -,hpa,g0,g1,g2,g3⟩:=i_m hkr hkkr (k - 1) (by omega)
    obtain⟨b1,d1,b2,d2,b3,d3, -,hpb,f0,f1,f2,f3⟩:=n_0 hkr hkkr rfl k hlt
    have hmb:wY ks k=(aZ ks[k] && (aZ ks[k - 1] && decide (cV ks[k]=cV ks[k - 1]))):=by
     unfold wY;rw [u_9 hlt,u_9 (show k - 1 < ks.length by omega),decide_eq_true (show 0 < k by omega)];rfl
    generalize ks[k - 1]=qa at hpa g0 g1 g2 g3 hmb
    generalize ks[k]=qb at hpb f0 f1 f2 f3 hmb
    have Hmb:=a6 hmb
    have HS0:=a6 (fun(w':World) (hb:Below wr.heap.size wr w')=>And.intro ((hb.cell (by exact xl)).trans x3) (And.intro
     (show w'.cell? ⟨kb,ko+(k - 1) * 4,none⟩=some (.bool (aZ qa))/\w'.cell? ⟨kb,ko+(k - 1) * 4+1,none⟩=some (.slice a1 (cV qa).length c1)/\w'.cell? ⟨kb,ko+(k - 1) * 4+2,none⟩=some (.slice a2 (gJ qa).length c2)/\w'.cell? ⟨kb,ko+(k - 1) * 4+3,none⟩=some (.slice a3 (aQ qa).length c3)from⟨(hb.cell (by exact hkb)).trans g0,(hb.cell (by exact hkb)).trans g1,(hb.cell (by exact hkb)).trans g2,(hb.cell (by exact hkb)).trans g3⟩)
     (show w'.cell? ⟨kb,ko+k * 4,none⟩=some (.bool (aZ qb))/\w'.cell? ⟨kb,ko+k * 4+1,none⟩=some (.slice b1 (cV qb).length d1)/\w'.cell? ⟨kb,ko+k * 4+2,none⟩=some (.slice b2 (gJ qb).length d2)/\w'.cell? ⟨kb,ko+k * 4+3,none⟩=some (.slice b3 (aQ qb).length d3)from⟨(hb.cell (by exact hkb)).trans f0,(hb.cell (by exact hkb)).trans f1,(hb.cell (by exact hkb)).trans f2,(hb.cell (by exact hkb)).trans f3⟩)))
    have Hpa:=a6 hpa;have Hpb:=a6 hpb
    clear hkr hkkr hpa hpb hmb hbj hbr
    go_upto_region 4 with fail
    go_cut [5,6] (fun p q wx=>∃M1 M2:Nat,p= .pointer (some ⟨M1,0,none⟩)/\q= .pointer (some ⟨M2,0,none⟩)/\At wx M1 [.bool (aZ qa), .slice a1 (cV qa).length c1, .slice a2 (gJ qa).length c2, .slice a3 (aQ qa).length c3] 35/\At wx M2 [.bool (aZ qb), .slice b1 (cV qb).length d1, .slice b2 (gJ qb).length d2, .slice b3 (aQ qb).length d3] 35/\Below wr.heap.size wr wx)
    case first=>
     go_region_held3 (fun w'=>w'.cell? ⟨W.heap.size,3,none⟩=some (.slice (some ⟨kb,ko,none⟩) ks.length ck)/\(w'.cell? ⟨kb,ko+(k - 1) * 4,none⟩=some (.bool (aZ qa))/\w'.cell? ⟨kb,ko+(k - 1) * 4+1,none⟩=some (.slice a1 (cV qa).length c1)/\w'.cell? ⟨kb,ko+(k - 1) * 4+2,none⟩=some (.slice a2 (gJ qa).length c2)/\w'.cell? ⟨kb,ko+(k - 1) * 4+3,none⟩=some (.slice a3 (aQ qa).length c3))/\(w'.cell? ⟨kb,ko+k * 4,none⟩=some (.bool (aZ qb))/\w'.cell? ⟨kb,ko+k * 4+1,none⟩=some (.slice b1 (cV qb).length d1)/\w'.cell? ⟨kb,ko+k * 4+2,none⟩=some (.slice b2 (gJ qb).length d2)/\w'.cell? ⟨kb,ko+k * 4+3,none⟩=some (.slice b3 (aQ qb).length d3))) (refine HS0.o _ (by(repeat (first | with_reducible exact a7 | with_reducible refine Below.drew ?_ | with_reducible refine Below.alloc ?_ ?_ _ | with_reducible refine Below.setCell ?_ ?_ _)) <;> (first | exact a8 | (simp;done) | (simp;omega))))
      (fail)
     all_goals
      go_wp2_with fail
      go_meet
      case rel=>
       first
        | exact⟨_,_,rfl,rfl,(At.fresh wr [.bool (aZ qa), .slice a1 (cV qa).length c1, .slice a2 (gJ qa).length c2, .slice a3 (aQ qa).length c3] 35).alloc _,At.second wr _ [.bool (aZ qb), .slice b1 (cV qb).length d1, .slice b2 (gJ qb).length d2, .slice b3 (aQ qb).length d3] _,(i8 wr _ _).drew⟩
        | exact⟨_,_,rfl,rfl,At.second wr _ [.bool (aZ qa), .slice a1 (cV qa).length c1, .slice a2 (gJ qa).length c2, .slice a3 (aQ qa).length c3] _,(At.fresh wr [.bool (aZ qb), .slice b1 (cV qb).length d1, .slice b2 (gJ qb).length d2, .slice b3 (aQ qb).length d3] 35).alloc _,(i8 wr _ _).drew⟩
    case rest=>
     obtain⟨M1,M2,rfl,rfl,hm1,hm2,hb⟩:=hcut
     have hpa:=Hpa.o.keep hb hb.size;have hpb:=Hpb.o.keep hb hb.size
     obtain⟨⟨m0,m1,m2,m3⟩, -,ml⟩:=hm1.f4
     obtain⟨⟨n0,n1,n2,n3⟩, -,nl⟩:=hm2.f4
     have Hb2:=a6 (Hbr.o.trans (hb.mono Hbr.o.size))
     have HbF:=a6 (HbW.o.trans (hb.mono HbW.o.size))
     generalize aZ qa=la at Hmb m0
     generalize aZ qb=lb at Hmb n0
     generalize cV qa=pa at Hmb m1 hpa
     generalize cV qb=pb at Hmb n1 hpb
     have Hno:=a6 (fun(h:wY ks k=false)=>show ∀j,j < k+1 ->wY ks j=false from fun j hj=>by
      rcases Nat.lt_or_ge j k with h' | h'
      . exact Hbj.o j h'
      . obtain rfl:j=k:=by omega
        exact h)
     clear hb hm1 hm2 HS0
     cases la with
     | false=>
       clear hpa hpb
       go_wp2_with fail
       go_roundg (ks.length+1 - (k+1))
       case measure=>omega
       case rel=>exact⟨k+1,by go_num,by omega,by omega,Hno.o (by rw [Hmb.o];simp),Hb2.o⟩
     | true=>
       cases lb with
       | false=>
         clear hpa hpb
         go_wp2_with fail
         go_roundg (ks.length+1 - (k+1))
         case measure=>omega
         case rel=>exact⟨k+1,by go_num,by omega,by omega,Hno.o (by rw [Hmb.o];simp),Hb2.o⟩
       | true=>
         have HP:=a6 (e_5 a1 b1 c1 d1 _ pa pb _ hpa hpb)
         clear hpa hpb
         by_cases he:pa=pb
         . rw [decide_eq_true he]at HP
           have Hz:=a6 (Hzs.o k hlt (by rw [Hmb.o,he];simp) Hbj.o)
           clear he
           go_wp2_with fail
           refine HP.o.mono ?_
           rintro e w5 ⟨rfl,hd⟩
           have Hd:=a6 hd.below
           clear hd HP
           go_wp2_with fail
           go_ret2
           rw [Hz.o]
           exact⟨_,rfl,fun _=>rfl,HbF.o.trans (Hd.o _)⟩
         . rw [decide_eq_false he]at HP
           have Hno2:=a6 (Hno.o (by rw [Hmb.o,decide_eq_false (fun h=>he h.symm)];simp))
           clear he
           go_wp2_with fail
           refine HP.o.mono ?_
           rintro e w5 ⟨rfl,hd⟩
           have Hd:=a6 hd.below
           clear hd HP
           go_wp2_with fail
           go_roundg (ks.length+1 - (k+1))
           case measure=>omega
           case rel=>exact⟨k+1,by go_num,by omega,by omega,Hno2.o,Hb2.o.trans (Hd.o _)⟩
  . have hltI:decide ((k:Int) < ks.length)=false:=by simp;omega
    have Hz:=a6 (Hzn.o (fun j hj=>hbj j (by omega)))
    clear hbj hbr
    go_wp2_with fail
    go_ret2
    rw [Hz.o]
    exact⟨_,rfl,fun h=>by omega,HbW.o⟩
theorem i_o:∀args w,(callFunc 150 args).run Tryz.prog w= .ok (.enter 150 args) w:=by intro args w;kernel_rfl
theorem i_p:∀args w,(callFunc 151 args).run Tryz.prog w= .ok (.enter 151 args) w:=by intro args w;kernel_rfl
theorem k_0:∀args w,(callFunc 152 args).run Tryz.prog w= .ok (.enter 152 args) w:=by intro args w;kernel_rfl
theorem N2:∀args w,(callFunc 147 args).run Tryz.prog w= .ok (.enter 147 args) w:=by intro args w;kernel_rfl
theorem JQ:∀args w,(callFunc 148 args).run Tryz.prog w= .ok (.enter 148 args) w:=by intro args w;kernel_rfl
def B7 (w:World) (v:Value) (z:Int) (m:Nat):Prop:=
 ∃ (f:FuncId) (first caps:Array Value),v= .func (.func f) first caps/\(∀args w,(callFunc f args).run Tryz.prog w= .ok (.enter f args) w)/\
   ∀w',Below w.heap.size w w' ->Calls Tryz.prog f (first ++ caps) w' (a_u w' z m)
theorem B7.cap {w:World} {f:FuncId} {caps:Array Value} {z:Int} {m:Nat} (he:∀args w,(callFunc f args).run Tryz.prog w= .ok (.enter f args) w) (h:∀w',Below w.heap.size w w' ->Calls Tryz.prog f caps w' (a_u w' z m)):B7 w (.func (.func f) #[] caps) z m:=
 ⟨f, #[],caps,rfl,he,fun w' hb=>by rw [Array.empty_append];exact h w' hb⟩
theorem B7.meth {w:World} {f:FuncId} {first:Array Value} {z:Int} {m:Nat} (he:∀args w,(callFunc f args).run Tryz.prog w= .ok (.enter f args) w) (h:∀w',Below w.heap.size w w' ->Calls Tryz.prog f first w' (a_u w' z m)):B7 w (.func (.func f) first #[]) z m:=
 ⟨f,first, #[],rfl,he,fun w' hb=>by rw [Array.append_empty];exact h w' hb⟩
theorem b_1 (e0 e1 e2 e3 e4 e5 e6 e7 e8 e9 e10 e11:Value) (aa:Option Addr) (ac:Nat) (l:List A7) (d:Int) (E D:Nat) (W:World) (hE:At W E [e0,e1,e2,e3,e4,e5,e6,e7,e8,e9,e10,e11, .slice aa l.length ac] 118) (hD:At W D [.int .i64 d] 3)
 (hr:RowA W W.heap.size 2 aa l.length ac (m4 l)) (hn:l.length <= 100000000):
 Calls Tryz.prog 148 #[.pointer (some ⟨E,0,none⟩), .pointer (some ⟨D,0,none⟩)] W (a_u W (JK l d) (if d=4 then a_P l (JK l d).toNat else 1)):=by
 generalize hz:JK l d=z
 generalize hm:(if d=4 then a_P l z.toNat else 1)=m
 have HC:=a6 (l_O e0 e1 e2 e3 e4 e5 e6 e7 e8 e9 e10 e11 aa ac l d W hr hn)
 rw [hz,hm]at HC
 obtain⟨⟨x0,x1,x2,x3,x4,x5,x6,x7,x8,x9,x10,x11,x12⟩, -,xl⟩:=hE.f13
 obtain⟨y0, -,yl⟩:=hD.f1
 clear hE hD hr hz hm
 go_enter Tryz.func148,Tryz.ntmps148
 go_wp2_with fail
 refine HC.o.mono ?_
 rintro e w1 ⟨k,rfl,hk,hbel⟩
 have Hk:=a6 hk;have Hbel:=a6 hbel
 clear hk hbel HC
 go_wp2_with fail
 go_ret2
 exact⟨_,rfl,Hk.o,Hbel.o⟩
theorem k_1 (d:Int) (E:Nat) (W:World):
 Calls Tryz.prog 147 #[.int .i64 d, .pointer (some ⟨E,0,none⟩)] W fun e w'=>e= .returned (.func (.func 148) #[] #[.pointer (some ⟨E,0,none⟩), .pointer (some ⟨W.heap.size,0,none⟩)])/\At w' W.heap.size [.int .i64 d] 3/\Below W.heap.size W w':=by
 have Hb:=a6 (aX W (Obj.cells #[.int .i64 d] 3))
 have HD:=a6 (At.fresh W [.int .i64 d] 3)
 have hmf:∀ (fn:Fn) (first cap:Array Value) (w:World),(Instr.makeFunc fn first cap).run Tryz.prog w= .ok (.func fn first cap) w:=fun _ _ _ _=>rfl
 go_enter Tryz.func147,Tryz.ntmps147
 go_wp2_with fail
 go_ret
 exact⟨rfl,HD.o,Hb.o⟩
theorem At.f7 {w:World} {N:Nat} {c0 c1 c2 c3 c4 c5 c6:Value} {T:TypeId} (h:At w N [c0,c1,c2,c3,c4,c5,c6] T):(w.cell? ⟨N,0,none⟩=some c0/\w.cell? ⟨N,1,none⟩=some c1/\w.cell? ⟨N,2,none⟩=some c2/\w.cell? ⟨N,3,none⟩=some c3/\w.cell? ⟨N,4,none⟩=some c4/\w.cell? ⟨N,5,none⟩=some c5/\w.cell? ⟨N,6,none⟩=some c6)/\(∀j,w.frozen? ⟨N,j,none⟩=false)/\N < w.heap.size:=
 ⟨⟨h.cell 0 rfl,h.cell 1 rfl,h.cell 2 rfl,h.cell 3 rfl,h.cell 4 rfl,h.cell 5 rfl,h.cell 6 rfl⟩,fun j=>Lib.frozen_of_heap h _,h.lt⟩
theorem At.s7 {w:World} {N:Nat} {c0 c1 c2 c3 c4 c5 c6:Value} {T:TypeId} (h:At w N [c0,c1,c2,c3,c4,c5,c6] T) (d0 d1 d2 d3 d4 d5 d6:Value):At (((((((w.setCell ⟨N,0,none⟩ d0).setCell ⟨N,1,none⟩ d1).setCell ⟨N,2,none⟩ d2).setCell ⟨N,3,none⟩ d3).setCell ⟨N,4,none⟩ d4).setCell ⟨N,5,none⟩ d5).setCell ⟨N,6,none⟩ d6) N [d0,d1,d2,d3,d4,d5,d6] T:=by
 have h0:At (w.setCell ⟨N,0,none⟩ d0) N [d0,c1,c2,c3,c4,c5,c6] T:=h.set 0 d0
 have h1:At ((w.setCell ⟨N,0,none⟩ d0).setCell ⟨N,1,none⟩ d1) N [d0,d1,c2,c3,c4,c5,c6] T:=h0.set 1 d1
 have h2:At (((w.setCell ⟨N,0,none⟩ d0).setCell ⟨N,1,none⟩ d1).setCell ⟨N,2,none⟩ d2) N [d0,d1,d2,c3,c4,c5,c6] T:=h1.set 2 d2
 have h3:At ((((w.setCell ⟨N,0,none⟩ d0).setCell ⟨N,1,none⟩ d1).setCell ⟨N,2,none⟩ d2).setCell ⟨N,3,none⟩ d3) N [d0,d1,d2,d3,c4,c5,c6] T:=h2.set 3 d3
 have h4:At (((((w.setCell ⟨N,0,none⟩ d0).setCell ⟨N,1,none⟩ d1).setCell ⟨N,2,none⟩ d2).setCell ⟨N,3,none⟩ d3).setCell ⟨N,4,none⟩ d4) N [d0,d1,d2,d3,d4,c5,c6] T:=h3.set 4 d4
 have h5:At ((((((w.setCell ⟨N,0,none⟩ d0).setCell ⟨N,1,none⟩ d1).setCell ⟨N,2,none⟩ d2).setCell ⟨N,3,none⟩ d3).setCell ⟨N,4,none⟩ d4).setCell ⟨N,5,none⟩ d5) N [d0,d1,d2,d3,d4,d5,c6] T:=h4.set 5 d5
 exact h5.set 6 d6
theorem At.n7 {w:World} {N M:Nat} {cs:List Value} {T:TypeId} (h:At w M cs T) (hne:M≠N) (d0 d1 d2 d3 d4 d5 d6:Value):At (((((((w.setCell ⟨N,0,none⟩ d0).setCell ⟨N,1,none⟩ d1).setCell ⟨N,2,none⟩ d2).setCell ⟨N,3,none⟩ d3).setCell ⟨N,4,none⟩ d4).setCell ⟨N,5,none⟩ d5).setCell ⟨N,6,none⟩ d6) M cs T:=
 ((((((h.set_ne hne _).set_ne hne _).set_ne hne _).set_ne hne _).set_ne hne _).set_ne hne _).set_ne hne _
theorem k_2 {B:Nat} {W w:World} {N:Nat} (h:Below B W w) (hN:B <= N) (d0 d1 d2 d3 d4 d5 d6:Value):Below B W (((((((w.setCell ⟨N,0,none⟩ d0).setCell ⟨N,1,none⟩ d1).setCell ⟨N,2,none⟩ d2).setCell ⟨N,3,none⟩ d3).setCell ⟨N,4,none⟩ d4).setCell ⟨N,5,none⟩ d5).setCell ⟨N,6,none⟩ d6):=
 ((((((h.setCell (p:=⟨N,0,none⟩) hN _).setCell (p:=⟨N,1,none⟩) hN _).setCell (p:=⟨N,2,none⟩) hN _).setCell (p:=⟨N,3,none⟩) hN _).setCell (p:=⟨N,4,none⟩) hN _).setCell (p:=⟨N,5,none⟩) hN _).setCell (p:=⟨N,6,none⟩) hN _
theorem c_p (d:Int) (E:Nat) (W:World):
 Calls Tryz.prog 147 (([.int .i64 d]:List Value).toArray ++ #[.pointer (some ⟨E,0,none⟩)]) W fun e w'=>e= .returned (.func (.func 148) #[] #[.pointer (some ⟨E,0,none⟩), .pointer (some ⟨W.heap.size,0,none⟩)])/\At w' W.heap.size [.int .i64 d] 3/\Below W.heap.size W w':=by
 rw [show (([.int .i64 d]:List Value).toArray ++ #[.pointer (some ⟨E,0,none⟩)])= #[.int .i64 d, .pointer (some ⟨E,0,none⟩)]from rfl]
 exact k_1 d E W
theorem c_q {P:Program} {o:Oper} {a:Act} {w:World} {K:Act ->World ->Prop} {Q:Exit ->Act ->World ->Prop}
 (f:FuncId) (s:Operand) (caps:Array Value) (args:Array Operand) (tys:Array TypeId) (ho:o.op= .call { callee:= .value s,args:=args,argTypes:=tys }) (hs:a.eval s= .func (.func f) #[] caps)
 (he:∀args w,(callFunc f args).run P w= .ok (.enter f args) w) (vals:List Value) (hv:args.toList.map a.eval=vals) (R:Ending ->World ->Prop) (hC:Calls P f (vals.toArray ++ caps) w R)
 (h:∀e w',R e w' ->∃v,e= .returned v/\K (a.put o.dst v) w'):Oper.wp P o a w K Q:=by
 unfold Oper.wp
 have hv':args.map a.eval=vals.toArray:=by rw [<- hv];apply Array.ext';simp
 have hr:(execOp a.eval o).run P w= .ok (.enter f (vals.toArray ++ caps)) w:=by
  simp [execOp,ho,resolve,invoke,hs,Deferred.ofValue,hv',he]
 rw [hr]
 show Calls P f (vals.toArray ++ caps) w _
 refine hC.mono fun e w' hR=> ?_
 obtain⟨v,rfl,hk⟩:=h e w' hR
 exact hk
theorem l_R (e0 e1 e2:Value) (ak:Option Addr) (ck:Nat) (ks:List aK) (css:List Value) (e4 e5 e6 e7 e8 e9:Value) (fl:Int) (e11:Value) (aa:Option Addr) (ac:Nat) (l:List A7) (W:World) (hn:ks.length <= 100000000) (hk:RowA W W.heap.size 4 ak ks.length ck css) (hkk:dQ W W.heap.size ks css)
 (hr:RowA W W.heap.size 2 aa l.length ac (m4 l)) (hl:l.length <= 100000000):
 Calls Tryz.prog 72 #[.agg #[e0,e1,e2, .slice ak ks.length ck,e4,e5,e6,e7,e8,e9, .int .i64 fl,e11, .slice aa l.length ac]] W fun e w'=>∃v1 v2 v3 v4 v5 v6,e= .returned (.agg #[.nilFunc,v1,v2,v3,v4,v5,v6])/\
  B7 w' v1 (JK l 2) 1/\B7 w' v2 (JK l 3) 1/\B7 w' v3 (JK l 4) (a_P l (JK l 4).toNat)/\B7 w' v4 (rX (wY ks) ks.length) 1/\B7 w' v5 (rX (EV ks) ks.length) 1/\B7 w' v6 (if ks.length=0/\fl≠0 then 0 else -1) 1/\Below W.heap.size W w':=by
 obtain⟨w0,hw0⟩:∃w0,w0=(W.alloc (Obj.cells #[e0,e1,e2, .slice ak ks.length ck,e4,e5,e6,e7,e8,e9, .int .i64 fl,e11, .slice aa l.length ac] 118)).alloc (Obj.cells #[.nilFunc, .nilFunc, .nilFunc, .nilFunc, .nilFunc, .nilFunc, .nilFunc] 121):=⟨_,rfl⟩
 have hb0:Below W.heap.size W w0:=by rw [hw0];exact i8 _ _ _
 have hA:At w0 W.heap.size [e0,e1,e2, .slice ak ks.length ck,e4,e5,e6,e7,e8,e9, .int .i64 fl,e11, .slice aa l.length ac] 118:=by rw [hw0];exact(At.fresh W _ _).alloc _
 have hZ:At w0 (W.heap.size+1) [.nilFunc, .nilFunc, .nilFunc, .nilFunc, .nilFunc, .nilFunc, .nilFunc] 121:=by rw [hw0];exact At.second W _ _ _
 have hmf:∀ (fn:Fn) (first cap:Array Value) (w:World),(Instr.makeFunc fn first cap).run Tryz.prog w= .ok (.func fn first cap) w:=fun _ _ _ _=>rfl
 have HFill:=Lib.hid (fun(w':World)=>m_Z e0 e1 e2 ak ks.length ck e4 e5 e6 e7 e8 e9 fl e11 (.slice aa l.length ac) w' hn)
 generalize (if ks.length=0/\fl≠0 then (0:Int) else -1)=zz at HFill⊢
 have Hk:=Lib.hid hk;have Hkk:=Lib.hid hkk;have Hr:=Lib.hid hr
 have Hb0:=Lib.hid hb0;have Hw0:=Lib.hid hw0;have HA:=Lib.hid hA;have HZ:=Lib.hid hZ
 have HS0:=Lib.hid (fun(w':World) (hb:Below w0.heap.size w0 w')=>(HA.out.kept hb).f13.1)
 obtain⟨⟨x0,x1,x2,x3,x4,x5,x6,x7,x8,x9,x10,x11,x12⟩, -,xl⟩:=hA.f13
 have zl:=hZ.lt
 clear hb0 hA hw0 hZ hk hkk hr
 go_enter Tryz.func72,Tryz.ntmps72
 go_upto_region 1 with fail
 rw [<- Hw0.out]
 clear Hw0
 go_wp2_with fail
 refine wp_region_noPanic ?_
 refine wp_region_held_drew (S:=(fun w'=>w'.cell? ⟨W.heap.size,0,none⟩=some (e0)/\w'.cell? ⟨W.heap.size,1,none⟩=some (e1)/\w'.cell? ⟨W.heap.size,2,none⟩=some (e2)/\w'.cell? ⟨W.heap.size,3,none⟩=some (.slice ak ks.length ck)/\w'.cell? ⟨W.heap.size,4,none⟩=some (e4)/\w'.cell? ⟨W.heap.size,5,none⟩=some (e5)/\w'.cell? ⟨W.heap.size,6,none⟩=some (e6)/\w'.cell? ⟨W.heap.size,7,none⟩=some (e7)/\w'.cell? ⟨W.heap.size,8,none⟩=some (e8)/\w'.cell? ⟨W.heap.size,9,none⟩=some (e9)/\w'.cell? ⟨W.heap.size,10,none⟩=some (.int .i64 fl)/\w'.cell? ⟨W.heap.size,11,none⟩=some (e11)/\w'.cell? ⟨W.heap.size,12,none⟩=some (.slice aa l.length ac))) (by kernel_rfl) ?_ (fun hHeld=> ?_)
 . exact HS0.out _ (a7).drew
 refine wpAnyH_take (i:=0) (v:= ?_) rfl (by kernel_rfl) (by kernel_rfl) (by kernel_rfl) (fun _ _ _ h=>h) (Or.inl ⟨by rfl, ?_⟩) (by assumption) ?_
 rotate_left
 . intro w hSw
   try dsimp only at hSw
   go_simp
   try with_reducible rfl
 try simp only [Act.put,List.getElem_toArray,List.getElem_cons_zero,List.setIfInBounds_toArray,List.set_cons_zero,List.set_cons_succ]
 refine wpAnyH_take (i:=2) (v:= ?_) rfl (by kernel_rfl) (by kernel_rfl) (by kernel_rfl) (fun _ _ _ h=>h) (Or.inl ⟨by rfl, ?_⟩) (by assumption) ?_
 rotate_left
 . intro w hSw
   try dsimp only at hSw
   go_simp
   try with_reducible rfl
 try simp only [Act.put,List.getElem_toArray,List.getElem_cons_zero,List.getElem_cons_succ,List.setIfInBounds_toArray,List.set_cons_zero,List.set_cons_succ]
 refine wpAnyH_take (i:=4) (v:= ?_) rfl (by kernel_rfl) (by kernel_rfl) (by kernel_rfl) (fun _ _ _ h=>h) (Or.inl ⟨by rfl, ?_⟩) (by assumption) ?_
 rotate_left
 . intro w hSw
   try dsimp only at hSw
   go_simp
   try with_reducible rfl
 try simp only [Act.put,List.getElem_toArray,List.getElem_cons_zero,List.getElem_cons_succ,List.setIfInBounds_toArray,List.set_cons_zero,List.set_cons_succ]
 refine wpAnyH_take (i:=6) (v:= ?_) rfl (by kernel_rfl) (by kernel_rfl) (by kernel_rfl) (fun _ _ _ h=>h) (Or.inl ⟨by rfl, ?_⟩) (by assumption) ?_
 rotate_left
 . intro w hSw
   try dsimp only at hSw
   go_simp
   try with_reducible rfl
 try simp only [Act.put,List.getElem_toArray,List.getElem_cons_zero,List.getElem_cons_succ,List.setIfInBounds_toArray,List.set_cons_zero,List.set_cons_succ]
 refine wpAnyH_take (i:=8) (v:= ?_) rfl (by kernel_rfl) (by kernel_rfl) (by kernel_rfl) (fun _ _ _ h=>h) (Or.inl ⟨by rfl, ?_⟩) (by assumption) ?_
 rotate_left
 . intro w hSw
   try dsimp only at hSw
   go_simp
   try with_reducible rfl
 try simp only [Act.put,List.getElem_toArray,List.getElem_cons_zero,List.getElem_cons_succ,List.setIfInBounds_toArray,List.set_cons_zero,List.set_cons_succ]
 refine wpAnyH_take (i:=10) (v:= ?_) rfl (by kernel_rfl) (by kernel_rfl) (by kernel_rfl) (fun _ _ _ h=>h) (Or.inl ⟨by rfl, ?_⟩) (by assumption) ?_
 rotate_left
 . intro w hSw
   try dsimp only at hSw
   go_simp
   try with_reducible rfl
 try simp only [Act.put,List.getElem_toArray,List.getElem_cons_zero,List.getElem_cons_succ,List.setIfInBounds_toArray,List.set_cons_zero,List.set_cons_succ]
 refine wpAnyH_take (i:=7) (v:= ?_) rfl (by kernel_rfl) (by kernel_rfl) (by kernel_rfl) (fun _ _ _ h=>h) (Or.inl ⟨by rfl, ?_⟩) (by assumption) ?_
 rotate_left
 . intro w hSw
   try dsimp only at hSw
   go_simp
   try with_reducible rfl
 try simp only [Act.put,List.getElem_toArray,List.getElem_cons_zero,List.getElem_cons_succ,List.setIfInBounds_toArray,List.set_cons_zero,List.set_cons_succ]
 refine wpAnyH_take (i:=9) (v:= ?_) rfl (by kernel_rfl) (by kernel_rfl) (by kernel_rfl) (fun _ _ _ h=>h) (Or.inl ⟨by rfl, ?_⟩) (by assumption) ?_
 rotate_left
 . intro w hSw
   try dsimp only at hSw
   go_simp
   try with_reducible rfl
 try simp only [Act.put,List.getElem_toArray,List.getElem_cons_zero,List.getElem_cons_succ,List.setIfInBounds_toArray,List.set_cons_zero,List.set_cons_succ]
 refine wpAnyH_take (i:=11) (v:= ?_) rfl (by kernel_rfl) (by kernel_rfl) (by kernel_rfl) (fun _ _ _ h=>h) (Or.inl ⟨by rfl, ?_⟩) (by assumption) ?_
 rotate_left
 . intro w hSw
   try dsimp only at hSw
   go_simp
   try with_reducible rfl
 try simp only [Act.put,List.getElem_toArray,List.getElem_cons_zero,List.getElem_cons_succ,List.setIfInBounds_toArray,List.set_cons_zero,List.set_cons_succ]
 refine wpAnyH_ready (rs:= [1]) (by kernel_rfl) (by simp) ?_
 refine AllReadyH.cons rfl (fun K hK=> ?_) AllReadyH.nil
 rw [if_pos (by rfl)]
 simp only [List.getElem_toArray,List.getElem_cons_zero,List.getElem_cons_succ]
 refine c_q 147 _ #[.pointer (some ⟨W.heap.size,0,none⟩)] _ _ rfl ?_ N2 [.int .i64 2] ?_ _ (c_p 2 W.heap.size w0.drew) ?_
 . go_simp
 . go_simp
 rintro e w1 ⟨rfl,hd,hbel⟩
 refine⟨_,rfl, ?_⟩
 have HD1:=Lib.hid hd
 have Hc1:=Lib.hid hbel
 have Hb1:=Lib.hid (((Below.refl w0.heap.size w0).drew).trans (hbel.mono ((Below.refl w0.heap.size w0).drew).size))
 clear hbel hd
 refine hK.out _ _ ?_ (fun hHeld=> ?_)
 . exact HS0.out _ Hb1.out
 clear hK K
 try simp only [Act.put,List.getElem_toArray,List.getElem_cons_zero,List.getElem_cons_succ,List.setIfInBounds_toArray,List.set_cons_zero,List.set_cons_succ]
 refine wpAnyH_ready (rs:= [3]) (by kernel_rfl) (by simp) ?_
 refine AllReadyH.cons rfl (fun K hK=> ?_) AllReadyH.nil
 rw [if_pos (by rfl)]
 simp only [List.getElem_toArray,List.getElem_cons_zero,List.getElem_cons_succ]
 refine c_q 147 _ #[.pointer (some ⟨W.heap.size,0,none⟩)] _ _ rfl ?_ N2 [.int .i64 3] ?_ _ (c_p 3 W.heap.size w1) ?_
 . go_simp
 . go_simp
 rintro e w2 ⟨rfl,hd,hbel⟩
 refine⟨_,rfl, ?_⟩
 have HD2:=Lib.hid hd
 have Hc2:=Lib.hid hbel
 have Hb2:=Lib.hid ((Hb1.out).trans (hbel.mono (Hb1.out).size))
 clear hbel hd
 refine hK.out _ _ ?_ (fun hHeld=> ?_)
 . exact HS0.out _ Hb2.out
 clear hK K
 try simp only [Act.put,List.getElem_toArray,List.getElem_cons_zero,List.getElem_cons_succ,List.setIfInBounds_toArray,List.set_cons_zero,List.set_cons_succ]
 refine wpAnyH_ready (rs:= [5]) (by kernel_rfl) (by simp) ?_
 refine AllReadyH.cons rfl (fun K hK=> ?_) AllReadyH.nil
 rw [if_pos (by rfl)]
 simp only [List.getElem_toArray,List.getElem_cons_zero,List.getElem_cons_succ]
 refine c_q 147 _ #[.pointer (some ⟨W.heap.size,0,none⟩)] _ _ rfl ?_ N2 [.int .i64 4] ?_ _ (c_p 4 W.heap.size w2) ?_
 . go_simp
 . go_simp
 rintro e w3 ⟨rfl,hd,hbel⟩
 refine⟨_,rfl, ?_⟩
 have HD3:=Lib.hid hd
 have Hc3:=Lib.hid hbel
 have Hb3:=Lib.hid ((Hb2.out).trans (hbel.mono (Hb2.out).size))
 clear hbel hd
 refine hK.out _ _ ?_ (fun hHeld=> ?_)
 . exact HS0.out _ Hb3.out
 clear hK K
 try simp only [Act.put,List.getElem_toArray,List.getElem_cons_zero,List.getElem_cons_succ,List.setIfInBounds_toArray,List.set_cons_zero,List.set_cons_succ]
 refine wpAnyH_take (i:=12) (v:= ?_) rfl (by kernel_rfl) (by kernel_rfl) (by kernel_rfl) (fun _ _ _ h=>h) (Or.inl ⟨by rfl, ?_⟩) (by assumption) ?_
 rotate_left
 . intro w hSw
   try dsimp only at hSw
   go_simp
   try with_reducible rfl
 try simp only [Act.put,List.getElem_toArray,List.getElem_cons_zero,List.getElem_cons_succ,List.setIfInBounds_toArray,List.set_cons_zero,List.set_cons_succ]
 clear hmf
 obtain⟨v1,hv1,ho1⟩:∃v,v=(Value.func (.func 148) #[] #[.pointer (some ⟨W.heap.size,0,none⟩), .pointer (some ⟨w0.drew.heap.size,0,none⟩)])/\v.oneCell'=true:=⟨_,rfl,rfl⟩
 obtain⟨v2,hv2,ho2⟩:∃v,v=(Value.func (.func 148) #[] #[.pointer (some ⟨W.heap.size,0,none⟩), .pointer (some ⟨w1.heap.size,0,none⟩)])/\v.oneCell'=true:=⟨_,rfl,rfl⟩
 obtain⟨v3,hv3,ho3⟩:∃v,v=(Value.func (.func 148) #[] #[.pointer (some ⟨W.heap.size,0,none⟩), .pointer (some ⟨w2.heap.size,0,none⟩)])/\v.oneCell'=true:=⟨_,rfl,rfl⟩
 obtain⟨v4,hv4,ho4⟩:∃v,v=(Value.func (.func 150) #[.agg #[e0,e1,e2, .slice ak ks.length ck,e4,e5,e6,e7,e8,e9, .int .i64 fl,e11, .slice aa l.length ac]] #[])/\v.oneCell'=true:=⟨_,rfl,rfl⟩
 obtain⟨v5,hv5,ho5⟩:∃v,v=(Value.func (.func 151) #[.agg #[e0,e1,e2, .slice ak ks.length ck,e4,e5,e6,e7,e8,e9, .int .i64 fl,e11, .slice aa l.length ac]] #[])/\v.oneCell'=true:=⟨_,rfl,rfl⟩
 obtain⟨v6,hv6,ho6⟩:∃v,v=(Value.func (.func 152) #[.agg #[e0,e1,e2, .slice ak ks.length ck,e4,e5,e6,e7,e8,e9, .int .i64 fl,e11, .slice aa l.length ac]] #[])/\v.oneCell'=true:=⟨_,rfl,rfl⟩
 have HbW:Below W.heap.size W w3:=Hb0.out.trans (Hb3.out.mono Hb0.out.size)
 rw [<- hv1, <- hv2, <- hv3, <- hv4, <- hv5, <- hv6]
 rw [show Value.func (.func 148) #[] #[.pointer (some ⟨W.heap.size,0,none⟩), .pointer (some ⟨w0.heap.size,0,none⟩)]=v1 from hv1.symm]
 have Hv1:=Lib.hid hv1
 have Hv2:=Lib.hid hv2
 have Hv3:=Lib.hid hv3
 have Hv4:=Lib.hid hv4
 have Hv5:=Lib.hid hv5
 have Hv6:=Lib.hid hv6
 clear hv1 hv2 hv3 hv4 hv5 hv6
 obtain⟨⟨z0,z1,z2,z3,z4,z5,z6⟩,zf,zl3⟩:=(HZ.out.kept Hb3.out).f7
 refine wpAnyH_ready (rs:= [13]) (by kernel_rfl) (by simp) ?_
 refine AllReadyH.cons rfl (fun K hK=> ?_) AllReadyH.nil
 rw [if_pos (by rfl)]
 simp only [List.getElem_toArray,List.getElem_cons_zero,List.getElem_cons_succ]
 refine wp_store_mid 121 _ _ rfl (W.heap.size+1) 0 #[.nilFunc,v1,v2,v3,v4,v5,v6] rfl rfl (fun j hj=> ?_) rfl (by simp [ho1,ho2,ho3,ho4,ho5,ho6];rfl) ?_
 . have h7:j=0∨j=1∨j=2∨j=3∨j=4∨j=5∨j=6:=by simp at hj;omega
   rcases h7 with rfl | rfl | rfl | rfl | rfl | rfl | rfl
   . exact⟨by rw [z0];rfl,zf _⟩
   . exact⟨by rw [z1];rfl,zf _⟩
   . exact⟨by rw [z2];rfl,zf _⟩
   . exact⟨by rw [z3];rfl,zf _⟩
   . exact⟨by rw [z4];rfl,zf _⟩
   . exact⟨by rw [z5];rfl,zf _⟩
   . exact⟨by rw [z6];rfl,zf _⟩
 simp only [World.setCells,Nat.zero_add,Nat.reduceAdd]
 refine hK.out _ _ ?_ (fun hHeld=> ?_)
 . exact((HA.out.kept Hb3.out).n7 (by omega) _ _ _ _ _ _ _).f13.1
 clear hK K hHeld
 refine wpAnyH_done (by kernel_rfl) ?_ _
 refine NoPanic.normal ?_
 obtain⟨w8,hw8⟩:∃w8,w8=(((((((w3.setCell ⟨W.heap.size+1,0,none⟩ .nilFunc).setCell ⟨W.heap.size+1,1,none⟩ v1).setCell ⟨W.heap.size+1,2,none⟩ v2).setCell ⟨W.heap.size+1,3,none⟩ v3).setCell ⟨W.heap.size+1,4,none⟩ v4).setCell ⟨W.heap.size+1,5,none⟩ v5).setCell ⟨W.heap.size+1,6,none⟩ v6):=⟨_,rfl⟩
 have hz8:At w8 (W.heap.size+1) [.nilFunc,v1,v2,v3,v4,v5,v6] 121:=by rw [hw8];exact(HZ.out.kept Hb3.out).s7 .nilFunc v1 v2 v3 v4 v5 v6
 have hb8:Below W.heap.size W w8:=by rw [hw8];exact k_2 HbW (show W.heap.size <= W.heap.size+1 by omega) .nilFunc v1 v2 v3 v4 v5 v6
 have HA8:=Lib.hid (show At w8 W.heap.size [e0,e1,e2, .slice ak ks.length ck,e4,e5,e6,e7,e8,e9, .int .i64 fl,e11, .slice aa l.length ac] 118 by rw [hw8];exact(HA.out.kept Hb3.out).n7 (by omega) .nilFunc v1 v2 v3 v4 v5 v6)
 have HE1:=Lib.hid (show At w8 w0.drew.heap.size [.int .i64 2] 3 by rw [hw8];exact(HD1.out.kept (Hc2.out.trans (Hc3.out.mono Hc2.out.size))).n7 (show w0.heap.size≠W.heap.size+1 by omega) .nilFunc v1 v2 v3 v4 v5 v6)
 have hsz1:=Hb1.out.size;have hsz2:=Hb2.out.size
 have HE2:=Lib.hid (show At w8 w1.heap.size [.int .i64 3] 3 by rw [hw8];exact(HD2.out.kept Hc3.out).n7 (by omega) .nilFunc v1 v2 v3 v4 v5 v6)
 have HE3:=Lib.hid (show At w8 w2.heap.size [.int .i64 4] 3 by rw [hw8];exact HD3.out.n7 (by omega) .nilFunc v1 v2 v3 v4 v5 v6)
 rw [<- hw8]
 clear z0 z1 z2 z3 z4 z5 z6 zf zl3
 obtain⟨⟨z0,z1,z2,z3,z4,z5,z6⟩,zf7,zl7⟩:=hz8.f7
 have Hb8:=Lib.hid hb8
 clear hz8 hb8 hw8 HA HS0 HD1 HD2 HD3
 go_wp2_with fail
 refine bodyPost_ret (v:= .agg #[.nilFunc,v1,v2,v3,v4,v5,v6]) (by simp [results,Tryz.results72,go_sem,z0,z1,z2,z3,z4,z5,z6]) rfl ?_
 have hrow:=fun(w':World) (hb:Below w8.heap.size w8 w')=>Hr.out.keep (Hb8.out.trans (hb.mono Hb8.out.size)) (Hb8.out.trans (hb.mono Hb8.out.size)).size
 have hk8:=fun(w':World) (hb:Below w8.heap.size w8 w')=>Hk.out.keep (Hb8.out.trans (hb.mono Hb8.out.size)) (Hb8.out.trans (hb.mono Hb8.out.size)).size
 have hkk8:=fun(w':World) (hb:Below w8.heap.size w8 w')=>dQ.keep (Hb8.out.trans (hb.mono Hb8.out.size)) (Hb8.out.trans (hb.mono Hb8.out.size)).size _ _ Hkk.out
 refine⟨v1,v2,v3,v4,v5,v6,rfl, ?_, ?_, ?_, ?_, ?_, ?_,Hb8.out⟩
 . rw [Hv1.out];exact B7.cap JQ fun w' hb=>b_1 e0 e1 e2 (.slice ak ks.length ck) e4 e5 e6 e7 e8 e9 (.int .i64 fl) e11 aa ac l 2 W.heap.size w0.drew.heap.size w' (HA8.out.kept hb) (HE1.out.kept hb) (hrow w' hb) hl
 . rw [Hv2.out];exact B7.cap JQ fun w' hb=>b_1 e0 e1 e2 (.slice ak ks.length ck) e4 e5 e6 e7 e8 e9 (.int .i64 fl) e11 aa ac l 3 W.heap.size w1.heap.size w' (HA8.out.kept hb) (HE2.out.kept hb) (hrow w' hb) hl
 . rw [Hv3.out];exact B7.cap JQ fun w' hb=>b_1 e0 e1 e2 (.slice ak ks.length ck) e4 e5 e6 e7 e8 e9 (.int .i64 fl) e11 aa ac l 4 W.heap.size w2.heap.size w' (HA8.out.kept hb) (HE3.out.kept hb) (hrow w' hb) hl
 . rw [Hv4.out];exact B7.meth i_o fun w' hb=>l_Q e0 e1 e2 ak ck ks css e4 e5 e6 e7 e8 e9 (.int .i64 fl) e11 (.slice aa l.length ac) w' hn (hk8 w' hb) (hkk8 w' hb)
 . rw [Hv5.out];exact B7.meth i_p fun w' hb=>l_P e0 e1 e2 ak ck ks css e4 e5 e6 e7 e8 e9 (.int .i64 fl) e11 (.slice aa l.length ac) w' hn (hk8 w' hb) (hkk8 w' hb)
 . rw [Hv6.out];exact B7.meth k_0 fun w' hb=>HFill.out w'
theorem i_q {r:bJ} {ks:List aK} {c:Int} {cs:List Int} {j:Int} (h:i7 r ks c=j) (h0:0 <= j):B5 r ks (c::cs)=(c,j,(i9 r ks c:Int)):=by
 unfold B5;rw [h,if_pos h0]
theorem n_1 (o0 o1 o2 o3 o4 o5:Int) (k:Nat) (hk:k < 6):∀w:World,(Instr.index 28 (.agg #[.int .i64 o0, .int .i64 o1, .int .i64 o2, .int .i64 o3, .int .i64 o4, .int .i64 o5]) (.int .i64 k)).run Tryz.prog w= .ok (.int .i64 ([o0,o1,o2,o3,o4,o5].getD k 0)) w:=by
 have h:k=0∨k=1∨k=2∨k=3∨k=4∨k=5:=by omega
 rcases h with rfl | rfl | rfl | rfl | rfl | rfl
 all_goals
  intro w
  kernel_rfl
abbrev n_I (W:World) (f:qJ) (e:Ending) (w':World):Prop:=e= .returned (.agg #[.int .i64 f.1, .int .i64 f.2.1, .int .i64 f.2.2])/\Below W.heap.size W w'
end Go.Proofs.YtmadpclcmjahoaaGreatDoor
