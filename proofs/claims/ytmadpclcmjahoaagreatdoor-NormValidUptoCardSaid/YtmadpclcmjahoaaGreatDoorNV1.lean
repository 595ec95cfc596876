/- Parts of the proof: NV1. -/
import Derived.Test.YtmadpclcmjahoaaGreatDoorCC31
import Derived.Test.YtmadpclcmjahoaaGreatDoorCards
import Derived.Test.YtmadpclcmjahoaaGreatDoorTie
import Derived.ShutString
import Derived.Lib.LaidTab
import Derived.Stop.LaidErr
import Derived.Lay
import Derived.SevenTiedAt
set_option linter.unusedVariables false
set_option linter.unusedSimpArgs false
set_option maxHeartbeats 8000000
set_option maxRecDepth 100000
namespace Go.Proofs.YtmadpclcmjahoaaGreatDoor
open Go.RowKit Go.Redl
theorem f_o {w:World} {B M:Nat} {n:aX} {cs:List Value} (h:NodeQ w (fun b=>B <= b/\b≠M) n cs):NodeQ w (fun _=>True) n cs:=NodeQ.keep (a8) (fun _ _ _=>rfl) (fun _ _ _=>trivial) _ _ h
theorem n_i (n:aX):oY ((tX n).filter (dX n))=tX n:=sK (j8 _) (j8 _) fun q=>by
 rw [m4,List.mem_filter];exact⟨fun h=>h.1,fun h=>⟨h,(List.mem_filter.1 (m4.1 h)).2⟩⟩
theorem f_p (s:b5) (n:aX) (u v:Value) (picks:List Int) (ka:Option Addr) (kc:Nat) (W:World) (hs:s.wt <= 1048576) (hn:n.wt <= 1048576) (k4:picks.length <= 1048576) (hu:SchemaV W W s u) (hv:bY W W n v)
 (H5:RowA W W 1 ka picks.length kc (picks.map (Value.int .i64))):
 Calls Tryz.prog 5 #[u,v,(ka,picks.length,kc)] W (fun e w'=>e= .returned true/\Below W W w'):=by
 have J1:=hu;have x5:=hv
 obtain⟨csn,rfl,hc⟩:=x5;obtain⟨l,b1,m1,d1,b2,m2,d2,b3,m3,d3,rfl⟩:=hc.form;obtain⟨a,c,ea,ec,sn,en,Y1,Y2,Y3,Y4,Y5,Y6,Y7,Y8,o0,o1,o2,o3,o4,o5,rfl⟩:=SchemaV.shape J1;obtain⟨w0,I⟩:∃w0,w0=(W.alloc (Obj.cells #[(a,sn,c),Y1,Y2,Y3,Y4,Y5,(ea,en,ec),Y6,Y7,o0,o1,o2,o3,o4,o5,Y8] 30)).alloc (Obj.cells #[l,(b1,m1,d1),(b2,m2,d2),(b3,m3,d3)] 35):=⟨_,rfl⟩;have p:Below W W w0:=by rw [I];exact g8 _ _ _
 have HA:=a6 (show At w0 W [(a,sn,c),Y1,Y2,Y3,Y4,Y5,(ea,en,ec),Y6,Y7,o0,o1,o2,o3,o4,o5,Y8] 30 by rw [I];exact(At.fresh W _ _).alloc _);have HN:=a6 (show At w0 (W+1) [l,(b1,m1,d1),(b2,m2,d2),(b3,m3,d3)] 35 by rw [I];exact At.second W _ _ _);have HF:=a6 (fun(w':World) (hb:Below w0 w0 w')=>h_k s n _ _ () [] ka picks.length kc w' P2 P2 P6 P2 (hu.keep (p.trans (hb.mono p.size)) (p.trans (hb.mono p.size)).size) (hv.keep (p.trans (hb.mono p.size)) (p.trans (hb.mono p.size)).size) g_t);have HL:=a6 (f_f w0);have J:=a6 p;have H6:=a6 I
 cases Q:J3 s n (iV []) picks.length with
 | false=>
   rw [Q]at HF;clear hu hv J1 hc hs hn p I Q H5;go_enter Tryz.func5,Tryz.ntmps5;go_upto_region 1 with fail;rw [<- H6.o];clear H6;go_wp2_with fail;refine HL.o.mono ?_;rintro e w1 ⟨rfl,d⟩;have J2:=a6 d
   have H7:=a6 (HA.o.kept d);obtain⟨⟨y0,y1,y2,y3⟩, -,yl⟩:=(HN.o.kept d).f4;have R:=a6 (HF.o w1 d);clear d HL HF;go_wp2_with (refine bZ rfl _ _ rfl W.heap.size #[(a,sn,c),Y1,Y2,Y3,Y4,Y5,(ea,en,ec),Y6,Y7,o0,o1,o2,o3,o4,o5,Y8] rfl H7.o _ Tryz.underlying30 rfl P3 ?_);refine R.o.mono ?_;rintro e w2 ⟨rfl,d⟩;have K:=a6 (J.o.trans ((b6 J2.o d).mono J.o.size))
   clear d R y0 y1 y2 y3 yl;go_wp2_with fail;go_ret;exact⟨rfl,K.o⟩
 | true =>
   rw [Q]at HF;obtain⟨k5,k6,J4⟩:=JK Q;have Z4:=e_s J4;have h9:o8 s n=0 ->∃ (A:MT) (m:Nat) (ops:List fZ),wX s picks 0 (MT.on (tX n) n) A m ops/\m <= muT s (MT.on (tX n) n)/\n.wt+lK ops <= 399000/\ops.length <= 4000000000/\m <= 1000000000:=fun h=>L3 (eY h).1 (eY h).2.1 (eY h).2.2 (tX n) picks (G1 hs k6 J4 (eY h).1 (tX n))
   have J5:o8 s n=0 ->a_w s n (tX n) picks:=fun h=>by obtain⟨A,m,ops,h1, -,h2⟩:=h9 h;exact⟨A,m,ops,h1,h2⟩
   have x6:=a6 J5;have J6:=a6 (fun(w':World) (hb:Below W W w')=>hu.keep hb hb.size);have k7:=a6 (fun(w':World) (hb:Below W W w')=>H5.keep hb hb.size);have Hs:=a6 hs;have z:=c_n (n:=n);have k8:=a6 (fun(w':World) (hb:Below W W w')=>(show Calls Tryz.prog 23 #[.agg #[l,(b1,m1,d1),(b2,m2,d2),(b3,m3,d3)]] w' (C8 w' (tX n))from e_u n _ w' w' P2 (hv.keep hb hb.size) (a8)));have k9:=a6 (fun(w':World) (hb:Below W W w') (ya:Option Addr) (yc:Nat) (ys:List PX) (hx:u_7 w' w' (ya,ys.length,yc) ys) (hp:iV ys=tX n)=>(show Calls Tryz.prog 22 #[.agg #[(a,sn,c),Y1,Y2,Y3,Y4,Y5,(ea,en,ec),Y6,Y7,o0,o1,o2,o3,o4,o5,Y8], .agg #[l,(b1,m1,d1),(b2,m2,d2),(b3,m3,d3)],(ya,ys.length,yc),(ka,picks.length,kc)] w' (c_Q w' s n (tX n) picks)by
    have h:=b_r s n a ea c ec o0 o1 o2 o3 o4 o5 l b1 b2 b3 m1 m2 m3 d1 d2 d3 ya yc ys picks ka kc w' hs P2 (hu.keep hb hb.size) (hv.keep hb hb.size) hx
     t_Q (fun x hx=>by have:=z.2 x.1 UK;omega) (H5.keep hb hb.size) k4 (by rw [hp];exact J5)
    rw [hp]at h;exact h))
   obtain⟨E0,r⟩:∃E0,E0=o8 s n:=⟨_,rfl⟩;have J7:=a6 r;clear hu hv J1 hc hs hn p I Q H5 k5 J5 h9 k6 J4 r z;go_enter Tryz.func5,Tryz.ntmps5;go_upto_region 1 with fail;rw [<- H6.o];clear H6;go_wp2_with fail;refine HL.o.mono ?_;rintro e w1 ⟨rfl,d⟩;have J2:=a6 d
   have H7:=a6 (HA.o.kept d);obtain⟨⟨y0,y1,y2,y3⟩, -,yl⟩:=(HN.o.kept d).f4;have R:=a6 (HF.o w1 d);clear d HL HF;go_wp2_with (refine bZ rfl _ _ rfl W.heap.size #[(a,sn,c),Y1,Y2,Y3,Y4,Y5,(ea,en,ec),Y6,Y7,o0,o1,o2,o3,o4,o5,Y8] rfl H7.o _ Tryz.underlying30 rfl P3 ?_);refine R.o.mono ?_;rintro e w2 ⟨rfl,d⟩;have K:=a6 (b6 J2.o d)
   have F:=a6 (J.o.trans (K.o.mono J.o.size));have S:=a6 (fun(w':World) (hb:Below w2 w2 w')=>k8.o w' (F.o.trans (hb.mono F.o.size)));have U:=a6 (fun(w':World) (hb:Below w2 w2 w')=>k9.o w' (F.o.trans (hb.mono F.o.size)));have V:=a6 (fun(w':World) (hb:Below w2 w2 w')=>show At w' W [(a,sn,c),Y1,Y2,Y3,Y4,Y5,(ea,en,ec),Y6,Y7,o0,o1,o2,o3,o4,o5,Y8] 30/\At w' (W+1) [l,(b1,m1,d1),(b2,m2,d2),(b3,m3,d3)] 35 from And.intro ((HA.o.kept K.o).kept hb) ((HN.o.kept K.o).kept hb));have X:=fun(w':World) (h:At w' W [(a,sn,c),Y1,Y2,Y3,Y4,Y5,(ea,en,ec),Y6,Y7,o0,o1,o2,o3,o4,o5,Y8] 30)=>At.load (P:=Tryz.prog) h Tryz.underlying30 rfl P3
   simp [go_sem]at X
   have D:=fun(w':World) (h:At w' (W+1) [l,(b1,m1,d1),(b2,m2,d2),(b3,m3,d3)] 35)=>At.load (P:=Tryz.prog) h Tryz.underlying35 rfl P3
   simp [go_sem]at D
   clear d R H7 y0 y1 y2 y3 yl k9 k8;go_upto_region 5 with fail
   go_cut [7,8,9,10] (fun x g k y wx=>∃ (M:Nat) (E:Int) (x0:Bool) (x1 x2 x3 na:Option Addr) (y1 y2 y3 z1 z2 z3 nn nc kk:Nat),x= .pointer M/\g= .slice na nn nc/\k= .int .i64 kk/\y= .int .i64 E/\Hid (At wx M [x0,(x1,y1,z1),(x2,y2,z2),(x3,y3,z3)] 35)/\Hid (E=o8 s n/\(o8 s n≠0/\nn=0/\kk=0/\([x0,(x1,y1,z1),(x2,y2,z2),(x3,y3,z3)]:List Value)= [.bool false, .slice none 0 0, .slice none 0 0, .slice none 0 0]∨o8 s n=0/\∃ (A:MT) (ops:List fZ),wX s picks 0 (MT.on (tX n) n) A kk ops/\nn=ops.length/\NodeQ wx (fun b=>w2.heap.size <= b/\b≠M) A.bare [x0,(x1,y1,z1),(x2,y2,z2),(x3,y3,z3)]))/\Hid (Below w2 w2 wx)/\w2.heap.size <= M)
   case first=>
    go_region_held3 (fun w'=>At w' W [(a,sn,c),Y1,Y2,Y3,Y4,Y5,(ea,en,ec),Y6,Y7,o0,o1,o2,o3,o4,o5,Y8] 30/\At w' (W+1) [l,(b1,m1,d1),(b2,m2,d2),(b3,m3,d3)] 35) ((refine V.o _ ?_;((with_reducible (repeat (first | exact o.o | exact f.o | exact a7 | refine aK ?_ | refine aQ ?_ ?_ _ | refine aV ?_ ?_ _)) <;> (first | exact a8 | exact o.o.size | exact f.o.size | (have:=o.o.size;simp [World.setCell];omega) | (have:=f.o.size;simp [World.setCell];omega) | (simp <;> omega) | omega)))))
     (first
     | (refine bQ rfl 23 _ _ rfl P5 [.agg #[l,(b1,m1,d1),(b2,m2,d2),(b3,m3,d3)]] ?_ _ (S.o _ P1) ?_
        . go_simp
        rintro e w5 ⟨vx,ys,rfl,j,B,d⟩;obtain⟨ma,mc,Y⟩:=j.form;subst Y;refine⟨_,rfl, ?_⟩;have f:=a6 (b6 (w0:=w2) P1 d);have J8:=a6 j;have J9:=a6 B
        first
         | (refine At.lay (N:= ?_) (cs:= [false,(),(),()]) (T:=35) (At.kept ?_ d) ?_
            rotate_left
            . with_reducible (repeat (first | exact At.second _ _ _ _ | exact At.fresh _ _ _ | refine At.drew ?_ | refine At.alloc ?_ _))
            intro Z)
         | skip
        clear d j B)
     | (refine bQ rfl 22 _ _ rfl P5 [.agg #[(a,sn,c),Y1,Y2,Y3,Y4,Y5,(ea,en,ec),Y6,Y7,o0,o1,o2,o3,o4,o5,Y8], .agg #[l,(b1,m1,d1),(b2,m2,d2),(b3,m3,d3)],(ma,ys.length,mc),(ka,picks.length,kc)] ?_ _ (U.o _ ?_ ma mc ys ?_ J9.o) ?_
        . go_simp
        . (with_reducible (repeat (first | exact f.o | exact a7 | refine aK ?_ | refine aQ ?_ ?_ _ | refine aV ?_ ?_ _)) <;> (first | exact a8 | exact f.o.size | (have:=f.o.size;simp [World.setCell];omega) | (simp <;> omega) | omega))
        . exact(J8.o.below P1).read
        rintro e w6 H0;obtain⟨E,x0,x1,x2,x3,na,y1,y2,y3,z1,z2,z3,k,nn,nc,rfl,t⟩:=c_Q.alike H0;refine⟨_,rfl, ?_⟩;have o:=a6 (b6 (w0:=w2) P4 t.1);have j6:=a6 t;have d:=t.1;have j7:=a6 d.size;have j8:=a6 f.o.size
        first
         | (refine At.lay (N:= ?_) (cs:= [false,(),(),()]) (T:=35) (At.kept ?_ d) ?_
            rotate_left
            . with_reducible (repeat (first | exact Z.o | exact At.second _ _ _ _ | exact At.fresh _ _ _ | refine At.drew ?_ | refine At.alloc ?_ _))
            intro w)
         | skip
        first
         | (obtain⟨⟨r0,r1',r2',r3'⟩,rf,rl⟩:=w.o.f4)
         | skip
        clear t H0 d))
    all_goals
     clear D X;go_wp2_with fail
     go_meet
     case rel=>
      have j9:=j7.o;have x7:=j8.o
      try simp at j9
      first
       | (have x8:=Z.o.lt)
       | skip
      refine⟨_,E,x0,x1,x2,x3,na,y1,y2,y3,z1,z2,z3,nn,nc,k,rfl,rfl,rfl,rfl,a6 ?_,a6 ?_,a6 ?_, ?_⟩
      . (repeat (first | with_reducible exact w.o | with_reducible exact w.o.s4 _ _ _ _ | with_reducible exact(w.o.alloc _).s4 _ _ _ _ | with_reducible exact At.second _ _ _ _ | with_reducible exact At.fresh _ _ _ | (with_reducible refine At.fresh2 ?_;(simp [World.setCell];done)) | with_reducible refine At.drew ?_ | with_reducible refine At.alloc ?_ _ | (with_reducible refine At.n4 ?_ ?_ _ _ _ _;rotate_left;(omega))))
      . obtain ⟨-,hE,h | ⟨h1,A,ops,na',nc',h2,h4,h5⟩⟩:=j6.o
        . obtain ⟨h1,h2,h3,h4⟩:=h
          injection h3 with _ h3 _
          exact⟨hE, .inl ⟨h1,h3,h4,h2⟩⟩
        injection h4 with _ h4 _
        refine⟨hE, .inr ⟨h1,A,ops,h2,h4, ?_⟩⟩
        (repeat (first | with_reducible refine lX ?_ P6 _ _ _ _ | with_reducible refine gY ?_ (b7 _ _)))
        refine NodeQ.keep (a8) (fun _ _ _=>rfl) (fun b hb x9=> ?_) _ _ h5
        try simp at hb
        exact⟨by omega,by omega⟩
      . (with_reducible (repeat (first | exact o.o | exact a7 | refine aK ?_ | refine aQ ?_ ?_ _ | refine aV ?_ ?_ _)) <;> (first | exact a8 | exact o.o.size | (have:=o.o.size;simp [World.setCell];omega) | (simp <;> omega) | omega))
      first | exact a8 | omega
   case rest=>
   obtain⟨M,E,p0,p1,p2,p3,na0,h1,h2,h3,g1,g2,g3,nn0,nc0,kk0,rfl,rfl,rfl,rfl,K0,hO,hB,hM⟩:=hcut;have e0:E=E0:=by rw [J7.o];exact hO.o.1
   subst e0;obtain⟨w3,rfl⟩:∃w3,w3=wc:=⟨_,rfl⟩;have H8:=a6 (b6 K.o hB.o);have i:=a6 (J.o.trans (H8.o.mono J.o.size));have Y0:=a6 (fun(m1 m2:aX) (u1 u2:Value) (w':World) (k1:bY w' w' m1 u1) (k2:bY w' w' m2 u2)=>e_0 m1.wt m1 m2 u1 u2 w' (a8) k1 k2);have Y9:=a6 (fun(m1 m2:aX) (u1 u2:Value) (w':World) (k1:bY w' w' m1 u1) (k2:bY w' w' m2 u2)=>d_Z m1.wt m1 m2 u1 u2 w' (a8) k1 k2);clear D S U V;by_cases hz:E=0
   . --<1
     subst hz;have r:o8 s n=0:=J7.o.symm
     obtain⟨-,⟨h, -⟩ | ⟨-,A,opsA,K1, -,H9⟩⟩:=hO.o
     . exact absurd r h
     obtain⟨H1,K2,K3⟩:=eY r;obtain⟨v1,v2,v3⟩:=g_s H1 K2 (fun q hq=>m4.2 (List.mem_filter.2 ⟨EY hq,hq⟩)) K1;have v4:=n_h H1 K2 K3 K1 (x6.o r);rw [K3]at v3;obtain⟨q,Q0⟩:∃q,q=A.bare:=⟨_,rfl⟩;rw [<- Q0]at v1 v2 v3 v4 H9;have Q1:o8 s q=0:=by unfold o8;rw [if_neg (by simp [H1]),if_neg (by simp [v2]),v3];rfl
     have Q2:=a6 v1;have h0:=a6 Q1;have y4:=a6 v4
     have y5:=a6 (f_o H9);have O:=a6 (fun(w':World) (hb:Below w3 w3 w')=>(show bY w' w' q (.agg #[p0,(p1,h1,g1),(p2,h2,g2),(p3,h3,g3)])from⟨_,rfl,NodeQ.node _ _ (gY H9 hb)⟩));have K4:=a6 K0.o;have Q3:=a6 (fun(L:List (List Int)) (pk:List Int)=>p_F H1 v2 v1 v4 L pk);have z:=c_n (n:=q);have S:=a6 (fun(w':World) (hb:Below w3 w3 w')=>(show Calls Tryz.prog 23 #[.agg #[p0,(p1,h1,g1),(p2,h2,g2),(p3,h3,g3)]] w' (C8 w' (tX q))from e_u q _ w' w' P2 (O.o w' hb) (a8)));have U:=a6 (fun(w':World) (hb:Below w3 w3 w') (ya:Option Addr) (yc:Nat) (ys:List PX) (hx:u_7 w' w' (ya,ys.length,yc) ys) (hp:iV ys=tX q)=>(show Calls Tryz.prog 22 #[.agg #[(a,sn,c),Y1,Y2,Y3,Y4,Y5,(ea,en,ec),Y6,Y7,o0,o1,o2,o3,o4,o5,Y8], .agg #[p0,(p1,h1,g1),(p2,h2,g2),(p3,h3,g3)],(ya,ys.length,yc),(ka,picks.length,kc)] w' (c_Q w' s q (tX q) picks)by
      have h:=b_r s q a ea c ec o0 o1 o2 o3 o4 o5 p0 p1 p2 p3 h1 h2 h3 g1 g2 g3 ya yc ys picks ka kc w' Hs.o P2 (J6.o w' (i.o.trans (hb.mono i.o.size))) (O.o w' hb) hx
       t_Q (fun x hx=>by have:=z.2 x.1 UK;omega) (k7.o w' (i.o.trans (hb.mono i.o.size))) k4 (fun _=>by rw [hp];exact Q3.o _ _)
      rw [hp]at h;exact h))
     have Q4:=a6 (fun(w':World) (hb:Below w3 w3 w')=>h_j s q a ea c ec o0 o1 o2 o3 o4 o5 p0 p1 p2 p3 h1 h2 h3 g1 g2 g3 w' Hs.o P2 (J6.o w' (i.o.trans (hb.mono i.o.size))) (O.o w' hb) (fun _=>Q3.o _ _));have K5:=a6 (fun(w':World) (hb:Below w3 w3 w')=>j_9 s a ea c ec o0 o1 o2 o3 o4 o5 Hs.o q.wt q _ w' (a8) P2 (J6.o w' (i.o.trans (hb.mono i.o.size))) (O.o w' hb));rw [v1]at K5;have V:=a6 (fun(w':World) (hb:Below w3 w3 w')=>show At w' W [(a,sn,c),Y1,Y2,Y3,Y4,Y5,(ea,en,ec),Y6,Y7,o0,o1,o2,o3,o4,o5,Y8] 30/\At w' M [p0,(p1,h1,g1),(p2,h2,g2),(p3,h3,g3)] 35 from And.intro ((HA.o.kept H8.o).kept hb) (K4.o.kept hb))
     have D:=fun(w':World) (h:At w' M [p0,(p1,h1,g1),(p2,h2,g2),(p3,h3,g3)] 35)=>At.load (P:=Tryz.prog) h Tryz.underlying35 rfl P3
     simp [go_sem]at D
     have Z5:=a6 z;clear H9 K1 v1 v2 v3 v4 Q0 Q1 H1 K2 K3 hO r z;go_upto_region 8 with fail
     go_cut [11,12,13,14] (fun x g k y wx=>∃ (M:Nat) (E:Int) (x0:Bool) (x1 x2 x3 na:Option Addr) (y1 y2 y3 z1 z2 z3 nn nc kk:Nat),x= .pointer M/\g= .slice na nn nc/\k= .int .i64 kk/\y= .int .i64 E/\Hid (At wx M [x0,(x1,y1,z1),(x2,y2,z2),(x3,y3,z3)] 35)/\Hid (E=o8 s q/\(o8 s q≠0/\nn=0/\kk=0/\([x0,(x1,y1,z1),(x2,y2,z2),(x3,y3,z3)]:List Value)= [.bool false, .slice none 0 0, .slice none 0 0, .slice none 0 0]∨o8 s q=0/\∃ (A:MT) (ops:List fZ),wX s picks 0 (MT.on (tX q) q) A kk ops/\nn=ops.length/\NodeQ wx (fun b=>w3.heap.size <= b/\b≠M) A.bare [x0,(x1,y1,z1),(x2,y2,z2),(x3,y3,z3)]))/\Hid (Below w3 w3 wx)/\w3.heap.size <= M)
     case first=>
      go_region_held3 (fun w'=>At w' W [(a,sn,c),Y1,Y2,Y3,Y4,Y5,(ea,en,ec),Y6,Y7,o0,o1,o2,o3,o4,o5,Y8] 30/\At w' (M) [p0,(p1,h1,g1),(p2,h2,g2),(p3,h3,g3)] 35) ((refine V.o _ ?_;((with_reducible (repeat (first | exact o.o | exact f.o | exact a7 | refine aK ?_ | refine aQ ?_ ?_ _ | refine aV ?_ ?_ _)) <;> (first | exact a8 | exact o.o.size | exact f.o.size | (have:=o.o.size;simp [World.setCell];omega) | (have:=f.o.size;simp [World.setCell];omega) | (simp <;> omega) | omega)))))
       (first
       | (refine bQ rfl 23 _ _ rfl P5 [.agg #[p0,(p1,h1,g1),(p2,h2,g2),(p3,h3,g3)]] ?_ _ (S.o _ P1) ?_
          . go_simp
          rintro e w5 ⟨vx,ys,rfl,j,B,d⟩;obtain⟨ma,mc,Y⟩:=j.form;subst Y;refine⟨_,rfl, ?_⟩;have f:=a6 (b6 (w0:=w3) P1 d);have J8:=a6 j;have J9:=a6 B
          first
           | (refine At.lay (N:= ?_) (cs:= [false,(),(),()]) (T:=35) (At.kept ?_ d) ?_
              rotate_left
              . with_reducible (repeat (first | exact At.second _ _ _ _ | exact At.fresh _ _ _ | refine At.drew ?_ | refine At.alloc ?_ _))
              intro Z)
           | skip
          clear d j B)
       | (refine bQ rfl 22 _ _ rfl P5 [.agg #[(a,sn,c),Y1,Y2,Y3,Y4,Y5,(ea,en,ec),Y6,Y7,o0,o1,o2,o3,o4,o5,Y8], .agg #[p0,(p1,h1,g1),(p2,h2,g2),(p3,h3,g3)],(ma,ys.length,mc),(ka,picks.length,kc)] ?_ _ (U.o _ ?_ ma mc ys ?_ J9.o) ?_
          . go_simp
          . (with_reducible (repeat (first | exact f.o | exact a7 | refine aK ?_ | refine aQ ?_ ?_ _ | refine aV ?_ ?_ _)) <;> (first | exact a8 | exact f.o.size | (have:=f.o.size;simp [World.setCell];omega) | (simp <;> omega) | omega))
          . exact(J8.o.below P1).read
          rintro e w6 H0;obtain⟨E,x0,x1,x2,x3,na,y1,y2,y3,z1,z2,z3,k,nn,nc,rfl,t⟩:=c_Q.alike H0;refine⟨_,rfl, ?_⟩;have o:=a6 (b6 (w0:=w3) P4 t.1);have j6:=a6 t;have d:=t.1;have j7:=a6 d.size;have j8:=a6 f.o.size
          first
           | (refine At.lay (N:= ?_) (cs:= [false,(),(),()]) (T:=35) (At.kept ?_ d) ?_
              rotate_left
              . with_reducible (repeat (first | exact Z.o | exact At.second _ _ _ _ | exact At.fresh _ _ _ | refine At.drew ?_ | refine At.alloc ?_ _))
              intro w)
           | skip
          first
           | (obtain⟨⟨r0,r1',r2',r3'⟩,rf,rl⟩:=w.o.f4)
           | skip
          clear t H0 d))
      all_goals
       clear D X;go_wp2_with fail
       go_meet
       case rel=>
        have j9:=j7.o;have x7:=j8.o
        try simp at j9
        first
         | (have x8:=Z.o.lt)
         | skip
        refine⟨_,E,x0,x1,x2,x3,na,y1,y2,y3,z1,z2,z3,nn,nc,k,rfl,rfl,rfl,rfl,a6 ?_,a6 ?_,a6 ?_, ?_⟩
        . (repeat (first | with_reducible exact w.o | with_reducible exact w.o.s4 _ _ _ _ | with_reducible exact(w.o.alloc _).s4 _ _ _ _ | with_reducible exact At.second _ _ _ _ | with_reducible exact At.fresh _ _ _ | (with_reducible refine At.fresh2 ?_;(simp [World.setCell];done)) | with_reducible refine At.drew ?_ | with_reducible refine At.alloc ?_ _ | (with_reducible refine At.n4 ?_ ?_ _ _ _ _;rotate_left;(omega))))
        . obtain ⟨-,hE,h | ⟨h1,A,ops,na',nc',h2,h4,h5⟩⟩:=j6.o
          . obtain ⟨h1,h2,h3,h4⟩:=h
            injection h3 with _ h3 _
            exact⟨hE, .inl ⟨h1,h3,h4,h2⟩⟩
          injection h4 with _ h4 _
          refine⟨hE, .inr ⟨h1,A,ops,h2,h4, ?_⟩⟩
          (repeat (first | with_reducible refine lX ?_ P6 _ _ _ _ | with_reducible refine gY ?_ (b7 _ _)))
          refine NodeQ.keep (a8) (fun _ _ _=>rfl) (fun b hb x9=> ?_) _ _ h5
          try simp at hb
          exact⟨by omega,by omega⟩
        . (with_reducible (repeat (first | exact o.o | exact a7 | refine aK ?_ | refine aQ ?_ ?_ _ | refine aV ?_ ?_ _)) <;> (first | exact a8 | exact o.o.size | (have:=o.o.size;simp [World.setCell];omega) | (simp <;> omega) | omega))
        first | exact a8 | omega
     case rest=>
     obtain⟨M2,E2,x0,x1,x2,x3,na,y1',y2',y3',z1,z2,z3,nn,nc,kk,rfl,rfl,rfl,rfl,Q5,Q6,h6,Z6⟩:=hcut;obtain⟨w4,rfl⟩:∃w4,w4=wc:=⟨_,rfl⟩;obtain⟨eE,⟨h, -⟩ | ⟨-,A2,opsB,Q7,Q8,K6⟩⟩:=Q6.o
     . exact absurd h0.o h
     rw [h0.o]at eE;subst eE;obtain⟨j1,j2,j3⟩:=L5 Q7 (by rw [mZ];exact Q2.o);rw [mZ]at j1;have j4:=j3 _ (h_i _ _)
     rw [n_i,O5]at j4;subst j2;have y6:nn=0:=Q8
     subst y6;rw [j1]at K6;have Q9:=a6 j4
     have q4:=a6 (f_o K6);have K7:=a6 (K4.o.kept h6.o);have q5:=a6 ((HA.o.kept H8.o).kept h6.o);have q6:=a6 (Q4.o w4 h6.o);have q7:=a6 Q5.o;obtain⟨⟨i0,i1,i2,i3⟩, -,il⟩:=K7.o.f4;clear X D S U V Q7 Q8 K6 j1 j3 j4 Q6 Q5 Q4;go_wp2_with (refine bZ rfl _ _ rfl W.heap.size #[(a,sn,c),Y1,Y2,Y3,Y4,Y5,(ea,en,ec),Y6,Y7,o0,o1,o2,o3,o4,o5,Y8] rfl q5.o _ Tryz.underlying30 rfl P3 ?_);refine q6.o.mono ?_;intro e w5 q8;obtain⟨E3,t0,t1,t2,t3,k1,k2,k3,r1,r2,r3,rfl,d,q9,y7⟩:=q8.alike;rcases y7 with⟨h, -⟩ | ⟨-,A3,m3',ops3,X0,K8⟩
     . exact absurd h0.o h
     rw [h0.o]at q9;subst q9;have j5:=(L5 X0 (by rw [mZ];exact Q2.o)).1
     rw [mZ]at j5;rw [j5]at K8;have X1:=a6 (b6 h6.o d)
     have X2:=a6 d;have X3:=a6 (NodeQ.keep (ok':=fun _=>True) (a8) (fun _ _ _=>rfl) (fun _ _ _=>trivial) _ _ K8);clear d q6 q5 q8 X0 K8 j5 i0 i1 i2 i3 il;go_upto_region 10 with fail
     obtain⟨w6,h7⟩:∃w6,w6=w5.alloc (Obj.cells #[t0,(t1,k1,r1),(t2,k2,r2),(t3,k3,r3)] 35):=⟨_,rfl⟩;rw [<- h7];have G:Below w5 w5 w6:=by rw [h7];exact b7 _ _
     have y8:=a6 (show At w6 w5 [t0,(t1,k1,r1),(t2,k2,r2),(t3,k3,r3)] 35 by rw [h7];exact At.fresh _ _ _);have H:=a6 (b6 X1.o G);have H2:=a6 (b6 X2.o G);have h8:=a6 (K7.o.kept H2.o);have y9:=a6 (q7.o.kept H2.o);have X4:=a6 ((HA.o.kept H8.o).kept H.o);have Z0:=a6 (fun(w':World) (hb:Below w6 w6 w')=>(show bY w' w' q (.agg #[x0,(x1,y1',z1),(x2,y2',z2),(x3,y3',z3)])from⟨_,rfl,NodeQ.node _ _ (gY q4.o (b6 H2.o hb))⟩));have Z1:=a6 (fun(w':World) (hb:Below w6 w6 w')=>(show bY w' w' q (.agg #[t0,(t1,k1,r1),(t2,k2,r2),(t3,k3,r3)])from⟨_,rfl,NodeQ.node _ _ (gY X3.o (b6 G hb))⟩));have K9:=a6 (fun(w':World) (hb:Below w6 w6 w')=>O.o w' (b6 H.o hb));have X5:=a6 (K5.o w6 H.o);have J0:=a6 (i.o.trans (H.o.mono i.o.size));have X6:=a6 (fun(u1 u2:Value) (w':World) (k1:bY w' w' q u1) (k2:bY w' w' q u2)=>by
      have h:=Y9.o q q u1 u2 w' k1 k2;rw [oQ]at h;exact h)
     have Z2:=a6 (fun(w':World) (hb:Below w6 w6 w')=>(show Calls Tryz.prog 23 #[.agg #[p0,(p1,h1,g1),(p2,h2,g2),(p3,h3,g3)]] w' (C8 w' (tX q))from e_u q _ w' w' (by have:=y4.o;omega) (K9.o w' hb) (a8)));obtain⟨⟨i0,i1,i2,i3⟩, -,il⟩:=h8.o.f4;clear h7 G K5 O K7 q7 K4 q4 X3 y5;go_wp2_with (refine bZ rfl _ _ rfl W.heap.size #[(a,sn,c),Y1,Y2,Y3,Y4,Y5,(ea,en,ec),Y6,Y7,o0,o1,o2,o3,o4,o5,Y8] rfl X4.o _ Tryz.underlying30 rfl P3 ?_);refine X5.o.mono ?_;rintro e w7 ⟨rfl,d⟩;have H3:=a6 d
     have X7:=a6 (X6.o _ _ w7 (Z0.o w7 d) (K9.o w7 d));clear d X5 X4 i0 i1 i2 i3 il;obtain⟨⟨i0,i1,i2,i3⟩, -,il⟩:=(h8.o.kept H3.o).f4;obtain⟨⟨j0,j1,j2,j3⟩, -,jl⟩:=(y9.o.kept H3.o).f4;go_wp2_with fail;refine X7.o.mono ?_;rintro e w8 ⟨rfl,d⟩;have H4:=a6 (b6 H3.o d)
     have X8:=a6 (X6.o _ _ w8 (Z1.o w8 H4.o) (K9.o w8 H4.o));clear d X7 i0 i1 i2 i3 il j0 j1 j2 j3 jl;obtain⟨⟨i0,i1,i2,i3⟩, -,il⟩:=(h8.o.kept H4.o).f4;obtain⟨⟨j0,j1,j2,j3⟩, -,jl⟩:=(y8.o.kept H4.o).f4;go_wp2_with fail;refine X8.o.mono ?_;rintro e w9 ⟨rfl,d⟩;have k0:=a6 (b6 H4.o d)
     have X9:=a6 (Z2.o w9 k0.o);clear d X8 i0 i1 i2 i3 il j0 j1 j2 j3 jl;obtain⟨⟨i0,i1,i2,i3⟩, -,il⟩:=(h8.o.kept k0.o).f4;go_wp2_with fail;refine X9.o.mono ?_;rintro e wa ⟨vx,ys,rfl,j,B,d⟩;obtain⟨ma,mc,Y⟩:=j.form;subst Y;have hlen:kk=ys.length:=by rw [Q9.o, <- B,iV,O6]
     subst hlen;have Z3:=a6 (J0.o.trans ((b6 k0.o d).mono J0.o.size))
     clear d X9 i0 i1 i2 i3 il j B Q9;go_wp2_with fail;go_ret;exact⟨bJ P6,Z3.o⟩
   --<2
   have r:o8 s n≠0:=by rw [<- J7.o];exact hz
   have Z7:(E != 0)=true:=SQ
   obtain⟨-,⟨-,e1,e2,C⟩ | ⟨h, -⟩⟩:=hO.o
   . injection C with q0 C;injection C with q1 C;injection C with q2 C;injection C with q3 C
     rw [q0,q1,q2,q3]at K0;obtain⟨⟨i0,i1,i2,i3⟩, -,il⟩:=K0.o.f4;have HS:=Y0.o cV cV _ _ w3 (A8 w3) (A8 w3);rw [oQ]at HS;have x4:=a6 HS
     clear HS hO q0 q1 q2 q3 e1 e2 X;go_wp2_with fail;refine x4.o.mono ?_;rintro e w7 ⟨rfl,d⟩;have H3:=a6 (i.o.trans (d.mono i.o.size))
     clear d x4 i0 i1 i2 i3 il;go_wp2_with fail;go_ret;exact⟨rfl,H3.o⟩
   exact absurd h r
open Go.ChangeShapes Go.WideShapes Go.ChangeAt
theorem d_A (os:Os) {H:Type} (enc:TypeId×Value ->H):∃places,DataW.whole enc Tryz.prog ((World.laidAll Tryz.prog os Rows.normValidUptoRow.laid).forCall (fun _ _=>0) ⟨#[], #[.agg #[.slice none 0 0, .string ⟨#[]⟩, .int .i64 0, .string ⟨#[]⟩, .int .i64 0, .string ⟨#[]⟩, .slice none 0 0, .int .i64 0, .string ⟨#[]⟩, .int .i64 0, .int .i64 0, .int .i64 0, .int .i64 0, .int .i64 0, .int .i64 0, .int .i64 0], .agg #[.bool false, .slice none 0 0, .slice none 0 0, .slice none 0 0], .slice none 0 0], []⟩).memory Tryz.f5.params.toList Rows.normValidSpec.vars false (#[.agg #[.slice none 0 0, .string ⟨#[]⟩, .int .i64 0, .string ⟨#[]⟩, .int .i64 0, .string ⟨#[]⟩, .slice none 0 0, .int .i64 0, .string ⟨#[]⟩, .int .i64 0, .int .i64 0, .int .i64 0, .int .i64 0, .int .i64 0, .int .i64 0, .int .i64 0], .agg #[.bool false, .slice none 0 0, .slice none 0 0, .slice none 0 0], .slice none 0 0]:Array Value).toList 8=some ([.agg [.nil, .agg [.lit (.string []), .agg [.lit (.int .i64 0), .lit (.string [])], .agg [.lit (.int .i64 0), .lit (.string [])], .nil, .lit (.int .i64 0), .lit (.string [])], .agg [.lit (.int .i64 0), .lit (.int .i64 0), .lit (.int .i64 0), .lit (.int .i64 0), .lit (.int .i64 0), .lit (.int .i64 0)], .lit (.int .i64 0)], .agg [.lit (.bool false), .nil, .nil, .nil], .nil], [],places):=
 ⟨[],by kernel_rfl⟩
theorem b_w (H:Type) (enc:TypeId×Value ->H) (W:World) (base:Nat) (args:Array Value) (ds gs:List (DataW H)) (before:List MemPlace)
 (b:∀ (j:Nat) t v,Tryz.f5.params[j]? =some t ->args[j]? =some v ->Value.okWide Tryz.prog W .any base t v)
 (hW:DataW.Whole enc Tryz.prog Tryz.f5.params.toList Rows.normValidSpec.vars false W args.toList ds gs before) (hk:Rows.uptoSmall H (ds ++ gs)=true) (hL:laidMetH Tryz.prog Rows.normValidUptoRow.laid W):
 Calls Tryz.prog 5 args W fun e W'=>∃v,e= .returned v/\Rows.normValidSpec.post enc Tryz.prog Tryz.f5 false true false false W args v W':=by
 have hval:∀ (j:Nat) t v,Tryz.f5.params[j]? =some t ->args[j]? =some v ->Value.okWide Tryz.prog W .any base t v:=b;have d:=hW;obtain⟨p,q,c,hV,rfl,l,o⟩:=hW;have hA:DataW.TrodAll enc Tryz.prog W 0 (fun _=>true) true Tryz.f5.params.toList args.toList ds p:=c;rw [Tryz.params5]at hA hval;obtain⟨v0,vs0,d0,ds0,p0,q0,f,rfl,rfl,h0,r0⟩:=trodAll_cons hA;obtain⟨v1,vs1,d1,ds1,p1,q1,rfl,rfl,rfl,h1,r1⟩:=trodAll_cons r0;obtain⟨v2,vs2,d2,ds2,p2,q2,rfl,rfl,rfl,h2,r2⟩:=trodAll_cons r1;obtain⟨rfl,rfl,rfl⟩:=trodAll_nil r2;obtain rfl:args= #[v0,v1,v2]:=ZZ
 obtain⟨rfl,rfl⟩:=trodVars_none hV;obtain⟨cs0,rfl,i⟩:=okWide_struct Tryz.underlying30 (hval 0 30 v0 rfl rfl);have k0:=h0;have lt0:∀x∈p0,x.block < W.heap.size:=SZ
 obtain⟨n0,i0,u0⟩:∃n,SchemaV W W n (.agg cs0)/\n.wt <= Rows.uptoBulk d0:=by
  obtain⟨fuel,hf⟩:=h0;obtain⟨n,h1,h2⟩:=B7 hf;exact⟨n,⟨cs0.toList,by simp,h1⟩,h2⟩
 obtain⟨cs1,rfl,k⟩:=okWide_struct Tryz.underlying35 (hval 1 35 v1 rfl rfl);have k1:=h1;have lt1:∀x∈p1,x.block < W.heap.size:=SY
 obtain⟨n1,i1,u1⟩:∃n,bY W W n (.agg cs1)/\n.wt <= Rows.uptoBulk d1:=by
  obtain⟨fuel,hf⟩:=h1;obtain⟨n,h1,h2⟩:=FJ fuel _ _ hf;exact⟨n,⟨cs1.toList,by simp,h1⟩,h2⟩
 obtain⟨a2,len2,cap2,rfl⟩:=okWide_slice Tryz.underlying36 (hval 2 36 v2 rfl rfl);have k2:=h2;have lt2:∀x∈p2,x.block < W.heap.size:=SX
 obtain⟨n2,g,i2,u2⟩:∃zs:List Int,len2=zs.length/\RowA W W 1 a2 zs.length cap2 (zs.map (Value.int .i64))/\zs.length+1 <= Rows.uptoBulk d2:=by
  obtain⟨fuel,hf⟩:=h2;obtain⟨a,cap,zs,h0,h1,h2⟩:=C4 hf
  simp [Value.cells]at h0
  obtain⟨rfl,rfl,rfl⟩:=h0;exact⟨zs,rfl,h1,h2⟩
 subst g;have hb:Rows.uptoBulkAll _ <= 1048576:=of_decide_eq_true hk
 simp only [List.append_nil,Rows.uptoBulkAll,Nat.add_zero]at hb;clear c b;refine(f_p n0 n1 _ _ n2 _ _ W P2 P2 P2 i0 i1 i2).mono fun e W' ⟨he,bel⟩=> ?_
 subst he;exact⟨_,rfl,_,_,_, [],_, [],d,trodAll_mk1 (shut_bool Tryz.underlying4 _),(trodAll_cons_mk (Below.trod wQ P3 (of_decide_eq_true P3) k0 bel lt0) (trodAll_cons_mk (Below.trod wQ P3 (of_decide_eq_true P3) k1 bel lt1) (trodAll_cons_mk (Below.trod wQ P3 (of_decide_eq_true P3) k2 bel lt2) trodAll_mk0))),rfl,bel.frame _,fun h=>by cases h⟩
theorem c_W (os:Os) (started:os.Started) (H:Type) (enc:TypeId×Value ->H) (F:Stop.Interp):
 ReturnsInHanded {} Tryz.checked os 5 .any ((Rows.OpenSpec.upto Rows.normValidSpec).preRow enc Tryz.prog Tryz.f5 Rows.normValidUptoRow.domain false Rows.normValidUptoRow.laid) (((Rows.OpenSpec.upto Rows.normValidSpec).at F).post enc Tryz.prog Tryz.f5 false true false false):=by
 obtain⟨places,hx⟩:=d_A os enc;refine returnsInHanded_of_row (C:=Tryz.checked) (s:=Rows.OpenSpec.upto Rows.normValidSpec) own started P3 Tryz.func5
  (witness_row_atRef (enc:=enc) (C:=Tryz.checked) false (World.laidAll Tryz.prog os Rows.normValidUptoRow.laid) #[.agg #[(), .string ⟨#[]⟩,OY, .string ⟨#[]⟩,OY, .string ⟨#[]⟩,(),OY, .string ⟨#[]⟩,OY,OY,OY,OY,OY,OY,OY], .agg #[false,(),(),()],()] (World.laidAll_os _ _ _) P3 P3 P3
    (OpenSpec.preRow_of_cond 8 hx P3 (fun k hk=>by cases hk;kernel_rfl) P3 QV)) ?_
 intro W base args ds gs before hval hW _ a _ hL _ _;exact b_w H enc W base args ds gs before hval hW (a _ rfl) hL
end Go.Proofs.YtmadpclcmjahoaaGreatDoor
