/- Parts of the proof: CC19. -/
import Derived.Test.YtmadpclcmjahoaaGreatDoorCC13
set_option linter.unusedVariables false
set_option linter.unusedSimpArgs false
set_option maxHeartbeats 8000000
set_option maxRecDepth 100000
namespace Go.Proofs.YtmadpclcmjahoaaGreatDoor
open Go.RowKit Go.Redl
def pX (p:List Int) (j n:Nat):List fZ:=(List.range n).map (fun i:Nat=>(⟨5,p ++ [(j:Int),0],p ++ [(j:Int)+(1+(i:Int))],0,cV, []⟩:fZ))
theorem d_h (p:List Int) (j n:Nat):(pX p j n).length=n:=by simp [pX]
theorem g_Z (p:List Int) (j n:Nat):pX p j (n+1)=pX p j n ++ [⟨5,p ++ [(j:Int),0],p ++ [(j:Int)+(1+(n:Int))],0,cV, []⟩]:=by
 simp [pX,List.range_succ]
theorem s_2 (p:List Int) (pa:Option Addr) (pc:Nat) (ks:List aX) (ak:Option Addr) (ck:Nat) (css:List Value) (v1 v2 v3 v5 v6 v7 v8 v9 v10 v11 v12 v13 v15:Value) (j:Nat) (W:World)
 (hJ:b_R W p pa pc ks ak ck css j) (hj:j < ks.length):
 Calls Tryz.prog 56 #[.agg #[(pa,p.length,pc),v1,v2,v3,(ak,ks.length,ck),v5,v6,v7,v8,v9,v10,v11,v12,v13,j,v15]] W (e_r W (pX p j (aY (cY ks j)).length ++ [⟨2,p ++ [(j:Int)], [],0,jY (cY ks j), []⟩])):=by
 have J3:ks.length <= 100000000:=W0
 have C:(cY ks j).wt <= 100000000:=T9
 have j8:=hJ.pl;have I:=a6 (fun(d:Int) (h0:0 <= d) (h1:d <= 100000000) (w1:World) (hb:Below W W w1)=>h_X p pa pc v1 v2 v3 (ak,ks.length,ck) v5 v6 v7 v8 v9 v10 v11 v12 v13 v15 j d w1 (hJ.keep hb).path hJ.pl hJ.at_ h0 h1);have hK:=fun(w1:World) (hb:Below W W w1)=>g_S ks ak ck css (pa,p.length,pc) v1 v2 v3 v5 v6 v7 v8 v9 v10 v11 v12 v13 v15 j w1 (hJ.keep hb).kids (hJ.keep hb).kids' hj J3
 have s:=fun(w':World) (h:At w' W [(pa,p.length,pc),v1,v2,v3,(ak,ks.length,ck),v5,v6,v7,v8,v9,v10,v11,v12,v13,j,v15] 98)=>At.load (P:=Tryz.prog) h Tryz.underlying98 rfl P3
 simp [go_sem]at s
 have Hld:=a6 s;generalize cY ks j=q at hK C⊢;have HC:=a6 (fun(v:Value) (w1:World) (hv:bY w1 w1 q v)=>b_3 _ q v w1 (a8) C hv);obtain⟨lq,pq,tq,kq⟩:=q;simp only [aY,jY];have j9:kq.length <= 100000000:=by have:=i7 kq;simp only [aX.wt]at C;omega
 obtain⟨w0,D⟩:∃w0,w0=W.alloc (Obj.cells #[(pa,p.length,pc),v1,v2,v3,(ak,ks.length,ck),v5,v6,v7,v8,v9,v10,v11,v12,v13,j,v15] 98):=⟨_,rfl⟩;have J:Below W W w0:=by rw [D];exact b7 _ _
 have hB:At w0 W [(pa,p.length,pc),v1,v2,v3,(ak,ks.length,ck),v5,v6,v7,v8,v9,v10,v11,v12,v13,j,v15] 98:=by rw [D];exact At.fresh _ _ _
 have X:=a6 (hK w0 J);have Y:=a6 D;have Z:=a6 J;have HB:=a6 hB
 have J4:=hB;clear D J hB hJ hj C hK;go_enter Tryz.func56,Tryz.ntmps56;go_upto_region 1 with fail;rw [<- Y.o];clear Y;go_wp2_with fail;refine X.o.mono ?_;rintro e w1 ⟨kv,rfl,H0,a⟩;have E:=a6 (Z.o.trans (a.mono Z.o.size))
 have H1:=a6 (HB.o.kept a);have H2:=a6 (HC.o kv w1 H0);clear a J4 X H0 s;go_wp2_with fail;refine H2.o.mono ?_;rintro e w2 ⟨cs,rfl,hn,a⟩;obtain⟨ap,cp,at_,ct,aq,cq,cqs,rfl,H3,H4,H5,J5,H6⟩:∃ap cp at_ ct aq cq cqs,cs= [.bool lq, .slice ap pq.length cp, .slice at_ tq.length ct, .slice aq kq.length cq]/\RowQ w2 (fun b=>w1.heap.size <= b) 2 ap pq.length cp (cK pq)/\RowQ w2 (fun b=>w1.heap.size <= b) 1 at_ tq.length ct (tq.map (Value.int .i32))/\(∀z∈tq,(Lit.int .i32 z).wf=true)/\RowQ w2 (fun b=>w1.heap.size <= b) 4 aq kq.length cq cqs/\dK w2 (fun b=>w1.heap.size <= b) kq cqs:=by
  unfold NodeQ at hn;exact hn
 have H7:=a6 (show NodeQ w2 (fun b=>W.heap.size <= b/\b < w2.heap.size) (.mk lq pq tq []) [lq,(ap,pq.length,cp),(at_,tq.length,ct),()]by
  unfold NodeQ;exact⟨ap,cp,at_,ct,none,0, [],rfl,H3.keep (a8) (fun _ _ _=>rfl) (fun b hb F=>⟨aJ E.o.size hb,F⟩),H4.keep (a8) (fun _ _ _=>rfl) (fun b hb F=>⟨aJ E.o.size hb,F⟩),H5,RowQ.empty _ _ _,by unfold dK;rfl⟩)
 have H8:=a6 (E.o.trans (a.mono E.o.size));have K:=a6 (H1.o.kept a);clear a hn H3 H4 H5 J5 H6 H2 HC H1 HB;obtain⟨w3,w⟩:∃w3,w3=w2.alloc (Obj.cells #[lq,(ap,pq.length,cp),(at_,tq.length,ct),(aq,kq.length,cq)] 35):=⟨_,rfl⟩;have G:Below w2 w2 w3:=by rw [w];exact b7 _ _
 have L:At w3 w2 [lq,(ap,pq.length,cp),(at_,tq.length,ct),(aq,kq.length,cq)] 35:=by rw [w];exact At.fresh _ _ _
 have K0:w3.heap.size=w2.heap.size+1:=by rw [w];simp
 have t:=a6 (H8.o.trans (G.mono H8.o.size));have M:=a6 (K.o.kept G);have H9:=a6 L
 have h3:=a6 (H7.o.since G);have h4:=a6 w;have h5:=a6 (fun(d:Int) (h0:0 <= d) (h1:d <= 100000000) (w1:World) (hb:Below w3 w3 w1)=>I.o d h0 h1 w1 (t.o.trans (hb.mono t.o.size)));obtain⟨⟨n0,n1,n2,n3⟩,nf,nl⟩:=L.f4;have h6:=M.o.lt;have j6:=K.o.lt;have h7:=a6 (fun(w1:World) (hb:Below W W w1)=>I.o 0 (Int.le_refl _) P2 w1 hb);clear w G L I H7 K;go_upto_region 2 with fail
 rw [<- h4.o];clear h4;go_wp2_with fail;obtain⟨zs,x⟩:∃zs,zs=p ++ [(j:Int)]:=⟨_,rfl⟩;obtain⟨ys,O⟩:∃ys,ys=p ++ [(j:Int),0]:=⟨_,rfl⟩;have HZ:=a6 (fun(w1:World) (hb:Below w3 w3 w1)=>(show Calls Tryz.prog 109 #[.agg #[(pa,p.length,pc),v1,v2,v3,(ak,ks.length,ck),v5,v6,v7,v8,v9,v10,v11,v12,v13,j,v15],OY] w1 (e_o w1 zs)by
  have h:=h5.o 0 (Int.le_refl _) P2 w1 hb;rw [Int.add_zero, <- x]at h;exact h))
 have HU:=a6 (fun(za:Option Addr) (zc:Nat) (la:Option Addr) (w1:World) (h1:RowA w1 w1 1 za zs.length zc (zs.map (Value.int .i64))) (h2:RowA w1 w1 1 la 1 1 [OY])=>(show Calls Tryz.prog 111 #[(za,zs.length,zc), .slice la 1 1] w1 (e_o w1 ys)by
  have h:=g_R zs [0] za zc la 1 w1 h1 h2 (by rw [x];simp;omega);rw [show zs ++ [0]=ys by rw [x,O];simp]at h;exact h))
 have h8:=a6 x;have J6:=a6 O
 clear x O n0 n1 n2 n3 nf nl;go_loopg [4,12] kq.length (fun g v c wr=>∃i:Nat,c= .int .i64 i/\i+g=kq.length/\yK w3 w3 wr v (pX p j i)/\Below w3 w3 wr)
 case atStart=>exact⟨0,rfl,by omega,yK.nil _ _ _,a7⟩
 case round =>
  obtain⟨i,rfl,hg,hO,H⟩:=hrel;have HO:=a6 hO;have u:=a6 H
  have r:=a6 (M.o.kept H);have m:=H.size;clear hO H;by_cases F:i < kq.length
  . --<1
    have j7:(i:Int) < kq.length:=P2
    have K1:IntKind.i64.wrap (1+(i:Int))=1+(i:Int):=IntWalk.i64_in _ P2;have HX:=a6 (fun(w1:World) (hb:Below wr wr w1)=>h5.o (1+(i:Int)) P2 P2 w1 (u.o.trans (hb.mono m)));have J7:=a6 (fun(w1:World) (hb:Below wr wr w1)=>HZ.o w1 (u.o.trans (hb.mono m)));have HV:=a6 HO.o.lt;obtain⟨xs,Q⟩:∃xs,xs=p ++ [(j:Int)+(1+(i:Int))]:=⟨_,rfl⟩;rw [<- Q]at HX;have y:=a6 (show pX p j (i+1)=pX p j i ++ [⟨5,ys,xs,0,cV, []⟩]by rw [g_Z,Q,J6.o])
    have R:(pX p j i).length <= 100000000:=by rw [d_h];omega
    have s:=Hld.o;generalize pX p j i=L1 at HO y R;clear Q;go_upto_region 6 with fail
    go_region_held3 (fun w'=>At w' W [(pa,p.length,pc),v1,v2,v3,(ak,ks.length,ck),v5,v6,v7,v8,v9,v10,v11,v12,v13,j,v15] 98) (with_reducible (repeat (first | exact J8.o | exact h9.o | exact A.o | exact J9.o | exact r.o | exact At.second _ _ _ _ | exact At.fresh _ _ _ | refine At.drew ?_ | refine At.alloc ?_ _)))
     (first
     | (refine bQ rfl 109 _ _ rfl P5 [.agg #[(pa,p.length,pc),v1,v2,v3,(ak,ks.length,ck),v5,v6,v7,v8,v9,v10,v11,v12,v13,j,v15],OY] ?_ _ (J7.o _ P1) ?_
        . go_simp
        rintro e w4 ⟨za,zc,rfl,hq,a⟩;refine⟨_,rfl, ?_⟩;have f:=a6 (Below.and (w0:=wr) P1 a)
        first
         | (refine At.lay (N:= ?_) (cs:= [OY]) (T:=3) (At.kept ?_ a) ?_
            rotate_left
            . with_reducible (repeat (first | exact At.second _ _ _ _ | exact At.fresh _ _ _ | refine At.drew ?_ | refine At.alloc ?_ _))
            intro J0)
         | skip
        have J9:=a6 (r.o.kept f.o);have Hz:=a6 hq.any;clear a hq)
     | (refine bQ rfl 111 _ _ rfl P5 [(za,zs.length,zc), .slice w4 1 1] ?_ _ (HU.o _ _ _ _ (RowQ.row (ok:=fun _=>True) R6) (RowQ.row (ok:=fun _=>True) (BQ (T:=3) TJ 1 1 rfl P2 (KJ [0]) trivial))) ?_
        . go_simp
        rintro e w5 ⟨ya,yc,rfl,hq,a⟩;refine⟨_,rfl, ?_⟩;have k:=a6 (Below.and (w0:=wr) P4 a);have A:=a6 (r.o.kept k.o);have Hy:=a6 (RowQ.imp hq (fun b hb=>(show wr.heap.size <= b from aJ PV hb)));clear a hq)
     | (refine bQ rfl 111 _ _ rfl P5 [(za,zs.length,zc), .slice wr 1 1] ?_ _ (HU.o _ _ _ _ (RowQ.row (ok:=fun _=>True) R6) (RowQ.row (ok:=fun _=>True) (BQ (T:=3) TJ 1 1 rfl P2 (KJ [0]) trivial))) ?_
        . go_simp
        rintro e w5 ⟨ya,yc,rfl,hq,a⟩;refine⟨_,rfl, ?_⟩;have k:=a6 (Below.and (w0:=wr) P4 a);have A:=a6 (r.o.kept k.o);have Hy:=a6 (RowQ.imp hq (fun b hb=>(show wr.heap.size <= b from aJ PV hb)));clear a hq)
     | (refine bQ rfl 109 _ _ rfl P5 [.agg #[(pa,p.length,pc),v1,v2,v3,(ak,ks.length,ck),v5,v6,v7,v8,v9,v10,v11,v12,v13,j,v15], .int .i64 (1+(i:Int))] ?_ _ (HX.o _ QX) ?_
        . go_simp
        rintro e w6 ⟨xa,xc,rfl,hq,a⟩;refine⟨_,rfl, ?_⟩;have l:=a6 (Below.and (w0:=wr) QX a);have j0:=a6 a;have h9:=a6 (r.o.kept l.o);have Hx:=a6 (RowQ.imp hq (fun b hb=>(show wr.heap.size <= b from aJ (by(first | exact k.o.size | (have hsz:=k.o.size;simp;omega) | exact a8 | (simp;done) | (simp;omega) | omega)) hb)));clear a hq)
     | (refine c_D rfl _ _ rfl Tryz.underlying42 a_C w3 w3 _ L1 ?_ (HO.o.below l.o) ⟨5,ys,xs,0,cV, []⟩ (I6 ⟨5,ys,xs,0,cV, []⟩ ya yc xa xc false () () () none 0) rfl ?_ ?_ R ?_ ?_
        . go_simp
        . go_simp
        . exact⟨ya,yc,xa,xc,_,_,_,_,none,0,rfl,(Hy.o.since j0.o).imp (fun b hb=>⟨aJ m hb,HV.o b hb⟩),Hx.o.imp (fun b hb=>⟨aJ m hb,HV.o b hb⟩),g_A _ _,RowQ.empty _ _ _⟩
        . exact aJ m l.o.size
        intro v' w8 B n;have S:=a6 B
        have U:=a6 ((u.o.trans (l.o.mono m)).trans n);have J8:=a6 (h9.o.keep (n.mono h6));clear B n))
    all_goals
     clear s;go_wp2_with fail
     go_roundg (kq.length - (i+1))
     case measure=>omega
     case rel=>exact⟨i+1,by go_num,by omega,by rw [y.o];exact S.o,U.o⟩
  --<2
  obtain rfl:i=kq.length:=P2
  have hN:=H9.o.kept u.o;have K2:=hN.lt;obtain⟨⟨n0,n1,n2,n3⟩,nf,nl⟩:=hN.f4;have J1:=a6 hN;clear hN;obtain⟨va,vc,hv⟩:=HO.o.form;subst hv;have R:=d_h p j kq.length
  go_upto_region 9 with fail;obtain⟨w5,o⟩:∃w5,w5=wr.setCell (P0 w2 3) ():=⟨_,rfl⟩;rw [<- o];have V:=a6 (show yK w3 w3 w5 _ (pX p j kq.length)by rw [o];exact HO.o.set P2 P2 _)
  have J2:=a6 (show At w5 w2 [lq,(ap,pq.length,cp),(at_,tq.length,ct),()] 35 by rw [o];exact J1.o.set 3 _);have A:=a6 (show At w5 W [(pa,p.length,pc),v1,v2,v3,(ak,ks.length,ck),v5,v6,v7,v8,v9,v10,v11,v12,v13,j,v15] 98 by rw [o];exact r.o.set_ne P2 _);have j1:=a6 (show NodeQ w5 (fun b=>W.heap.size <= b/\b < w2.heap.size) (.mk lq pq tq []) [lq,(ap,pq.length,cp),(at_,tq.length,ct),()]by rw [o];exact cQ ((h3.o).since u.o) P2);have k:=a6 (show Below W W w5 by rw [o];exact(t.o.trans (u.o.mono t.o.size)).setCell (p:=(P0 w2 3)) XY _);have K3:w5.heap.size=wr.heap.size:=by rw [o];simp [World.setCell]
  have j2:=a6 (fun(w1:World) (hb:Below w5 w5 w1)=>(show Calls Tryz.prog 109 #[.agg #[(pa,p.length,pc),v1,v2,v3,(ak,ks.length,ck),v5,v6,v7,v8,v9,v10,v11,v12,v13,j,v15],OY] w1 (e_o w1 zs)by
   have h:=h7.o w1 (k.o.trans (hb.mono k.o.size));rw [Int.add_zero, <- h8.o]at h;exact h))
  have j3:=a6 (fun(w':World) (hb:Below w5 w5 w')=>And.intro (A.o.kept hb) (J2.o.kept hb));have j4:=fun(w':World) (h:At w' w2 [lq,(ap,pq.length,cp),(at_,tq.length,ct),()] 35)=>At.load (P:=Tryz.prog) h Tryz.underlying35 rfl P3
  simp [go_sem]at j4
  have s:=Hld.o;clear o n0 n1 n2 n3 nf nl M H9 r J1 HO h3 HZ HU;go_region_held3 (fun w'=>At w' W [(pa,p.length,pc),v1,v2,v3,(ak,ks.length,ck),v5,v6,v7,v8,v9,v10,v11,v12,v13,j,v15] 98/\At w' w2 [lq,(ap,pq.length,cp),(at_,tq.length,ct),()] 35) (first | with_reducible exact j5.o | (refine j3.o _ (by(with_reducible (repeat (first | exact l.o | exact a7 | refine aK ?_ | refine aQ ?_ ?_ _ | refine aV ?_ ?_ _)) <;> (first | exact a8 | exact l.o.size | (have:=l.o.size;simp [World.setCell];omega) | (simp <;> omega) | omega)))))
   (first
   | (refine bQ rfl 109 _ _ rfl P5 [.agg #[(pa,p.length,pc),v1,v2,v3,(ak,ks.length,ck),v5,v6,v7,v8,v9,v10,v11,v12,v13,j,v15],OY] ?_ _ (j2.o _ P1) ?_
      . go_simp
      rintro e w6 ⟨za,zc,rfl,hq,a⟩;refine⟨_,rfl, ?_⟩;have l:=a6 (Below.and (w0:=w5) P1 a);have Hz:=a6 hq;clear a hq)
   | (refine c_D rfl _ _ rfl Tryz.underlying42 a_C W w3 _ (pX p j kq.length) ?_ ((V.o.below l.o).from t.o.size) ⟨2,zs, [],0, .mk lq pq tq [], []⟩ (I6 ⟨2,zs, [],0, .mk lq pq tq [], []⟩ za zc none 0 lq (ap,pq.length,cp) (at_,tq.length,ct) () none 0) rfl ?_ ?_ P2 ?_ ?_
      . go_simp
      . go_simp
      . exact⟨za,zc,none,0,_,_,_,_,none,0,rfl,Hz.o.imp (fun b hb=>⟨aJ k.o.size hb,V.o.lt b hb⟩),RowQ.empty _ _ _,NodeQ.keep (a8) (fun _ _ _=>rfl) (fun b hb _=>⟨hb.1,fun e=>by have:=V.o.ge b e;have:=hb.2;omega⟩) _ _ (j1.o.since l.o),RowQ.empty _ _ _⟩
      . exact aJ P2 l.o.size
      intro v' w8 B n;have S:=a6 B
      have U:=a6 ((k.o.trans (l.o.mono k.o.size)).trans (n.mono P2));have j5:=a6 (And.intro ((A.o.kept l.o).keep (n.mono h6)) ((J2.o.kept l.o).keep (n.mono P2)));clear B n))
  all_goals
   go_wp2_with fail;go_ret;refine⟨_,rfl, ?_,U.o⟩;rw [<- h8.o];exact S.o.opsF (a8) t.o.size
theorem At.part {P:Program} {w:World} {N:Nat} {cs:List Value} {T U:TypeId} {d:TypeDesc} (h:At w N cs T) (o:Nat) (ds:List Value) (a:(cs.drop o).take ds.length=ds) (hu:P.underlying U=some d) (hd:d.isRow=true) (hi:(P.info? U).map (·.size)=some ds.length):
 (Instr.loadAt U (.pointer (some (N,o)))).run P w= .ok (.agg ds.toArray) w:=
 run_loadAt_mid w N o U ds d (fun j v hj=>h.cell (o+j) (by
  rw [<- a,List.getElem?_take]at hj;split at hj
  . rw [List.getElem?_drop]at hj;exact hj
  cases hj)) hu hd hi
theorem yK.lit {L M:Nat} {w:World} {o:fZ} {c:List Value} (h:OpQ w (fun b=>L <= b) o c) (hM:M <= w.heap.size):yK L M (w.alloc (.cells c.toArray 55)) (.slice w 1 1) [o]:=by
 have d:=At.fresh w c 55;have hl:=h.len;refine⟨c,⟨by rw [hl];rfl, .inr ⟨w,1,c.toArray,rfl,hM,d,a8,by unfold maxLen;omega,by simp [hl], ?_⟩⟩,m8.single (h.stay ⟨by simp,fun b _ a=>Lib.alloc_old _ _ _ a,fun b hb a=>⟨hb, ?_⟩⟩)⟩
 . show List.take (1 * 21) c=c
   exact List.take_of_length_le P2
 intro e;injection e with e
 simp at e;omega
theorem k_3 (d:Int) (t:ByteArray) (w:World):(Instr.field 24 (.agg #[d,t]) 1).run Tryz.prog w= .ok (.string t) w:=P3
def sJ (p:List Int) (j n:Nat):List fZ:=(List.range n).map (fun i:Nat=>(⟨5,p ++ [(j:Int)+1],p ++ [(j:Int),(i:Int)],0,cV, []⟩:fZ))
theorem i_n (p:List Int) (j n:Nat):(sJ p j n).length=n:=by simp [sJ]
theorem h_0 (p:List Int) (j n:Nat):sJ p j (n+1)=sJ p j n ++ [⟨5,p ++ [(j:Int)+1],p ++ [(j:Int),(n:Int)],0,cV, []⟩]:=by
 simp [sJ,List.range_succ]
theorem s_3 (p:List Int) (pa:Option Addr) (pc:Nat) (ks:List aX) (ak:Option Addr) (ck:Nat) (css:List Value) (R:bK) (ra:Option Addr) (rc:Nat) (v1 v2 v3 v13:Value) (j mk:Nat) (W:World)
 (hJ:b_R W p pa pc ks ak ck css j) (hj:j < ks.length) (hR:RowA W W 3 ra R.kids.length rc (fV R.kids)) (H2:R.kids.length <= 100000000) (J9:mk <= 100000000):
 Calls Tryz.prog 57 #[.agg #[(pa,p.length,pc),v1,v2,v3,(ak,ks.length,ck),aZ R.type,R.text.1,aZ R.text.2,R.other.1,aZ R.other.2,(ra,R.kids.length,rc),R.fill,aZ R.fillT,v13,j,mk]] W (e_r W (⟨1,p ++ [(j:Int)], [],0,gX (eQ R (cY ks j)).2, []⟩::sJ p j mk)):=by
 have H3:ks.length <= 100000000:=W0
 have U:(cY ks j).wt <= 100000000:=T9
 have j0:=hJ.pl;obtain⟨w0,B⟩:∃w0,w0=W.alloc (Obj.cells #[(pa,p.length,pc),v1,v2,v3,(ak,ks.length,ck),aZ R.type,R.text.1,aZ R.text.2,R.other.1,aZ R.other.2,(ra,R.kids.length,rc),R.fill,aZ R.fillT,v13,j,mk] 98):=⟨_,rfl⟩;have m:Below W W w0:=by rw [B];exact b7 _ _
 have hB:At w0 W [(pa,p.length,pc),v1,v2,v3,(ak,ks.length,ck),aZ R.type,R.text.1,aZ R.text.2,R.other.1,aZ R.other.2,(ra,R.kids.length,rc),R.fill,aZ R.fillT,v13,j,mk] 98:=by rw [B];exact At.fresh _ _ _
 have V:=a6 (fun(d:Int) (h0:0 <= d) (h1:d <= 100000000) (w1:World) (hb:Below w0 w0 w1)=>h_X p pa pc v1 v2 v3 (ak,ks.length,ck) (aZ R.type) R.text.1 (aZ R.text.2) R.other.1 (aZ R.other.2) (ra,R.kids.length,rc) R.fill (aZ R.fillT) v13 mk j d w1 (hJ.keep (m.trans (hb.mono m.size))).path hJ.pl hJ.at_ h0 h1);have X:=a6 (fun(w1:World) (hb:Below w0 w0 w1)=>g_S ks ak ck css (pa,p.length,pc) v1 v2 v3 (aZ R.type) R.text.1 (aZ R.text.2) R.other.1 (aZ R.other.2) (ra,R.kids.length,rc) R.fill (aZ R.fillT) v13 mk j w1 (hJ.keep (m.trans (hb.mono m.size))).kids (hJ.keep (m.trans (hb.mono m.size))).kids' hj H3);have J:=a6 (fun(kv:Value) (w1:World) (hb:Below w0 w0 w1) (hv:bY w1 w1 (cY ks j) kv)=>(show Calls Tryz.prog 71 #[.agg #[aZ R.type,R.text.1,aZ R.text.2,R.other.1,aZ R.other.2,(ra,R.kids.length,rc),R.fill,aZ R.fillT],kv] w1 (p_X w1 (eQ R (cY ks j)))from k_S R ra rc (cY ks j) kv w1 (hR.keep (m.trans (hb.mono m.size)) (m.trans (hb.mono m.size)).size) H2 hv U));have H4:=a6 (fun(k:List UInt8) (w1:World)=>h_Y k w1);have C:=fun(w':World) (h:At w' W [(pa,p.length,pc),v1,v2,v3,(ak,ks.length,ck),aZ R.type,R.text.1,aZ R.text.2,R.other.1,aZ R.other.2,(ra,R.kids.length,rc),R.fill,aZ R.fillT,v13,j,mk] 98)=>At.load (P:=Tryz.prog) h Tryz.underlying98 rfl P3
 simp [go_sem]at C
 have K:=fun(w':World) (h:At w' W [(pa,p.length,pc),v1,v2,v3,(ak,ks.length,ck),aZ R.type,R.text.1,aZ R.text.2,R.other.1,aZ R.other.2,(ra,R.kids.length,rc),R.fill,aZ R.fillT,v13,j,mk] 98)=>At.part (P:=Tryz.prog) h 5 [aZ R.type,R.text.1,aZ R.text.2,R.other.1,aZ R.other.2,(ra,R.kids.length,rc),R.fill,aZ R.fillT] rfl Tryz.underlying27 rfl P3
 simp [go_sem]at K
 obtain⟨zs,y⟩:∃zs,zs=p ++ [(j:Int)]:=⟨_,rfl⟩;rw [<- y];generalize cY ks j=q at X J⊢;generalize eQ R q=A at J⊢;have HZ:=a6 (fun(w1:World) (hb:Below w0 w0 w1)=>(show Calls Tryz.prog 109 #[.agg #[(pa,p.length,pc),v1,v2,v3,(ak,ks.length,ck),aZ R.type,R.text.1,aZ R.text.2,R.other.1,aZ R.other.2,(ra,R.kids.length,rc),R.fill,aZ R.fillT,v13,j,mk],OY] w1 (e_o w1 zs)by
  have h:=V.o 0 (Int.le_refl _) P2 w1 hb;rw [Int.add_zero, <- y]at h;exact h))
 have HU:=a6 (fun(i:Nat) (za:Option Addr) (zc:Nat) (la:Option Addr) (w1:World) (h1:RowA w1 w1 1 za zs.length zc (zs.map (Value.int .i64))) (h2:RowA w1 w1 1 la 1 1 [i])=>(show Calls Tryz.prog 111 #[(za,zs.length,zc), .slice la 1 1] w1 (e_o w1 (p ++ [(j:Int),(i:Int)]))by
  have h:=g_R zs [(i:Int)] za zc la 1 w1 h1 h2 (by rw [y];simp;omega);rw [show zs ++ [(i:Int)]=p ++ [(j:Int),(i:Int)]by rw [y];simp]at h;exact h))
 have Y:=a6 B;have D:=a6 m;have HB:=a6 hB;have Hld:=a6 C
 have H5:=hB.lt;have j1:=k_3;clear B m hB hJ hj U y;go_enter Tryz.func57,Tryz.ntmps57;go_upto_region 1 with fail;rw [<- Y.o];clear Y;go_cut [3] (fun v wx=>yK w0 w0 wx v [⟨1,zs, [],0,gX A.2, []⟩]/\Below w0 w0 wx)
 case first=>
  go_region_held3 (fun w'=>At w' W [(pa,p.length,pc),v1,v2,v3,(ak,ks.length,ck),aZ R.type,R.text.1,aZ R.text.2,R.other.1,aZ R.other.2,(ra,R.kids.length,rc),R.fill,aZ R.fillT,v13,j,mk] 98) (with_reducible (repeat (first | exact H6.o | exact H7.o | exact H8.o | exact H9.o | exact HB.o | exact At.second _ _ _ _ | exact At.fresh _ _ _ | refine At.drew ?_ | refine At.alloc ?_ _)))
   (first
   | (refine bQ rfl 109 _ _ rfl P5 [.agg #[(pa,p.length,pc),v1,v2,v3,(ak,ks.length,ck),aZ R.type,R.text.1,aZ R.text.2,R.other.1,aZ R.other.2,(ra,R.kids.length,rc),R.fill,aZ R.fillT,v13,j,mk],OY] ?_ _ (HZ.o _ P1) ?_
      . go_simp
      rintro e w1 ⟨za,zc,rfl,hq,a⟩;refine⟨_,rfl, ?_⟩;have t:=a6 (Below.and (w0:=w0) P1 a);have H9:=a6 (HB.o.kept t.o);have Hz:=a6 (RowQ.imp hq (fun b hb=>(show w0.heap.size <= b from aJ QZ hb)));clear a hq)
   | (refine bQ rfl 110 _ _ rfl P5 [.agg #[(pa,p.length,pc),v1,v2,v3,(ak,ks.length,ck),aZ R.type,R.text.1,aZ R.text.2,R.other.1,aZ R.other.2,(ra,R.kids.length,rc),R.fill,aZ R.fillT,v13,j,mk]] ?_ _ (X.o _ RV) ?_
      . go_simp
      rintro e w2 ⟨kv,rfl,Z,a⟩;refine⟨_,rfl, ?_⟩;have z:=a6 (Below.and (w0:=w0) RV a);have h3:=a6 a;have H8:=a6 (HB.o.kept z.o);have h4:=a6 Z;clear a Z)
   | (refine bQ rfl 71 _ _ rfl P5 [.agg #[aZ R.type,R.text.1,aZ R.text.2,R.other.1,aZ R.other.2,(ra,R.kids.length,rc),R.fill,aZ R.fillT],kv] ?_ _ (J.o kv _ z.o h4.o) ?_
      . go_simp
      rintro e w3 ⟨rfl,a⟩;refine⟨_,rfl, ?_⟩;have w:=a6 (Below.and (w0:=w0) (by(with_reducible (repeat (first | exact z.o | exact a7 | refine aK ?_ | refine aQ ?_ ?_ _ | refine aV ?_ ?_ _)) <;> (first | exact a8 | exact z.o.size | (have:=z.o.size;simp [World.setCell];omega) | (simp <;> omega) | omega))) a);have h5:=a6 a;have H7:=a6 (HB.o.kept w.o);clear a)
   | (refine bQ rfl 112 _ _ rfl P5 [aZ A.2] ?_ _ (H4.o A.2 _) ?_
      . go_simp
      rintro e w4 ⟨cs,rfl,hn,a⟩;obtain⟨l,a1,m1,k1,a2,m2,k2,a3,m3,k3,rfl⟩:=hn.form;refine⟨_,rfl, ?_⟩;have E:=a6 (Below.and (w0:=w0) (by(with_reducible (repeat (first | exact w.o | exact a7 | refine aK ?_ | refine aQ ?_ ?_ _ | refine aV ?_ ?_ _)) <;> (first | exact a8 | exact w.o.size | (have:=w.o.size;simp [World.setCell];omega) | (simp <;> omega) | omega))) a);have h6:=a6 a;have H6:=a6 (HB.o.kept E.o);have Hn:=a6 (NodeQ.keep (ok':=fun b=>w0.heap.size <= b) (a8) (fun _ _ _=>rfl) (fun b hb _=>aJ (by(first | exact w.o.size | (have hsz:=w.o.size;simp;omega) | exact a8 | (simp;done) | (simp;omega) | omega)) hb) _ _ hn);clear a hn))
  all_goals
   go_wp2_with fail
   go_meet
   case rel=>
    refine⟨yK.lit (o:=⟨1,zs, [],0,gX A.2, []⟩) ⟨za,zc,none,0,_,_,_,_,none,0,rfl,(((Hz.o.since h3.o).since h5.o).since h6.o),RowQ.empty _ _ _,Hn.o,RowQ.empty _ _ _⟩ E.o.size,E.o.alloc E.o.size _⟩
 case rest=>
  obtain⟨hO,L⟩:=hcut;have h7:=a6 (HB.o.kept L);have h8:=a6 hO;have h9:=a6 L
  have M:=h7.o;have x15:=M.cell 15 rfl;have xl:=M.lt;clear hO L M;go_wp2_with fail;clear x15;go_loopg [3,19] mk (fun g v c wr=>∃i:Nat,c= .int .i64 i/\i+g=mk/\yK w0 w0 wr v (⟨1,zs, [],0,gX A.2, []⟩::sJ p j i)/\Below w0 w0 wr)
  case atStart=>exact⟨0,rfl,by omega,h8.o,h9.o⟩
  case round=>
   obtain⟨i,rfl,hg,hO,F⟩:=hrel;have HO:=a6 hO;have G:=a6 F
   have x:=a6 (HB.o.kept F);have n:=F.size;clear hO F;by_cases j2:i < mk
   . have J8:(i:Int) < mk:=P2
     have HX:=a6 (fun(w1:World) (hb:Below wr wr w1)=>V.o 1 P2 P2 w1 (G.o.trans (hb.mono n)));have J0:=a6 (fun(w1:World) (hb:Below wr wr w1)=>HZ.o w1 (G.o.trans (hb.mono n)));have HV:=a6 HO.o.lt;have H0:((⟨1,zs, [],0,gX A.2, []⟩:fZ)::sJ p j i).length <= 100000000:=by rw [O7,i_n];omega
     have r:=a6 (show (⟨1,zs, [],0,gX A.2, []⟩:fZ)::sJ p j (i+1)=(⟨1,zs, [],0,gX A.2, []⟩::sJ p j i) ++ [⟨5,p ++ [(j:Int)+1],p ++ [(j:Int),(i:Int)],0,cV, []⟩]by rw [h_0];rfl);generalize (⟨1,zs, [],0,gX A.2, []⟩:fZ)::sJ p j i=L1 at HO r H0;have H:=a6 (HU.o i);generalize p ++ [(j:Int)+1]=xs at HX r;generalize p ++ [(j:Int),(i:Int)]=ys at H r;go_upto_region 5 with fail
     go_region_held3 (fun w'=>At w' W [(pa,p.length,pc),v1,v2,v3,(ak,ks.length,ck),aZ R.type,R.text.1,aZ R.text.2,R.other.1,aZ R.other.2,(ra,R.kids.length,rc),R.fill,aZ R.fillT,v13,j,mk] 98) (with_reducible (repeat (first | exact J1.o | exact I.o | exact J2.o | exact J3.o | exact x.o | exact At.second _ _ _ _ | exact At.fresh _ _ _ | refine At.drew ?_ | refine At.alloc ?_ _)))
      (first
     | (refine bQ rfl 109 _ _ rfl P5 [.agg #[(pa,p.length,pc),v1,v2,v3,(ak,ks.length,ck),aZ R.type,R.text.1,aZ R.text.2,R.other.1,aZ R.other.2,(ra,R.kids.length,rc),R.fill,aZ R.fillT,v13,j,mk], .int .i64 1] ?_ _ (HX.o _ P1) ?_
        . go_simp
        rintro e w5 ⟨xa,xc,rfl,hq,a⟩;refine⟨_,rfl, ?_⟩;have u:=a6 (Below.and (w0:=wr) P1 a)
        first
         | (refine At.lay (N:= ?_) (cs:= [i]) (T:=3) (At.kept ?_ a) ?_
            rotate_left
            . with_reducible (repeat (first | exact At.second _ _ _ _ | exact At.fresh _ _ _ | refine At.drew ?_ | refine At.alloc ?_ _))
            intro J4)
         | skip
        have J3:=a6 (x.o.kept u.o);have Hx:=a6 (RowQ.imp hq (fun b hb=>(show wr.heap.size <= b from aJ QZ hb)));clear a hq)
     | (refine bQ rfl 109 _ _ rfl P5 [.agg #[(pa,p.length,pc),v1,v2,v3,(ak,ks.length,ck),aZ R.type,R.text.1,aZ R.text.2,R.other.1,aZ R.other.2,(ra,R.kids.length,rc),R.fill,aZ R.fillT,v13,j,mk],OY] ?_ _ (J0.o _ PK) ?_
        . go_simp
        rintro e w6 ⟨za,zc,rfl,hq,a⟩;refine⟨_,rfl, ?_⟩;have f:=a6 (Below.and (w0:=wr) PK a);have J5:=a6 (Below.and (w0:=w5) P1 a)
        first
         | (refine At.lay (N:= ?_) (cs:= [i]) (T:=3) (At.kept ?_ a) ?_
            rotate_left
            . with_reducible (repeat (first | exact J4.o | exact At.second _ _ _ _ | exact At.fresh _ _ _ | refine At.drew ?_ | refine At.alloc ?_ _))
            intro O)
         | skip
        have J2:=a6 (x.o.kept f.o);have Hz:=a6 hq.any;clear a hq)
     | (refine bQ rfl 111 _ _ rfl P5 [(za,zs.length,zc), .slice w6 1 1] ?_ _ (H.o _ _ _ _ (RowQ.row (ok:=fun _=>True) R6) (RowQ.row (ok:=fun _=>True) (BQ (T:=3) R3 1 1 rfl P2 (KJ [(i:Int)]) trivial))) ?_
        . go_simp
        rintro e w7 ⟨ya,yc,rfl,hq,a⟩;refine⟨_,rfl, ?_⟩;have s:=a6 (Below.and (w0:=wr) P4 a);have Q:=a6 (Below.and (w0:=w6) P1 a);have I:=a6 (x.o.kept s.o);have Hy:=a6 (RowQ.imp hq (fun b hb=>(show wr.heap.size <= b from aJ PV hb)));clear a hq)
     | (refine bQ rfl 111 _ _ rfl P5 [(za,zs.length,zc), .slice w5 1 1] ?_ _ (H.o _ _ _ _ (RowQ.row (ok:=fun _=>True) R6) (RowQ.row (ok:=fun _=>True) (BQ (T:=3) R3 1 1 rfl P2 (KJ [(i:Int)]) trivial))) ?_
        . go_simp
        rintro e w7 ⟨ya,yc,rfl,hq,a⟩;refine⟨_,rfl, ?_⟩;have s:=a6 (Below.and (w0:=wr) P4 a);have Q:=a6 (Below.and (w0:=w6) P1 a);have I:=a6 (x.o.kept s.o);have Hy:=a6 (RowQ.imp hq (fun b hb=>(show wr.heap.size <= b from aJ PV hb)));clear a hq)
     | (refine bQ rfl 111 _ _ rfl P5 [(za,zs.length,zc), .slice wr 1 1] ?_ _ (H.o _ _ _ _ (RowQ.row (ok:=fun _=>True) R6) (RowQ.row (ok:=fun _=>True) (BQ (T:=3) R3 1 1 rfl P2 (KJ [(i:Int)]) trivial))) ?_
        . go_simp
        rintro e w7 ⟨ya,yc,rfl,hq,a⟩;refine⟨_,rfl, ?_⟩;have s:=a6 (Below.and (w0:=wr) P4 a);have Q:=a6 (Below.and (w0:=w6) P1 a);have I:=a6 (x.o.kept s.o);have Hy:=a6 (RowQ.imp hq (fun b hb=>(show wr.heap.size <= b from aJ PV hb)));clear a hq)
     | (refine c_D rfl _ _ rfl Tryz.underlying42 a_C w0 w0 _ L1 ?_ (HO.o.below s.o) ⟨5,xs,ys,0,cV, []⟩ (I6 ⟨5,xs,ys,0,cV, []⟩ xa xc ya yc false () () () none 0) rfl ?_ ?_ H0 ?_ ?_
        . go_simp
        . go_simp
        . exact⟨xa,xc,ya,yc,_,_,_,_,none,0,rfl,((Hx.o.since J5.o).since Q.o).imp (fun b hb=>⟨aJ n hb,HV.o b hb⟩),Hy.o.imp (fun b hb=>⟨aJ n hb,HV.o b hb⟩),g_A _ _,RowQ.empty _ _ _⟩
        . exact aJ n s.o.size
        intro v' w8 H1 S;have J6:=a6 H1
        have J7:=a6 ((G.o.trans (s.o.mono n)).trans S);have J1:=a6 (I.o.keep (S.mono H5));clear H1 S))
     all_goals
      clear C K;go_wp2_with fail
      go_roundg (mk - (i+1))
      case measure=>omega
      case rel=>exact⟨i+1,by go_num,by omega,by rw [r.o];exact J6.o,J7.o⟩
   obtain rfl:i=mk:=P2
   clear C K;go_wp2_with fail;go_ret;exact⟨_,rfl,HO.o.opsF D.o.size D.o.size,D.o.trans (G.o.mono D.o.size)⟩
end Go.Proofs.YtmadpclcmjahoaaGreatDoor
