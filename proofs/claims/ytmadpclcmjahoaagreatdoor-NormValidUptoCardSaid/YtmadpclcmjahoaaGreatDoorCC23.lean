/- Parts of the proof: CC23. -/
import Derived.Test.YtmadpclcmjahoaaGreatDoorCC20
import Derived.Ground.SlgmProg
import Derived.Shelf.SortM.Plain
import Derived.Shelf.SortM.SortNone
set_option linter.unusedVariables false
set_option linter.unusedSimpArgs false
set_option maxHeartbeats 8000000
set_option maxRecDepth 100000
namespace Go.Proofs.YtmadpclcmjahoaaGreatDoor
open Go.RowKit Go.Redl
theorem FX {P:Program} {ops:Array Oper} {rest:List Oper} {o:Oper} {a:Act} {w:World} {Q:Exit ->Act ->World ->Prop} (hg:o.guard=none) (ty:TypeId) (x:Operand) (ho:o.op= .load ty x)
 (N off:Nat) (cs:List Value) (U:TypeId) (vs:Array Value) (hx:a.eval x= .pointer (some (N,off))) (h:At w N cs U) (b:(cs.drop off).take vs.toList.length=vs.toList) (d:TypeDesc) (hu:P.underlying ty=some d) (hd:d.isRow=true) (hi:(P.info? ty).map (·.size)=some vs.size)
 (hk:wpList P ops Q rest (a.put o.dst (.agg vs)) w):wpList P ops Q (o::rest) a w:=
 wpList_load_mid hg ty x ho N off hx vs.toList d (fun j v hj=>h.cell (off+j) (by
  rw [<- b,List.getElem?_take]at hj;split at hj
  . rw [List.getElem?_drop]at hj;exact hj
  cases hj)) hu hd R4 UQ
theorem q_M (p d:List Int) (kd pos:Int) (nd:aX) (ol:List fQ) (pa ta oa:Option Addr) (pc tc oc:Nat) (l0:Bool) (a1 a2 a3:Option Addr) (m1 m2 m3 c1 c2 c3:Nat) (W:World)
 (V:nd.wt <= 100000000) (hn:bY W W nd (.agg #[.bool l0, .slice a1 m1 c1, .slice a2 m2 c2, .slice a3 m3 c3])) (R:p≠ [])
 (fs:List UInt8) (X:a_d c_E kd (.string ⟨#[]⟩)=(.string ⟨fs.toArray⟩,true)) (J0:fs.length <= 1000) (N:∀c∈onB (EJ p d pos nd ol),c∈fs)
 (hp:RowA W W 1 pa p.length pc (p.map (Value.int .i64))) (Y:p.length <= 1000000) (hd:RowA W W 1 ta d.length tc (d.map (Value.int .i64))) (Z:d.length <= 1000000) (ho:RowA W W 2 oa ol.length oc (cK ol)) (J1:ol.length <= 100000000)
 (hk:IJ kd) (h3:kd=3 ->0 < jK p) (h5:kd=5 ->d≠ []) (H0:∀z∈p, -9223372036854775807 <= z/\z <= 9223372036854775807):
 Calls Tryz.prog 67 #[K9, .agg #[.int .i64 kd, .slice pa p.length pc, .slice ta d.length tc, .int .i64 pos, .bool l0, .slice a1 m1 c1, .slice a2 m2 c2, .slice a3 m3 c3, .slice oa ol.length oc, .slice none 0 0, .slice none 0 0, .bool false, .slice none 0 0, .int .i64 0, .slice none 0 0, .int .i64 0, .bool false, .slice none 0 0, .int .i64 0, .slice none 0 0, .int .i64 0]] W (fun e w'=>e= .returned (.bool true)/\Below W W w'):=by
 obtain⟨w0,D⟩:∃w0,w0=(W.alloc (Obj.cells #[.bool false, .slice none 0 0, .int .i64 0, .slice none 0 0, .int .i64 0] 53)).alloc (Obj.cells #[.int .i64 kd, .slice pa p.length pc, .slice ta d.length tc, .int .i64 pos, .bool l0, .slice a1 m1 c1, .slice a2 m2 c2, .slice a3 m3 c3, .slice oa ol.length oc, .slice none 0 0, .slice none 0 0, .bool false, .slice none 0 0, .int .i64 0, .slice none 0 0, .int .i64 0, .bool false, .slice none 0 0, .int .i64 0, .slice none 0 0, .int .i64 0] 55):=⟨_,rfl⟩;have y:Below W W w0:=by rw [D];exact(b7 _ _).alloc P6 _
 have H1:w0.heap.size=W.heap.size+2:=by rw [D];simp
 have hA:At w0 W [.bool false, .slice none 0 0, .int .i64 0, .slice none 0 0, .int .i64 0] 53:=by rw [D];exact(At.fresh W _ _).alloc _
 have hB:At w0 (W+1) [.int .i64 kd, .slice pa p.length pc, .slice ta d.length tc, .int .i64 pos, .bool l0, .slice a1 m1 c1, .slice a2 m2 c2, .slice a3 m3 c3, .slice oa ol.length oc, .slice none 0 0, .slice none 0 0, .bool false, .slice none 0 0, .int .i64 0, .slice none 0 0, .int .i64 0, .bool false, .slice none 0 0, .int .i64 0, .slice none 0 0, .int .i64 0] 55:=by rw [D];exact At.second W _ _ _
 have H2:bY w0 w0 nd (.agg #[.bool l0, .slice a1 m1 c1, .slice a2 m2 c2, .slice a3 m3 c3]):=by
  obtain⟨cs,he,hc⟩:=hn;exact⟨cs,he,dY.keep y y.size _ _ hc⟩
 have E:∀ {sz:Nat} {a:Option Addr} {n c:Nat} {cs:List Value} (w':World),Below w0 w0 w' ->RowA W W sz a n c cs ->RowA w' w' sz a n c cs:=fun w' hb hr=>hr.keep (y.trans (hb.mono y.size)) (y.trans (hb.mono y.size)).size
 have HI:=a6 (s_0 p d kd pos nd ol pa ta oa pc tc oc l0 a1 a2 a3 m1 m2 m3 c1 c2 c3 w0 V H2 R fs X J0 N (E w0 (a7) hp) Y (E w0 (a7) hd) Z (E w0 (a7) ho) J1 hk h3 h5 H0);have H3:=a6 (fun(w':World) (hb:Below w0 w0 w')=>i_2 p d kd pos pa ta pc tc (.bool l0) (.slice a1 m1 c1) (.slice a2 m2 c2) (.slice a3 m3 c3) (.slice oa ol.length oc) (.slice none 0 0) (.slice none 0 0) (.bool false) (.slice none 0 0) (.int .i64 0) (.slice none 0 0) (.int .i64 0) (.bool false) (.slice none 0 0) (.int .i64 0) (.slice none 0 0) (.int .i64 0) w' (by rcases hk with h | h | h | h <;> omega) (E w' hb hp) (E w' hb hd) Y Z R);have HA:=a6 hA;have HB:=a6 hB;have H4:=a6 y;have J2:=a6 H1;have H6:=a6 D
 clear hA hB y H1 D hn hp hd ho H2 E X N h3 h5 R H0 hk;go_enter Tryz.func67,Tryz.ntmps67;go_upto_region 1 with fail;rw [<- H6.o];clear H6;go_wp2_with (refine bZ rfl _ _ rfl (W.heap.size+1) #[.int .i64 kd, .slice pa p.length pc, .slice ta d.length tc, .int .i64 pos, .bool l0, .slice a1 m1 c1, .slice a2 m2 c2, .slice a3 m3 c3, .slice oa ol.length oc, .slice none 0 0, .slice none 0 0, .bool false, .slice none 0 0, .int .i64 0, .slice none 0 0, .int .i64 0, .bool false, .slice none 0 0, .int .i64 0, .slice none 0 0, .int .i64 0] rfl HB.o _ Tryz.underlying55 rfl P3 ?_);refine HI.o.mono ?_;rintro e w1 ⟨l,kd2,q,r,pos2,qa,qc,ra,rc,v4,v5,v6,v7,v8,v9,v10,v11,v12,v13,v14,v15,v16,v17,v18,v19,v20,rfl,H7,O,H8,H9,hq,hr,P⟩;have J3:=a6 l
 have G:=a6 P;have h0:=a6 (fun(w':World) (hb:Below w1 w1 w')=>i_2 q r kd2 pos2 qa ra qc rc v4 v5 v6 v7 v8 v9 v10 v11 v12 v13 v14 v15 v16 v17 v18 v19 v20 w' H7 (hq.row.keep hb hb.size) (hr.row.keep hb hb.size) H8 H9 O);clear l P hq hr H7 O H8 H9 HI;go_wp2_with (refine m6 rfl _ _ _ rfl rfl w1.heap.size [.int .i64 0, .slice none 0 0, .slice none 0 0, .int .i64 0, .bool false, .slice none 0 0, .slice none 0 0, .slice none 0 0, .slice none 0 0, .slice none 0 0, .slice none 0 0, .bool false, .slice none 0 0, .int .i64 0, .slice none 0 0, .int .i64 0, .bool false, .slice none 0 0, .int .i64 0, .slice none 0 0, .int .i64 0] #[.int .i64 kd2, .slice qa q.length qc, .slice ra r.length rc, .int .i64 pos2,v4,v5,v6,v7,v8,v9,v10,v11,v12,v13,v14,v15,v16,v17,v18,v19,v20] rfl rfl (At.fresh w1 _ _) rfl G.o P3 ?_);intro w2 S h4;have s:=fK (cX (b7 w1 (Obj.cells #[.int .i64 0, .slice none 0 0, .slice none 0 0, .int .i64 0, .bool false, .slice none 0 0, .slice none 0 0, .slice none 0 0, .slice none 0 0, .slice none 0 0, .slice none 0 0, .bool false, .slice none 0 0, .int .i64 0, .slice none 0 0, .int .i64 0, .bool false, .slice none 0 0, .int .i64 0, .slice none 0 0, .int .i64 0] 55))) h4
 have Q:=a6 (s.old (M:=w1.heap.size) (a8) (fun k hk=>by cases hk;exact a8));have J:=a6 (b6 J3.o Q.o);have J4:=a6 S;have F:=a6 (HA.o.kept J.o);have J5:=a6 (HB.o.kept J.o)
 have T:=a6 (show ∀w',Below w2 w2 w' ->Below w0 w0 w' from fun w' hb=>b6 J.o hb);have h6:=a6 (show ∀w',Below w2 w2 w' ->Below w1 w1 w' from fun w' hb=>b6 Q.o hb);have x1:=F.o.cell 1 rfl;have x2:=F.o.cell 2 rfl;have x3:=F.o.cell 3 rfl;have x4:=F.o.cell 4 rfl;have xl:=F.o.lt
 have j0:=a6 (show W.heap.size+2 <= w2.heap.size by have h1:=J2.o;have h2:=J.o.size;omega);have Hl2:=a6 (show w1.heap.size < w2.heap.size from S.lt);clear S h4 s HA HB;go_wp2_with fail;obtain⟨w3,K⟩:∃w3,w3=w2.alloc (Obj.cells #[.slice none 0 0, .int .i64 0, .slice none 0 0, .int .i64 0] 49):=⟨_,rfl⟩;have J6:=a6 (show At w3 w2 [.slice none 0 0, .int .i64 0, .slice none 0 0, .int .i64 0] 49 by rw [K];exact At.fresh _ _ _);have J7:=a6 (show Below w2 w2 w3 by rw [K];exact b7 _ _);rw [<- K];clear K x1 x2 x3 x4 xl;go_loopg [26,8,10,11,12] 2 (fun g i _ _ _ _ wr=>∃j:Nat,i= .int .i64 j/\j+g=2/\Hid (Below w3 w3 wr))
 case atStart=>exact⟨0,rfl,rfl,a7⟩
 case round=>
  obtain⟨j,rfl,hg,L⟩:=hrel;have A:=b6 J7.o L.o;have w:=a6 (F.o.kept A);have h7:=a6 (J5.o.kept A);have h8:=a6 (J4.o.kept A)
  have H:=a6 (J6.o.kept L.o);have B:=a6 A;have h9:=L;clear A L;have hj:j=2∨j=0∨j=1:=P2
  rcases hj with rfl | hj
  ·
    have x0:=w.o.cell 0 rfl;have xl:=w.o.lt
    have J8:=a6 (H4.o.trans ((T.o wr B.o).mono H4.o.size));go_wp2_with fail;go_ret;exact⟨rfl,J8.o⟩
  have p0:=H.o.cell 0 rfl;have p1:=H.o.cell 1 rfl;have p2:=H.o.cell 2 rfl;have p3:=H.o.cell 3 rfl;have pl:=H.o.lt
  rcases hj with rfl | rfl
  ·
    go_wp2_with (first
     | (refine bZ rfl _ _ rfl (W.heap.size+1) #[.int .i64 kd, .slice pa p.length pc, .slice ta d.length tc, .int .i64 pos, .bool l0, .slice a1 m1 c1, .slice a2 m2 c2, .slice a3 m3 c3, .slice oa ol.length oc, .slice none 0 0, .slice none 0 0, .bool false, .slice none 0 0, .int .i64 0, .slice none 0 0, .int .i64 0, .bool false, .slice none 0 0, .int .i64 0, .slice none 0 0, .int .i64 0] rfl (h7.o.alloc _) _ Tryz.underlying55 rfl P3 ?_)
     | (refine bZ rfl _ _ rfl w1.heap.size #[.int .i64 kd2, .slice qa q.length qc, .slice ra r.length rc, .int .i64 pos2,v4,v5,v6,v7,v8,v9,v10,v11,v12,v13,v14,v15,v16,v17,v18,v19,v20] rfl (h8.o.alloc _) _ Tryz.underlying55 rfl P3 ?_))
    obtain⟨w4,u⟩:∃w4,w4=(wr.alloc (Obj.cells #[Value.slice none 0 0,Value.int .i64 0] 49)).alloc (Obj.cells #[.int .i64 kd, .slice pa p.length pc, .slice ta d.length tc, .int .i64 pos, .bool l0, .slice a1 m1 c1, .slice a2 m2 c2, .slice a3 m3 c3, .slice oa ol.length oc, .slice none 0 0, .slice none 0 0, .bool false, .slice none 0 0, .int .i64 0, .slice none 0 0, .int .i64 0, .bool false, .slice none 0 0, .int .i64 0, .slice none 0 0, .int .i64 0, .int .i64 kd2, .slice qa q.length qc, .slice ra r.length rc, .int .i64 pos2,v4,v5,v6,v7,v8,v9,v10,v11,v12,v13,v14,v15,v16,v17,v18,v19,v20] 55):=⟨_,rfl⟩;have b:=a6 (show Below wr wr w4 by rw [u];exact g8 _ _ _);have HP:=a6 (show At w4 wr [Value.slice none 0 0,Value.int .i64 0] 49 by rw [u];exact(At.fresh _ _ _).alloc _);have HO:=a6 (show At w4 (wr+1) [.int .i64 kd, .slice pa p.length pc, .slice ta d.length tc, .int .i64 pos, .bool l0, .slice a1 m1 c1, .slice a2 m2 c2, .slice a3 m3 c3, .slice oa ol.length oc, .slice none 0 0, .slice none 0 0, .bool false, .slice none 0 0, .int .i64 0, .slice none 0 0, .int .i64 0, .bool false, .slice none 0 0, .int .i64 0, .slice none 0 0, .int .i64 0, .int .i64 kd2, .slice qa q.length qc, .slice ra r.length rc, .int .i64 pos2,v4,v5,v6,v7,v8,v9,v10,v11,v12,v13,v14,v15,v16,v17,v18,v19,v20] 55 by rw [u];exact At.second _ _ _ _);rw [<- u];clear u p0 p1 p2 p3 pl;generalize U:wr=wo at *;clear U;go_loopg [34,10,11,12] 2 (fun g i _ _ _ wr=>∃k:Nat,i= .int .i64 k/\k+g=2/\Hid (Below w4 w4 wr))
    case atStart=>exact⟨0,rfl,rfl,a7⟩
    case round=>
     obtain⟨k,rfl,J9,x⟩:=hrel;have t:=a6 (HP.o.kept x.o);have I:=a6 (HO.o.kept x.o)
     have C:=a6 x.o;clear x;have hk:k=2∨k=0∨k=1:=P2
     rcases hk with rfl | rfl | rfl
     . go_wp2_with fail
       go_roundg 1
       case measure=>omega
       case rel=>exact⟨1,rfl,by omega,(show Below _ _ _ from b6 h9.o (b.o.trans (C.o.mono b.o.size)))⟩
     . go_wp2_with (first
        | (refine FX rfl _ _ rfl (wo.heap.size+1) 0 [.int .i64 kd, .slice pa p.length pc, .slice ta d.length tc, .int .i64 pos, .bool l0, .slice a1 m1 c1, .slice a2 m2 c2, .slice a3 m3 c3, .slice oa ol.length oc, .slice none 0 0, .slice none 0 0, .bool false, .slice none 0 0, .int .i64 0, .slice none 0 0, .int .i64 0, .bool false, .slice none 0 0, .int .i64 0, .slice none 0 0, .int .i64 0, .int .i64 kd2, .slice qa q.length qc, .slice ra r.length rc, .int .i64 pos2,v4,v5,v6,v7,v8,v9,v10,v11,v12,v13,v14,v15,v16,v17,v18,v19,v20] 55 #[.int .i64 kd, .slice pa p.length pc, .slice ta d.length tc, .int .i64 pos, .bool l0, .slice a1 m1 c1, .slice a2 m2 c2, .slice a3 m3 c3, .slice oa ol.length oc, .slice none 0 0, .slice none 0 0, .bool false, .slice none 0 0, .int .i64 0, .slice none 0 0, .int .i64 0, .bool false, .slice none 0 0, .int .i64 0, .slice none 0 0, .int .i64 0] rfl I.o rfl _ Tryz.underlying55 rfl P3 ?_)
        | (refine m6 rfl _ _ _ rfl rfl wr.heap.size [.int .i64 0, .slice none 0 0, .slice none 0 0, .int .i64 0, .bool false, .slice none 0 0, .slice none 0 0, .slice none 0 0, .slice none 0 0, .slice none 0 0, .slice none 0 0, .bool false, .slice none 0 0, .int .i64 0, .slice none 0 0, .int .i64 0, .bool false, .slice none 0 0, .int .i64 0, .slice none 0 0, .int .i64 0] #[.int .i64 kd, .slice pa p.length pc, .slice ta d.length tc, .int .i64 pos, .bool l0, .slice a1 m1 c1, .slice a2 m2 c2, .slice a3 m3 c3, .slice oa ol.length oc, .slice none 0 0, .slice none 0 0, .bool false, .slice none 0 0, .int .i64 0, .slice none 0 0, .int .i64 0, .bool false, .slice none 0 0, .int .i64 0, .slice none 0 0, .int .i64 0] rfl rfl (At.fresh wr _ _) rfl rfl P3 ?_))
       intro w5 h5 g5;have s:=fK (cX (b7 wr (Obj.cells #[.int .i64 0, .slice none 0 0, .slice none 0 0, .int .i64 0, .bool false, .slice none 0 0, .slice none 0 0, .slice none 0 0, .slice none 0 0, .slice none 0 0, .slice none 0 0, .bool false, .slice none 0 0, .int .i64 0, .slice none 0 0, .int .i64 0, .bool false, .slice none 0 0, .int .i64 0, .slice none 0 0, .int .i64 0] 55))) g5
       have m:=a6 (s.old (M:=wr.heap.size) (a8) (fun k hk=>by cases hk;exact a8));have H5:=a6 h5;have p5:=(t.o.kept m.o).cell 0 rfl;have p6:=(t.o.kept m.o).cell 1 rfl;have p7:=(t.o.kept m.o).lt
       have o:=a6 (b6 C.o m.o);have v:=a6 (H3.o w5 (T.o w5 (b6 B.o (b.o.trans (o.o.mono b.o.size)))));clear h5 g5 s;go_wp2_with (refine bZ rfl _ _ rfl wr.heap.size #[.int .i64 kd, .slice pa p.length pc, .slice ta d.length tc, .int .i64 pos, .bool l0, .slice a1 m1 c1, .slice a2 m2 c2, .slice a3 m3 c3, .slice oa ol.length oc, .slice none 0 0, .slice none 0 0, .bool false, .slice none 0 0, .int .i64 0, .slice none 0 0, .int .i64 0, .bool false, .slice none 0 0, .int .i64 0, .slice none 0 0, .int .i64 0] rfl H5.o _ Tryz.underlying55 rfl P3 ?_);refine v.o.mono ?_;rintro e w6 ⟨l,va,vc,vi,vb,rfl⟩;have f:=a6 (b6 o.o l)
       have x0:=(w.o.kept (b6 b.o f.o)).cell 0 rfl;have xl:=(w.o.kept (b6 b.o f.o)).lt;clear l v p5 p6 p7;go_wp2_with fail
       go_roundg 1
       case measure=>omega
       case rel=>exact⟨1,rfl,by omega,f.o.trans ((b7 w6 _).mono f.o.size)⟩
     go_wp2_with (first
      | (refine FX rfl _ _ rfl (wo.heap.size+1) 21 [.int .i64 kd, .slice pa p.length pc, .slice ta d.length tc, .int .i64 pos, .bool l0, .slice a1 m1 c1, .slice a2 m2 c2, .slice a3 m3 c3, .slice oa ol.length oc, .slice none 0 0, .slice none 0 0, .bool false, .slice none 0 0, .int .i64 0, .slice none 0 0, .int .i64 0, .bool false, .slice none 0 0, .int .i64 0, .slice none 0 0, .int .i64 0, .int .i64 kd2, .slice qa q.length qc, .slice ra r.length rc, .int .i64 pos2,v4,v5,v6,v7,v8,v9,v10,v11,v12,v13,v14,v15,v16,v17,v18,v19,v20] 55 #[.int .i64 kd2, .slice qa q.length qc, .slice ra r.length rc, .int .i64 pos2,v4,v5,v6,v7,v8,v9,v10,v11,v12,v13,v14,v15,v16,v17,v18,v19,v20] rfl I.o rfl _ Tryz.underlying55 rfl P3 ?_)
      | (refine m6 rfl _ _ _ rfl rfl wr.heap.size [.int .i64 0, .slice none 0 0, .slice none 0 0, .int .i64 0, .bool false, .slice none 0 0, .slice none 0 0, .slice none 0 0, .slice none 0 0, .slice none 0 0, .slice none 0 0, .bool false, .slice none 0 0, .int .i64 0, .slice none 0 0, .int .i64 0, .bool false, .slice none 0 0, .int .i64 0, .slice none 0 0, .int .i64 0] #[.int .i64 kd2, .slice qa q.length qc, .slice ra r.length rc, .int .i64 pos2,v4,v5,v6,v7,v8,v9,v10,v11,v12,v13,v14,v15,v16,v17,v18,v19,v20] rfl rfl (At.fresh wr _ _) rfl G.o P3 ?_))
     intro w5 h5 g5;have s:=fK (cX (b7 wr (Obj.cells #[.int .i64 0, .slice none 0 0, .slice none 0 0, .int .i64 0, .bool false, .slice none 0 0, .slice none 0 0, .slice none 0 0, .slice none 0 0, .slice none 0 0, .slice none 0 0, .bool false, .slice none 0 0, .int .i64 0, .slice none 0 0, .int .i64 0, .bool false, .slice none 0 0, .int .i64 0, .slice none 0 0, .int .i64 0] 55))) g5
     have m:=a6 (s.old (M:=wr.heap.size) (a8) (fun k hk=>by cases hk;exact a8));have H5:=a6 h5;have p5:=(t.o.kept m.o).cell 0 rfl;have p6:=(t.o.kept m.o).cell 1 rfl;have p7:=(t.o.kept m.o).lt
     have o:=a6 (b6 C.o m.o);have v:=a6 (h0.o w5 (h6.o w5 (b6 B.o (b.o.trans (o.o.mono b.o.size)))));clear h5 g5 s;go_wp2_with (refine bZ rfl _ _ rfl wr.heap.size #[.int .i64 kd2, .slice qa q.length qc, .slice ra r.length rc, .int .i64 pos2,v4,v5,v6,v7,v8,v9,v10,v11,v12,v13,v14,v15,v16,v17,v18,v19,v20] rfl H5.o _ Tryz.underlying55 rfl P3 ?_);refine v.o.mono ?_;rintro e w6 ⟨l,va,vc,vi,vb,rfl⟩;have f:=a6 (b6 o.o l)
     have x0:=(w.o.kept (b6 b.o f.o)).cell 0 rfl;have xl:=(w.o.kept (b6 b.o f.o)).lt;clear l v p5 p6 p7;go_wp2_with fail
     go_roundg 0
     case measure=>omega
     case rel=>exact⟨2,rfl,by omega,f.o.trans ((b7 w6 _).mono f.o.size)⟩
  ·
    go_wp2_with (first
     | (refine bZ rfl _ _ rfl (W.heap.size+1) #[.int .i64 kd, .slice pa p.length pc, .slice ta d.length tc, .int .i64 pos, .bool l0, .slice a1 m1 c1, .slice a2 m2 c2, .slice a3 m3 c3, .slice oa ol.length oc, .slice none 0 0, .slice none 0 0, .bool false, .slice none 0 0, .int .i64 0, .slice none 0 0, .int .i64 0, .bool false, .slice none 0 0, .int .i64 0, .slice none 0 0, .int .i64 0] rfl (h7.o.alloc _) _ Tryz.underlying55 rfl P3 ?_)
     | (refine bZ rfl _ _ rfl w1.heap.size #[.int .i64 kd2, .slice qa q.length qc, .slice ra r.length rc, .int .i64 pos2,v4,v5,v6,v7,v8,v9,v10,v11,v12,v13,v14,v15,v16,v17,v18,v19,v20] rfl (h8.o.alloc _) _ Tryz.underlying55 rfl P3 ?_))
    obtain⟨w4,u⟩:∃w4,w4=(wr.alloc (Obj.cells #[Value.slice none 0 0,Value.int .i64 0] 49)).alloc (Obj.cells #[.int .i64 kd, .slice pa p.length pc, .slice ta d.length tc, .int .i64 pos, .bool l0, .slice a1 m1 c1, .slice a2 m2 c2, .slice a3 m3 c3, .slice oa ol.length oc, .slice none 0 0, .slice none 0 0, .bool false, .slice none 0 0, .int .i64 0, .slice none 0 0, .int .i64 0, .bool false, .slice none 0 0, .int .i64 0, .slice none 0 0, .int .i64 0, .int .i64 kd2, .slice qa q.length qc, .slice ra r.length rc, .int .i64 pos2,v4,v5,v6,v7,v8,v9,v10,v11,v12,v13,v14,v15,v16,v17,v18,v19,v20] 55):=⟨_,rfl⟩;have b:=a6 (show Below wr wr w4 by rw [u];exact g8 _ _ _);have HP:=a6 (show At w4 wr [Value.slice none 0 0,Value.int .i64 0] 49 by rw [u];exact(At.fresh _ _ _).alloc _);have HO:=a6 (show At w4 (wr+1) [.int .i64 kd, .slice pa p.length pc, .slice ta d.length tc, .int .i64 pos, .bool l0, .slice a1 m1 c1, .slice a2 m2 c2, .slice a3 m3 c3, .slice oa ol.length oc, .slice none 0 0, .slice none 0 0, .bool false, .slice none 0 0, .int .i64 0, .slice none 0 0, .int .i64 0, .bool false, .slice none 0 0, .int .i64 0, .slice none 0 0, .int .i64 0, .int .i64 kd2, .slice qa q.length qc, .slice ra r.length rc, .int .i64 pos2,v4,v5,v6,v7,v8,v9,v10,v11,v12,v13,v14,v15,v16,v17,v18,v19,v20] 55 by rw [u];exact At.second _ _ _ _);rw [<- u];clear u p0 p1 p2 p3 pl;generalize U:wr=wo at *;clear U;go_loopg [34,10,11,12] 2 (fun g i _ _ _ wr=>∃k:Nat,i= .int .i64 k/\k+g=2/\Hid (Below w4 w4 wr))
    case atStart=>exact⟨0,rfl,rfl,a7⟩
    case round=>
     obtain⟨k,rfl,J9,x⟩:=hrel;have t:=a6 (HP.o.kept x.o);have I:=a6 (HO.o.kept x.o)
     have C:=a6 x.o;clear x;have hk:k=2∨k=0∨k=1:=P2
     rcases hk with rfl | rfl | rfl
     . go_wp2_with fail
       go_roundg 0
       case measure=>omega
       case rel=>exact⟨2,rfl,by omega,(show Below _ _ _ from b6 h9.o (b.o.trans (C.o.mono b.o.size)))⟩
     . go_wp2_with (first
        | (refine FX rfl _ _ rfl (wo.heap.size+1) 0 [.int .i64 kd, .slice pa p.length pc, .slice ta d.length tc, .int .i64 pos, .bool l0, .slice a1 m1 c1, .slice a2 m2 c2, .slice a3 m3 c3, .slice oa ol.length oc, .slice none 0 0, .slice none 0 0, .bool false, .slice none 0 0, .int .i64 0, .slice none 0 0, .int .i64 0, .bool false, .slice none 0 0, .int .i64 0, .slice none 0 0, .int .i64 0, .int .i64 kd2, .slice qa q.length qc, .slice ra r.length rc, .int .i64 pos2,v4,v5,v6,v7,v8,v9,v10,v11,v12,v13,v14,v15,v16,v17,v18,v19,v20] 55 #[.int .i64 kd, .slice pa p.length pc, .slice ta d.length tc, .int .i64 pos, .bool l0, .slice a1 m1 c1, .slice a2 m2 c2, .slice a3 m3 c3, .slice oa ol.length oc, .slice none 0 0, .slice none 0 0, .bool false, .slice none 0 0, .int .i64 0, .slice none 0 0, .int .i64 0, .bool false, .slice none 0 0, .int .i64 0, .slice none 0 0, .int .i64 0] rfl I.o rfl _ Tryz.underlying55 rfl P3 ?_)
        | (refine m6 rfl _ _ _ rfl rfl wr.heap.size [.int .i64 0, .slice none 0 0, .slice none 0 0, .int .i64 0, .bool false, .slice none 0 0, .slice none 0 0, .slice none 0 0, .slice none 0 0, .slice none 0 0, .slice none 0 0, .bool false, .slice none 0 0, .int .i64 0, .slice none 0 0, .int .i64 0, .bool false, .slice none 0 0, .int .i64 0, .slice none 0 0, .int .i64 0] #[.int .i64 kd, .slice pa p.length pc, .slice ta d.length tc, .int .i64 pos, .bool l0, .slice a1 m1 c1, .slice a2 m2 c2, .slice a3 m3 c3, .slice oa ol.length oc, .slice none 0 0, .slice none 0 0, .bool false, .slice none 0 0, .int .i64 0, .slice none 0 0, .int .i64 0, .bool false, .slice none 0 0, .int .i64 0, .slice none 0 0, .int .i64 0] rfl rfl (At.fresh wr _ _) rfl rfl P3 ?_))
       intro w5 h5 g5;have s:=fK (cX (b7 wr (Obj.cells #[.int .i64 0, .slice none 0 0, .slice none 0 0, .int .i64 0, .bool false, .slice none 0 0, .slice none 0 0, .slice none 0 0, .slice none 0 0, .slice none 0 0, .slice none 0 0, .bool false, .slice none 0 0, .int .i64 0, .slice none 0 0, .int .i64 0, .bool false, .slice none 0 0, .int .i64 0, .slice none 0 0, .int .i64 0] 55))) g5
       have m:=a6 (s.old (M:=wr.heap.size) (a8) (fun k hk=>by cases hk;exact a8));have H5:=a6 h5;have p5:=(t.o.kept m.o).cell 0 rfl;have p6:=(t.o.kept m.o).cell 1 rfl;have p7:=(t.o.kept m.o).lt
       have o:=a6 (b6 C.o m.o);have v:=a6 (H3.o w5 (T.o w5 (b6 B.o (b.o.trans (o.o.mono b.o.size)))));clear h5 g5 s;go_wp2_with (refine bZ rfl _ _ rfl wr.heap.size #[.int .i64 kd, .slice pa p.length pc, .slice ta d.length tc, .int .i64 pos, .bool l0, .slice a1 m1 c1, .slice a2 m2 c2, .slice a3 m3 c3, .slice oa ol.length oc, .slice none 0 0, .slice none 0 0, .bool false, .slice none 0 0, .int .i64 0, .slice none 0 0, .int .i64 0, .bool false, .slice none 0 0, .int .i64 0, .slice none 0 0, .int .i64 0] rfl H5.o _ Tryz.underlying55 rfl P3 ?_);refine v.o.mono ?_;rintro e w6 ⟨l,va,vc,vi,vb,rfl⟩;have f:=a6 (b6 o.o l)
       have x0:=(w.o.kept (b6 b.o f.o)).cell 0 rfl;have xl:=(w.o.kept (b6 b.o f.o)).lt;clear l v p5 p6 p7;go_wp2_with fail
       go_roundg 1
       case measure=>omega
       case rel=>exact⟨1,rfl,by omega,f.o.trans ((b7 w6 _).mono f.o.size)⟩
     go_wp2_with (first
      | (refine FX rfl _ _ rfl (wo.heap.size+1) 21 [.int .i64 kd, .slice pa p.length pc, .slice ta d.length tc, .int .i64 pos, .bool l0, .slice a1 m1 c1, .slice a2 m2 c2, .slice a3 m3 c3, .slice oa ol.length oc, .slice none 0 0, .slice none 0 0, .bool false, .slice none 0 0, .int .i64 0, .slice none 0 0, .int .i64 0, .bool false, .slice none 0 0, .int .i64 0, .slice none 0 0, .int .i64 0, .int .i64 kd2, .slice qa q.length qc, .slice ra r.length rc, .int .i64 pos2,v4,v5,v6,v7,v8,v9,v10,v11,v12,v13,v14,v15,v16,v17,v18,v19,v20] 55 #[.int .i64 kd2, .slice qa q.length qc, .slice ra r.length rc, .int .i64 pos2,v4,v5,v6,v7,v8,v9,v10,v11,v12,v13,v14,v15,v16,v17,v18,v19,v20] rfl I.o rfl _ Tryz.underlying55 rfl P3 ?_)
      | (refine m6 rfl _ _ _ rfl rfl wr.heap.size [.int .i64 0, .slice none 0 0, .slice none 0 0, .int .i64 0, .bool false, .slice none 0 0, .slice none 0 0, .slice none 0 0, .slice none 0 0, .slice none 0 0, .slice none 0 0, .bool false, .slice none 0 0, .int .i64 0, .slice none 0 0, .int .i64 0, .bool false, .slice none 0 0, .int .i64 0, .slice none 0 0, .int .i64 0] #[.int .i64 kd2, .slice qa q.length qc, .slice ra r.length rc, .int .i64 pos2,v4,v5,v6,v7,v8,v9,v10,v11,v12,v13,v14,v15,v16,v17,v18,v19,v20] rfl rfl (At.fresh wr _ _) rfl G.o P3 ?_))
     intro w5 h5 g5;have s:=fK (cX (b7 wr (Obj.cells #[.int .i64 0, .slice none 0 0, .slice none 0 0, .int .i64 0, .bool false, .slice none 0 0, .slice none 0 0, .slice none 0 0, .slice none 0 0, .slice none 0 0, .slice none 0 0, .bool false, .slice none 0 0, .int .i64 0, .slice none 0 0, .int .i64 0, .bool false, .slice none 0 0, .int .i64 0, .slice none 0 0, .int .i64 0] 55))) g5
     have m:=a6 (s.old (M:=wr.heap.size) (a8) (fun k hk=>by cases hk;exact a8));have H5:=a6 h5;have p5:=(t.o.kept m.o).cell 0 rfl;have p6:=(t.o.kept m.o).cell 1 rfl;have p7:=(t.o.kept m.o).lt
     have o:=a6 (b6 C.o m.o);have v:=a6 (h0.o w5 (h6.o w5 (b6 B.o (b.o.trans (o.o.mono b.o.size)))));clear h5 g5 s;go_wp2_with (refine bZ rfl _ _ rfl wr.heap.size #[.int .i64 kd2, .slice qa q.length qc, .slice ra r.length rc, .int .i64 pos2,v4,v5,v6,v7,v8,v9,v10,v11,v12,v13,v14,v15,v16,v17,v18,v19,v20] rfl H5.o _ Tryz.underlying55 rfl P3 ?_);refine v.o.mono ?_;rintro e w6 ⟨l,va,vc,vi,vb,rfl⟩;have f:=a6 (b6 o.o l)
     have x0:=(w.o.kept (b6 b.o f.o)).cell 0 rfl;have xl:=(w.o.kept (b6 b.o f.o)).lt;clear l v p5 p6 p7;go_wp2_with fail
     go_roundg 0
     case measure=>omega
     case rel=>exact⟨2,rfl,by omega,f.o.trans ((b7 w6 _).mono f.o.size)⟩
theorem e_K:∀ (p:List Int) (n k:aX),l9 n p=some k ->∀z∈p,0 <= z/\z < n.wt
 | [],n,k,h,z,hz=>by cases hz
 | i::p,n,k,h,z,hz=>by
   obtain⟨j,rfl,hj,h2⟩:=jQ h;have h3:=i7 (aY n);have h4:fY (aY n) < n.wt:=by cases n;simp only [aX.wt,aY];omega
   rcases OJ hz with rfl | hz
   . omega
   have h5:=e_K p _ k h2 z hz;have h6:=jJ (NY hj)
   omega
theorem a_q:∀ (p:List Int) (n k:aX),l9 n p=some k ->p.length < n.wt
 | [],n,k,h=>by have:=J4 n;show 0 < n.wt;omega
 | i::p,n,k,h=>by
   obtain⟨j,rfl,hj,h2⟩:=jQ h;have h4:fY (aY n) < n.wt:=by cases n;simp only [aX.wt,aY];omega
   have h5:=a_q p _ k h2;have h6:=jJ (NY hj);simp only [O7];omega
theorem o_U {n X m:aX} {p:List Int} (h:K4 n p m=(X,0)):(∀z∈p,0 <= z/\z <= n.wt)/\p.length <= n.wt:=by
 unfold K4 at h;split at h
 . simp at h
 rename_i hp
 split at h
 . simp at h
 rename_i k hk
 split at h
 . simp at h
 split at h
 . simp at h
 rename_i hl
 have h1:=e_K _ _ _ hk;have h2:=a_q _ _ _ hk;have h3:=zJ _ _ _ hk;have h4:=i7 (aY k);have h5:fY (aY k) < k.wt:=by cases k;simp only [aX.wt,aY];omega
 rw [<- f_V hp];refine⟨fun z hz=> ?_,by simp at h2⊢;omega⟩;rcases OQ hz with hz | hz
 . have:=h1 z hz;omega
 rw [O9 hz];omega
theorem e_L {n X:aX} {o:fZ} (hk:IJ o.kind) (hw:n.wt <= 100000000) (h:nZ n o.full=(X,0)):(∀z∈o.path,0 <= z/\z <= n.wt)/\o.path.length <= n.wt:=by
 obtain⟨-, -, -, -,⟨-, -,h2⟩ | ⟨-,R,k,h2, -, -, -, -⟩⟩:=EK hk hw h
 . exact o_U h2
 obtain⟨hp,h3, -⟩:=c_F h2;exact⟨fun z hz=>by have:=e_K _ _ _ h3 z hz;omega,Nat.le_of_lt (a_q _ _ _ h3)⟩
def o_W (W:World) (X:aX) (e:Ending) (w':World):Prop:=Below W W w'/\∃ (x0:Bool) (x1 x2 x3:Option Addr) (y1 y2 y3 z1 z2 z3:Nat) (sa sb:Option Addr) (sc sd:Nat),
 e= .returned (.tuple #[.agg #[x0,(x1,y1,z1),(x2,y2,z2),(x3,y3,z3)], .agg #[false, .slice sa 0 sc,OY, .slice sb 0 sd,OY],OY])/\NodeQ w' (fun b=>W.heap.size <= b) X [x0,(x1,y1,z1),(x2,y2,z2),(x3,y3,z3)]
theorem q_N (n X:aX) (p d:List Int) (kd pos:Int) (nd:aX) (ol:List fQ) (b1 b2 b3:Option Addr) (o1 o2 o3 d1 d2 d3:Nat) (pa ta oa:Option Addr) (pc tc oc:Nat) (l0:Bool) (a1 a2 a3:Option Addr) (m1 m2 m3 c1 c2 c3:Nat) (W:World)
 (j3:n.wt <= 1000000) (hv:bY W W n (.agg #[false,(b1,o1,d1),(b2,o2,d2),(b3,o3,d3)])) (j2:nd.wt <= 1000000) (hn:bY W W nd (.agg #[l0,(a1,m1,c1),(a2,m2,c2),(a3,m3,c3)]))
 (hp:RowA W W 1 pa p.length pc (p.map (Value.int .i64))) (hd:RowA W W 1 ta d.length tc (d.map (Value.int .i64))) (O:d.length <= 1000000) (ho:RowA W W 2 oa ol.length oc (cK ol)) (h6:ol.length <= 100000000)
 (hk:IJ kd) (u:nZ n (fZ.full ⟨kd,p,d,pos,nd,ol⟩)=(X,0)):
 Calls Tryz.prog 14 #[.agg #[false,(b1,o1,d1),(b2,o2,d2),(b3,o3,d3)],K9, .agg #[kd,(pa,p.length,pc),(ta,d.length,tc),pos,l0,(a1,m1,c1),(a2,m2,c2),(a3,m3,c3),(oa,ol.length,oc),(),(),false,(),OY,(),OY,false,(),OY,(),OY]] W (o_W W X):=by
 obtain⟨x,y⟩:=e_L (o:=⟨kd,p,d,pos,nd,ol⟩) hk P2 u;simp only at x y;have y:p.length <= 1000000:=P2
 have K:∀z∈p, -9223372036854775807 <= z/\z <= 9223372036854775807:=fun z hz=>by have:=x z hz;omega
 have h7:=KQ (o:=⟨kd,p,d,pos,nd,ol⟩) hk P2 u;obtain⟨hE,h8,A,Q,i⟩:=EK (o:=⟨kd,p,d,pos,nd,ol⟩) hk P2 u;obtain⟨fs,S,L,T⟩:=j_T hk;have B:∀c∈onB (EJ p d pos nd ol),c∈fs:=i_7 (o:=⟨kd,p,d,pos,nd,ol⟩) Q S;simp only at A i;have h3:kd=3 ->0 < jK p:=by
  rcases i with⟨h, -⟩ | ⟨-,R,k, -, -, -,h, -⟩
  . intro e;omega
  exact h
 have h5:kd=5 ->d≠ []:=by
  rcases i with⟨h, -⟩ | ⟨-,R,k, -, -, -, -,h⟩
  . intro e;omega
  exact h
 obtain⟨w0,m⟩:∃w0,w0=((((W.alloc (Obj.cells #[false,(b1,o1,d1),(b2,o2,d2),(b3,o3,d3)] 35)).alloc (Obj.cells #[false,(),OY,(),OY] 53)).alloc (Obj.cells #[kd,(pa,p.length,pc),(ta,d.length,tc),pos,l0,(a1,m1,c1),(a2,m2,c2),(a3,m3,c3),(oa,ol.length,oc),(),(),false,(),OY,(),OY,false,(),OY,(),OY] 55)).alloc (Obj.cells #[false,(),(),()] 35)).alloc (Obj.cells #[false,(),OY,(),OY] 53):=⟨_,rfl⟩;have g:Below W W w0:=by rw [m];exact b_f _ _ _ _ _ _
 have U:w0.heap.size=W.heap.size+5:=by rw [m];simp
 have hA:At w0 W [false,(b1,o1,d1),(b2,o2,d2),(b3,o3,d3)] 35:=by rw [m];exact((((At.fresh W _ _).alloc _).alloc _).alloc _).alloc _
 have hS:At w0 (W+1) [false,(),OY,(),OY] 53:=by rw [m];exact(((At.second W _ _ _).alloc _).alloc _).alloc _
 have hO:At w0 (W.heap.size+1+1) [kd,(pa,p.length,pc),(ta,d.length,tc),pos,l0,(a1,m1,c1),(a2,m2,c2),(a3,m3,c3),(oa,ol.length,oc),(),(),false,(),OY,(),OY,false,(),OY,(),OY] 55:=by rw [m];exact((At.third W _ _ _ _).alloc _).alloc _
 have hB:At w0 (W.heap.size+1+1+1) [false,(),(),()] 35:=by rw [m];exact(At.fourth W _ _ _ _ _).alloc _
 have hC:At w0 (W.heap.size+1+1+1+1) [false,(),OY,(),OY] 53:=by rw [m];exact At.fifth W _ _ _ _ _ _
 have C:∀w',Below w0 w0 w' ->bY w' w' nd (.agg #[l0,(a1,m1,c1),(a2,m2,c2),(a3,m3,c3)]):=fun w' hb=>by
  obtain⟨cs,he,hc⟩:=hn;exact⟨cs,he,dY.keep (g.trans (hb.mono g.size)) (g.trans (hb.mono g.size)).size _ _ hc⟩
 have D:∀w',Below w0 w0 w' ->bY w' w' n (.agg #[false,(b1,o1,d1),(b2,o2,d2),(b3,o3,d3)]):=fun w' hb=>by
  obtain⟨cs,he,hc⟩:=hv;exact⟨cs,he,dY.keep (g.trans (hb.mono g.size)) (g.trans (hb.mono g.size)).size _ _ hc⟩
 have q:∀ {sz:Nat} {a:Option Addr} {n c:Nat} {cs:List Value} (w':World),Below w0 w0 w' ->RowA W W sz a n c cs ->RowA w' w' sz a n c cs:=fun w' hb hr=>hr.keep (g.trans (hb.mono g.size)) (g.trans (hb.mono g.size)).size
 have HM:=a6 (r_U n p d kd pos nd ol b1 b2 b3 o1 o2 o3 d1 d2 d3 pa ta oa pc tc oc l0 a1 a2 a3 m1 m2 m3 c1 c2 c3 w0 P2 (D w0 (a7)) hE P2 (C w0 (a7)) A fs L T B);have HT:=a6 (fun(w':World) (hb:Below w0 w0 w')=>q_M p d kd pos nd ol pa ta oa pc tc oc l0 a1 a2 a3 m1 m2 m3 c1 c2 c3 w' P2 (C w' hb) A fs L T B (q w' hb hp) y (q w' hb hd) O (q w' hb ho) h6 hk h3 h5 K);have HH:Hid (∀w',Below w0 w0 w' ->Calls Tryz.prog 66 #[.agg #[false,(b1,o1,d1),(b2,o2,d2),(b3,o3,d3)], .agg #[kd,(pa,p.length,pc),(ta,d.length,tc),pos,l0,(a1,m1,c1),(a2,m2,c2),(a3,m3,c3),(oa,ol.length,oc),(),(),false,(),OY,(),OY,false,(),OY,(),OY]] w' (AX w' (X,0))):=by
  show ∀w',_
  intro w' hb;rcases i with⟨rfl,h9,V⟩ | ⟨-,R,k,hcut,J0, -, -, -⟩
  . exact j_Z n X p d pos nd ol _ pa ta oa pc tc oc l0 a1 a2 a3 m1 m2 m3 c1 c2 c3 w' P2 (D w' hb) P2 (C w' hb) (q w' hb hp) y h9 V
  have j4:=o_q hcut;exact j_R n R k X p d kd pos nd ol _ pa ta oa pc tc oc l0 a1 a2 a3 m1 m2 m3 c1 c2 c3 w' P2 P2 P2 (D w' hb) P2 (C w' hb) A (q w' hb hp) y K (q w' hb hd) O (q w' hb ho) hcut J0
 have j5:((kd:Int) == 9)=false:=by rcases hk with h | h | h | h <;> subst h <;> rfl
 have HA:=a6 hA;have HS:=a6 hS;have HO:=a6 hO;have HB:=a6 hB;have HC:=a6 hC
 have Y:=a6 g;have J1:=a6 U;have Z:=a6 m
 obtain⟨⟨f0,f1,f2,f3⟩, -,fl⟩:=hA.f4;have s0:=hS.cell 0 rfl;have s1:=hS.cell 1 rfl;have s2:=hS.cell 2 rfl;have s3:=hS.cell 3 rfl;have s4:=hS.cell 4 rfl;have sl:=hS.lt
 clear hA hS hO hB hC g U m hn hv hp hd ho C D q L B h3 h5 A K hk u h7 i x hE h8 Q S;unfold o_W;go_enter Tryz.func14,Tryz.ntmps14;go_upto_region 1 with fail;rw [<- Z.o];clear Z;go_wp2_with (refine bZ rfl _ _ rfl (W.heap.size+1+1) #[kd,(pa,p.length,pc),(ta,d.length,tc),pos,l0,(a1,m1,c1),(a2,m2,c2),(a3,m3,c3),(oa,ol.length,oc),(),(),false,(),OY,(),OY,false,(),OY,(),OY] rfl HO.o _ Tryz.underlying55 rfl P3 ?_);refine HM.o.mono ?_;rintro e w1 ⟨rfl,f⟩;have E:=a6 f
 have F:=a6 (HO.o.kept f);have k0:=F.o.cell 0 rfl;have kl:=F.o.lt
 clear f HM f0 f1 f2 f3 fl s0 s1 s2 s3 s4 sl;go_upto_region 11 with fail
 clear k0 kl;obtain⟨⟨f0,f1,f2,f3⟩, -,fl⟩:=(HA.o.kept E.o).f4
 go_wp2_with (refine bZ rfl _ _ rfl (W.heap.size+1+1) #[kd,(pa,p.length,pc),(ta,d.length,tc),pos,l0,(a1,m1,c1),(a2,m2,c2),(a3,m3,c3),(oa,ol.length,oc),(),(),false,(),OY,(),OY,false,(),OY,(),OY] rfl F.o _ Tryz.underlying55 rfl P3 ?_)
 refine(HH.o w1 E.o).mono ?_;rintro e w2 H0;obtain⟨f,⟨-,x0,x1,y1,z1,x2,y2,z2,x3,y3,z3,rfl,hX⟩ | ⟨h, -⟩⟩:=H0.cases
 rotate_left
 . exact absurd rfl h
 simp only at hX;have J2:=a6 (b6 E.o f)
 have H1:=a6 hX;have M:=a6 f.size;have H2:=a6 (show W.heap.size+5 <= w1.heap.size by have h1:=E.o.size;have h2:=J1.o;omega);clear H0 f hX HH F HA f0 f1 f2 f3 fl;go_upto_region 12 with fail
 obtain⟨w3,G⟩:∃w3,w3=w2.alloc (Obj.cells #[x0,(x1,y1,z1),(x2,y2,z2),(x3,y3,z3)] 35):=⟨_,rfl⟩;have H:Below w2 w2 w3:=by rw [G];exact b7 _ _
 have H3:=a6 (show At w3 w2 [x0,(x1,y1,z1),(x2,y2,z2),(x3,y3,z3)] 35 by rw [G];exact At.fresh _ _ _);have I:=a6 (b6 J2.o H);have H4:=a6 (show NodeQ w3 (fun b=>w1.heap.size <= b/\b≠w2.heap.size) X [x0,(x1,y1,z1),(x2,y2,z2),(x3,y3,z3)]from NodeQ.keep H.size (fun b _ w=>H.block b w) (fun b hb w=>⟨hb,by omega⟩) _ _ H1.o);rw [<- G];have hl:=At.load (P:=Tryz.prog) (HO.o.kept I.o) Tryz.underlying55 rfl P3
 simp [go_sem]at hl
 have s:=a6 (HS.o.kept I.o);have s0:=s.o.cell 0 rfl;have s1:=s.o.cell 1 rfl;have s2:=s.o.cell 2 rfl;have s3:=s.o.cell 3 rfl;have s4:=s.o.cell 4 rfl;have sl:=s.o.lt
 have H5:=a6 (HT.o w3 I.o);clear G H HT H1;go_wp2_with fail;refine H5.o.mono ?_;rintro e w4 ⟨rfl,f⟩;have N:=a6 (b6 I.o f)
 have H6:=a6 (H3.o.kept f);have H7:=a6 (s.o.kept f)
 have J3:=a6 (show NodeQ w4 (fun b=>w1.heap.size <= b/\b≠w2.heap.size) X [x0,(x1,y1,z1),(x2,y2,z2),(x3,y3,z3)]from NodeQ.keep f.size (fun b _ w=>f.block b w) (fun _ h _=>h) _ _ H4.o);have H8:=a6 M.o;clear f H5 H4 hl s0 s1 s2 s3 s4 sl H3 s;go_upto_region 16 with fail
 have J4:=a6 (HB.o.kept N.o);have J5:=a6 (HC.o.kept N.o)
 have J:W.heap.size+5 <= w1.heap.size:=H2.o;have H9:w1.heap.size <= w2.heap.size:=H8.o;have J6:Hid (∀w',At w' w2 [x0,(x1,y1,z1),(x2,y2,z2),(x3,y3,z3)] 35 ->At w' (W+1) [false,(),OY,(),OY] 53 ->w'.cell? w2=some (.bool x0)/\w'.cell? (P0 w2 1)=some (.slice x1 y1 z1)/\w'.cell? (P0 w2 2)=some (.slice x2 y2 z2)/\w'.cell? (P0 w2 3)=some (.slice x3 y3 z3)/\w'.cell? (P0 (W+1) 0)=some (.bool false)/\w'.cell? (P0 (W+1) 1)=some (.slice none 0 0)/\w'.cell? (P0 (W+1) 2)=some (.int .i64 0)/\w'.cell? (P0 (W+1) 3)=some (.slice none 0 0)/\w'.cell? (P0 (W+1) 4)=some (.int .i64 0)):=by
  show ∀w',_
  intro w' h1 h2;exact⟨h1.cell 0 rfl,h1.cell 1 rfl,h1.cell 2 rfl,h1.cell 3 rfl,h2.cell 0 rfl,h2.cell 1 rfl,h2.cell 2 rfl,h2.cell 3 rfl,h2.cell 4 rfl⟩
 go_cut [8] (fun r wx=>r= .int .i64 0/\(∃ (sa sb:Option Addr) (sc sd:Nat),At wx (W.heap.size+1+1+1+1) [false, .slice sa 0 sc,OY, .slice sb 0 sd,OY] 53)/\At wx (W.heap.size+1+1+1) [x0,(x1,y1,z1),(x2,y2,z2),(x3,y3,z3)] 35/\NodeQ wx (fun b=>w1.heap.size <= b/\b≠w2.heap.size) X [x0,(x1,y1,z1),(x2,y2,z2),(x3,y3,z3)]/\Below W W wx)
 case first=>
  go_region_held3 (fun w'=>w'.cell? w2=some (.bool x0)/\w'.cell? (P0 w2 1)=some (.slice x1 y1 z1)/\w'.cell? (P0 w2 2)=some (.slice x2 y2 z2)/\w'.cell? (P0 w2 3)=some (.slice x3 y3 z3)/\w'.cell? (P0 (W+1) 0)=some (.bool false)/\w'.cell? (P0 (W+1) 1)=some (.slice none 0 0)/\w'.cell? (P0 (W+1) 2)=some (.int .i64 0)/\w'.cell? (P0 (W+1) 3)=some (.slice none 0 0)/\w'.cell? (P0 (W+1) 4)=some (.int .i64 0)) (refine J6.o _ (by(repeat (first | with_reducible exact H6.o | with_reducible exact J7.o | with_reducible exact At.second _ _ _ _ | with_reducible exact At.fresh _ _ _ | with_reducible refine At.drew ?_ | with_reducible refine At.alloc ?_ _ | (with_reducible refine At.set_ne ?_ ?_ _;rotate_left;omega)))) (by(repeat (first | with_reducible exact H7.o | with_reducible exact J8.o | with_reducible exact At.second _ _ _ _ | with_reducible exact At.fresh _ _ _ | with_reducible refine At.drew ?_ | with_reducible refine At.alloc ?_ _ | (with_reducible refine At.set_ne ?_ ?_ _;rotate_left;omega)))))
   (first
   | (refine bQ rfl 65 _ _ rfl P5 [K9] ?_ _ (r_X _) ?_
      . go_simp
      rintro e w5 ⟨⟨sa,sc,sb,sd,rfl⟩,f⟩;refine⟨_,rfl, ?_⟩;have l:=a6 (Below.and (w0:=w4) P1 f);have J7:=a6 (H6.o.kept l.o);have J8:=a6 (H7.o.kept l.o)
      have h0:=a6 (J4.o.kept l.o);have t:=a6 (J5.o.kept l.o)
      obtain⟨⟨f0,f1,f2,f3⟩,ff,fl⟩:=h0.o.f4;have g0:=t.o.cell 0 rfl;have g1:=t.o.cell 1 rfl;have g2:=t.o.cell 2 rfl;have g3:=t.o.cell 3 rfl;have g4:=t.o.cell 4 rfl;have gl:=t.o.lt
      have gf:=fun j=>Lib.frozen_of_heap t.o j
      clear f))
  all_goals
   go_wp2_with fail
   go_meet
   case rel=>
    have n43:W.heap.size+1+1+1+1≠W.heap.size+1+1+1:=P2
    have n34:W.heap.size+1+1+1≠W.heap.size+1+1+1+1:=P2
    have q3:¬ (w1.heap.size <= W.heap.size+1+1+1/\W.heap.size+1+1+1≠w2.heap.size):=P2
    have q4:¬ (w1.heap.size <= W.heap.size+1+1+1+1/\W.heap.size+1+1+1+1≠w2.heap.size):=P2
    have l3:W.heap.size <= W.heap.size+1+1+1:=P2
    have l4:W.heap.size <= W.heap.size+1+1+1+1:=P2
    have J9:=Y.o.trans ((b6 N.o l.o).mono Y.o.size);have j0:=a6 (show NodeQ w5 (fun b=>w1.heap.size <= b/\b≠w2.heap.size) X [x0,(x1,y1,z1),(x2,y2,z2),(x3,y3,z3)]from NodeQ.keep l.o.size (fun b _ w=>l.o.block b w) (fun _ h _=>h) _ _ J3.o);refine⟨rfl,⟨sa,sb,sc,sd, ?_⟩, ?_, ?_, ?_⟩
    . exact(((((((((t.o.set_ne n43 _).set_ne n43 _).set_ne n43 _).set_ne n43 _).set 0 _).set 1 _).set 2 _).set 3 _).set 4 _)
    . exact(((((((((h0.o.set 0 _).set 1 _).set 2 _).set 3 _).set_ne n34 _).set_ne n34 _).set_ne n34 _).set_ne n34 _).set_ne n34 _)
    . exact(cQ (cQ (cQ (cQ (cQ (cQ (cQ (cQ (cQ j0.o q3) q3) q3) q3) q4) q4) q4) q4) q4)
    exact(((((((((J9.setCell (p:=(P0 (W.heap.size+1+1+1) 0)) l3 _).setCell (p:=(P0 (W.heap.size+1+1+1) 1)) l3 _).setCell (p:=(P0 (W.heap.size+1+1+1) 2)) l3 _).setCell (p:=(P0 (W.heap.size+1+1+1) 3)) l3 _).setCell (p:=(P0 (W.heap.size+1+1+1+1) 0)) l4 _).setCell (p:=(P0 (W.heap.size+1+1+1+1) 1)) l4 _).setCell (p:=(P0 (W.heap.size+1+1+1+1) 2)) l4 _).setCell (p:=(P0 (W.heap.size+1+1+1+1) 3)) l4 _).setCell (p:=(P0 (W.heap.size+1+1+1+1) 4)) l4 _)
 case rest=>
  obtain⟨rfl,⟨sa,sb,sc,sd,hC⟩,hB,hX,f⟩:=hcut;have HX:=a6 hX;have h4:=a6 f
  have j1:=a6 (aJ (show W.heap.size <= W.heap.size+5 by omega) J);obtain⟨⟨f0,f1,f2,f3⟩,ff,fl⟩:=hB.f4;have g0:=hC.cell 0 rfl;have g1:=hC.cell 1 rfl;have g2:=hC.cell 2 rfl;have g3:=hC.cell 3 rfl;have g4:=hC.cell 4 rfl
  clear hB hC hX f J H9;go_wp2_with fail;refine bodyPost_ret (v:= .tuple #[.agg #[x0,(x1,y1,z1),(x2,y2,z2),(x3,y3,z3)], .agg #[false, .slice sa 0 sc,OY, .slice sb 0 sd,OY],OY]) (by simp [results,Tryz.results14,go_sem,f0,f1,f2,f3,g0,g1,g2,g3,g4]) rfl ?_;exact⟨h4.o,x0,x1,x2,x3,y1,y2,y3,z1,z2,z3,sa,sb,sc,sd,rfl,NodeQ.keep (a8) (fun _ _ _=>rfl) (fun b hb _=>aJ j1.o hb.1) _ _ HX.o⟩
theorem h_4 {P:Program} {ops:Array Oper} {rest:List Oper} {o:Oper} {a:Act} {w:World} {Q:Exit ->Act ->World ->Prop} (hg:o.guard=none) (ty:TypeId) (x:Operand) (ho:o.op= .load ty x)
 (N off:Nat) (vs:Array Value) (hx:a.eval x= .pointer (some (N,off))) (h:w.rangeAt N off vs.toList) (d:TypeDesc) (hu:P.underlying ty=some d) (hd:d.isRow=true) (hi:(P.info? ty).map (·.size)=some vs.size)
 (hk:wpList P ops Q rest (a.put o.dst (.agg vs)) w):wpList P ops Q (o::rest) a w:=
 wpList_load_mid hg ty x ho N off hx vs.toList d h hu hd R4 UQ
theorem e_M {w:World} {ok:Nat ->Prop} {n:aX} {b:Bool} {r:List Value} (h:NodeQ w ok n (.bool b::r)):b=b8 n:=by
 obtain⟨l,ps,t,ks⟩:=n;unfold NodeQ at h;obtain⟨_,_,_,_,_,_,_,he, -⟩:=h;injection he with e1 _
 injection e1
def lK:List fZ ->Nat
 | []=>0
 | o::l=>(if o.kind=1 then o.node.wt else 0)+lK l
theorem d_p {n X:aX} {o:C9} {l:List C9} (h:oZ n (o::l)=some X):∃T,nZ n o=(T,0)/\oZ T l=some X:=by
 rw [LX]at h;split at h
 . rename_i h0
   exact⟨(nZ n o).1,by rw [<- h0],h⟩
 cases h
def H0:b5:=⟨[⟨[100,111,99],(4, [112]),(1, []), [],0, []⟩],⟨[],(1, []),(1, []), [],0, []⟩, [1,2,3,4,5,6],100⟩
def s_6 (W:World) (e:Ending) (w':World):Prop:= ∃v,e= .returned v/\SchemaV w' w' H0 v/\Below W W w'
def e_N:List Value:= [.string ⟨#[100,111,99]⟩, .int .i64 4, .string ⟨#[112]⟩, .int .i64 1, .string ⟨#[]⟩,(),OY, .string ⟨#[]⟩]
def b_n (N:Nat):List Value:= [.slice N 1 1, .string ⟨#[]⟩, .int .i64 1, .string ⟨#[]⟩, .int .i64 1, .string ⟨#[]⟩,(),OY, .string ⟨#[]⟩, .int .i64 1, .int .i64 2, .int .i64 3, .int .i64 4, .int .i64 5, .int .i64 6, .int .i64 100]
theorem q_O {w:World} {N:Nat} (h:At w N e_N 27):SchemaV w w H0 (.agg (b_n N).toArray):=by
 refine⟨_,rfl,some ⟨N,0,none⟩,1,e_N,rX H0.els none 0,rfl, ?_,⟨e_N, [],by simp,⟨none,0,rfl,RowA.empty _ _ _⟩,rfl⟩,⟨none,0,rfl,RowA.empty _ _ _⟩,rfl⟩;refine⟨rfl,a8,by unfold maxLen;decide,by intro u hu;simp [e_N]at hu;rcases hu with rfl | rfl | rfl | rfl | rfl | rfl | rfl | rfl <;> rfl,(fun h=>by cases h),fun _=>⟨N,0,rfl,h.lt,fun j u hj=>by rw [O5];exact h.cell j hj⟩⟩
def c_9:aX:= .mk false [(E8, [100,111,99])] [] [.mk true [] [97] []]
def r_r:List fZ:= [⟨1, [0], [],0,gX [112], []⟩,⟨5, [1], [0,0],0,cV, []⟩]
end Go.Proofs.YtmadpclcmjahoaaGreatDoor
namespace Go.Proofs
open Go.Shelf
def Tryz.sortI_ren:Go.Shelf.Ren:=⟨fun | 5=>91 | 8=>163 | 7=>162 | 19=>214 | 20=>215 | 10=>205 | 11=>206 | 12=>207 | 13=>208 | 14=>209 | 15=>210 | 16=>211 | 17=>212 | 18=>213 | 30=>248 | 31=>249 | 32=>250 | 33=>251 | 34=>252 | 35=>253 | 40=>273 | n=>n,fun | 23=>36 | 25=>3 | 3=>3 | 32=>195 | 22=>36 | 0=>0 | 44=>242 | 46=>244 | 4=>4 | 36=>234 | 35=>233 | 41=>239 | 5=>5 | 9=>9 | 53=>278 | 57=>275 | 63=>298 | 64=>123 | n=>n,fun | n=>n⟩
theorem Tryz.sortI:Go.Proofs.SlLaysM.n5 Tryz.prog Tryz.sortI_ren:={
 mixed:=P3
 f5:=⟨Tryz.f91.name,by decide,Tryz.func91.trans (congrArg some P3)⟩
 f7:=⟨Tryz.f162.name,by decide,Tryz.func162.trans (congrArg some P3)⟩
 f8:=Tryz.func163.trans (congrArg some P3)
 f10:=⟨Tryz.f205.name,by decide,Tryz.func205.trans (congrArg some P3)⟩
 f11:=⟨Tryz.f206.name,by decide,Tryz.func206.trans (congrArg some P3)⟩
 f12:=⟨Tryz.f207.name,by decide,Tryz.func207.trans (congrArg some P3)⟩
 f13:=⟨Tryz.f208.name,by decide,Tryz.func208.trans (congrArg some P3)⟩
 f14:=⟨Tryz.f209.name,by decide,Tryz.func209.trans (congrArg some P3)⟩
 f15:=⟨Tryz.f210.name,by decide,Tryz.func210.trans (congrArg some P3)⟩
 f16:=⟨Tryz.f211.name,by decide,Tryz.func211.trans (congrArg some P3)⟩
 f17:=⟨Tryz.f212.name,by decide,Tryz.func212.trans (congrArg some P3)⟩
 f18:=⟨Tryz.f213.name,by decide,Tryz.func213.trans (congrArg some P3)⟩
 f19:=Tryz.func214.trans (congrArg some P3)
 f20:=Tryz.func215.trans (congrArg some P3)
 f30:=⟨Tryz.f248.name,by decide,Tryz.func248.trans (congrArg some P3)⟩
 f31:=Tryz.func249.trans (congrArg some P3)
 f32:=Tryz.func250.trans (congrArg some P3)
 f33:=⟨Tryz.f251.name,by decide,Tryz.func251.trans (congrArg some P3)⟩
 f34:=⟨Tryz.f252.name,by decide,Tryz.func252.trans (congrArg some P3)⟩
 f35:=⟨Tryz.f253.name,by decide,Tryz.func253.trans (congrArg some P3)⟩
 f40:=⟨Tryz.f273.name,by decide,Tryz.func273.trans (congrArg some P3)⟩
 t0:=Tryz.underlying0
 a0:=Tryz.isAgg0
 z0:=Tryz.sizeOf0
 v0:=Tryz.zeroValue0
 t3:=Tryz.underlying3
 a3:=Tryz.isAgg3
 z3:=Tryz.sizeOf3
 v3:=Tryz.zeroValue3
 t4:=Tryz.underlying4
 a4:=Tryz.isAgg4
 z4:=Tryz.sizeOf4
 v4:=Tryz.zeroValue4
 t5:=Tryz.underlying5
 a5:=Tryz.isAgg5
 z5:=Tryz.sizeOf5
 v5:=Tryz.zeroValue5
 t9:=Tryz.underlying9
 a9:=Tryz.isAgg9
 z9:=Tryz.sizeOf9
 v9:=Tryz.zeroValue9
 t22:=Tryz.underlying36
 a22:=Tryz.isAgg36
 z22:=Tryz.sizeOf36
 v22:=Tryz.zeroValue36
 t23:=Tryz.underlying36
 a23:=Tryz.isAgg36
 z23:=Tryz.sizeOf36
 v23:=Tryz.zeroValue36
 t25:=Tryz.underlying3
 a25:=Tryz.isAgg3
 z25:=Tryz.sizeOf3
 v25:=Tryz.zeroValue3
 t32:=Tryz.underlying195
 a32:=Tryz.isAgg195
 z32:=Tryz.sizeOf195
 v32:=Tryz.zeroValue195
 t35:=Tryz.underlying233
 a35:=Tryz.isAgg233
 z35:=Tryz.sizeOf233
 v35:=Tryz.zeroValue233
 t36:=Tryz.underlying234
 a36:=Tryz.isAgg234
 z36:=Tryz.sizeOf234
 v36:=Tryz.zeroValue234
 t41:=Tryz.underlying239
 a41:=Tryz.isAgg239
 z41:=Tryz.sizeOf239
 v41:=Tryz.zeroValue239
 t44:=Tryz.underlying242
 a44:=Tryz.isAgg242
 z44:=Tryz.sizeOf242
 v44:=Tryz.zeroValue242
 t46:=Tryz.underlying244
 a46:=Tryz.isAgg244
 z46:=Tryz.sizeOf244
 v46:=Tryz.zeroValue244
 t53:=Tryz.underlying278
 a53:=Tryz.isAgg278
 z53:=Tryz.sizeOf278
 v53:=Tryz.zeroValue278
 t57:=Tryz.underlying275
 a57:=Tryz.isAgg275
 z57:=Tryz.sizeOf275
 v57:=Tryz.zeroValue275
 t63:=Tryz.underlying298
 a63:=Tryz.isAgg298
 z63:=Tryz.sizeOf298
 v63:=Tryz.zeroValue298
 t64:=Tryz.underlying123
 a64:=Tryz.isAgg123
 z64:=Tryz.sizeOf123
 v64:=Tryz.zeroValue123 }
def Tryz.sortS_ren:Go.Shelf.Ren:=⟨fun | 6=>99 | 8=>163 | 9=>165 | 19=>214 | 20=>215 | 21=>223 | 22=>224 | 23=>225 | 24=>226 | 25=>227 | 26=>228 | 27=>229 | 28=>230 | 29=>231 | 36=>258 | 31=>249 | 32=>250 | 37=>259 | 38=>260 | 39=>261 | 41=>277 | n=>n,fun | 27=>83 | 29=>9 | 3=>3 | 32=>195 | 26=>83 | 0=>0 | 44=>242 | 46=>244 | 4=>4 | 36=>234 | 35=>233 | 41=>239 | 5=>5 | 9=>9 | 53=>278 | 57=>275 | 63=>298 | 64=>123 | n=>n,fun | n=>n⟩
theorem Tryz.sortS:Go.Proofs.SlLaysM.n6 Tryz.prog Tryz.sortS_ren:={
 mixed:=P3
 f6:=⟨Tryz.f99.name,by decide,Tryz.func99.trans (congrArg some P3)⟩
 f8:=Tryz.func163.trans (congrArg some P3)
 f9:=⟨Tryz.f165.name,by decide,Tryz.func165.trans (congrArg some P3)⟩
 f19:=Tryz.func214.trans (congrArg some P3)
 f20:=Tryz.func215.trans (congrArg some P3)
 f21:=⟨Tryz.f223.name,by decide,Tryz.func223.trans (congrArg some P3)⟩
 f22:=⟨Tryz.f224.name,by decide,Tryz.func224.trans (congrArg some P3)⟩
 f23:=⟨Tryz.f225.name,by decide,Tryz.func225.trans (congrArg some P3)⟩
 f24:=⟨Tryz.f226.name,by decide,Tryz.func226.trans (congrArg some P3)⟩
 f25:=⟨Tryz.f227.name,by decide,Tryz.func227.trans (congrArg some P3)⟩
 f26:=⟨Tryz.f228.name,by decide,Tryz.func228.trans (congrArg some P3)⟩
 f27:=⟨Tryz.f229.name,by decide,Tryz.func229.trans (congrArg some P3)⟩
 f28:=⟨Tryz.f230.name,by decide,Tryz.func230.trans (congrArg some P3)⟩
 f29:=⟨Tryz.f231.name,by decide,Tryz.func231.trans (congrArg some P3)⟩
 f31:=Tryz.func249.trans (congrArg some P3)
 f32:=Tryz.func250.trans (congrArg some P3)
 f36:=⟨Tryz.f258.name,by decide,Tryz.func258.trans (congrArg some P3)⟩
 f37:=⟨Tryz.f259.name,by decide,Tryz.func259.trans (congrArg some P3)⟩
 f38:=⟨Tryz.f260.name,by decide,Tryz.func260.trans (congrArg some P3)⟩
 f39:=⟨Tryz.f261.name,by decide,Tryz.func261.trans (congrArg some P3)⟩
 f41:=⟨Tryz.f277.name,by decide,Tryz.func277.trans (congrArg some P3)⟩
 t0:=Tryz.underlying0
 a0:=Tryz.isAgg0
 z0:=Tryz.sizeOf0
 v0:=Tryz.zeroValue0
 t3:=Tryz.underlying3
 a3:=Tryz.isAgg3
 z3:=Tryz.sizeOf3
 v3:=Tryz.zeroValue3
 t4:=Tryz.underlying4
 a4:=Tryz.isAgg4
 z4:=Tryz.sizeOf4
 v4:=Tryz.zeroValue4
 t5:=Tryz.underlying5
 a5:=Tryz.isAgg5
 z5:=Tryz.sizeOf5
 v5:=Tryz.zeroValue5
 t9:=Tryz.underlying9
 a9:=Tryz.isAgg9
 z9:=Tryz.sizeOf9
 v9:=Tryz.zeroValue9
 t26:=Tryz.underlying83
 a26:=Tryz.isAgg83
 z26:=Tryz.sizeOf83
 v26:=Tryz.zeroValue83
 t27:=Tryz.underlying83
 a27:=Tryz.isAgg83
 z27:=Tryz.sizeOf83
 v27:=Tryz.zeroValue83
 t29:=Tryz.underlying9
 a29:=Tryz.isAgg9
 z29:=Tryz.sizeOf9
 v29:=Tryz.zeroValue9
 t32:=Tryz.underlying195
 a32:=Tryz.isAgg195
 z32:=Tryz.sizeOf195
 v32:=Tryz.zeroValue195
 t35:=Tryz.underlying233
 a35:=Tryz.isAgg233
 z35:=Tryz.sizeOf233
 v35:=Tryz.zeroValue233
 t36:=Tryz.underlying234
 a36:=Tryz.isAgg234
 z36:=Tryz.sizeOf234
 v36:=Tryz.zeroValue234
 t41:=Tryz.underlying239
 a41:=Tryz.isAgg239
 z41:=Tryz.sizeOf239
 v41:=Tryz.zeroValue239
 t44:=Tryz.underlying242
 a44:=Tryz.isAgg242
 z44:=Tryz.sizeOf242
 v44:=Tryz.zeroValue242
 t46:=Tryz.underlying244
 a46:=Tryz.isAgg244
 z46:=Tryz.sizeOf244
 v46:=Tryz.zeroValue244
 t53:=Tryz.underlying278
 a53:=Tryz.isAgg278
 z53:=Tryz.sizeOf278
 v53:=Tryz.zeroValue278
 t57:=Tryz.underlying275
 a57:=Tryz.isAgg275
 z57:=Tryz.sizeOf275
 v57:=Tryz.zeroValue275
 t63:=Tryz.underlying298
 a63:=Tryz.isAgg298
 z63:=Tryz.sizeOf298
 v63:=Tryz.zeroValue298
 t64:=Tryz.underlying123
 a64:=Tryz.isAgg123
 z64:=Tryz.sizeOf123
 v64:=Tryz.zeroValue123 }
end Go.Proofs
