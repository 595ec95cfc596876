/- Parts of the proof: WB1. -/
import Derived.Test.YtmadpclcmjahoaaGreatDoorCC30
import Derived.Test.YtmadpclcmjahoaaGreatDoorCards
import Derived.Test.YtmadpclcmjahoaaGreatDoorTie
import Derived.ShutString
import Derived.Lib.LaidTab
import Derived.Stop.LaidErr
import Derived.Lay
import Derived.SevenTiedAt
set_option linter.unusedVariables false
set_option linter.unusedSimpArgs false
set_option maxHeartbeats 8000000
set_option maxRecDepth 100000
namespace Go.Proofs.YtmadpclcmjahoaaGreatDoor
open Go.RowKit Go.Redl
theorem f_D {s:b5} {n:aX} {L:List (List Int)} {m:Nat} (h:a_D s n L m=true):(∀p∈L,p.length <= 40)/\J7 (s.rules ++ [s.els])=true/\F4 n 50=true:=by
 unfold a_D at h;simp only [Bool.and_eq_true,List.all_eq_true,decide_eq_true_eq]at h;exact⟨h.1,h.2.1,h.2.2.1⟩
theorem c_l (s:b5) (n:aX) (u v:Value) (vx:Value) (xs:List PX) (picks:List Int) (ka:Option Addr) (kc:Nat) (W:World) (hs:s.wt <= 1048576) (hn:n.wt <= 1048576) (M:xs.length <= 1048576) (U:picks.length <= 1048576) (hu:SchemaV W W s u) (hv:bY W W n v) (hx:u_7 W W vx xs)
 (F:RowA W W 1 ka picks.length kc (picks.map (Value.int .i64))):
 Calls Tryz.prog 7 #[u,v,vx,(ka,picks.length,kc)] W (fun e w'=>e= .returned true/\Below W W w'):=by
 have G:=hu;have V:=hv
 obtain⟨csn,rfl,hc⟩:=V;obtain⟨l,b1,m1,d1,b2,m2,d2,b3,m3,d3,rfl⟩:=hc.form;obtain⟨a,c,ea,ec,sn,en,Y1,Y2,Y3,Y4,Y5,Y6,Y7,Y8,o0,o1,o2,o3,o4,o5,rfl⟩:=SchemaV.shape G;obtain⟨xa,xc,rfl, -⟩:=hx.row;obtain⟨w0,k⟩:∃w0,w0=(W.alloc (Obj.cells #[(a,sn,c),Y1,Y2,Y3,Y4,Y5,(ea,en,ec),Y6,Y7,o0,o1,o2,o3,o4,o5,Y8] 30)).alloc (Obj.cells #[l,(b1,m1,d1),(b2,m2,d2),(b3,m3,d3)] 35):=⟨_,rfl⟩;have d:Below W W w0:=by rw [k];exact g8 _ _ _
 have HA:=a6 (show At w0 W [(a,sn,c),Y1,Y2,Y3,Y4,Y5,(ea,en,ec),Y6,Y7,o0,o1,o2,o3,o4,o5,Y8] 30 by rw [k];exact(At.fresh W _ _).alloc _);have HN:=a6 (show At w0 (W+1) [l,(b1,m1,d1),(b2,m2,d2),(b3,m3,d3)] 35 by rw [k];exact At.second W _ _ _);have HF:=a6 (fun(w':World) (hb:Below w0 w0 w')=>q_x s n _ _ _ xs ka picks.length kc w' P2 P2 P2 P2 (hu.keep (d.trans (hb.mono d.size)) (d.trans (hb.mono d.size)).size) (hv.keep (d.trans (hb.mono d.size)) (d.trans (hb.mono d.size)).size) (hx.keep (d.trans (hb.mono d.size)) (d.trans (hb.mono d.size)).size));have HL:=a6 (o_y w0);have f:=a6 d;have z:=a6 k
 cases p:a_D s n (iV xs) picks.length with
 | false=>
   rw [p]at HF;clear hu hv G hc hs hn d k hx p F;go_enter Tryz.func7,Tryz.ntmps7;go_upto_region 1 with fail;rw [<- z.o];clear z;go_wp2_with fail;refine HL.o.mono ?_;rintro e w1 ⟨rfl,b⟩;have H:=a6 b
   have B:=a6 (HA.o.kept b);obtain⟨⟨y0,y1,y2,y3⟩, -,yl⟩:=(HN.o.kept b).f4;have q:=a6 (HF.o w1 b);clear b HL HF;go_wp2_with (refine bZ rfl _ _ rfl W.heap.size #[(a,sn,c),Y1,Y2,Y3,Y4,Y5,(ea,en,ec),Y6,Y7,o0,o1,o2,o3,o4,o5,Y8] rfl B.o _ Tryz.underlying30 rfl P3 ?_);refine q.o.mono ?_;rintro e w2 ⟨rfl,b⟩;have o:=a6 (f.o.trans ((b6 H.o b).mono f.o.size))
   clear b q y0 y1 y2 y3 yl;go_wp2_with fail;go_ret;exact⟨rfl,o.o⟩
 | true=>
   rw [p]at HF;obtain⟨C,N,I⟩:=f_D p;have J:∀x∈xs,x.1.length <= 100000000:=fun x hx=>by have:=C x.1 (List.mem_map.2 ⟨x,hx,rfl⟩);omega
   have H0:=e_s I;have r:o8 s n=0 ->∃ (A:MT) (m:Nat) (ops:List fZ),wX s picks 0 (MT.on (iV xs) n) A m ops/\m <= muT s (MT.on (iV xs) n)/\n.wt+lK ops <= 399000/\ops.length <= 4000000000/\m <= 1000000000:=fun h=>L3 (eY h).1 (eY h).2.1 (eY h).2.2 (iV xs) picks (G1 hs N I (eY h).1 (iV xs))
   have X:=a6 r;have O:o8 s n=0 ->a_w s n (iV xs) picks:=fun h=>by obtain⟨A,m,ops,h1, -,h2⟩:=r h;exact⟨A,m,ops,h1,h2⟩
   have t:=a6 (fun(w':World) (hb:Below W W w')=>r_7 s n _ _ _ xs w' hs hn M J (hu.keep hb hb.size) (hv.keep hb hb.size) (hx.keep hb hb.size));have P:=a6 (fun(w':World) (hb:Below W W w')=>b_r s n a ea c ec o0 o1 o2 o3 o4 o5 l b1 b2 b3 m1 m2 m3 d1 d2 d3 xa xc xs picks ka kc w' hs P2 (hu.keep hb hb.size) (hv.keep hb hb.size) (hx.keep hb hb.size) M J (F.keep hb hb.size) U O);have Hn:=a6 hn;obtain⟨BD,K⟩:∃BD,BD=JJ s n (iV xs):=⟨_,rfl⟩;rw [<- K]at t;have Y:=a6 K
   clear hu hv G hc hs hn d k hx p F C J K O r N I;go_enter Tryz.func7,Tryz.ntmps7;go_upto_region 1 with fail;rw [<- z.o];clear z;go_wp2_with fail;refine HL.o.mono ?_;rintro e w1 ⟨rfl,b⟩;have H:=a6 b
   have B:=a6 (HA.o.kept b);obtain⟨⟨y0,y1,y2,y3⟩, -,yl⟩:=(HN.o.kept b).f4;have q:=a6 (HF.o w1 b);clear b HL HF;go_wp2_with (refine bZ rfl _ _ rfl W.heap.size #[(a,sn,c),Y1,Y2,Y3,Y4,Y5,(ea,en,ec),Y6,Y7,o0,o1,o2,o3,o4,o5,Y8] rfl B.o _ Tryz.underlying30 rfl P3 ?_);refine q.o.mono ?_;rintro e w2 ⟨rfl,b⟩;have o:=a6 (b6 H.o b)
   have Q:=a6 (HA.o.kept o.o);clear y0 y1 y2 y3 yl;obtain⟨⟨y0,y1,y2,y3⟩, -,yl⟩:=(HN.o.kept o.o).f4;have R:=a6 (P.o w2 (f.o.trans (o.o.mono f.o.size)));clear b q B P;go_wp2_with (refine bZ rfl _ _ rfl W.heap.size #[(a,sn,c),Y1,Y2,Y3,Y4,Y5,(ea,en,ec),Y6,Y7,o0,o1,o2,o3,o4,o5,Y8] rfl Q.o _ Tryz.underlying30 rfl P3 ?_);refine R.o.mono ?_;rintro e w3 ⟨b,Z⟩;have S:=a6 (b6 o.o b)
   clear b R Q y0 y1 y2 y3 yl;rcases Z with⟨hE,rfl⟩ | ⟨hE,A,m,ops,cs,na,nc,D,rfl,hX⟩
   . --<1
     generalize o8 s n=E at hE;have H1:(E != 0)=true:=by simpa using hE
     go_upto_region 6 with fail;obtain⟨w4,i⟩:∃w4,w4=w3.alloc (Obj.cells #[false,(),(),()] 35):=⟨_,rfl⟩;rw [<- i];have g:=a6 (show Below w0 w0 w4 by rw [i];exact b6 S.o (b7 _ _))
     have w:=a6 (HA.o.kept g.o);obtain⟨⟨y0,y1,y2,y3⟩, -,yl⟩:=(HN.o.kept g.o).f4;have j:=a6 (t.o w4 (f.o.trans (g.o.mono f.o.size)));clear i t;obtain⟨B1,B2⟩:=BD;simp only at j;go_wp2_with (refine bZ rfl _ _ rfl W.heap.size #[(a,sn,c),Y1,Y2,Y3,Y4,Y5,(ea,en,ec),Y6,Y7,o0,o1,o2,o3,o4,o5,Y8] rfl w.o _ Tryz.underlying30 rfl P3 ?_);refine j.o.mono ?_;rintro e w5 ⟨rfl,b⟩;have L:=a6 (f.o.trans ((b6 g.o b).mono f.o.size))
     clear b j w y0 y1 y2 y3 yl;go_wp2_with fail;go_ret;exact⟨by simp,L.o⟩
   --<2
   obtain⟨x0,x1,y1,z1,x2,y2,z2,x3,y3,z3,rfl⟩:=hX.form;obtain⟨A',m',ops',y,T, -⟩:=X.o hE;obtain⟨-,em, -⟩:=c_j y D;have hm:m <= muT s (MT.on (iV xs) n):=by rw [<- em];exact T
   clear y T em;obtain⟨g1,g2,g3⟩:=n_9 Hn.o (eY hE).1 D hm;rw [<- Y.o]at g1 g2 g3;go_upto_region 6 with fail
   obtain⟨w4,i⟩:∃w4,w4=w3.alloc (Obj.cells #[x0,(x1,y1,z1),(x2,y2,z2),(x3,y3,z3)] 35):=⟨_,rfl⟩;rw [<- i];have g:=a6 (show Below w0 w0 w4 by rw [i];exact b6 S.o (b7 _ _))
   have w:=a6 (HA.o.kept g.o);obtain⟨⟨y0,y1,y2,y3⟩, -,yl⟩:=(HN.o.kept g.o).f4;have j:=a6 (t.o w4 (f.o.trans (g.o.mono f.o.size)));clear i t;obtain⟨B1,B2⟩:=BD;simp only at j;simp only at g1 g2 g3;subst g1;have g4:((m:Int) == 0)=(B1 == 0):=by rw [Bool.eq_iff_iff,beq_iff_eq,beq_iff_eq];exact g3
   clear g3;go_wp2_with (refine bZ rfl _ _ rfl W.heap.size #[(a,sn,c),Y1,Y2,Y3,Y4,Y5,(ea,en,ec),Y6,Y7,o0,o1,o2,o3,o4,o5,Y8] rfl w.o _ Tryz.underlying30 rfl P3 ?_);refine j.o.mono ?_;rintro e w5 ⟨rfl,b⟩;have L:=a6 (f.o.trans ((b6 g.o b).mono f.o.size))
   clear b j w y0 y1 y2 y3 yl;go_wp2_with fail;go_ret;exact⟨bJ (by simp [g4]),L.o⟩
open Go.ChangeShapes Go.WideShapes Go.ChangeAt
theorem b_s (os:Os) {H:Type} (enc:TypeId×Value ->H):∃places,DataW.whole enc Tryz.prog ((World.laidAll Tryz.prog os Rows.weightBoundsUptoRow.laid).forCall (fun _ _=>0) ⟨#[], #[.agg #[.slice none 0 0, .string ⟨#[]⟩, .int .i64 0, .string ⟨#[]⟩, .int .i64 0, .string ⟨#[]⟩, .slice none 0 0, .int .i64 0, .string ⟨#[]⟩, .int .i64 0, .int .i64 0, .int .i64 0, .int .i64 0, .int .i64 0, .int .i64 0, .int .i64 0], .agg #[.bool false, .slice none 0 0, .slice none 0 0, .slice none 0 0], .slice none 0 0, .slice none 0 0], []⟩).memory Tryz.f7.params.toList Rows.weightBoundsSpec.vars false (#[.agg #[.slice none 0 0, .string ⟨#[]⟩, .int .i64 0, .string ⟨#[]⟩, .int .i64 0, .string ⟨#[]⟩, .slice none 0 0, .int .i64 0, .string ⟨#[]⟩, .int .i64 0, .int .i64 0, .int .i64 0, .int .i64 0, .int .i64 0, .int .i64 0, .int .i64 0], .agg #[.bool false, .slice none 0 0, .slice none 0 0, .slice none 0 0], .slice none 0 0, .slice none 0 0]:Array Value).toList 8=some ([.agg [.nil, .agg [.lit (.string []), .agg [.lit (.int .i64 0), .lit (.string [])], .agg [.lit (.int .i64 0), .lit (.string [])], .nil, .lit (.int .i64 0), .lit (.string [])], .agg [.lit (.int .i64 0), .lit (.int .i64 0), .lit (.int .i64 0), .lit (.int .i64 0), .lit (.int .i64 0), .lit (.int .i64 0)], .lit (.int .i64 0)], .agg [.lit (.bool false), .nil, .nil, .nil], .nil, .nil], [],places):=
 ⟨[],by kernel_rfl⟩
theorem N4 (H:Type) (enc:TypeId×Value ->H) (W:World) (base:Nat) (args:Array Value) (ds gs:List (DataW H)) (before:List MemPlace)
 (b:∀ (j:Nat) t v,Tryz.f7.params[j]? =some t ->args[j]? =some v ->Value.okWide Tryz.prog W .any base t v)
 (hW:DataW.Whole enc Tryz.prog Tryz.f7.params.toList Rows.weightBoundsSpec.vars false W args.toList ds gs before) (hk:Rows.uptoSmall H (ds ++ gs)=true) (hL:laidMetH Tryz.prog Rows.weightBoundsUptoRow.laid W):
 Calls Tryz.prog 7 args W fun e W'=>∃v,e= .returned v/\Rows.weightBoundsSpec.post enc Tryz.prog Tryz.f7 false true false false W args v W':=by
 have hval:∀ (j:Nat) t v,Tryz.f7.params[j]? =some t ->args[j]? =some v ->Value.okWide Tryz.prog W .any base t v:=b;have d:=hW;obtain⟨p,q,c,hV,rfl,o,r⟩:=hW;have hA:DataW.TrodAll enc Tryz.prog W 0 (fun _=>true) true Tryz.f7.params.toList args.toList ds p:=c;rw [Tryz.params7]at hA hval;obtain⟨v0,vs0,d0,ds0,p0,q0,f,rfl,rfl,h0,r0⟩:=trodAll_cons hA;obtain⟨v1,vs1,d1,ds1,p1,q1,rfl,rfl,rfl,h1,r1⟩:=trodAll_cons r0;obtain⟨v2,vs2,d2,ds2,p2,q2,rfl,rfl,rfl,h2,r2⟩:=trodAll_cons r1;obtain⟨v3,vs3,d3,ds3,p3,q3,rfl,rfl,rfl,h3,r3⟩:=trodAll_cons r2;obtain⟨rfl,rfl,rfl⟩:=trodAll_nil r3;obtain rfl:args= #[v0,v1,v2,v3]:=ZZ
 obtain⟨rfl,rfl⟩:=trodVars_none hV;obtain⟨cs0,rfl,k⟩:=okWide_struct Tryz.underlying30 (hval 0 30 v0 rfl rfl);have k0:=h0;have lt0:∀x∈p0,x.block < W.heap.size:=SZ
 obtain⟨n0,i0,u0⟩:∃n,SchemaV W W n (.agg cs0)/\n.wt <= Rows.uptoBulk d0:=by
  obtain⟨fuel,hf⟩:=h0;obtain⟨n,h1,h2⟩:=B7 hf;exact⟨n,⟨cs0.toList,by simp,h1⟩,h2⟩
 obtain⟨cs1,rfl,l⟩:=okWide_struct Tryz.underlying35 (hval 1 35 v1 rfl rfl);have k1:=h1;have lt1:∀x∈p1,x.block < W.heap.size:=SY
 obtain⟨n1,i1,u1⟩:∃n,bY W W n (.agg cs1)/\n.wt <= Rows.uptoBulk d1:=by
  obtain⟨fuel,hf⟩:=h1;obtain⟨n,h1,h2⟩:=FJ fuel _ _ hf;exact⟨n,⟨cs1.toList,by simp,h1⟩,h2⟩
 obtain⟨a2,len2,cap2,rfl⟩:=okWide_slice Tryz.underlying47 (hval 2 47 v2 rfl rfl);have k2:=h2;have lt2:∀x∈p2,x.block < W.heap.size:=SX
 obtain⟨n2,g,i2,u2⟩:∃xs:List PX,len2=xs.length/\u_7 W W (a2,xs.length,cap2) xs/\xs.length+1 <= Rows.uptoBulk d2:=by
  obtain⟨fuel,hf⟩:=h2;obtain⟨a,cap,xs,h0,h1,h2⟩:=N3 hf
  simp [Value.cells]at h0
  obtain⟨rfl,rfl,rfl⟩:=h0;exact⟨xs,rfl,h1,h2⟩
 subst g;obtain⟨a3,len3,cap3,rfl⟩:=okWide_slice Tryz.underlying36 (hval 3 36 v3 rfl rfl);have k3:=h3;have lt3:∀x∈p3,x.block < W.heap.size:=t_c
 obtain⟨n3,i,i3,u3⟩:∃zs:List Int,len3=zs.length/\RowA W W 1 a3 zs.length cap3 (zs.map (Value.int .i64))/\zs.length+1 <= Rows.uptoBulk d3:=by
  obtain⟨fuel,hf⟩:=h3;obtain⟨a,cap,zs,h0,h1,h2⟩:=C4 hf
  simp [Value.cells]at h0
  obtain⟨rfl,rfl,rfl⟩:=h0;exact⟨zs,rfl,h1,h2⟩
 subst i;have hb:Rows.uptoBulkAll _ <= 1048576:=of_decide_eq_true hk
 simp only [List.append_nil,Rows.uptoBulkAll,Nat.add_zero]at hb;clear c b;refine(c_l n0 n1 _ _ _ n2 n3 _ _ W P2 P2 P2 P2 i0 i1 i2 i3).mono fun e W' ⟨he,bel⟩=> ?_
 subst he;exact⟨_,rfl,_,_,_, [],_, [],d,trodAll_mk1 (shut_bool Tryz.underlying4 _),(trodAll_cons_mk (Below.trod wQ P3 (of_decide_eq_true P3) k0 bel lt0) (trodAll_cons_mk (Below.trod wQ P3 (of_decide_eq_true P3) k1 bel lt1) (trodAll_cons_mk (Below.trod wQ P3 (of_decide_eq_true P3) k2 bel lt2) (trodAll_cons_mk (Below.trod wQ P3 (of_decide_eq_true P3) k3 bel lt3) trodAll_mk0)))),rfl,bel.frame _,fun h=>by cases h⟩
theorem a_P (os:Os) (started:os.Started) (H:Type) (enc:TypeId×Value ->H) (F:Stop.Interp):
 ReturnsInHanded {} Tryz.checked os 7 .any ((Rows.OpenSpec.upto Rows.weightBoundsSpec).preRow enc Tryz.prog Tryz.f7 Rows.weightBoundsUptoRow.domain false Rows.weightBoundsUptoRow.laid) (((Rows.OpenSpec.upto Rows.weightBoundsSpec).at F).post enc Tryz.prog Tryz.f7 false true false false):=by
 obtain⟨places,hx⟩:=b_s os enc;refine returnsInHanded_of_row (C:=Tryz.checked) (s:=Rows.OpenSpec.upto Rows.weightBoundsSpec) own started P3 Tryz.func7
  (witness_row_atRef (enc:=enc) (C:=Tryz.checked) false (World.laidAll Tryz.prog os Rows.weightBoundsUptoRow.laid) #[.agg #[(), .string ⟨#[]⟩,OY, .string ⟨#[]⟩,OY, .string ⟨#[]⟩,(),OY, .string ⟨#[]⟩,OY,OY,OY,OY,OY,OY,OY], .agg #[false,(),(),()],(),()] (World.laidAll_os _ _ _) P3 P3 P3
    (OpenSpec.preRow_of_cond 8 hx P3 (fun k hk=>by cases hk;kernel_rfl) P3 QV)) ?_
 intro W base args ds gs before hval hW _ a _ hL _ _;exact N4 H enc W base args ds gs before hval hW (a _ rfl) hL
end Go.Proofs.YtmadpclcmjahoaaGreatDoor
