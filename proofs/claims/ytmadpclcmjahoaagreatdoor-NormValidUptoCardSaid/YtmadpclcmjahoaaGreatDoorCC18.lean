/- Parts of the proof: CC18. -/
import Derived.Test.YtmadpclcmjahoaaGreatDoorCC17
set_option linter.unusedVariables false
set_option linter.unusedSimpArgs false
set_option maxHeartbeats 8000000
set_option maxRecDepth 100000
namespace Go.Proofs.YtmadpclcmjahoaaGreatDoor
open Go.RowKit Go.Redl
theorem o_z {P:Program} {w:World} {b T K E:Nat} {l:List (Int×Value)} (h:yZ w b l) (hT:P.underlying T=some (.map K E)) (hK:P.underlying K=some (.int .i64)) (z:Value) (hz:∀w:World,(zeroValue E).run P w= .ok z w) (k:Int)
 (g:(l.map (·.1)).Nodup):
 (Instr.lookup T (.map (some b)) k false).run P w= .ok (a_d l k z).1 w:=by
 obtain⟨es,ck,hb,he⟩:=h;have a:MapKept.IsKey (.int .i64) k:=rfl;have m:=yZ.keys (w:=w) (b:=b) he;rcases MapKept.findNow_spec a es.toList 0 m with⟨h1,h2⟩ | ⟨j,e0,h1,h2,h3⟩
 . have hn:a_d l k z=(z,false):=by
    unfold a_d;rw [List.find?_eq_none.2 ?_];intro p hp;have hm:((Value.int .i64 p.1),p.2)∈l.map (fun p=>(Value.int .i64 p.1,p.2)):=List.mem_map.2 ⟨p,hp,rfl⟩
    rw [<- he]at hm;obtain⟨x,hx,n⟩:=OV hm;injection n with e1 e2
    have:=h2 x hx;rw [e1]at this;simpa using fun e=>this (by rw [e])
   rw [hn];simp [Instr.lookup,run_underlying hT,MapKept.run_getObj_map hb,MapKept.run_checkKey hK a,MapKept.run_findKey hK h1,Result.andThen,hz]
 have hj:(es.toList.map (fun e=>(e.key,e.val)))[j]? =some (e0.key,e0.val):=by rw [List.getElem?_map,h2];rfl
 rw [he,List.getElem?_map]at hj;obtain⟨p,hp,o⟩:=Option.map_eq_some_iff.1 hj;injection o with e1 e2
 rw [h3]at e1;injection e1 with e3 e4
 have hf:l.find? (fun p=>decide (p.1=k))=some p:=by
  obtain⟨c,d⟩:=List.getElem?_eq_some_iff.1 hp;rw [List.find?_eq_some_iff_getElem];refine⟨by simpa using e4,j,c,d,fun i hi=> ?_⟩;have f:=List.pairwise_iff_getElem.1 g i j P8 t_w hi;simp only [List.getElem_map,d,e4]at f;simpa using f
 have hn:a_d l k z=(p.2,true):=by unfold a_d;rw [hf]
 rw [hn,e2];simp [Instr.lookup,run_underlying hT,MapKept.run_getObj_map hb,MapKept.run_checkKey hK a,MapKept.run_findKey hK h1,Result.andThen]
abbrev o_A:List (Int×Value):= [(1, .int .i64 2),(2, .int .i64 1),(3, .int .i64 4),(4, .int .i64 3),(7, .int .i64 8),(8, .int .i64 7),(5, .int .i64 5),(6, .int .i64 6),(9, .int .i64 9)]
theorem r_Z {kd:Int} (hk:IJ kd):∃k2:Int,a_d o_A kd OY=(.int .i64 k2,true)/\(k2=1∨k2=2∨k2=3∨k2=4∨k2=5):=by
 rcases hk with rfl | rfl | rfl | rfl
 . exact⟨2,rfl,by omega⟩
 . exact⟨1,rfl,by omega⟩
 . exact⟨4,rfl,by omega⟩
 exact⟨5,rfl,by omega⟩
theorem At.setAll {w:World} {N:Nat} {cs cs':List Value} {T:TypeId} (h:At w N cs T) (hl:cs'.length=cs.length):At (w.setCells N 0 cs') N cs' T:=by
 obtain⟨cur',g1,g2,g3⟩:=nK N cs' 0 w cs.toArray T (0,0) h XQ;unfold At;rw [g1];have:cur'=cs'.toArray:=by
  apply Array.toList_inj.1
  rw [g3];simp [<- hl]
 rw [this]
theorem bZ {P:Program} {ops:Array Oper} {rest:List Oper} {o:Oper} {a:Act} {w:World} {Q:Exit ->Act ->World ->Prop} (hg:o.guard=none) (ty:TypeId) (x:Operand) (ho:o.op= .load ty x)
 (N:Nat) (vs:Array Value) (hx:a.eval x= .pointer N) (h:At w N vs.toList ty) (d:TypeDesc) (hu:P.underlying ty=some d) (hd:d.isRow=true) (hi:(P.info? ty).map (·.size)=some vs.size)
 (hk:wpList P ops Q rest (a.put o.dst (.agg vs)) w):wpList P ops Q (o::rest) a w:=
 wpList_load_mid hg ty x ho N 0 hx vs.toList d (fun j v hj=>by rw [O5];exact h.cell j hj) hu hd R4 UQ
theorem m6 {P:Program} {ops:Array Oper} {rest:List Oper} {o:Oper} {a:Act} {w:World} {Q:Exit ->Act ->World ->Prop} (hg:o.guard=none) (ty:TypeId) (x y:Operand) (ho:o.op= .store ty x y) (b:o.dst=none)
 (N:Nat) (cs:List Value) (vs:Array Value) (hx:a.eval x= .pointer N) (hy:a.eval y= .agg vs) (h:At w N cs ty) (hl:vs.size=cs.length) (h1:vs.toList.all (·.oneCell')=true) (hi:(P.info? ty).map (·.size)=some vs.size)
 (hk:∀w',At w' N vs.toList ty ->w.grownBy w' (some N) ->wpList P ops Q rest a w'):wpList P ops Q (o::rest) a w:=by
 refine wpList_store_mid hg ty x y ho N 0 vs hx hy (fun j hj=>⟨?_, ?_⟩) hi UV ?_
 . rw [O5,h.cell j (NV P2)];rfl
 . rw [O5];exact Lib.frozen_of_heap h j
 rw [b];exact hk _ (At.setAll h ZX) (iX vs.toList 0 w)
def s_y (W:World) (e:Ending) (w':World):Prop:=Below W W w'/\∃ (kd2:Int) (q r:List Int) (pos2:Int) (qa:Option Addr) (qc:Nat) (ra:Option Addr) (rc:Nat) (v4 v5 v6 v7 v8 v9 v10 v11 v12 v13 v14 v15 v16 v17 v18 v19 v20:Value),
 e= .returned (.tuple #[.agg #[kd2,(qa,q.length,qc),(ra,r.length,rc),pos2,v4,v5,v6,v7,v8,v9,v10,v11,v12,v13,v14,v15,v16,v17,v18,v19,v20],OY])/\(kd2=1∨kd2=2∨kd2=3∨kd2=4∨kd2=5)/\q≠ []/\q.length <= 1000000/\r.length <= 1000000/\RowQ w' (fun _=>True) 1 qa q.length qc (q.map (Value.int .i64))/\RowQ w' (fun _=>True) 1 ra r.length rc (r.map (Value.int .i64))/\ [.int .i64 kd2, .slice qa q.length qc, .slice ra r.length rc, .int .i64 pos2,v4,v5,v6,v7,v8,v9,v10,v11,v12,v13,v14,v15,v16,v17,v18,v19,v20].all (·.oneCell')=true
theorem s_0 (p d:List Int) (kd pos:Int) (nd:aX) (ol:List fQ) (pa ta oa:Option Addr) (pc tc oc:Nat) (l0:Bool) (a1 a2 a3:Option Addr) (m1 m2 m3 c1 c2 c3:Nat) (W:World)
 (H1:nd.wt <= 100000000) (hn:bY W W nd (.agg #[l0,(a1,m1,c1),(a2,m2,c2),(a3,m3,c3)])) (H7:p≠ [])
 (fs:List UInt8) (h8:a_d c_E kd (.string ⟨#[]⟩)=(.string ⟨fs.toArray⟩,true)) (j7:fs.length <= 1000) (H2:∀c∈onB (EJ p d pos nd ol),c∈fs)
 (hp:RowA W W 1 pa p.length pc (p.map (Value.int .i64))) (H8:p.length <= 1000000) (hd:RowA W W 1 ta d.length tc (d.map (Value.int .i64))) (h9:d.length <= 1000000) (ho:RowA W W 2 oa ol.length oc (cK ol)) (j8:ol.length <= 100000000)
 (hk:IJ kd) (h3:kd=3 ->0 < jK p) (h5:kd=5 ->d≠ []) (J0:∀z∈p, -9223372036854775807 <= z/\z <= 9223372036854775807):
 Calls Tryz.prog 125 #[.agg #[kd,(pa,p.length,pc),(ta,d.length,tc),pos,l0,(a1,m1,c1),(a2,m2,c2),(a3,m3,c3),(oa,ol.length,oc),(),(),false,(),OY,(),OY,false,(),OY,(),OY]] W (s_y W):=by
 obtain⟨w0,J⟩:∃w0,w0=(W.alloc (Obj.cells #[kd,(pa,p.length,pc),(ta,d.length,tc),pos,l0,(a1,m1,c1),(a2,m2,c2),(a3,m3,c3),(oa,ol.length,oc),(),(),false,(),OY,(),OY,false,(),OY,(),OY] 55)).alloc (Obj.cells #[OY,(),(),OY,false,(),(),(),(),(),(),false,(),OY,(),OY,false,(),OY,(),OY] 55):=⟨_,rfl⟩;have B:Below W W w0:=by rw [J];exact(b7 _ _).alloc P6 _
 have J1:w0.heap.size=W.heap.size+2:=by rw [J];simp
 have hA:At w0 W [kd,(pa,p.length,pc),(ta,d.length,tc),pos,l0,(a1,m1,c1),(a2,m2,c2),(a3,m3,c3),(oa,ol.length,oc),(),(),false,(),OY,(),OY,false,(),OY,(),OY] 55:=by rw [J];exact(At.fresh W _ _).alloc _
 have hB:At w0 (W+1) [OY,(),(),OY,false,(),(),(),(),(),(),false,(),OY,(),OY,false,(),OY,(),OY] 55:=by rw [J];exact At.second W _ _ _
 have H9:∀w',Below w0 w0 w' ->bY w' w' nd (.agg #[l0,(a1,m1,c1),(a2,m2,c2),(a3,m3,c3)]):=fun w' hb=>by
  obtain⟨cs,he,hc⟩:=hn;exact⟨cs,he,dY.keep (B.trans (hb.mono B.size)) (B.trans (hb.mono B.size)).size _ _ hc⟩
 have T:∀ {sz:Nat} {a:Option Addr} {n c:Nat} {cs:List Value} (w':World),Below w0 w0 w' ->RowA W W sz a n c cs ->RowA w' w' sz a n c cs:=fun w' hb hr=>hr.keep (B.trans (hb.mono B.size)) (B.trans (hb.mono B.size)).size
 have HF:=a6 (l_5 p d kd pos nd ol pa ta oa pc tc oc l0 a1 a2 a3 m1 m2 m3 c1 c2 c3 w0 H1 (H9 w0 (a7)) H7 fs h8 j7 H2);have HO:=a6 (fun(w':World) (hb:Below w0 w0 w')=>r_Y p d kd pos nd ol pa ta oa pc tc oc l0 a1 a2 a3 m1 m2 m3 c1 c2 c3 w' H1 (H9 w' hb) (T w' hb hp) H8 (T w' hb hd) h9 (T w' hb ho) j8);have HK:=a6 (fun(w':World) (hb:Below W W w')=>j_F p pa pc w' w' (hp.keep hb hb.size) (a8) H8 J0);obtain⟨kd2,hu,J2⟩:=r_Z hk;have HU:=a6 (fun(w:World) (b:Nat) (hm:yZ w b o_A)=>o_z (P:=Tryz.prog) (K:=3) hm Tryz.underlying219 Tryz.underlying3 OY (fun w=>by kernel_rfl) kd P9);rw [hu]at HU;have U:=a6 J2
 have HA:=a6 hA;have HB:=a6 hB;have h0:=a6 B;have J3:=a6 J1;have J4:=a6 J
 have H3:=a6 h3;have H5:=a6 h5;have h6:=a6 H7;have V:=a6 H8;have X:=a6 h9
 clear hA hB B J1 J hn hp hd ho H9 T h8 H2 h3 h5 H7 J2 hu J0;go_enter Tryz.func125,Tryz.ntmps125;go_upto_region 1 with fail;rw [<- J4.o];clear J4;go_wp2_with (refine bZ rfl _ _ rfl W.heap.size #[kd,(pa,p.length,pc),(ta,d.length,tc),pos,l0,(a1,m1,c1),(a2,m2,c2),(a3,m3,c3),(oa,ol.length,oc),(),(),false,(),OY,(),OY,false,(),OY,(),OY] rfl HA.o _ Tryz.underlying55 rfl P3 ?_);refine HF.o.mono ?_;rintro e w1 ⟨rfl,g⟩;have Y:=a6 g
 have J5:=a6 (HA.o.kept g);clear HF g;go_wp2_with (refine bZ rfl _ _ rfl W.heap.size #[kd,(pa,p.length,pc),(ta,d.length,tc),pos,l0,(a1,m1,c1),(a2,m2,c2),(a3,m3,c3),(oa,ol.length,oc),(),(),false,(),OY,(),OY,false,(),OY,(),OY] rfl J5.o _ Tryz.underlying55 rfl P3 ?_);refine(HO.o w1 Y.o).mono ?_;rintro e w2 ⟨⟨qa,qc,ra,rc,xa,xc,v4,v5,v6,v7,v8,v9,g1,g2,g3,g4,h1,h2,h3,h4,rfl,hq,hr,t,⟨s8,n8,k8,rfl⟩,⟨s9,n9,k9,rfl⟩⟩,g⟩;have J6:=a6 (b6 Y.o g)
 have L:Hid ([.int .i64 kd, .slice qa p.length qc, .slice ra d.length rc, .int .i64 pos,v4,v5,v6,v7, .slice s8 n8 k8, .slice s9 n9 k9, .slice xa 0 xc, .bool false, .slice g1 0 h1, .int .i64 0, .slice g2 0 h2, .int .i64 0, .bool false, .slice g3 0 h3, .int .i64 0, .slice g4 0 h4, .int .i64 0].all (·.oneCell')=true):=by
  show _=true
  simp only [List.all_cons,List.all_nil,Bool.and_true,Bool.and_eq_true]at t⊢;exact⟨rfl,rfl,rfl,rfl,t.1,t.2.1,t.2.2.1,t.2.2.2.1,rfl,rfl,rfl,rfl,rfl,rfl,rfl,rfl,rfl,rfl,rfl,rfl,rfl⟩
 have H4:=a6 t;have J7:=a6 (show W.heap.size+2 <= w1.heap.size by have h1:=Y.o.size;have h2:=J3.o;omega);have Hq:=a6 hq;have Hr:=a6 hr
 clear g t hq hr HO J5 Y;go_wp2_with (refine m6 rfl _ _ _ rfl rfl w2.heap.size [OY,(),(),OY,false,(),(),(),(),(),(),false,(),OY,(),OY,false,(),OY,(),OY] #[kd,(qa,p.length,qc),(ra,d.length,rc),pos,v4,v5,v6,v7,(s8,n8,k8),(s9,n9,k9), .slice xa 0 xc,false, .slice g1 0 h1,OY, .slice g2 0 h2,OY,false, .slice g3 0 h3,OY, .slice g4 0 h4,OY] rfl rfl (At.fresh w2 _ _) rfl L.o P3 ?_);intro w3 h7 J8;have hg:w2.grownBy w3 (some w2.heap.size):=fK (cX (b7 w2 _)) J8
 have E:=a6 (hg.old (M:=w2.heap.size) (a8) (fun k hk=>by cases hk;exact a8));have J9:=a6 (show w2.heap.size+1 <= w3.heap.size by have:=h7.lt;omega);have j0:=a6 (show RowQ w3 (fun b=>W.heap.size+2 <= b/\b < w2.heap.size) 1 qa p.length qc (p.map (Value.int .i64))from Hq.o.keep E.o.size (fun b _ f=>E.o.block b f) (fun b hb f=>⟨by have:=J7.o;omega,f⟩));have j1:=a6 (show RowQ w3 (fun b=>W.heap.size+2 <= b/\b < w2.heap.size) 1 ra d.length rc (d.map (Value.int .i64))from Hr.o.keep E.o.size (fun b _ f=>E.o.block b f) (fun b hb f=>⟨by have:=J7.o;omega,f⟩));have j2:=a6 h7;have N:=a6 (b6 J6.o (E.o));clear h7 J8 hg L Hq Hr;have C:=a6 (show W.heap.size+2 <= w2.heap.size by have h1:=J6.o.size;have h2:=J3.o;omega)
 have j9:=a6 (HA.o.kept N.o);have j3:=a6 (fun(w':World) (hb:Below (W+1) w3 w')=>(j9.o.keep hb).cell 0 rfl);go_upto_region 5 with fail
 go_cut [] (fun wx=>At wx W [kd,(pa,p.length,pc),(ta,d.length,tc),pos,l0,(a1,m1,c1),(a2,m2,c2),(a3,m3,c3),(oa,ol.length,oc),(),(),false,(),OY,(),OY,false,(),OY,(),OY] 55/\At wx (W+1) [OY,(),(),OY,false,(),(),(),(),(),(),false,(),OY,(),OY,false,(),OY,(),OY] 55/\At wx w2 [kd2,(qa,p.length,qc),(ra,d.length,rc),pos,v4,v5,v6,v7,(s8,n8,k8),(s9,n9,k9), .slice xa 0 xc,false, .slice g1 0 h1,OY, .slice g2 0 h2,OY,false, .slice g3 0 h3,OY, .slice g4 0 h4,OY] 55/\RowQ wx (fun b=>W.heap.size+2 <= b/\b < w2.heap.size) 1 qa p.length qc (p.map (Value.int .i64))/\RowQ wx (fun b=>W.heap.size+2 <= b/\b < w2.heap.size) 1 ra d.length rc (d.map (Value.int .i64))/\Below W W wx)
 case first=>
  have F:=C.o;have k2:w2.heap.size+1 <= w3.heap.size:=J9.o
  go_region_held3 (fun w'=>w'.cell? W=some (.int .i64 kd)) (refine j3.o _ PZ)
   (first
   | (refine bQ rfl 190 _ _ rfl P5 [] ?_ _ (o_j _) ?_
      . go_simp
      rintro e w4 ⟨rfl,hm,g⟩;refine⟨_,rfl, ?_⟩;have ha:(Instr.lookup 219 (.map (some w3.heap.size)) kd false).run Tryz.prog w4= .ok (.int .i64 kd2) w4:=HU.o _ _ hm;have G:=a6 (Below.and (w0:=w3) P1 g);have O:=a6 (G.o.mono (show W.heap.size+1 <= w3.heap.size by omega));have Z:=a6 (j2.o.kept G.o);have t0:=Z.o.cell 0 rfl;have tl:=Z.o.lt
      have tf:=fun j=>Lib.frozen_of_heap Z.o j
      clear g hm))
  all_goals
   go_wp2_with fail
   go_meet
   case rel=>
    have F:=C.o;have i:W.heap.size≠w2.heap.size:=P2
    have l:W.heap.size+1≠w2.heap.size:=P2
    have K0:=HA.o.kept (b6 N.o G.o);have K1:=HB.o.kept (b6 N.o G.o);have f:¬ (W.heap.size+2 <= w2.heap.size/\w2.heap.size < w2.heap.size):=P2
    have K2:=h0.o.trans ((b6 N.o G.o).mono h0.o.size);exact⟨K0.set_ne i _,K1.set_ne l _,Z.o.set 0 _,b9 (G6 j0.o G.o) f,b9 (G6 j1.o G.o) f,K2.setCell (p:=w2) XY _⟩
 case rest=>
 obtain⟨hA,hB,hC,hq,hr,g⟩:=hcut;clear HA HB j2 j0 j1 j3 HU h0 N;have HA:=a6 hA;have HB:=a6 hB;have HC:=a6 hC;have Hq:=a6 hq;have Hr:=a6 hr;have r:=a6 g
 have t8:=hC.cell 8 rfl;have t9:=hC.cell 9 rfl;have tl:=hC.lt
 have tf:=fun j=>Lib.frozen_of_heap hC j
 clear hA hB hC hq hr g;go_upto_region 6 with fail
 go_cut [] (fun wx=>At wx W [kd,(pa,p.length,pc),(ta,d.length,tc),pos,l0,(a1,m1,c1),(a2,m2,c2),(a3,m3,c3),(oa,ol.length,oc),(),(),false,(),OY,(),OY,false,(),OY,(),OY] 55/\At wx (W+1) [OY,(),(),OY,false,(),(),(),(),(),(),false,(),OY,(),OY,false,(),OY,(),OY] 55/\At wx w2 [kd2,(qa,p.length,qc),(ra,d.length,rc),pos,v4,v5,v6,v7,(s9,n9,k9),(s8,n8,k8), .slice xa 0 xc,false, .slice g1 0 h1,OY, .slice g2 0 h2,OY,false, .slice g3 0 h3,OY, .slice g4 0 h4,OY] 55/\RowQ wx (fun b=>W.heap.size+2 <= b/\b < w2.heap.size) 1 qa p.length qc (p.map (Value.int .i64))/\RowQ wx (fun b=>W.heap.size+2 <= b/\b < w2.heap.size) 1 ra d.length rc (d.map (Value.int .i64))/\Below W W wx)
 case first=>
  go_wp2_with fail
  go_meet
  case rel=>
   have F:=C.o;have i:W.heap.size≠w2.heap.size:=P2
   have l:W.heap.size+1≠w2.heap.size:=P2
   have f:¬ (W.heap.size+2 <= w2.heap.size/\w2.heap.size < w2.heap.size):=P2
   have s:W.heap.size <= w2.heap.size:=P2
   exact⟨(HA.o.set_ne i _).set_ne i _,(HB.o.set_ne l _).set_ne l _,(HC.o.set 8 _).set 9 _,b9 (b9 Hq.o f) f,b9 (b9 Hr.o f) f,(r.o.setCell (p:=(P0 w2 8)) s _).setCell (p:=(P0 w2 9)) s _⟩
 case rest=>
 obtain⟨hA,hB,hC,hq,hr,g⟩:=hcut;clear HA HB HC Hq Hr r t8 t9 tl tf;have HA:=a6 hA;have HB:=a6 hB;have HC:=a6 hC;have Hq:=a6 hq;have Hr:=a6 hr;have r:=a6 g
 have t11:=hC.cell 11 rfl;have t12:=hC.cell 12 rfl;have t13:=hC.cell 13 rfl;have t14:=hC.cell 14 rfl;have t15:=hC.cell 15 rfl
 have t16:=hC.cell 16 rfl;have t17:=hC.cell 17 rfl;have t18:=hC.cell 18 rfl;have t19:=hC.cell 19 rfl;have t20:=hC.cell 20 rfl;have tl:=hC.lt
 have tf:=fun j=>Lib.frozen_of_heap hC j
 clear hA hB hC hq hr g;go_upto_region 7 with fail
 go_cut [] (fun wx=>At wx W [kd,(pa,p.length,pc),(ta,d.length,tc),pos,l0,(a1,m1,c1),(a2,m2,c2),(a3,m3,c3),(oa,ol.length,oc),(),(),false,(),OY,(),OY,false,(),OY,(),OY] 55/\At wx (W+1) [OY,(),(),OY,false,(),(),(),(),(),(),false,(),OY,(),OY,false,(),OY,(),OY] 55/\At wx w2 [kd2,(qa,p.length,qc),(ra,d.length,rc),pos,v4,v5,v6,v7,(s9,n9,k9),(s8,n8,k8), .slice xa 0 xc,false, .slice g3 0 h3,OY, .slice g4 0 h4,OY,false, .slice g1 0 h1,OY, .slice g2 0 h2,OY] 55/\RowQ wx (fun b=>W.heap.size+2 <= b/\b < w2.heap.size) 1 qa p.length qc (p.map (Value.int .i64))/\RowQ wx (fun b=>W.heap.size+2 <= b/\b < w2.heap.size) 1 ra d.length rc (d.map (Value.int .i64))/\Below W W wx)
 case first=>
  go_wp2_with fail
  go_meet
  case rel=>
   have F:=C.o;have i:W.heap.size≠w2.heap.size:=P2
   have l:W.heap.size+1≠w2.heap.size:=P2
   have f:¬ (W.heap.size+2 <= w2.heap.size/\w2.heap.size < w2.heap.size):=P2
   have s:W.heap.size <= w2.heap.size:=P2
   exact⟨((((((((((HA.o.set_ne i _).set_ne i _).set_ne i _).set_ne i _).set_ne i _).set_ne i _).set_ne i _).set_ne i _).set_ne i _).set_ne i _),((((((((((HB.o.set_ne l _).set_ne l _).set_ne l _).set_ne l _).set_ne l _).set_ne l _).set_ne l _).set_ne l _).set_ne l _).set_ne l _),((((((((((HC.o.set 11 _).set 12 _).set 13 _).set 14 _).set 15 _).set 16 _).set 17 _).set 18 _).set 19 _).set 20 _),b9 (b9 (b9 (b9 (b9 (b9 (b9 (b9 (b9 (b9 Hq.o f) f) f) f) f) f) f) f) f) f,b9 (b9 (b9 (b9 (b9 (b9 (b9 (b9 (b9 (b9 Hr.o f) f) f) f) f) f) f) f) f) f,(((((((((r.o.setCell (p:=(P0 w2 11)) s _).setCell (p:=(P0 w2 12)) s _).setCell (p:=(P0 w2 13)) s _).setCell (p:=(P0 w2 14)) s _).setCell (p:=(P0 w2 15)) s _).setCell (p:=(P0 w2 16)) s _).setCell (p:=(P0 w2 17)) s _).setCell (p:=(P0 w2 18)) s _).setCell (p:=(P0 w2 19)) s _).setCell (p:=(P0 w2 20)) s _⟩
 case rest=>
 obtain⟨hA,hB,hC,hq,hr,g⟩:=hcut;clear HA HB HC Hq Hr r t11 t12 t13 t14 t15 t16 t17 t18 t19 t20 tl tf;have HA:=a6 hA;have HB:=a6 hB;have HC:=a6 hC;have Hq:=a6 hq;have Hr:=a6 hr;have r:=a6 g
 have y0:=hA.cell 0 rfl;have yl:=hA.lt
 have Q: [v4,v5,v6,v7].all (·.oneCell')=true:=by
  have h:=H4.o;simp only [List.all_cons,List.all_nil,Bool.and_true,Bool.and_eq_true]at h⊢;exact⟨h.1,h.2.1,h.2.2.1,h.2.2.2.1⟩
 have D:=a6 Q;clear hA hB hC hq hr g Q H4;go_upto_region 9 with fail
 unfold s_y;rcases hk with rfl | rfl | rfl | rfl
 ·
   have m:Hid ([.int .i64 kd2, .slice qa p.length qc, .slice ra d.length rc, .int .i64 pos,v4,v5,v6,v7, .slice s9 n9 k9, .slice s8 n8 k8, .slice xa 0 xc, .bool false, .slice g3 0 h3, .int .i64 0, .slice g4 0 h4, .int .i64 0, .bool false, .slice g1 0 h1, .int .i64 0, .slice g2 0 h2, .int .i64 0].all (·.oneCell')=true):=by
    show _=true
    have h:=D.o;simp only [List.all_cons,List.all_nil,Bool.and_true,Bool.and_eq_true]at h⊢;exact⟨rfl,rfl,rfl,rfl,h.1,h.2.1,h.2.2.1,h.2.2.2,rfl,rfl,rfl,rfl,rfl,rfl,rfl,rfl,rfl,rfl,rfl,rfl,rfl⟩
   go_wp2_with (first
    | (refine bZ rfl _ _ rfl w2.heap.size #[kd2,(qa,p.length,qc),(ra,d.length,rc),pos,v4,v5,v6,v7,(s9,n9,k9),(s8,n8,k8), .slice xa 0 xc,false, .slice g3 0 h3,OY, .slice g4 0 h4,OY,false, .slice g1 0 h1,OY, .slice g2 0 h2,OY] rfl HC.o _ Tryz.underlying55 rfl P3 ?_)
    | (refine m6 rfl _ _ _ rfl rfl (W.heap.size+1) [OY,(),(),OY,false,(),(),(),(),(),(),false,(),OY,(),OY,false,(),OY,(),OY] #[kd2,(qa,p.length,qc),(ra,d.length,rc),pos,v4,v5,v6,v7,(s9,n9,k9),(s8,n8,k8), .slice xa 0 xc,false, .slice g3 0 h3,OY, .slice g4 0 h4,OY,false, .slice g1 0 h1,OY, .slice g2 0 h2,OY] rfl rfl HB.o rfl m.o P3 ?_))
   intro w5 x y;have H:=a6 x;have q:=a6 y
   clear x y;go_wp2_with fail;have A:=At.load (P:=Tryz.prog) H.o Tryz.underlying55 rfl P3
   simp [go_sem]at A
   refine bodyPost_ret (v:= .tuple #[.agg #[kd2,(qa,p.length,qc),(ra,d.length,rc),pos,v4,v5,v6,v7,(s9,n9,k9),(s8,n8,k8), .slice xa 0 xc,false, .slice g3 0 h3,OY, .slice g4 0 h4,OY,false, .slice g1 0 h1,OY, .slice g2 0 h2,OY],OY]) UJ rfl ?_;have F:=C.o;exact⟨(r.o).grown q.o (r.o).size (fun k e=>by cases e;omega),kd2,p,d,pos,_,_,_,_,_,_,_,_,_,_,_,_,_,_,_,_,_,_,_,_,_,rfl,U.o,h6.o,V.o,X.o,(Hq.o).keep q.o.size (fun b hb f=>q.o.block b f (fun e=>by have e:=Option.some.inj e;omega)) (fun _ _ _=>trivial),(Hr.o).keep q.o.size (fun b hb f=>q.o.block b f (fun e=>by have e:=Option.some.inj e;omega)) (fun _ _ _=>trivial),m.o⟩
 ·
   have m:Hid ([.int .i64 kd2, .slice qa p.length qc, .slice ra d.length rc, .int .i64 pos,v4,v5,v6,v7, .slice s9 n9 k9, .slice s8 n8 k8, .slice xa 0 xc, .bool false, .slice g3 0 h3, .int .i64 0, .slice g4 0 h4, .int .i64 0, .bool false, .slice g1 0 h1, .int .i64 0, .slice g2 0 h2, .int .i64 0].all (·.oneCell')=true):=by
    show _=true
    have h:=D.o;simp only [List.all_cons,List.all_nil,Bool.and_true,Bool.and_eq_true]at h⊢;exact⟨rfl,rfl,rfl,rfl,h.1,h.2.1,h.2.2.1,h.2.2.2,rfl,rfl,rfl,rfl,rfl,rfl,rfl,rfl,rfl,rfl,rfl,rfl,rfl⟩
   go_wp2_with (first
    | (refine bZ rfl _ _ rfl w2.heap.size #[kd2,(qa,p.length,qc),(ra,d.length,rc),pos,v4,v5,v6,v7,(s9,n9,k9),(s8,n8,k8), .slice xa 0 xc,false, .slice g3 0 h3,OY, .slice g4 0 h4,OY,false, .slice g1 0 h1,OY, .slice g2 0 h2,OY] rfl HC.o _ Tryz.underlying55 rfl P3 ?_)
    | (refine m6 rfl _ _ _ rfl rfl (W.heap.size+1) [OY,(),(),OY,false,(),(),(),(),(),(),false,(),OY,(),OY,false,(),OY,(),OY] #[kd2,(qa,p.length,qc),(ra,d.length,rc),pos,v4,v5,v6,v7,(s9,n9,k9),(s8,n8,k8), .slice xa 0 xc,false, .slice g3 0 h3,OY, .slice g4 0 h4,OY,false, .slice g1 0 h1,OY, .slice g2 0 h2,OY] rfl rfl HB.o rfl m.o P3 ?_))
   intro w5 x y;have H:=a6 x;have q:=a6 y
   clear x y;go_wp2_with fail;have A:=At.load (P:=Tryz.prog) H.o Tryz.underlying55 rfl P3
   simp [go_sem]at A
   refine bodyPost_ret (v:= .tuple #[.agg #[kd2,(qa,p.length,qc),(ra,d.length,rc),pos,v4,v5,v6,v7,(s9,n9,k9),(s8,n8,k8), .slice xa 0 xc,false, .slice g3 0 h3,OY, .slice g4 0 h4,OY,false, .slice g1 0 h1,OY, .slice g2 0 h2,OY],OY]) UJ rfl ?_;have F:=C.o;exact⟨(r.o).grown q.o (r.o).size (fun k e=>by cases e;omega),kd2,p,d,pos,_,_,_,_,_,_,_,_,_,_,_,_,_,_,_,_,_,_,_,_,_,rfl,U.o,h6.o,V.o,X.o,(Hq.o).keep q.o.size (fun b hb f=>q.o.block b f (fun e=>by have e:=Option.some.inj e;omega)) (fun _ _ _=>trivial),(Hr.o).keep q.o.size (fun b hb f=>q.o.block b f (fun e=>by have e:=Option.some.inj e;omega)) (fun _ _ _=>trivial),m.o⟩
 ·
   have k4:=H3.o rfl;have K3:Hid (yJ p (-1)=(kX p,0)):=by
    show _=_
    unfold yJ kX;rw [if_neg h6.o,if_neg P2]
    rfl
   have K4:=HA.o.cell 1 rfl;have j4:=a6 (HK.o wc r.o);clear HK;go_wp2_with fail;refine j4.o.mono ?_;rw [K3.o];rintro e w6 ⟨g,v,rfl,R⟩;obtain⟨ba,bc,rfl,j5⟩:=RowQ.of_own R PJ;have H0:=a6 (HC.o.kept g);have K5:=a6 (HB.o.kept g)
   have K6:=a6 (show RowQ w6 (fun b=>wc.heap.size <= b) 1 ba (kX p).length bc ((kX p).map (Value.int .i64))from j5.keep (a8) (fun _ _ _=>rfl) (fun b hb _=>(R.lt b hb).1));have K7:=a6 (r.o.trans (g.mono r.o.size))
   have K8:=a6 (G6 Hr.o g);have tl:=H0.o.lt;have t1:=H0.o.cell 1 rfl
   have tf:=fun j=>Lib.frozen_of_heap H0.o j
   have H6:=a6 (show w2.heap.size+1 <= wc.heap.size from HC.o.lt);have I:=a6 (show W.heap.size+1≠w2.heap.size by have h:=C.o;omega);have K9:Hid (¬wc.heap.size <= w2.heap.size):=by have h:=H6.o;show ¬_;omega
   clear j4 g R j5 K4 y0 yl;have m:Hid ([.int .i64 kd2, .slice ba (kX p).length bc, .slice ra d.length rc, .int .i64 pos,v4,v5,v6,v7, .slice s9 n9 k9, .slice s8 n8 k8, .slice xa 0 xc, .bool false, .slice g3 0 h3, .int .i64 0, .slice g4 0 h4, .int .i64 0, .bool false, .slice g1 0 h1, .int .i64 0, .slice g2 0 h2, .int .i64 0].all (·.oneCell')=true):=by
    show _=true
    have h:=D.o;simp only [List.all_cons,List.all_nil,Bool.and_true,Bool.and_eq_true]at h⊢;exact⟨rfl,rfl,rfl,rfl,h.1,h.2.1,h.2.2.1,h.2.2.2,rfl,rfl,rfl,rfl,rfl,rfl,rfl,rfl,rfl,rfl,rfl,rfl,rfl⟩
   go_wp2_with (first
    | (refine bZ rfl _ _ rfl w2.heap.size #[kd2,(ba,(kX p).length,bc),(ra,d.length,rc),pos,v4,v5,v6,v7,(s9,n9,k9),(s8,n8,k8), .slice xa 0 xc,false, .slice g3 0 h3,OY, .slice g4 0 h4,OY,false, .slice g1 0 h1,OY, .slice g2 0 h2,OY] rfl (H0.o.set 1 (Value.slice ba (kX p).length bc)) _ Tryz.underlying55 rfl P3 ?_)
    | (refine m6 rfl _ _ _ rfl rfl (W.heap.size+1) [OY,(),(),OY,false,(),(),(),(),(),(),false,(),OY,(),OY,false,(),OY,(),OY] #[kd2,(ba,(kX p).length,bc),(ra,d.length,rc),pos,v4,v5,v6,v7,(s9,n9,k9),(s8,n8,k8), .slice xa 0 xc,false, .slice g3 0 h3,OY, .slice g4 0 h4,OY,false, .slice g1 0 h1,OY, .slice g2 0 h2,OY] rfl rfl (K5.o.set_ne I.o _) rfl m.o P3 ?_))
   intro w5 x y;have H:=a6 x;have q:=a6 y
   clear x y;go_wp2_with fail;have A:=At.load (P:=Tryz.prog) H.o Tryz.underlying55 rfl P3
   simp [go_sem]at A
   refine bodyPost_ret (v:= .tuple #[.agg #[kd2,(ba,(kX p).length,bc),(ra,d.length,rc),pos,v4,v5,v6,v7,(s9,n9,k9),(s8,n8,k8), .slice xa 0 xc,false, .slice g3 0 h3,OY, .slice g4 0 h4,OY,false, .slice g1 0 h1,OY, .slice g2 0 h2,OY],OY]) UJ rfl ?_;have F:=C.o;have k0:=K9.o;have S:=K7.o.setCell (p:=(P0 w2 1)) XY (Value.slice ba (kX p).length bc);have k3:=H6.o;exact⟨(S).grown q.o (S).size (fun k e=>by cases e;omega),kd2,kX p,d,pos,_,_,_,_,_,_,_,_,_,_,_,_,_,_,_,_,_,_,_,_,_,rfl,U.o,by unfold kX;simp,by unfold kX;have:=V.o;simp;omega,X.o,(b9 (u:=Value.slice ba (kX p).length bc) (o:=1) K6.o k0).keep q.o.size (fun b hb f=>q.o.block b f (fun e=>by have e:=Option.some.inj e;omega)) (fun _ _ _=>trivial),(b9 (u:=Value.slice ba (kX p).length bc) (o:=1) K8.o P2).keep q.o.size (fun b hb f=>q.o.block b f (fun e=>by have e:=Option.some.inj e;omega)) (fun _ _ _=>trivial),m.o⟩
 ·
   have j6:=H5.o rfl;have k1:=a6 j6;have tl:=HC.o.lt;have t1:=HC.o.cell 1 rfl;have t2:=HC.o.cell 2 rfl
   have tf:=fun j=>Lib.frozen_of_heap HC.o j
   have I:=a6 (show W.heap.size+1≠w2.heap.size by have h:=C.o;omega);clear j6;have m:Hid ([.int .i64 kd2, .slice ra d.length rc, .slice qa p.length qc, .int .i64 pos,v4,v5,v6,v7, .slice s9 n9 k9, .slice s8 n8 k8, .slice xa 0 xc, .bool false, .slice g3 0 h3, .int .i64 0, .slice g4 0 h4, .int .i64 0, .bool false, .slice g1 0 h1, .int .i64 0, .slice g2 0 h2, .int .i64 0].all (·.oneCell')=true):=by
    show _=true
    have h:=D.o;simp only [List.all_cons,List.all_nil,Bool.and_true,Bool.and_eq_true]at h⊢;exact⟨rfl,rfl,rfl,rfl,h.1,h.2.1,h.2.2.1,h.2.2.2,rfl,rfl,rfl,rfl,rfl,rfl,rfl,rfl,rfl,rfl,rfl,rfl,rfl⟩
   go_wp2_with (first
    | (refine bZ rfl _ _ rfl w2.heap.size #[kd2,(ra,d.length,rc),(qa,p.length,qc),pos,v4,v5,v6,v7,(s9,n9,k9),(s8,n8,k8), .slice xa 0 xc,false, .slice g3 0 h3,OY, .slice g4 0 h4,OY,false, .slice g1 0 h1,OY, .slice g2 0 h2,OY] rfl ((HC.o.set 1 (Value.slice ra d.length rc)).set 2 (Value.slice qa p.length qc)) _ Tryz.underlying55 rfl P3 ?_)
    | (refine m6 rfl _ _ _ rfl rfl (W.heap.size+1) [OY,(),(),OY,false,(),(),(),(),(),(),false,(),OY,(),OY,false,(),OY,(),OY] #[kd2,(ra,d.length,rc),(qa,p.length,qc),pos,v4,v5,v6,v7,(s9,n9,k9),(s8,n8,k8), .slice xa 0 xc,false, .slice g3 0 h3,OY, .slice g4 0 h4,OY,false, .slice g1 0 h1,OY, .slice g2 0 h2,OY] rfl rfl ((HB.o.set_ne I.o _).set_ne I.o _) rfl m.o P3 ?_))
   intro w5 x y;have H:=a6 x;have q:=a6 y
   clear x y;go_wp2_with fail;have A:=At.load (P:=Tryz.prog) H.o Tryz.underlying55 rfl P3
   simp [go_sem]at A
   refine bodyPost_ret (v:= .tuple #[.agg #[kd2,(ra,d.length,rc),(qa,p.length,qc),pos,v4,v5,v6,v7,(s9,n9,k9),(s8,n8,k8), .slice xa 0 xc,false, .slice g3 0 h3,OY, .slice g4 0 h4,OY,false, .slice g1 0 h1,OY, .slice g2 0 h2,OY],OY]) UJ rfl ?_;have F:=C.o;have s:W.heap.size <= w2.heap.size:=P2
   have S:=(r.o.setCell (p:=(P0 w2 1)) s (Value.slice ra d.length rc)).setCell (p:=(P0 w2 2)) s (Value.slice qa p.length qc);have f:¬ (W.heap.size+2 <= w2.heap.size/\w2.heap.size < w2.heap.size):=P2
   exact⟨(S).grown q.o (S).size (fun k e=>by cases e;omega),kd2,d,p,pos,_,_,_,_,_,_,_,_,_,_,_,_,_,_,_,_,_,_,_,_,_,rfl,U.o,k1.o,X.o,V.o,(b9 (u:=Value.slice qa p.length qc) (o:=2) (b9 (u:=Value.slice ra d.length rc) (o:=1) Hr.o f) f).keep q.o.size (fun b hb f=>q.o.block b f (fun e=>by have e:=Option.some.inj e;omega)) (fun _ _ _=>trivial),(b9 (u:=Value.slice qa p.length qc) (o:=2) (b9 (u:=Value.slice ra d.length rc) (o:=1) Hq.o f) f).keep q.o.size (fun b hb f=>q.o.block b f (fun e=>by have e:=Option.some.inj e;omega)) (fun _ _ _=>trivial),m.o⟩
theorem lV.joinL {M L:Nat} {w w':World} {v v':Value} {xs ys:List PX} {M':Nat} {u:Value} (h:lV w M L v xs) (hr:lV w M' L u ys) (f:∀y∈ys,N5 w (fun b=>L <= b/\v.ownBlock≠some b) y)
 (hg:w.grownBy w' v.ownBlock) (a:w'.ownsRow M 36 1 v' (xs.length+ys.length) (xs.map C5 ++ ys.map C5)) (hw:v'.ownBlock=v.ownBlock∨ ∀k,v'.ownBlock=some k ->w.heap.size <= k):lV w' M L v' (xs ++ ys):=by
 have hs:=hg.size;have c:∀x∈xs ++ ys,N5 w (fun b=>L <= b/\v.ownBlock≠some b) x:=fun x hx=>by
  rcases OQ hx with hx | hx
  . exact h.all x hx
  exact f x hx
 refine⟨by rw [NZ,List.map_append];exact a,fun x hx=>(c x hx).keep hs (fun b hb d=>hg.block b d (fun e=>hb.2 e.symm)) fun b hb d=>⟨hb.1, ?_⟩⟩;rcases hw with e | e
 . rw [e];exact hb.2
 intro e2;have:=e b e2;omega
theorem i_l {P:Program} {ops:Array Oper} {rest:List Oper} {o:Oper} {a:Act} {w:World} {Q:Exit ->Act ->World ->Prop}
 (hg:o.guard=none) (s x:Operand) (ho:o.op= .call { callee:= .builtin .append,args:= #[s,x],argTypes:= #[47,47] })
 (ht:P.underlying 47=some (.slice 36)) (hi:(P.info? 36).map (fun i=>(i.zero,i.size,i.bytes))=some (some (.slice none 0 0),1,24))
 (M L:Nat) (v:Value) (xs:List PX) (hs:a.eval s=v) (hO:lV w M L v xs) (M':Nat) (ys:List PX) (ad:Addr) (yc:Nat) (hx:a.eval x= .slice (some ad) ys.length yc) (hr:lV w M' L ((some ad),ys.length,yc) ys) (f:∀y∈ys,N5 w (fun b=>L <= b/\v.ownBlock≠some b) y)
 (hn:xs.length+ys.length <= 100000000) (hM:M <= w.heap.size)
 (h:∀v' w',lV w' M L v' (xs ++ ys) ->Below M w w' ->wpList P ops Q rest (a.put o.dst v') w'):wpList P ops Q (o::rest) a w:=by
 obtain⟨a',c',hv,d⟩:=hr.read.row;injection hv with e1 e2 e3
 subst e1;subst e3;refine I2 hg s x 47 ho M 36 () 1 24 ht hi rfl P9 v xs.length (xs.map C5) hs hO.own ad ys.length yc w (ys.map C5) hx d R8 P2 hM fun v' w' e c g=> ?_
 exact h v' w' (lV.joinL hO hr f c e g) ((Below.refl M w).grown c hM (fun k hk=>hO.ge k hk))
theorem l_b:∀args w,(callFunc 128 args).run Tryz.prog w= .ok (.enter 128 args) w:=PY
theorem o_B (p:List Int) (N:Nat) (pa:Option Addr) (pc:Nat) (cs:List Value) (W:World) (hN:At W N cs 55) (hc:cs[1]? =some (.slice pa p.length pc)) (hp:RowA W W 1 pa p.length pc (p.map (Value.int .i64))) (c:p.length <= 1000000):
 Calls Tryz.prog 127 #[.pointer N] W (f_W W (some p)):=by
 have HC:=a6 (pZ W p.length pa pc _ W hp (a8) P2);have c1:=hN.cell 1 hc;have cl:=hN.lt
 clear hN hp;go_enter Tryz.func127,Tryz.ntmps127;go_wp2_with fail;refine HC.o.mono ?_;rintro e w1 ⟨v,rfl,a,b⟩;have Hb:=a6 b;have Ho:=a6 a
 clear b a HC c1 cl;go_wp2_with fail;go_ret2;exact⟨Hb.o,fun q hq=>by cases hq;exact⟨v,rfl,Ho.o⟩,fun h=>by cases h⟩
theorem s_z (p:List Int) (N:Nat) (pa:Option Addr) (pc:Nat) (cs:List Value) (W:World) (hN:At W N cs 55) (hc:cs[1]? =some (.slice pa p.length pc)) (hp:RowA W W 1 pa p.length pc (p.map (Value.int .i64))) (d:p.length <= 1000000) (c:p≠ []):
 Calls Tryz.prog 128 #[.pointer N] W (f_W W (some p.dropLast)):=by
 have hC:=h_Q p pa pc W W hp (a8) d;rw [show I9 p=(p.dropLast,0)by unfold I9;rw [if_neg c]]at hC;have HC:=a6 hC;have c1:=hN.cell 1 hc;have cl:=hN.lt
 clear hN hp hC c;generalize p.dropLast=q at HC⊢
 go_enter Tryz.func128,Tryz.ntmps128
 go_wp2_with fail;refine HC.o.mono ?_;rintro e w1 ⟨a,v,rfl,b⟩;have Hb:=a6 a;have Ho:=a6 b
 clear a b HC c1 cl;go_wp2_with fail;go_ret2;exact⟨Hb.o,fun q hq=>by cases hq;exact⟨v,rfl,Ho.o⟩,fun h=>by cases h⟩
theorem s_N (p:List Int) (N:Nat) (pa:Option Addr) (pc:Nat) (cs:List Value) (W:World) (hN:At W N cs 55) (hc:cs[2]? =some (.slice pa p.length pc)) (hp:RowA W W 1 pa p.length pc (p.map (Value.int .i64))) (d:p.length <= 1000000) (c:p≠ []):
 Calls Tryz.prog 138 #[.pointer N] W (f_W W (some p.dropLast)):=by
 have hC:=h_Q p pa pc W W hp (a8) d;rw [show I9 p=(p.dropLast,0)by unfold I9;rw [if_neg c]]at hC;have HC:=a6 hC;have c1:=hN.cell 2 hc;have cl:=hN.lt
 clear hN hp hC c;generalize p.dropLast=q at HC⊢
 go_enter Tryz.func138,Tryz.ntmps138
 go_wp2_with fail;refine HC.o.mono ?_;rintro e w1 ⟨a,v,rfl,b⟩;have Hb:=a6 a;have Ho:=a6 b
 clear a b HC c1 cl;go_wp2_with fail;go_ret2;exact⟨Hb.o,fun q hq=>by cases hq;exact⟨v,rfl,Ho.o⟩,fun h=>by cases h⟩
theorem q_E (p:List Int) (N:Nat) (pa:Option Addr) (pc:Nat) (cs:List Value) (W:World) (hN:At W N cs 55) (hc:cs[1]? =some (.slice pa p.length pc)) (hp:RowA W W 1 pa p.length pc (p.map (Value.int .i64))) (d:p.length <= 1000000) (c:p≠ []) (hw:∀z∈p, -9223372036854775807 <= z/\z <= 9223372036854775807):
 Calls Tryz.prog 130 #[.pointer N] W (f_W W (if 0 < jK p then some (kX p) else none)):=by
 have hC:=j_F p pa pc W W hp (a8) d hw;have hR:yJ p (-1)=if 0 < jK p then (kX p,0) else ([],8):=by
  unfold yJ kX;rw [if_neg c];by_cases h:0 < jK p
  . rw [if_pos h,if_neg P2,Int.sub_eq_add_neg]
  rw [if_neg h,if_pos P2]
 rw [hR]at hC;have HC:=a6 hC
 have c1:=hN.cell 1 hc;have cl:=hN.lt
 clear hN hp hC c hR hw;by_cases h:0 < jK p
 . rw [if_pos h]at HC⊢
   clear h;generalize kX p=q at HC⊢
   go_enter Tryz.func130,Tryz.ntmps130
   go_wp2_with fail;refine HC.o.mono ?_;rintro e w1 ⟨a,v,rfl,b⟩;have Hb:=a6 a;have Ho:=a6 b
   clear a b HC c1 cl;go_wp2_with fail;go_ret2;exact⟨Hb.o,fun q hq=>by cases hq;exact⟨v,rfl,Ho.o⟩,fun h=>by cases h⟩
 rw [if_neg h]at HC⊢;clear h;go_enter Tryz.func130,Tryz.ntmps130;go_wp2_with fail;refine HC.o.mono ?_;rintro e w1 ⟨a,v,rfl,b⟩;have Hb:=a6 a
 clear a b HC c1 cl;go_wp2_with fail;go_ret2;exact⟨Hb.o,(fun q hq=>by cases hq),fun _=>⟨v,8,rfl,by decide⟩⟩
theorem s_1 (p d:List Int) (kd pos:Int) (N U:Nat) (pa ta:Option Addr) (pc tc:Nat) (v4 v5 v6 v7 v8 v9 v10 v11 v12 v13 v14 v15 v16 v17 v18 v19 v20:Value) (T:TypeId) (W:World) (hk:IJ kd) (hN:At W N [kd,(pa,p.length,pc),(ta,d.length,tc),pos,v4,v5,v6,v7,v8,v9,v10,v11,v12,v13,v14,v15,v16,v17,v18,v19,v20] 55) (hU:At W U [.func (.func 128) #[] #[.pointer N]] T)
 (hp:RowA W W 1 pa p.length pc (p.map (Value.int .i64))) (hd:RowA W W 1 ta d.length tc (d.map (Value.int .i64))) (n:p.length <= 400000) (o:d.length <= 400000) (g:p≠ []):
 Calls Tryz.prog 139 #[.pointer U, .pointer N] W (f_W W (pJ kd p d pos p.dropLast)):=by
 have HC:=a6 (s_z p N pa pc _ W hN rfl hp P2 g);have c:p.dropLast.length <= 400000:=P8
 have HM:=a6 (fun(w1:World) (hb:Below W W w1) (va:Option Addr) (vc:Nat) (hv:RowA w1 w1 1 va p.dropLast.length vc (p.dropLast.map (Value.int .i64)))=>l_7 p.dropLast p d kd pos va pa ta vc pc tc v4 v5 v6 v7 v8 v9 v10 v11 v12 v13 v14 v15 v16 v17 v18 v19 v20 w1 hk hv (hp.keep hb hb.size) (hd.keep hb hb.size) c n o g);have HN:=a6 hN;have u0:=hU.cell 0 rfl;have ul:=hU.lt
 generalize p.dropLast=q at HC HM c⊢;clear hN hp hd hU g;have he:=l_b
 obtain⟨R,hR⟩:∃R,R=pJ kd p d pos q:=⟨_,rfl⟩;simp only [<- hR]at HM⊢;clear hR;go_enter Tryz.func139,Tryz.ntmps139;go_wp2_with fail;refine HC.o.mono ?_;rintro e w1 ⟨a,b, -⟩;obtain⟨v,rfl,f⟩:=b q rfl;obtain⟨va,vc,rfl,hq⟩:=eK f PJ;have j:=a6 a;have k:=a6 (HM.o w1 a va vc hq);have l:=a6 (HN.o.kept a);clear a b f hq HC HM u0 ul;go_wp2_with (refine bZ rfl _ _ rfl N #[kd,(pa,p.length,pc),(ta,d.length,tc),pos,v4,v5,v6,v7,v8,v9,v10,v11,v12,v13,v14,v15,v16,v17,v18,v19,v20] rfl l.o _ Tryz.underlying55 rfl P3 ?_);refine k.o.mono ?_;rintro e w2 ⟨a,i,b⟩;have m:=a6 (b6 j.o a)
 have r:=a6 j.o.size;clear a k l;cases R with
 | none=>
   obtain rfl:=i rfl;clear i b;go_wp2_with fail;go_ret2;exact⟨m.o,(fun q hq=>by cases hq),fun _=>⟨_,5,rfl,by decide⟩⟩
 | some ys=>
   obtain⟨v,rfl,ho⟩:=b ys rfl;have Ho:=a6 (qK ho r.o);clear i b ho;go_wp2_with fail;go_ret2;exact⟨m.o,fun q hq=>by cases hq;exact⟨v,rfl,Ho.o⟩,fun h=>by cases h⟩
theorem g_X {p:List Int} {N:Nat} {pa:Option Addr} {pc:Nat} {cs:List Value} {W:World} (hN:At W N cs 55) (hc:cs[1]? =some (.slice pa p.length pc)) (hp:RowA W W 1 pa p.length pc (p.map (Value.int .i64))) (a:p.length <= 1000000):
 N1 W (some p) (.func (.func 127) #[] #[.pointer N]):=⟨_,_,rfl,P5,fun w' hb=>o_B p N pa pc cs w' (hN.kept hb) hc (hp.keep hb hb.size) a⟩
theorem e_z {p:List Int} {N:Nat} {pa:Option Addr} {pc:Nat} {cs:List Value} {W:World} (hN:At W N cs 55) (hc:cs[1]? =some (.slice pa p.length pc)) (hp:RowA W W 1 pa p.length pc (p.map (Value.int .i64))) (a:p.length <= 1000000) (b:p≠ []):
 N1 W (some p.dropLast) (.func (.func 128) #[] #[.pointer N]):=⟨_,_,rfl,l_b,fun w' hb=>s_z p N pa pc cs w' (hN.kept hb) hc (hp.keep hb hb.size) a b⟩
theorem o_C {p:List Int} {N:Nat} {pa:Option Addr} {pc:Nat} {cs:List Value} {W:World} (hN:At W N cs 55) (hc:cs[2]? =some (.slice pa p.length pc)) (hp:RowA W W 1 pa p.length pc (p.map (Value.int .i64))) (a:p.length <= 1000000) (b:p≠ []):
 N1 W (some p.dropLast) (.func (.func 138) #[] #[.pointer N]):=⟨_,_,rfl,P5,fun w' hb=>s_N p N pa pc cs w' (hN.kept hb) hc (hp.keep hb hb.size) a b⟩
theorem k_1 {p:List Int} {N:Nat} {pa:Option Addr} {pc:Nat} {cs:List Value} {W:World} (hN:At W N cs 55) (hc:cs[1]? =some (.slice pa p.length pc)) (hp:RowA W W 1 pa p.length pc (p.map (Value.int .i64))) (a:p.length <= 1000000) (b:p≠ []) (hw:∀z∈p, -9223372036854775807 <= z/\z <= 9223372036854775807):
 N1 W (if 0 < jK p then some (kX p) else none) (.func (.func 130) #[] #[.pointer N]):=⟨_,_,rfl,P5,fun w' hb=>q_E p N pa pc cs w' (hN.kept hb) hc (hp.keep hb hb.size) a b hw⟩
theorem m_j (w:World) (x y:Value) (T:TypeId) (hx:x.oneCell'=true) (hy:y.oneCell'=true):RowA (w.alloc (.cells #[x,y] T)) (w.alloc (.cells #[x,y] T)).heap.size 1 w 2 2 [x,y]:=
 RowQ.row (ok:=fun _=>True) (BQ (T:=T) (At.fresh w [x,y] T) 2 1 rfl P2 s_U trivial)
theorem N1.keep {W w:World} {r:Option (List Int)} {f:Value} (h:N1 W r f) (hb:Below W W w):N1 w r f:=by
 obtain⟨l,caps,rfl,he,hC⟩:=h;exact⟨l,caps,rfl,he,fun w' a=>hC w' (b6 hb a)⟩
theorem q_F (f:Value) (r:Option (List Int)) (T:TypeId) (w:World) (h1:f.oneCell'=true) (hf:N1 w r f):Calls Tryz.prog 137 #[.slice w 1 1] (w.alloc (.cells #[f] T)) (C8 w r.toList):=by
 have hb:=b7 w (.cells #[f] T);have h:=o_t [f] [r] w 1 (w.alloc (.cells #[f] T)) (B6 w f T _ h1 P6) rfl P6 (fun k hk=>by
  obtain rfl:k=0:=u_b
  exact hf.keep hb)
 refine h.mono ?_;rintro e w' ⟨v,xs,rfl,hx,hp,a⟩;exact⟨v,xs,rfl,hx.from hb.size hb.size,by rw [hp];cases r <;> rfl,b6 hb a⟩
theorem g_Y (f g:Value) (r q:Option (List Int)) (T:TypeId) (w:World) (h1:f.oneCell'=true) (h2:g.oneCell'=true) (hf:N1 w r f) (hg:N1 w q g):Calls Tryz.prog 137 #[.slice w 2 2] (w.alloc (.cells #[f,g] T)) (C8 w (r.toList ++ q.toList)):=by
 have hb:=b7 w (.cells #[f,g] T);have h:=o_t [f,g] [r,q] w 2 (w.alloc (.cells #[f,g] T)) (m_j w f g T h1 h2) rfl P6 (fun k hk=>by
  obtain rfl | rfl:k=0∨k=1:=u_b
  . exact hf.keep hb
  exact hg.keep hb)
 refine h.mono ?_;rintro e w' ⟨v,xs,rfl,hx,hp,a⟩;exact⟨v,xs,rfl,hx.from hb.size hb.size,by rw [hp];cases r <;> cases q <;> rfl,b6 hb a⟩
theorem i_m (l:Bool) (a:Option Addr) (n c:Nat) (b:Option Addr) (m d:Nat) (e:Option Addr) (k f:Nat) (w:World):(Instr.field 35 (.agg #[l,(a,n,c),(b,m,d),(e,k,f)]) 1).run Tryz.prog w= .ok (.slice a n c) w:=P3
theorem q_G (w:World) (ok:Nat ->Prop):NodeQ w ok (.mk true [] [] []) [true,(),(),()]:=by
 unfold NodeQ;exact⟨none,0,none,0,none,0, [],rfl,RowQ.empty _ _ _,RowQ.empty _ _ _,by simp,RowQ.empty _ _ _,by unfold dK;rfl⟩
theorem m_k (p:List Int) (pa:Option Addr) (pc:Nat) (ks:List aX) (ak:Option Addr) (ck:Nat) (css:List Value) (v1 v2 v3 v5 v6 v7 v8 v9 v10 v13 v15:Value) (fl:Int) (ft:List UInt8) (j:Nat) (W:World)
 (hJ:b_R W p pa pc ks ak ck css j):
 Calls Tryz.prog 59 #[.agg #[(pa,p.length,pc),v1,v2,v3,(ak,ks.length,ck),v5,v6,v7,v8,v9,v10,fl,aZ ft,v13,j,v15]] W (e_r W [⟨1,p ++ [(j:Int)], [],0,if fl=1 then .mk true [] [] [] else gX ft, []⟩]):=by
 obtain⟨Q,hQ⟩:∃Q,Q=(if fl=1 then aX.mk true [] [] [] else gX ft):=⟨_,rfl⟩;rw [<- hQ];have HQ:=a6 hQ
 clear hQ;obtain⟨w0,f⟩:∃w0,w0=(W.alloc (Obj.cells #[(pa,p.length,pc),v1,v2,v3,(ak,ks.length,ck),v5,v6,v7,v8,v9,v10,fl,aZ ft,v13,j,v15] 98)).alloc (Obj.cells #[true,(),(),()] 35):=⟨_,rfl⟩;have n:Below W W w0:=t_B
 have hB:At w0 W [(pa,p.length,pc),v1,v2,v3,(ak,ks.length,ck),v5,v6,v7,v8,v9,v10,fl,aZ ft,v13,j,v15] 98:=by rw [f];exact(At.fresh _ _ _).alloc _
 have hN:At w0 (W+1) [true,(),(),()] 35:=by rw [f];exact At.second _ _ _ _
 have g:=fun(w1:World) (hb:Below W W w1)=>h_X p pa pc v1 v2 v3 (ak,ks.length,ck) v5 v6 v7 v8 v9 v10 fl (aZ ft) v13 v15 j 0 w1 (hJ.keep hb).path hJ.pl hJ.at_ P2 P2
 rw [Int.add_zero]at g;generalize p ++ [(j:Int)]=zs at g⊢;have q:=a6 g;have HT:=a6 (fun(w1:World)=>h_Y ft w1);have r:=fun(w':World) (h:At w' W [(pa,p.length,pc),v1,v2,v3,(ak,ks.length,ck),v5,v6,v7,v8,v9,v10,fl,aZ ft,v13,j,v15] 98)=>At.load (P:=Tryz.prog) h Tryz.underlying98 rfl P3
 simp [go_sem]at r
 have s:=a6 f;have i:=a6 n;have HB:=a6 hB;have HN:=a6 hN
 have x11:=hB.cell 11 rfl;have xl:=hB.lt;obtain⟨⟨n0,n1,n2,n3⟩,nf,nl⟩:=hN.f4;clear f n hB hN g hJ;go_enter Tryz.func59,Tryz.ntmps59;go_upto_region 2 with fail;rw [<- s.o];clear s;go_upto_if 8 with fail
 go_cut [] (fun wx=>∃l a1 m1 k1 a2 m2 k2 a3 m3 k3,At wx (W+1) [.bool l, .slice a1 m1 k1, .slice a2 m2 k2, .slice a3 m3 k3] 35/\At wx W [(pa,p.length,pc),v1,v2,v3,(ak,ks.length,ck),v5,v6,v7,v8,v9,v10,fl,aZ ft,v13,j,v15] 98/\NodeQ wx (fun b=>w0.heap.size <= b) Q [.bool l, .slice a1 m1 k1, .slice a2 m2 k2, .slice a3 m3 k3]/\Below W W wx)
 case first=>
  by_cases h1:fl=1
  . subst h1
    have m:=a6 (show Q= .mk true [] [] []by rw [HQ.o,if_pos rfl]);go_wp2_with fail
    go_meet
    case rel=>
     refine⟨_,_,_,_,_,_,_,_,_,_,HN.o,HB.o, ?_,i.o⟩;rw [m.o];exact q_G _ _
  have H:(fl != 1)=true:=UV
  have m:=a6 (show Q=gX ft by rw [HQ.o,if_neg h1]);have x12:=HB.o.cell 12 rfl;have t:=a6 (HT.o w0);clear h1 r;go_wp2_with fail;refine t.o.mono ?_;rintro e w1 ⟨cs,rfl,hn,a⟩;obtain⟨l,a1,m1,k1,a2,m2,k2,a3,m3,k3,rfl⟩:=hn.form;have Hn:=a6 hn;have c:=a6 (i.o.trans (a.mono i.o.size))
  have u:=a6 (HN.o.kept a);have A:=a6 (HB.o.kept a)
  clear a hn n0 n1 n2 n3 nf nl x11 x12 t;obtain⟨⟨n0,n1,n2,n3⟩,nf,nl⟩:=u.o.f4;go_wp2_with fail
  go_meet
  case rel=>
   have B:W.heap.size <= W.heap.size+1:=P2
   have k:¬w0.heap.size <= W.heap.size+1:=by have:=HN.o.lt;omega
   refine⟨_,_,_,_,_,_,_,_,_,_,u.o.s4 _ _ _ _,A.o.n4 P2 _ _ _ _, ?_,l7 c.o B _ _ _ _⟩;rw [m.o];exact cQ (cQ (cQ (cQ Hn.o k) k) k) k
 case rest=>
  obtain⟨l,a1,m1,k1,a2,m2,k2,a3,m3,k3,v,w,x,y⟩:=hcut;have C:=a6 v;have D:=a6 w;have E:=a6 x;have d:=a6 y
  have z:=a6 (fun(w1:World) (hb:Below wc wc w1)=>q.o w1 (d.o.trans (hb.mono d.o.size)));have F:=a6 (fun(w':World) (hb:Below wc wc w')=>And.intro (D.o.kept hb) (C.o.kept hb));have G:=fun(w':World) (h:At w' (W+1) [l,(a1,m1,k1),(a2,m2,k2),(a3,m3,k3)] 35)=>At.load (P:=Tryz.prog) h Tryz.underlying35 rfl P3
  simp [go_sem]at G
  clear v w x y n0 n1 n2 n3 nf nl x11 HN HB HT q;go_upto_region 4 with fail
  go_region_held3 (fun w'=>At w' W [(pa,p.length,pc),v1,v2,v3,(ak,ks.length,ck),v5,v6,v7,v8,v9,v10,fl,aZ ft,v13,j,v15] 98/\At w' (W+1) [l,(a1,m1,k1),(a2,m2,k2),(a3,m3,k3)] 35) (refine F.o _ (by(with_reducible (repeat (first | exact c.o | exact a7 | refine aK ?_ | refine aQ ?_ ?_ _ | refine aV ?_ ?_ _)) <;> (first | exact a8 | exact c.o.size | (have:=c.o.size;simp [World.setCell];omega) | (simp <;> omega) | omega))))
   (first
   | (refine bQ rfl 109 _ _ rfl P5 [.agg #[(pa,p.length,pc),v1,v2,v3,(ak,ks.length,ck),v5,v6,v7,v8,v9,v10,fl,aZ ft,v13,j,v15],OY] ?_ _ (z.o _ P1) ?_
      . go_simp
      rintro e w1 ⟨za,zc,rfl,hq,a⟩;refine⟨_,rfl, ?_⟩;have c:=a6 (Below.and (w0:=wc) P1 a);have Hz:=a6 (RowQ.imp hq (fun b hb=>(show W.heap.size <= b from aJ (aJ d.o.size QZ) hb)));clear a hq))
  all_goals
   go_wp2_with fail;go_ret;refine⟨_,rfl,e_q (o:=⟨1,zs, [],0,Q, []⟩) ⟨za,zc,none,0,_,_,_,_,none,0,rfl,Hz.o,RowQ.empty _ _ _,NodeQ.keep (a8) (fun _ _ _=>rfl) (fun b hb _=>aJ i.o.size hb) _ _ (E.o.since c.o),RowQ.empty _ _ _⟩ (aJ d.o.size c.o.size),d.o.trans ((c.o.alloc c.o.size _).mono d.o.size)⟩
theorem k_2 (p:List Int) (pa:Option Addr) (pc:Nat) (ks:List aX) (ak:Option Addr) (ck:Nat) (css:List Value) (v1 v2 v3 v5 v6 v7 v8 v9 v10 v11 v12 v13 v15:Value) (j:Nat) (W:World)
 (hJ:b_R W p pa pc ks ak ck css j) (hj:j < ks.length) (S:0 < j):
 Calls Tryz.prog 58 #[.agg #[(pa,p.length,pc),v1,v2,v3,(ak,ks.length,ck),v5,v6,v7,v8,v9,v10,v11,v12,v13,j,v15]] W (e_r W [⟨3,p ++ [(j:Int)], [],(iJ (cY ks (j - 1))).length,cV,dJ (cY ks j)⟩]):=by
 have L:ks.length <= 100000000:=W0
 have w:(cY ks j).wt <= 100000000:=T9
 have A:(dJ (cY ks j)).length <= 100000000:=by
  generalize cY ks j=q at w;obtain⟨l,ps,t,kk⟩:=q;have:=E6 ps;simp only [aX.wt]at w;simp only [dJ];omega
 obtain⟨w0,m⟩:∃w0,w0=W.alloc (Obj.cells #[(pa,p.length,pc),v1,v2,v3,(ak,ks.length,ck),v5,v6,v7,v8,v9,v10,v11,v12,v13,j,v15] 98):=⟨_,rfl⟩;have c:Below W W w0:=by rw [m];exact b7 _ _
 have hB:At w0 W [(pa,p.length,pc),v1,v2,v3,(ak,ks.length,ck),v5,v6,v7,v8,v9,v10,v11,v12,v13,j,v15] 98:=by rw [m];exact At.fresh _ _ _
 have n:=fun(w1:World) (hb:Below W W w1)=>h_X p pa pc v1 v2 v3 (ak,ks.length,ck) v5 v6 v7 v8 v9 v10 v11 v12 v13 v15 j 0 w1 (hJ.keep hb).path hJ.pl hJ.at_ P2 P2
 rw [Int.add_zero]at n;generalize p ++ [(j:Int)]=zs at n⊢;have B:=a6 (fun(w1:World) (hb:Below w0 w0 w1)=>n w1 (c.trans (hb.mono c.size)));have x:=a6 (fun(w1:World) (hb:Below w0 w0 w1)=>g_S ks ak ck css (pa,p.length,pc) v1 v2 v3 v5 v6 v7 v8 v9 v10 v11 v12 v13 v15 j w1 (hJ.keep (c.trans (hb.mono c.size))).kids (hJ.keep (c.trans (hb.mono c.size))).kids' hj L);have r:=fun(w':World) (h:At w' W [(pa,p.length,pc),v1,v2,v3,(ak,ks.length,ck),v5,v6,v7,v8,v9,v10,v11,v12,v13,j,v15] 98)=>At.load (P:=Tryz.prog) h Tryz.underlying98 rfl P3
 simp [go_sem]at r
 have Hld:=a6 r;obtain⟨kb,ko,a1,c1,a2,c2,a3,c3,y,s, -, -,g0,g1,g2,g3⟩:=l_Z hJ.kids hJ.kids' (j - 1) P2;have f0:=(c.cell (p:=(kb,ko+(j - 1) * 4)) s).trans g0;have f1:=(c.cell (p:=(kb,ko+(j - 1) * 4+1)) s).trans g1;have f2:=(c.cell (p:=(kb,ko+(j - 1) * 4+2)) s).trans g2;have f3:=(c.cell (p:=(kb,ko+(j - 1) * 4+3)) s).trans g3;rw [<- A0 (show j - 1 < ks.length by omega)]at f0 f1 f2 f3;have T:(j:Int) <= ks.length:=P2
 have U:IntKind.i64.wrap ((j:Int) - 1)=((j - 1:Nat):Int):=XJ
 have V:((j - 1:Nat):Int) < ks.length:=P2
 generalize cY ks j=q at x A⊢;generalize cY ks (j - 1)=qa at f0 f1 f2 f3⊢;have C:=a6 hB;have k:=a6 c;have D:=a6 m
 have x4:=hB.cell 4 rfl;have x14:=hB.cell 14 rfl;have xl:=hB.lt
 rw [y]at x4;have X:=a6 y
 clear m c hB n hJ hj w g0 g1 g2 g3 r y;go_enter Tryz.func58,Tryz.ntmps58;go_upto_region 1 with fail;rw [<- D.o];clear D;go_upto_region 2 with fail
 obtain⟨w1,u⟩:∃w1,w1=w0.alloc (Obj.cells #[(b8 qa),(a1,(dJ qa).length,c1),(a2,(iJ qa).length,c2),(a3,(aY qa).length,c3)] 35):=⟨_,rfl⟩;rw [<- u];have z:Below w0 w0 w1:=t_J
 have E:At w1 w0 [(b8 qa),(a1,(dJ qa).length,c1),(a2,(iJ qa).length,c2),(a3,(aY qa).length,c3)] 35:=by rw [u];exact At.fresh _ _ _
 have F:=C.o.kept z;have HB:=a6 F;have HN:=a6 E;have f:=a6 z
 have M:=a6 (fun(w':World) (hb:Below w1 w1 w')=>And.intro (HB.o.kept hb) ((HN.o.kept hb).cell 2 rfl));have G:=a6 (fun(w':World) (hb:Below w1 w1 w')=>B.o w' (f.o.trans (hb.mono f.o.size)));have H:=a6 (fun(w':World) (hb:Below w1 w1 w')=>x.o w' (f.o.trans (hb.mono f.o.size)));have r:=Hld.o;have Y:=i_m;clear u z E F C f0 f1 f2 f3 x4 x14 B x;go_region_held3 (fun w'=>At w' W [(pa,p.length,pc),v1,v2,v3,(ak,ks.length,ck),v5,v6,v7,v8,v9,v10,v11,v12,v13,j,v15] 98/\w'.cell? (P0 w0 2)=some (.slice a2 (iJ qa).length c2)) (refine M.o _ (by(with_reducible (repeat (first | exact i.o | exact g.o | exact d.o | exact a7 | refine aK ?_ | refine aQ ?_ ?_ _ | refine aV ?_ ?_ _)) <;> (first | exact a8 | exact i.o.size | exact g.o.size | exact d.o.size | (have:=i.o.size;simp [World.setCell];omega) | (have:=g.o.size;simp [World.setCell];omega) | (have:=d.o.size;simp [World.setCell];omega) | (simp <;> omega) | omega))))
  (first
  | (refine bQ rfl 109 _ _ rfl P5 [.agg #[(pa,p.length,pc),v1,v2,v3,(ak,ks.length,ck),v5,v6,v7,v8,v9,v10,v11,v12,v13,j,v15],OY] ?_ _ (G.o _ P1) ?_
     . go_simp
     rintro e w2 ⟨za,zc,rfl,hq,a⟩;refine⟨_,rfl, ?_⟩;have d:=a6 (Below.and (w0:=w1) P1 a);have Hz:=a6 (RowQ.imp hq (fun b hb=>(show W.heap.size <= b from aJ (aJ k.o.size (aJ f.o.size QZ)) hb)));clear a hq)
  | (refine bQ rfl 110 _ _ rfl P5 [.agg #[(pa,p.length,pc),v1,v2,v3,(ak,ks.length,ck),v5,v6,v7,v8,v9,v10,v11,v12,v13,j,v15]] ?_ _ (H.o _ P7) ?_
     . go_simp
     rintro e w3 ⟨kv,rfl,I,a⟩;obtain⟨lq,pq,tq,kq⟩:=q;obtain⟨aq,cq,bq,dq,eq_,fq,gq,rfl,J, -, -, -⟩:=I.open;refine⟨_,rfl, ?_⟩;have g:=a6 (Below.and (w0:=w1) P7 a);have N:=a6 a;have O:=a6 J;clear a I J)
  | (refine bQ rfl 113 _ _ rfl P5 [(aq,pq.length,cq)] ?_ _ (L6 _ pq.length aq cq _ _ O.o (a8) A) ?_
     . go_simp
     rintro e w4 ⟨ov,rfl,v,a⟩;obtain⟨oa,oc,rfl,K⟩:=nV v (DX _);refine⟨_,rfl, ?_⟩;have i:=a6 (Below.and (w0:=w1) S0 a);have Q:=a6 a;have R:=a6 (RowQ.imp K (fun b hb=>(show W.heap.size <= b from aJ (aJ k.o.size (aJ f.o.size (by(first | exact g.o.size | (have hsz:=g.o.size;simp;omega) | exact a8 | (simp;done) | (simp;omega) | omega)))) hb)));clear a v K))
 all_goals
  go_wp2_with fail;go_ret;refine⟨_,rfl,e_q (o:=⟨3,zs, [],(iJ qa).length,cV,pq⟩) ⟨za,zc,none,0,_,_,_,_,oa,oc,rfl,(Hz.o.since N.o).since Q.o,RowQ.empty _ _ _,g_A _ _,R.o⟩ (aJ k.o.size (aJ f.o.size i.o.size)),k.o.trans ((Below.and f.o (i.o.alloc i.o.size _)).mono k.o.size)⟩
end Go.Proofs.YtmadpclcmjahoaaGreatDoor
