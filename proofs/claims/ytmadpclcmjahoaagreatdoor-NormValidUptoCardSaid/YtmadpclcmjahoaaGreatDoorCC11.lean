/- Parts of the proof: CC11. -/
import Derived.Test.YtmadpclcmjahoaaGreatDoorCC10
set_option linter.unusedVariables false
set_option linter.unusedSimpArgs false
set_option maxHeartbeats 8000000
set_option maxRecDepth 100000
namespace Go.Proofs.YtmadpclcmjahoaaGreatDoor
open Go.RowKit Go.Redl
def o_5 (W:World) (e:Ending) (w':World):Prop:=Below W W w'/\∃a c b,e= .returned (.tuple #[.slice a 0 c, .bool b])
theorem h_R (p:List Int) (h:p≠ []):cZ p []=0:=by
 unfold cZ;rw [if_neg h,if_neg h];cases p with
 | nil=>exact absurd rfl h
 | cons z zs=>simp [kJ,F6]
theorem f_v (d:List Int):fX [] d= []:=by
 unfold fX fJ;split <;> rfl
theorem q_k (p d:List Int) (kd pos:Int) (pa ta:Option Addr) (pc tc:Nat) (v4 v5 v6 v7 v8 v9 v10 v11 v12 v13 v14 v15 v16 v17 v18 v19 v20:Value) (W:World) (hk:kd=1∨kd=2∨kd=3∨kd=4∨kd=5)
 (hp:RowA W W 1 pa p.length pc (p.map (Value.int .i64))) (hd:RowA W W 1 ta d.length tc (d.map (Value.int .i64))) (P:p.length <= 1000000) (Q:d.length <= 1000000) (A:p≠ []):
 Calls Tryz.prog 69 #[(), .agg #[kd,(pa,p.length,pc),(ta,d.length,tc),pos,v4,v5,v6,v7,v8,v9,v10,v11,v12,v13,v14,v15,v16,v17,v18,v19,v20]] W (o_5 W):=by
 obtain⟨w0,s⟩:∃w0,w0=W.alloc (Obj.cells #[kd,(pa,p.length,pc),(ta,d.length,tc),pos,v4,v5,v6,v7,v8,v9,v10,v11,v12,v13,v14,v15,v16,v17,v18,v19,v20] 55):=⟨_,rfl⟩;have b:Below W W w0:=by rw [s];exact b7 _ _
 have hA:At w0 W [kd,(pa,p.length,pc),(ta,d.length,tc),pos,v4,v5,v6,v7,v8,v9,v10,v11,v12,v13,v14,v15,v16,v17,v18,v19,v20] 55:=by rw [s];exact At.fresh W _ _
 have HN:=a6 (fun(w1:World)=>B9 [] none 0 0 w1 (RowA.empty _ _ _) (Nat.zero_le _) P6);have HP:=a6 (fun(w1:World) (hb:Below w0 w0 w1)=>B9 p pa pc W w1 (hp.keep (b.trans (hb.mono b.size)) (a8)) (b.trans (hb.mono b.size)).size P2);have HD:=a6 (fun(w1:World) (hb:Below w0 w0 w1)=>B9 d ta tc W w1 (hd.keep (b.trans (hb.mono b.size)) (a8)) (b.trans (hb.mono b.size)).size P2);have HZ:=a6 (fun(w1:World) (q:Option Addr) (hp:RowA w1 w1 1 q 1 1 [pos])=>B9 [pos] q 1 w1 w1 hp (a8) P6);have HT:=a6 (fun(w1:World) (hb:Below w0 w0 w1)=>e_j p [] pa none pc 0 W w1 (hp.keep (b.trans (hb.mono b.size)) (a8)) (RowA.empty _ _ _));rw [h_R p A]at HT;have R:((0:Nat):Int)=0:=rfl
 rw [R]at HT;have g:=a6 (fun(w1:World) (hb:Below w0 w0 w1)=>GV [] p none pa 0 pc W w1 (RowA.empty _ _ _) (hp.keep (b.trans (hb.mono b.size)) (a8)) (b.trans (hb.mono b.size)).size P6 P P6)
 have j:=a6 (fun(w1:World) (hb:Below w0 w0 w1)=>GV [] d none ta 0 tc W w1 (RowA.empty _ _ _) (hd.keep (b.trans (hb.mono b.size)) (a8)) (b.trans (hb.mono b.size)).size P6 Q P6);rw [f_v]at g j;have HC:=a6 (fun(w1:World)=>pZ 0 0 none 0 [] w1 (RowA.empty _ _ _) (Nat.zero_le _) P2)
 have e0:bX []=true:=rfl;rw [e0]at HN;obtain⟨q,i,C⟩:∃q i,p=q ++ [i]:=by
  rcases List.eq_nil_or_concat p with rfl | ⟨q,i,h⟩
  . exact absurd rfl A
  exact⟨q,i,by rw [h,List.concat_eq_append]⟩
 have D:=hp;rw [C]at D;obtain⟨pb,po,H,S,I, -⟩:=g_N D;have m:p.length=q.length+1:=by rw [C];simp
 have y:∀w1,Below w0 w0 w1 ->w1.cell? (pb,po+q.length)=some (.int .i64 i):=fun w1 hb=>((b.trans (hb.mono b.size)).cell (p:=(pb,po+q.length)) S).trans I
 have J:=hp.le;have K:=hp.max;unfold maxLen at K;rw [m]at J;have n:=a6 y;have T:=a6 H
 have HA:=a6 hA;have l:=a6 b;have L:=a6 s;have Hll:=a6 m
 have c1:=hA.cell 1 rfl;have cl:=hA.lt
 clear hp hd D b hA s A C I y H e0 m;unfold o_5;go_enter Tryz.func69,Tryz.ntmps69;go_upto_region 1 with fail;rw [<- L.o];clear L;go_wp2_with fail;refine(HN.o w0).mono ?_;rintro e w1 ⟨rfl,a⟩;have hA1:=HA.o.kept a
 have d1:=hA1.cell 1 rfl;have dl:=hA1.lt
 have M:=a6 a;clear a hA1 c1 cl HN;go_wp2_with fail;refine(HP.o w1 M.o).mono ?_;generalize bX p=s1;rintro e w2 ⟨rfl,a⟩;have t:=a6 (b6 M.o a)
 clear a HP d1 dl;cases s1 with
 | false=>
   have f:=a6 (l.o.trans (t.o.mono l.o.size));clear HD HZ HT g j HC HA n;go_wp2_with fail;go_ret2;exact⟨f.o,none,0,false,rfl⟩
 | true=>
 have E:=HA.o.kept t.o;have f2:=E.cell 2 rfl;have fl:=E.lt
 clear E;go_wp2_with fail;refine(HD.o w2 t.o).mono ?_;generalize bX d=s2;rintro e w3 ⟨rfl,a⟩;have w:=a6 (b6 t.o a)
 clear a HD f2 fl;cases s2 with
 | false=>
   have f:=a6 (l.o.trans (w.o.mono l.o.size));clear HZ HT g j HC HA n;go_wp2_with fail;go_ret2;exact⟨f.o,none,0,false,rfl⟩
 | true=>
 have F:=HA.o.kept w.o;have g3:=F.cell 3 rfl;have gl:=F.lt
 clear F;go_wp2_with fail;refine(HZ.o _ _ (B6 w3 pos 3 _ rfl P6)).mono ?_;generalize bX [pos]=s3;rintro e w4 ⟨rfl,a⟩;have x:=a6 (b6 (w.o.trans ((b7 w3 (Obj.cells #[Value.int .i64 pos] 3)).mono w.o.size)) a)
 clear a g3 gl HZ;cases s3 with
 | false=>
   have f:=a6 (l.o.trans (x.o.mono l.o.size));clear HT g j HC HA n;go_wp2_with fail;go_ret2;exact⟨f.o,none,0,false,rfl⟩
 | true=>
 have G:=HA.o.kept x.o;have k1:=G.cell 1 rfl;have kl:=G.lt
 clear G;go_wp2_with fail;refine(HT.o w4 x.o).mono ?_;rintro e w5 ⟨rfl,hdr⟩;have o:=a6 (b6 x.o (hdr.below _))
 have r:=HA.o.kept o.o;have m0:=r.cell 0 rfl;have m2:=r.cell 2 rfl;have m3:=r.cell 3 rfl;have ml:=r.lt
 have mi:=n.o w5 o.o;have z:=Hll.o;have N:=T.o;subst N;clear hdr HT r k1 kl n;have f:=a6 (l.o.trans (o.o.mono l.o.size))
 have V:decide ((q.length:Int) < 0)=false:=P6
 have X:IntKind.i64.wrap ((q.length:Int)+1 - 1)=(q.length:Int):=QY
 rw [z]at g;clear Hll;rw [z];rcases hk with rfl | rfl | rfl | rfl | rfl
 . have HI:=a6 (g.o w5 o.o)
   clear g j HC HA;go_wp2_with fail;refine HI.o.mono ?_;rintro e w6 ⟨v,rfl,c,a⟩;obtain⟨va,vc,rfl, -⟩:=eK c T0;have k:=a6 (f.o.trans (a.mono f.o.size));clear HI c a;go_wp2_with fail;go_ret2;exact⟨k.o,va,vc,true,rfl⟩
 . clear g j HA
   go_wp2_with fail;refine(HC.o w5).mono ?_;rintro e w6 ⟨v,rfl,c,a⟩;obtain⟨va,vc,rfl, -⟩:=eK c T0;have k:=a6 (f.o.trans (a.mono f.o.size));clear HC c a;go_wp2_with fail;go_ret2;exact⟨k.o,va,vc,true,rfl⟩
 . clear g j HA
   by_cases O:i=0
   . have U:(i == 0)=true:=by simpa using O
     go_wp2_with fail;go_ret2;exact⟨f.o,none,0,false,rfl⟩
   have U:(i == 0)=false:=by simpa using O
   go_wp2_with fail;refine(HC.o w5).mono ?_;rintro e w6 ⟨v,rfl,c,a⟩;obtain⟨va,vc,rfl, -⟩:=eK c T0;have k:=a6 (f.o.trans (a.mono f.o.size));clear HC c a;go_wp2_with fail;go_ret2;exact⟨k.o,va,vc,true,rfl⟩
 . clear g j HA
   go_upto_region 25 with fail
   go_quiet (fail)
   go_wp2_with fail;refine(HC.o _).mono ?_;rintro e w6 ⟨v,rfl,c,a⟩;obtain⟨va,vc,rfl, -⟩:=eK c T0;have k:=a6 (f.o.trans (((below_drewN (Below.refl w5 w5) _).trans (a.mono (Below.size (B:=w5.heap.size) (below_drewN (Below.refl w5 w5) _)))).mono f.o.size));clear HC c a;go_wp2_with fail;go_ret2;exact⟨k.o,va,vc,true,rfl⟩
 have HI:=a6 (j.o w5 o.o);clear g j HC HA;go_wp2_with fail;refine HI.o.mono ?_;rintro e w6 ⟨v,rfl,c,a⟩;obtain⟨va,vc,rfl, -⟩:=eK c T0;have k:=a6 (f.o.trans (a.mono f.o.size));clear HI c a;go_wp2_with fail;go_ret2;exact⟨k.o,va,vc,true,rfl⟩
theorem s_t (x y:Int) (b:Nat) (W:World) (h0:W.cell? b=some (.int .i64 x)) (h1:W.cell? (P0 b 1)=some (.int .i64 y)):
 Calls Tryz.prog 234 #[.slice b 2 2] W (fun e w'=>e= .returned (.int .i64 (if x=0 then y else x))/\w'=W):=by
 obtain⟨z,hz⟩:∃z,z=if x=0 then y else x:=⟨_,rfl⟩
 rw [<- hz];have Hz:=a6 hz
 clear hz;go_enter Tryz.func234,Tryz.ntmps234;go_wp2_with fail
 go_loopg [8,5] 2 (fun g i _ wr=>wr=W/\((i= .int .i64 0/\g=2)∨ (i= .int .i64 1/\g=1/\x=0)∨ (i= .int .i64 2/\g=0/\x=0/\y=0)))
 case atStart=>exact⟨rfl, .inl ⟨rfl,rfl⟩⟩
 case round=>
  obtain⟨rfl,⟨rfl,rfl⟩ | ⟨rfl,rfl,hx⟩ | ⟨rfl,rfl,hx,hy⟩⟩:=hrel
  . by_cases hx:x=0
    . have a:(x != 0)=false:=TQ
      go_wp2_with fail
      go_roundg 1
      case measure=>omega
      case rel=>exact⟨rfl, .inr (.inl ⟨rfl,rfl,hx⟩)⟩
    have a:(x != 0)=true:=TQ
    have Hr:=a6 (show z=x by rw [Hz.o,if_neg hx]);go_wp2_with fail;go_ret;exact⟨dV Hr.o.symm,rfl⟩
  . by_cases hy:y=0
    . have c:(y != 0)=false:=by simpa using hy
      go_wp2_with fail
      go_roundg 0
      case measure=>omega
      case rel=>exact⟨rfl, .inr (.inr ⟨rfl,rfl,hx,hy⟩)⟩
    have c:(y != 0)=true:=by simpa using hy
    have Hr:=a6 (show z=y by rw [Hz.o,if_pos hx]);clear hx;go_wp2_with fail;go_ret;exact⟨dV Hr.o.symm,rfl⟩
  have Hr:=a6 (show z=0 by rw [Hz.o,if_pos hx,hy]);clear hx hy;go_wp2_with fail;go_ret;exact⟨dV Hr.o.symm,rfl⟩
def f_R (p q:List Int) (i j:Int):Int:=if nY p q=0 then A6 i j else nY p q
theorem q_l (p q:List Int) (i j:Int) (a a':Option Addr) (c c':Nat) (W:World) (hp:RowA W W 1 a p.length c (p.map (Value.int .i64))) (hq:RowA W W 1 a' q.length c' (q.map (Value.int .i64))):
 Calls Tryz.prog 178 #[.agg #[(a,p.length,c),i], .agg #[(a',q.length,c'),j]] W (fun e w'=>e= .returned (f_R p q i j)/\Below W W w'):=by
 obtain⟨w0,f⟩:∃w0,w0=(W.alloc (Obj.cells #[(a,p.length,c),i] 49)).alloc (Obj.cells #[(a',q.length,c'),j] 49):=⟨_,rfl⟩;have d:Below W W w0:=by rw [f];exact(b7 _ _).alloc P6 _
 have hA:At w0 W [(a,p.length,c),i] 49:=YJ
 have hB:At w0 (W+1) [(a',q.length,c'),j] 49:=s_Q
 have HC:=a6 (fun(w':World) (hb:Below w0 w0 w')=>n_E p q a a' c c' W w' (hp.keep (d.trans (hb.mono d.size)) (a8)) (hq.keep (d.trans (hb.mono d.size)) (a8)));have HI:=a6 (fun(w':World)=>n_C i j w');have HR:Hid (f_R p q i j=if nY p q=0 then A6 i j else nY p q):=a6 rfl;generalize f_R p q i j=R at HR⊢;generalize nY p q=x at HC HR;generalize A6 i j=y at HI HR;have HO:=a6 (fun(w':World) (b:Nat) h0 h1=>s_t x y b w' h0 h1);rw [<- HR.o]at HO;have k:=a6 (fun(w':World) (hb:Below w0 w0 w')=>(show (w'.cell? W=some (.slice a p.length c)/\w'.cell? (P0 W 1)=some (.int .i64 i))/\(w'.cell? (P0 (W+1) 0)=some (.slice a' q.length c')/\w'.cell? (P0 (W+1) 1)=some (.int .i64 j))from⟨⟨(hA.kept hb).cell 0 rfl,(hA.kept hb).cell 1 rfl⟩,(hB.kept hb).cell 0 rfl,(hB.kept hb).cell 1 rfl⟩))
 have g:=a6 d;have h:=a6 f
 clear hp hq hA hB f d;go_enter Tryz.func178,Tryz.ntmps178;go_upto_region 1 with fail;rw [<- h.o];clear h;go_region_held3 (fun w'=>(w'.cell? W=some (.slice a p.length c)/\w'.cell? (P0 W 1)=some (.int .i64 i))/\(w'.cell? (P0 (W+1) 0)=some (.slice a' q.length c')/\w'.cell? (P0 (W+1) 1)=some (.int .i64 j))) (refine k.o _ P1)
  (first
  | (refine bQ rfl 199 _ _ rfl P5 [(a,p.length,c),(a',q.length,c')] ?_ _ (HC.o _ P1) ?_
     . go_simp
     rintro e w1 ⟨rfl,rfl⟩;refine⟨_,rfl, ?_⟩)
  | (refine bQ rfl 235 _ _ rfl P5 [i,j] ?_ _ (HI.o _) ?_
     . go_simp
     rintro e w1 ⟨rfl,rfl⟩;refine⟨_,rfl, ?_⟩)
  | (refine bQ rfl 234 _ _ rfl P5 [.slice w0 2 2] ?_ _ (HO.o _ w0 ?_ ?_) ?_
     . go_simp
     . go_simp
     . go_simp
     rintro e w1 ⟨rfl,rfl⟩;refine⟨_,rfl, ?_⟩))
 all_goals
  go_wp2_with fail;go_ret;exact⟨rfl,g.o.trans (Below.mono (B:=w0.heap.size) P1 g.o.size)⟩
theorem j_G (p q:List Int) (i j:Int):(f_R p q i j == 0)=(decide (p=q) && decide (i=j)):=by
 unfold f_R;by_cases h:p=q
 . subst h
   rw [K2,if_pos rfl];by_cases h2:i=j
   . subst h2;simp [A6]
   have:=mt AQ.1 h2
   simp [h2,this]
 have h2:nY p q≠0:=fun e=>h (g_D e)
 rw [if_neg h2];simp [h,h2]
theorem h_S (p q:List Int) (i j:Int) (a a':Option Addr) (c c':Nat) (W:World) (hp:RowA W W 1 a p.length c (p.map (Value.int .i64))) (hq:RowA W W 1 a' q.length c' (q.map (Value.int .i64))):
 Calls Tryz.prog 117 #[.agg #[(a,p.length,c),i], .agg #[(a',q.length,c'),j]] W (fun e w'=>e= .returned (decide (p=q) && decide (i=j))/\Below W W w'):=by
 obtain⟨w0,d⟩:∃w0,w0=(W.alloc (Obj.cells #[(a,p.length,c),i] 49)).alloc (Obj.cells #[(a',q.length,c'),j] 49):=⟨_,rfl⟩;have b:Below W W w0:=t_W
 have hA:At w0 W [(a,p.length,c),i] 49:=u_6
 have hB:At w0 (W+1) [(a',q.length,c'),j] 49:=by rw [d];exact At.second W _ _ _
 have HC:=a6 (q_l p q i j a a' c c' w0 (hp.keep b b.size) (hq.keep b b.size));have HZ:=a6 (j_G p q i j);generalize f_R p q i j=R at HC HZ;have y0:=hA.cell 0 rfl;have y1:=hA.cell 1 rfl;have z0:=hB.cell 0 rfl;have z1:=hB.cell 1 rfl
 have g:=a6 b;have h:=a6 d
 clear hp hq hA hB d b;go_enter Tryz.func117,Tryz.ntmps117;go_upto_region 1 with fail;rw [<- h.o];clear h;go_wp2_with fail;refine HC.o.mono ?_;rintro e w1 ⟨rfl,f⟩;have k:=a6 (g.o.trans (f.mono g.o.size))
 clear f HC y0 y1 z0 z1;go_wp2_with fail;go_ret;exact⟨bJ HZ.o,k.o⟩
abbrev K9:Value:= .agg #[false,(),OY,(),OY]
theorem j_H (W:World):
 Calls Tryz.prog 63 #[K9,K9] W (fun e w'=>e= .returned true/\Below W W w'):=by
 obtain⟨w0,b⟩:∃w0,w0=(W.alloc (Obj.cells #[false,(),OY,(),OY] 53)).alloc (Obj.cells #[false,(),OY,(),OY] 53):=⟨_,rfl⟩;have d:Below W W w0:=t_X
 have hA:At w0 W [false,(),OY,(),OY] 53:=by rw [b];exact(At.fresh W _ _).alloc _
 have hB:At w0 (W+1) [false,(),OY,(),OY] 53:=TV
 have HC:=a6 (fun(w':World)=>h_S [] [] 0 0 none none 0 0 w' (RowA.empty _ _ _) (RowA.empty _ _ _));have y0:=hA.cell 0 rfl;have y1:=hA.cell 1 rfl;have y2:=hA.cell 2 rfl
 have z0:=hB.cell 0 rfl;have z1:=hB.cell 1 rfl;have z2:=hB.cell 2 rfl
 have HA:=a6 hA;have HB:=a6 hB
 have f:=a6 d;have g:=a6 b
 clear hA hB b d;go_enter Tryz.func63,Tryz.ntmps63;go_upto_region 1 with fail;rw [<- g.o];clear g;go_wp2_with fail;refine(HC.o w0).mono ?_;rintro e w1 ⟨rfl,a⟩;have hA1:=HA.o.kept a;have c:=HB.o.kept a
 have k3:=hA1.cell 3 rfl;have k4:=hA1.cell 4 rfl;have l3:=c.cell 3 rfl;have l4:=c.cell 4 rfl
 have h:=a6 (f.o.trans (a.mono f.o.size));clear a y0 y1 y2 z0 z1 z2 hA1 c;go_wp2_with fail;refine(HC.o w1).mono ?_;rintro e w2 ⟨rfl,a⟩;have i:=a6 (h.o.trans (a.mono h.o.size))
 clear a k3 k4 l3 l4;go_wp2_with fail;go_ret;exact⟨bJ rfl,i.o⟩
theorem h_T (v:Value) (n:aX) (W:World) (hv:bY W W n v):
 Calls Tryz.prog 64 #[v,K9] W (fun e w'=>e= .returned OY/\Below W W w'):=by
 obtain⟨csn,rfl,hc⟩:=hv;obtain⟨l,a1,n1,c1,a2,n2,c2,a3,n3,c3,rfl⟩:=hc.form;obtain⟨w0,b⟩:∃w0,w0=(W.alloc (Obj.cells #[l,(a1,n1,c1),(a2,n2,c2),(a3,n3,c3)] 35)).alloc (Obj.cells #[false,(),OY,(),OY] 53):=⟨_,rfl⟩;have d:Below W W w0:=t_X
 have hB:At w0 (W+1) [false,(),OY,(),OY] 53:=TV
 have HC:=a6 (fun(w':World)=>h_S [] [] 0 0 none none 0 0 w' (RowA.empty _ _ _) (RowA.empty _ _ _));have z0:=hB.cell 0 rfl;have z1:=hB.cell 1 rfl;have z2:=hB.cell 2 rfl;have z3:=hB.cell 3 rfl;have z4:=hB.cell 4 rfl
 have HB:=a6 hB;have f:=a6 d;have g:=a6 b
 clear hB b d hc;go_enter Tryz.func64,Tryz.ntmps64;go_upto_region 1 with fail;rw [<- g.o];clear g;go_wp2_with fail;refine(HC.o w0).mono ?_;rintro e w1 ⟨rfl,a⟩;have c:=HB.o.kept a
 have l1:=c.cell 1 rfl;have l2:=c.cell 2 rfl
 have h:=a6 (f.o.trans (a.mono f.o.size));clear a z0 z1 z2 z3 z4 c;go_wp2_with fail;refine(HC.o w1).mono ?_;rintro e w2 ⟨rfl,a⟩;have i:=a6 (h.o.trans (a.mono h.o.size))
 clear a l1 l2;go_wp2_with fail;go_ret;exact⟨rfl,i.o⟩
theorem l_X:(Tryz.prog.info? 140).map (fun i=>(i.zero,i.size,i.bytes))=some (some (.agg #[.string ⟨#[]⟩,OY, .string ⟨#[]⟩]),3,40):=P3
theorem j_I (B n:Nat) (a:Option Addr) (cap:Nat) (cs:List Value) (w:World) (hr:RowA w B 3 a n cap cs) (hB:B <= w.heap.size) (hn:n <= 100000000):
 Calls Tryz.prog 107 #[(a,n,cap)] w (vX w 140 3 n cs):=by
 have c:=fun(w:World)=>Lib.run_eql_slice_nil w (P:=Tryz.prog) 25 140 a n cap 0 0 Tryz.underlying25
 cases ha:a with
 | none=>
   subst ha;obtain rfl:=hr.nil rfl;obtain rfl:n=0:=S7
   have d:cs= []:=O2 SJ;subst d;go_enter Tryz.func107,Tryz.ntmps107;go_wp2_with fail;go_ret;exact⟨_,rfl,World.ownsRow_nil _ _ _ _,a7⟩
 | some ad=>
   subst ha;go_enter Tryz.func107,Tryz.ntmps107
   go_wp2_with (at_builtin;refine u_9 rfl _ _ 25 rfl w.heap.size 140 (.agg #[.string ⟨#[]⟩,OY, .string ⟨#[]⟩]) 3 40 Tryz.underlying25 l_X rfl P9 _ 0 [] rfl ?hown _ n cap B cs rfl ?hr ?h63 ?hb ?hbase ?_)
   case hown=>exact World.ownsRow_lit w #[] 0 (a8) (Nat.zero_le _) rfl
   case hr=>exact hr.keep ((a7).alloc hB _) (a8)
   case h63=>unfold maxLen;omega
   case hb=>omega
   case hbase=>simp
   intro v' w1 hown b;have Ho:=a6 hown;have Hg:=a6 b;clear hown b c hr
   go_wp2_with fail;go_ret;refine⟨v',rfl,by simpa using Ho.o,((a7).alloc (a8) _).grown Hg.o P6 ?_⟩
   simp [Value.ownBlock]
theorem _root_.Go.Redl.SchemaV.open {w:World} {B:Nat} {s:b5} {v:Value} (h:SchemaV w B s v):
 ∃ a c css ea ec o0 o1 o2 o3 o4 o5,v= .agg #[.slice a s.rules.length c,aZ s.els.type,s.els.text.1,aZ s.els.text.2,s.els.other.1,aZ s.els.other.2, .slice ea s.els.kids.length ec,s.els.fill,aZ s.els.fillT, .int .i64 o0, .int .i64 o1, .int .i64 o2, .int .i64 o3, .int .i64 o4, .int .i64 o5,s.cap]/\
   RowA w B 8 a s.rules.length c css/\i9 w B s.rules css/\RowA w B 3 ea s.els.kids.length ec (fV s.els.kids)/\s.order= [o0,o1,o2,o3,o4,o5]:=by
 obtain⟨cs,rfl,a,c,css,es,rfl,h1,h2,⟨ea,ec,rfl,h3⟩,h4⟩:=h
 match ho:s.order,h4 with
 | [o0,o1,o2,o3,o4,o5],_=>exact⟨a,c,css,ea,ec,o0,o1,o2,o3,o4,o5,rfl,h1,h2,h3,rfl⟩
theorem l_2 {w:World} {B n cap:Nat} {a:Option Addr} {rs:List bK} {css:List Value} (h:RowA w B 8 a n cap css) (hr:i9 w B rs css) (k:Nat) (hk:k < rs.length):
 ∃ b off ra rc,a=some ⟨b,off,none⟩/\b < B/\RowA w B 3 ra rs[k].kids.length rc (fV rs[k].kids)/\w.cell? ⟨b,off+k * 8,none⟩=some (aZ rs[k].type)/\w.cell? ⟨b,off+k * 8+1,none⟩=some (.int .i64 rs[k].text.1)/\
   w.cell? ⟨b,off+k * 8+2,none⟩=some (aZ rs[k].text.2)/\w.cell? ⟨b,off+k * 8+3,none⟩=some (.int .i64 rs[k].other.1)/\w.cell? ⟨b,off+k * 8+4,none⟩=some (aZ rs[k].other.2)/\w.cell? ⟨b,off+k * 8+5,none⟩=some (.slice ra rs[k].kids.length rc)/\
   w.cell? ⟨b,off+k * 8+6,none⟩=some (.int .i64 rs[k].fill)/\w.cell? ⟨b,off+k * 8+7,none⟩=some (aZ rs[k].fillT):=by
 obtain⟨b,off,ra,rc,h1,h2,h3,h4⟩:=h.rule_at hr k hk;exact⟨b,off,ra,rc,h1,h2,h3,h4 0 _ rfl,h4 1 _ rfl,h4 2 _ rfl,h4 3 _ rfl,h4 4 _ rfl,h4 5 _ rfl,h4 6 _ rfl,h4 7 _ rfl⟩
theorem h_U {s:b5} {k:List UInt8} {j:Nat} (hj:j < s.rules.length) (h:s.rules[j].type=k) (hb:∀i (hi:i < j),(s.rules[i]' P2).type≠k):cJ s k=s.rules[j]:=by
 unfold cJ;rw [d_Q (q:=fun r=>decide (r.type=k)) hj TX (fun i hi=>by simpa using hb i hi)]
 rfl
theorem h_V {s:b5} {k:List UInt8} (hb:∀i (hi:i < s.rules.length),s.rules[i].type≠k):cJ s k=s.els:=by
 unfold cJ;rw [c_t (fun i hi=>by simpa using hb i hi)]
 rfl
theorem LZ (s:b5) (k:List UInt8):cJ s k∈s.rules∨cJ s k=s.els:=by
 unfold cJ;cases h:s.rules.find? (fun r=>decide (r.type=k))with
 | none=>exact .inr rfl
 | some r=>exact .inl (List.mem_of_find?_eq_some h)
theorem a_B (s:b5) (k:List UInt8):(cJ s k).wt <= s.wt:=by
 unfold b5.wt;rcases LZ s k with h | h
 . have:=E7 h;omega
 rw [h];omega
theorem M0 (r:bK):3 * r.kids.length <= r.wt:=by
 have:=N8 r.kids;unfold bK.wt;omega
theorem l_Y (ty:List UInt8) (td:Int) (tt:List UInt8) (od:Int) (ot:List UInt8) (sl:Option Addr) (sn sc:Nat) (fl:Int) (ft k:List UInt8) (N:Nat) (W:World) (hN:W.cell? N=some (aZ k)):
 Calls Tryz.prog 106 #[.agg #[aZ ty,td,aZ tt,od,aZ ot,(sl,sn,sc),fl,aZ ft], .pointer N] W fun e w'=>e= .returned (decide (ty=k))/\Below W W w':=by
 have a:=World.block_lt_of_cell? W _ hN;have Hb:=a6 (b7 W (Obj.cells #[aZ ty,td,aZ tt,od,aZ ot,(sl,sn,sc),fl,aZ ft] 27))
 go_enter Tryz.func106,Tryz.ntmps106
 go_wp2_with fail;go_ret;exact⟨bJ (g_B _ _),Hb.o⟩
abbrev s_u (W:World) (r:bK) (e:Ending) (w':World):Prop:=
 ∃a c,e= .returned (.agg #[aZ r.type,r.text.1,aZ r.text.2,r.other.1,aZ r.other.2, .slice a r.kids.length c,r.fill,aZ r.fillT])/\RowQ w' (fun b=>W.heap.size <= b) 3 a r.kids.length c (fV r.kids)/\Below W W w'
theorem b_O (s:b5) (v:Value) (k:List UInt8) (W:World) (hw:s.wt <= 100000000) (hv:SchemaV W W s v):
 Calls Tryz.prog 53 #[v,aZ k] W (s_u W (cJ s k)):=by
 have o:=fun(j:Nat) (hj:j < s.rules.length) h hb=>h_U (s:=s) (k:=k) (j:=j) hj h hb
 have r:=fun hb=>h_V (s:=s) (k:=k) hb
 have F:(cJ s k).kids.length <= 100000000:=by have:=M0 (cJ s k);have:=a_B s k;omega
 obtain⟨R,hR⟩:∃R,R=cJ s k:=⟨_,rfl⟩;rw [<- hR]at o r F⊢;have G:s.rules.length <= 100000000:=SK
 obtain⟨a,c,css,ea,ec,o0,o1,o2,o3,o4,o5,rfl,h1,h2,h3, -⟩:=hv.open;obtain⟨rs,⟨ty,⟨td,tt⟩,⟨od,ot⟩,kids,fill,ft⟩,order,scap⟩:=s;simp only at o r G h1 h2 h3⊢;obtain⟨w0,f⟩:∃w0,w0=((((W.alloc (Obj.cells #[(a,rs.length,c),aZ ty,td,aZ tt,od,aZ ot,(ea,kids.length,ec),fill,aZ ft,o0,o1,o2,o3,o4,o5,scap] 30)).alloc (Obj.cells #[aZ k] 9)).alloc (Obj.cells #[aZ [],OY,aZ [],OY,aZ [],(),OY,aZ []] 27)).alloc (Obj.cells #[aZ ty,td,aZ tt,od,aZ ot,(ea,kids.length,ec),fill,aZ ft] 27)):=⟨_,rfl⟩;have g:Below W W w0:=by rw [f];exact j_h _ _ _ _ _
 have hA:At w0 W [(a,rs.length,c),aZ ty,td,aZ tt,od,aZ ot,(ea,kids.length,ec),fill,aZ ft,o0,o1,o2,o3,o4,o5,scap] 30:=by rw [f];exact(((At.fresh W _ _).alloc _).alloc _).alloc _
 have hK:At w0 (W+1) [aZ k] 9:=by rw [f];exact((At.second W _ _ _).alloc _).alloc _
 have hX:At w0 (W.heap.size+1+1) [aZ [],OY,aZ [],OY,aZ [],(),OY,aZ []] 27:=by rw [f];exact(At.third W _ _ _ _).alloc _
 have hY:At w0 (W.heap.size+1+1+1) [aZ ty,td,aZ tt,od,aZ ot,(ea,kids.length,ec),fill,aZ ft] 27:=by rw [f];exact At.fourth W _ _ _ _ _
 have hr0:=h1.keep g g.size;have H:=i9.keep g g.size h2
 have A:∀j (hj:j < rs.length),(rs.map (·.type)).getD j []=rs[j].type:=fun j hj=>by simp [List.getD,NV hj]
 have HI:=a6 (h_r rs.length a c 106 #[.pointer (some (P0 (W+1) 0))] (fun j=>decide ((rs.map (·.type)).getD j []=k)) w0 G P5 (fun j W' hj hb=>by
  obtain⟨b,off,ra,rc,ha, -, -,g0,g1,g2,g3,g4,g5,g6,g7⟩:=l_2 (hr0.keep hb hb.size) (i9.keep hb hb.size H) j hj;refine⟨b,off,_,_,_,_,_,_,_,_,ha,g0,g1,g2,g3,g4,g5,g6,g7, ?_⟩;rw [A j hj];exact l_Y _ _ _ _ _ _ _ _ _ _ _ _ W' ((hK.kept hb).cell 0 rfl)))
 have Hr:=a6 h1;have Hc:=a6 h2;have H3:=a6 h3;have I:=a6 g;have HA:=a6 hA;have HX:=a6 hX;have HY:=a6 hY
 have J:=a6 o;have K:=a6 r;have t:=a6 A
 have L:=a6 f;obtain⟨⟨x0,x1,x2,x3,x4,x5,x6,x7,x8,x9,x10,x11,x12,x13,x14,x15⟩, -,xl⟩:=hA.f16;obtain⟨⟨y0,y1,y2,y3,y4,y5,y6,y7⟩,yf,yl⟩:=hY.f8;have P:W.heap.size <= W.heap.size+1+1:=P2
 have l:W.heap.size <= W.heap.size+1+1+1:=P2
 clear hv o r hR h1 h2 h3 f g hA hK hX hY hr0 H A hw;go_enter Tryz.func53,Tryz.ntmps53;go_upto_region 2 with fail;rw [<- L.o];clear L;go_wp2_with fail;refine HI.o.mono ?_;rintro e w1 ⟨rfl,d⟩;have m:=a6 (I.o.trans (d.mono I.o.size))
 have M:=a6 (HA.o.kept d);have B:=a6 (HX.o.kept d);have u:=a6 (HY.o.kept d)
 clear d HI x0 x1 x2 x3 x4 x5 x6 x7 x8 x9 x10 x11 x12 x13 x14 x15 y0 y1 y2 y3 y4 y5 y6 y7 yf HA HX HY;obtain⟨⟨x0,x1,x2,x3,x4,x5,x6,x7,x8,x9,x10,x11,x12,x13,x14,x15⟩, -,xl⟩:=M.o.f16;obtain⟨⟨y0,y1,y2,y3,y4,y5,y6,y7⟩,yf,yl⟩:=u.o.f8;obtain⟨z,hz⟩:∃z,z=uZ (fun j=>decide ((rs.map (·.type)).getD j []=k)) rs.length:=⟨_,rfl⟩;rw [<- hz];have Hz:=a6 hz
 clear hz;go_upto_if 14 with fail
 go_cut [] (fun wx=>∃ra rc,At wx (W.heap.size+1+1+1) [aZ R.type,R.text.1,aZ R.text.2,R.other.1,aZ R.other.2, .slice ra R.kids.length rc,R.fill,aZ R.fillT] 27/\
  At wx (W.heap.size+1+1) [aZ [],OY,aZ [],OY,aZ [],(),OY,aZ []] 27/\RowA wx W 3 ra R.kids.length rc (fV R.kids)/\Below W W wx)
 case first=>
  rcases jV (fun j=>decide ((rs.map (·.type)).getD j []=k)) rs.length with⟨j,hj,hp,w,he⟩ | ⟨x,he⟩
  . have C:z=(j:Int):=Hz.o.trans he
    subst C;have HG:=a6 (J.o j hj (by have h:=of_decide_eq_true hp;rw [t.o j hj]at h;exact h) (fun i hi=>by have h:=of_decide_eq_false (w i hi);rw [t.o i P2]at h;exact h))
    have Y:(j:Int) < rs.length:=P2
    obtain⟨b,off,ra,rc,rfl, -,n,g0,g1,g2,g3,g4,g5,g6,g7⟩:=l_2 (Hr.o.keep m.o (a8)) (i9.keep m.o (a8) Hc.o) j hj;have N:=a6 n;generalize rs[j]=q at g0 g1 g2 g3 g4 g5 g6 g7 HG N;clear he w hp n Hz;go_wp2_with fail
    go_meet
    case rel=>
     rw [HG.o];exact⟨ra,rc,u.o.s8 _ _ _ _ _ _ _ _,B.o.n8 P2 _ _ _ _ _ _ _ _,N.o.keep (b_E (a7) l _ _ _ _ _ _ _ _) (a8),b_E m.o l _ _ _ _ _ _ _ _⟩
  have C:z= -1:=Hz.o.trans he;subst C;have HG:=a6 (K.o (fun i hi=>by have h:=of_decide_eq_false (x i hi);rw [t.o i hi]at h;exact h))
  clear he x Hz;go_wp2_with fail
  go_meet
  case rel=>
   rw [HG.o];exact⟨ea,ec,u.o,B.o,H3.o.keep m.o (a8),m.o⟩
 case rest=>
  obtain⟨ra,rc,hy,hx,n,hb⟩:=hcut;have D:=a6 hy;have O:=a6 hx;have E:=a6 hb
  have X:=hy.lt;have HC:=a6 (j_I W R.kids.length ra rc (fV R.kids) wc n hb.size F);clear x0 x1 x2 x3 x4 x5 x6 x7 x8 x9 x10 x11 x12 x13 x14 x15 y0 y1 y2 y3 y4 y5 y6 y7 yf hy hx n hb M B u J K Hz t;obtain⟨⟨y0,y1,y2,y3,y4,y5,y6,y7⟩,yf,yl⟩:=D.o.f8;go_wp2_with fail;refine HC.o.mono ?_;rintro e w2 ⟨v2,rfl,y,d⟩;obtain⟨ka,kc,rfl,hq⟩:=nV y (f_r _);have Hq:=a6 hq;have Q:=a6 (E.o.trans (d.mono E.o.size));have S:=a6 (D.o.kept d);have T:=a6 (O.o.kept d)
  clear d y hq HC y0 y1 y2 y3 y4 y5 y6 y7 yf D O;obtain⟨⟨y0,y1,y2,y3,y4,y5,y6,y7⟩,yf,yl⟩:=S.o.f8;obtain⟨⟨z0,z1,z2,z3,z4,z5,z6,z7⟩,zf,zl⟩:=T.o.f8;go_wp2_with fail;refine bodyPost_ret (v:= .agg #[aZ R.type,R.text.1,aZ R.text.2,R.other.1,aZ R.other.2,(ka,R.kids.length,kc),R.fill,aZ R.fillT]) (by simp [results,Tryz.results53,go_sem,z0,z1,z2,z3,z4,z5,z6,z7]) rfl ?_;have U:¬ (wc.heap.size <= W.heap.size+1+1+1):=P2
  have V:¬ (wc.heap.size <= W.heap.size+1+1):=P2
  exact⟨ka,kc,rfl,(p_T (b9 Hq.o U) V _ _ _ _ _ _ _ _).keep (a8) (fun _ _ _=>rfl) (fun b hb _=>aJ E.o.size hb),b_E (Q.o.setCell (p:=(P0 (W.heap.size+1+1+1) 5)) l _) P _ _ _ _ _ _ _ _⟩
theorem r_P {a b:List UInt8} (h:a≠b):(a == b)=false:=t_I
theorem l_3 (a b:Int):(a == b)=decide (a=b):=by by_cases h:a=b <;> simp [h]
theorem l_Z {w:World} {B cap:Nat} {a:Option Addr} {ks:List aX} {css:List Value} (h:RowA w B 4 a ks.length cap css) (hk:eX w B ks css) (i:Nat) (hi:i < ks.length):
 ∃ b off ap cp at_ ct ak ck,a=some ⟨b,off,none⟩/\b < B/\bY w B ks[i] (.agg #[(b8 ks[i]), .slice ap (dJ ks[i]).length cp, .slice at_ (iJ ks[i]).length ct, .slice ak (aY ks[i]).length ck])/\RowA w B 2 ap (dJ ks[i]).length cp (cK (dJ ks[i]))/\
   w.cell? ⟨b,off+i * 4,none⟩=some (.bool (b8 ks[i]))/\w.cell? ⟨b,off+i * 4+1,none⟩=some (.slice ap (dJ ks[i]).length cp)/\w.cell? ⟨b,off+i * 4+2,none⟩=some (.slice at_ (iJ ks[i]).length ct)/\w.cell? ⟨b,off+i * 4+3,none⟩=some (.slice ak (aY ks[i]).length ck):=by
 obtain⟨b,off,l',a1,n1,c1,a2,n2,c2,a3,n3,c3,ha,hb,c,g0,g1,g2,g3⟩:=h.kid_at hk i hi;generalize ks[i]=q at c⊢;obtain⟨l,ps,t,ks'⟩:=q;have d:bY w B (.mk l ps t ks') (.agg #[l',(a1,n1,c1),(a2,n2,c2),(a3,n3,c3)]):=⟨_,rfl,c⟩;obtain⟨ap,cp,at_,ct,ak,ck,css',hv,h2, -, -, -⟩:=d.open;simp only [Value.agg.injEq,Array.mk.injEq,List.cons.injEq,Value.bool.injEq,Value.slice.injEq,and_true]at hv;obtain⟨rfl,⟨rfl,rfl,rfl⟩,⟨rfl,rfl,rfl⟩,⟨rfl,rfl,rfl⟩⟩:=hv;exact⟨b,off,_,_,_,_,_,_,ha,hb,d,h2,g0,g1,g2,g3⟩
theorem A0 {ks:List aX} {i:Nat} (hi:i < ks.length):cY ks i=ks[i]:=by simp [cY,List.getD,NV hi]
def pQ (l:List CZ):List Value:=l.flatMap tJ
theorem b_c (l:List CZ):(pQ l).length=l.length * 2:=by
 induction l with
 | nil=>rfl
 | cons p l ih=>simp only [pQ,tJ,List.flatMap_cons,NZ,O7,List.length_nil]at *;omega
theorem f_S:∀ (l:List CZ) (i:Nat) (hi:i < l.length),(pQ l)[i * 2]? =some (.int .i64 l[i].1)/\(pQ l)[i * 2+1]? =some (aZ l[i].2)
 | [],i,hi=>absurd hi P6
 | p::l,0,hi=>by simp [pQ,tJ]
 | p::l,i+1,hi=>by
   have h:=f_S l i R4;have e:pQ (p::l)= .int .i64 p.1::aZ p.2::pQ l:=by simp [pQ,tJ]
   rw [e,show (i+1) * 2=i * 2+1+1 by omega]
   simpa using h
theorem j_J {w:World} {B n cap:Nat} {a:Option Addr} {l:List CZ} (h:RowA w B 2 a n cap (pQ l)) (k:Nat) (hk:k < l.length):
 ∃b off,a=some ⟨b,off,none⟩/\b < B/\w.cell? ⟨b,off+k * 2,none⟩=some (.int .i64 l[k].1)/\w.cell? ⟨b,off+k * 2+1,none⟩=some (aZ l[k].2):=by
 obtain⟨h1,h2⟩:=f_S l k hk;obtain⟨b,off,ha,hb,hc⟩:=h.some_ (by intro e;rw [e]at h1;simp at h1);exact⟨b,off,ha,hb,hc _ _ h1,by have:=hc _ _ h2;rwa [<- Nat.add_assoc]at this⟩
def a_b (l:List CZ) (d:Int):Int:=uZ (fun i=>decide ((l.getD i (0, [])).1=d)) l.length
def b_P (W:World) (at_:Int) (m:Nat) (e:Ending) (w':World):Prop:= ∃k:Int,e= .returned (.tuple #[at_,k])/\(0 <= at_ ->k=m)/\Below W W w'
theorem o_6 (x:Int) (t:List UInt8) (d:Int) (N:Nat) (W:World) (hN:W.cell? N=some (.int .i64 d)):
 Calls Tryz.prog 202 #[.agg #[x,aZ t], .pointer N] W fun e w'=>e= .returned (decide (x=d))/\Below W W w':=by
 have a:=World.block_lt_of_cell? W _ hN;have Hb:=a6 (b7 W (Obj.cells #[x,aZ t] 24))
 go_enter Tryz.func202,Tryz.ntmps202
 go_wp2_with fail;go_ret;exact⟨bJ (l_3 _ _),Hb.o⟩
theorem q_m (e0 e1 e2 e3 e4 e5 e6 e7 e8 e9 e10 e11:Value) (aa:Option Addr) (ac:Nat) (l:List CZ) (d:Int) (W:World) (hr:RowA W W 2 aa l.length ac (pQ l)) (hn:l.length <= 100000000):
 Calls Tryz.prog 149 #[.agg #[e0,e1,e2,e3,e4,e5,e6,e7,e8,e9,e10,e11,(aa,l.length,ac)],d] W (b_P W (a_b l d) (if d=4 then b_C l (a_b l d).toNat else 1)):=by
 obtain⟨mz,k⟩:∃mz,mz=(if d=4 then b_C l (a_b l d).toNat else 1):=⟨_,rfl⟩;rw [<- k];obtain⟨w0,f⟩:∃w0,w0=(W.alloc (Obj.cells #[e0,e1,e2,e3,e4,e5,e6,e7,e8,e9,e10,e11,(aa,l.length,ac)] 118)).alloc (Obj.cells #[d] 3):=⟨_,rfl⟩;have n:Below W W w0:=t_B
 have hA:At w0 W [e0,e1,e2,e3,e4,e5,e6,e7,e8,e9,e10,e11,(aa,l.length,ac)] 118:=YJ
 have hX:At w0 (W+1) [d] 3:=s_Q
 have hr0:=hr.keep n n.size;have s:∀j (hj:j < l.length),l.getD j (0, [])=l[j]:=fun j hj=>by simp [List.getD,NV hj]
 have HI:=a6 (p_R l.length aa ac 202 #[.pointer (some (P0 (W+1) 0))] (fun j=>decide ((l.getD j (0, [])).1=d)) w0 hn P5 (fun j W' hj hb=>by
  obtain⟨b,off,ha, -,h0,h1⟩:=j_J (hr0.keep hb hb.size) j hj;refine⟨b,off,_,_,ha,h0,h1, ?_⟩;rw [s j hj];exact o_6 l[j].1 l[j].2 d _ W' ((hX.kept hb).cell 0 rfl)))
 have i:=a6 (jV (fun j=>decide ((l.getD j (0, [])).1=d)) l.length);have C:a_b l d=uZ (fun j=>decide ((l.getD j (0, [])).1=d)) l.length:=rfl;rw [<- C]at HI i;generalize a_b l d=z at HI i k⊢;have o:=a6 k;clear k;have Hr:=a6 hr0;have t:=a6 n;have HA:=a6 hA;have HX:=a6 hX;have D:=a6 f;have N:=a6 s
 have x12:=hA.cell 12 rfl;have xl:=hA.lt;clear C f n hA hX hr0 hr s;go_enter Tryz.func149,Tryz.ntmps149;go_upto_region 1 with fail;rw [<- D.o];clear D;go_wp2_with fail;refine HI.o.mono ?_;rintro e w1 ⟨rfl,a⟩;have p:=a6 (t.o.trans (a.mono t.o.size))
 have E:=a6 (Hr.o.keep a a.size);have y12:=(HA.o.kept a).cell 12 rfl;have yl:=(HA.o.kept a).lt;have z0:=(HX.o.kept a).cell 0 rfl;have zl:=(HX.o.kept a).lt;clear a HI x12 xl HA HX Hr t;rcases i.o with⟨j,hj,hp, -,he⟩ | ⟨-,he⟩
 . subst he
   have O:decide ((j:Int) < 0)=false:=P6
   clear hp i;by_cases h4:d=4
   . subst h4
     obtain⟨b,off,rfl,hb,g0,g1⟩:=j_J E.o j hj;have P:(j:Int) < l.length:=P2
     have K:=a6 g0;have L:=a6 g1
     clear g0 g1;go_wp2_with fail
     go_loopg [5] (l.length - 1) (fun g m wr=>∃mm:Nat,m= .int .i64 mm/\1 <= mm/\j+mm <= l.length/\mm+g=l.length/\(∀q (hq:q < mm) (hl:j+q < l.length),l[j+q]=l[j])/\Below w1 w1 wr)
     case atStart=>
      refine⟨1,rfl,by omega,by omega,by omega,fun q hq hl=> ?_,a7⟩;obtain rfl:q=0:=P2
      rfl
     case round=>
      obtain⟨mm,rfl,h1,u,hg,F,c⟩:=hrel;have r:=a6 F;have v:=a6 c
      have y12':=(c.cell (by exact yl)).trans y12;have g0:=(c.cell (by exact hb)).trans K.o;have g1:=(c.cell (by exact hb)).trans L.o;have yl':=Nat.lt_of_lt_of_le yl c.size;have w:=a6 (p.o.trans (c.mono p.o.size));have Q:IntKind.i64.wrap ((j:Int)+(mm:Int))=((j+mm:Nat):Int):=by rw [show (j:Int)+(mm:Int)=((j+mm:Nat):Int)by omega];exact IntWalk.i64_in _ P2
      clear F c y12 z0 zl yl;by_cases G:j+mm < l.length
      . have R:((j+mm:Nat):Int) < (l.length:Int):=P2
        have M:(j:Int)+(mm:Int) < (l.length:Int):=P2
        obtain⟨b',off',x, -,k0,k1⟩:=j_J (E.o.keep v.o v.o.size) (j+mm) G;injection x with x;injection x with e1 e2;subst e1;subst e2
        by_cases hx:l[j+mm].1=l[j].1
        . by_cases hy:l[j+mm].2=l[j].2
          . have y:l[j+mm]=l[j]:=Prod.ext hx hy
            have H:=a6 (show ∀q (hq:q < mm+1) (hl:j+q < l.length),l[j+q]=l[j]from fun q hq hl=>by
             rcases Nat.lt_or_ge q mm with h | h
             . exact r.o q h hl
             obtain rfl:q=mm:=P2
             exact y)
            rw [y]at k0 k1;generalize l[j]=B at g0 g1 k0 k1;clear hx hy y;go_wp2_with fail
            go_quiet (fail)
            go_wp2_with fail
            go_roundg (l.length - (mm+1))
            case measure=>omega
            case rel=>exact⟨mm+1,by go_num,by omega,by omega,by omega,H.o,below_drewN v.o _⟩
          have Hm:=a6 (g_z hj h1 u (fun q hq=>r.o q hq P2) (fun h e=>hy (congrArg Prod.snd e)));have I:=r_P hy;rw [hx]at k0;generalize l[j+mm].2=A2 at k1 I;generalize l[j]=B at g0 g1 k0 I;clear hx hy;go_wp2_with fail
          go_quiet (fail)
          go_wp2_with fail;go_ret2;exact⟨_,rfl,fun _=>by rw [o.o];simp [Hm.o],below_drewN w.o _⟩
        have Hm:=a6 (g_z hj h1 u (fun q hq=>r.o q hq P2) (fun h e=>hx (congrArg Prod.fst e)));have J:(l[j+mm].1 == l[j].1)=false:=TQ
        generalize l[j+mm]=A at k0 k1 J;generalize l[j]=B at g0 g1 J;clear hx;go_wp2_with fail
        go_quiet (fail)
        go_wp2_with fail;go_ret2;exact⟨_,rfl,fun _=>by rw [o.o];simp [Hm.o],below_drewN w.o _⟩
      have M:decide ((j:Int)+(mm:Int) < (l.length:Int))=false:=P8
      have Hm:=a6 (g_z hj h1 u (fun q hq=>r.o q hq P2) (fun h e=>G h));go_wp2_with fail
      go_quiet (fail)
      go_wp2_with fail;go_ret2;exact⟨_,rfl,fun _=>by rw [o.o];simp [Hm.o],below_drewN w.o _⟩
   have S:(d != 4)=true:=by simpa using h4
   go_wp2_with fail;go_ret2;exact⟨_,rfl,fun _=>by rw [o.o,if_neg h4];rfl,p.o⟩
 subst he;clear i;go_wp2_with fail;go_ret2;exact⟨_,rfl,fun h=>by omega,p.o⟩
def BK (ks:List aX) (i:Nat):Bool:=decide (0 < i) && (b8 (cY ks i) && (b8 (cY ks (i - 1)) && decide (dJ (cY ks i)=dJ (cY ks (i - 1)))))
def J6 (ks:List aX) (i:Nat):Bool:=b8 (cY ks i) && (decide ((iJ (cY ks i)).length=0) && decide (1 < ks.length))
theorem f_T (r:bK) (ks:List aX):gV r ks 4=uZ (BK ks) ks.length:=by
 unfold gV;rw [if_neg P2];congr 1
theorem m_0 (r:bK) (ks:List aX):gV r ks 5=uZ (J6 ks) ks.length:=by
 unfold gV;rw [if_neg P2];congr 1
theorem r_Q (e0 e1 e2:Value) (ak:Option Addr) (kn ck:Nat) (e4 e5 e6 e7 e8 e9:Value) (fl:Int) (e11 e12:Value) (W:World) (hn:kn <= 100000000):
 Calls Tryz.prog 152 #[.agg #[e0,e1,e2,(ak,kn,ck),e4,e5,e6,e7,e8,e9,fl,e11,e12]] W (b_P W (if kn=0/\fl≠0 then 0 else -1) 1):=by
 obtain⟨z,hz⟩:∃z:Int,z=if kn=0/\fl≠0 then 0 else -1:=⟨_,rfl⟩
 rw [<- hz];obtain⟨w0,b⟩:∃w0,w0=W.alloc (Obj.cells #[e0,e1,e2,(ak,kn,ck),e4,e5,e6,e7,e8,e9,fl,e11,e12] 118):=⟨_,rfl⟩;have d:Below W W w0:=t_L
 have hA:At w0 W [e0,e1,e2,(ak,kn,ck),e4,e5,e6,e7,e8,e9,fl,e11,e12] 118:=by rw [b];exact At.fresh W _ _
 have x3:=hA.cell 3 rfl;have x10:=hA.cell 10 rfl;have xl:=hA.lt
 have c:=a6 d;have a:=a6 b
 clear d hA b;by_cases h0:kn=0
 . have e:decide (0 < kn)=false:=P8
   by_cases hf:fl=0
   . have Hz:=a6 (show z= -1 by rw [hz,if_neg (fun h=>h.2 hf)])
     have f:(fl == 0)=true:=t_l
     clear h0 hf hz;go_enter Tryz.func152,Tryz.ntmps152;go_upto_region 1 with fail;rw [<- a.o];clear a;go_wp2_with fail;go_ret2;rw [Hz.o];exact⟨_,rfl,fun h=>by omega,c.o⟩
   have Hz:=a6 (show z=0 by rw [hz,if_pos ⟨h0,hf⟩]);have f:(fl == 0)=false:=t_l
   clear h0 hf hz;go_enter Tryz.func152,Tryz.ntmps152;go_upto_region 1 with fail;rw [<- a.o];clear a;go_wp2_with fail;go_ret2;rw [Hz.o];exact⟨_,rfl,fun h=>rfl,c.o⟩
 have e:decide (0 < kn)=true:=P8
 have Hz:=a6 (show z= -1 by rw [hz,if_neg (fun h=>h0 h.1)]);clear h0 hz;go_enter Tryz.func152,Tryz.ntmps152;go_upto_region 1 with fail;rw [<- a.o];clear a;go_wp2_with fail;go_ret2;rw [Hz.o];exact⟨_,rfl,fun h=>by omega,c.o⟩
theorem o_7 (q:aX) (v:Value) (W:World) (hv:bY W W q v):
 Calls Tryz.prog 203 (#[v] ++ #[]) W fun e w'=>e= .returned (b8 q && decide ((iJ q).length=0))/\Below W W w':=by
 obtain⟨lf,ps,t,ks⟩:=q;obtain⟨ap,cp,at_,ct,ak,ck,css,rfl, -, -, -, -⟩:=hv.open;have Hb:=a6 (b7 W (Obj.cells #[lf,(ap,ps.length,cp),(at_,t.length,ct),(ak,ks.length,ck)] 35))
 show Calls Tryz.prog 203 #[.agg #[lf,(ap,ps.length,cp),(at_,t.length,ct),(ak,ks.length,ck)]] W _
 simp only [b8,iJ];clear hv;cases lf with
 | false=>
   go_enter Tryz.func203,Tryz.ntmps203
   go_wp2_with fail;go_ret;exact⟨rfl,Hb.o⟩
 | true=>
   go_enter Tryz.func203,Tryz.ntmps203
   go_wp2_with fail;go_ret;exact⟨bJ (by simp [l_3]),Hb.o⟩
theorem q_n (e0 e1 e2:Value) (ak:Option Addr) (ck:Nat) (ks:List aX) (css:List Value) (e4 e5 e6 e7 e8 e9 e10 e11 e12:Value) (W:World) (hn:ks.length <= 100000000) (hk:RowA W W 4 ak ks.length ck css) (k:eX W W ks css):
 Calls Tryz.prog 151 #[.agg #[e0,e1,e2,(ak,ks.length,ck),e4,e5,e6,e7,e8,e9,e10,e11,e12]] W (b_P W (uZ (J6 ks) ks.length) 1):=by
 obtain⟨w0,c⟩:∃w0,w0=W.alloc (Obj.cells #[e0,e1,e2,(ak,ks.length,ck),e4,e5,e6,e7,e8,e9,e10,e11,e12] 118):=⟨_,rfl⟩;have a:Below W W w0:=WV
 have hA:At w0 W [e0,e1,e2,(ak,ks.length,ck),e4,e5,e6,e7,e8,e9,e10,e11,e12] 118:=by rw [c];exact At.fresh W _ _
 have x3:=hA.cell 3 rfl;have xl:=hA.lt
 have l:=hk.keep a a.size;have d:=eX.keep a a.size _ _ k
 have m:=a6 a;have f:=a6 c
 by_cases h2:ks.length < 2
 . have o:decide ((ks.length:Int) < 2)=true:=P8
   have Hz:=a6 (show uZ (J6 ks) ks.length= -1 from tK (fun j hj=>by unfold J6;rw [O3 (show ¬ (1 < ks.length)by omega)];simp));generalize uZ (J6 ks) ks.length=z at Hz⊢;clear a hA c l d hk k h2;go_enter Tryz.func151,Tryz.ntmps151;go_upto_region 1 with fail;rw [<- f.o];clear f;go_wp2_with fail;go_ret2;rw [Hz.o];exact⟨_,rfl,fun h=>by omega,m.o⟩
 have o:decide ((ks.length:Int) < 2)=false:=P8
 have n:J6 ks=fun i=>(b8 (cY ks i) && decide ((iJ (cY ks i)).length=0)):=by
  funext i;unfold J6;rw [decide_eq_true (show 1 < ks.length by omega)];simp
 have HI:=a6 (h_s ks.length ak ck 203 #[] (J6 ks) w0 hn P5 (fun j W' hj hb=>by
  obtain⟨b,off,a1,c1,a2,c2,a3,c3,ha,r,p, -,g0,g1,g2,g3⟩:=l_Z (l.keep hb hb.size) (eX.keep hb hb.size _ _ d) j hj;refine⟨b,off,_,_,_,_,ha,g0,g1,g2,g3, ?_⟩;rw [n];simp only [A0 hj];exact o_7 _ _ _ p))
 generalize uZ (J6 ks) ks.length=z at HI⊢;clear a hA c l d hk k h2 n;go_enter Tryz.func151,Tryz.ntmps151;go_upto_region 1 with fail;rw [<- f.o];clear f;go_wp2_with fail;refine HI.o.mono ?_;rintro e w1 ⟨rfl,g⟩;have q:=a6 (m.o.trans (g.mono m.o.size))
 clear g HI;go_wp2_with fail;go_ret2;exact⟨_,rfl,fun h=>rfl,q.o⟩
theorem At.s4 {w:World} {N:Nat} {c0 c1 c2 c3:Value} {T:TypeId} (h:At w N [c0,c1,c2,c3] T) (d0 d1 d2 d3:Value):At ((((w.setCell N d0).setCell (P0 N 1) d1).setCell (P0 N 2) d2).setCell (P0 N 3) d3) N [d0,d1,d2,d3] T:=by
 have h0:At (w.setCell N d0) N [d0,c1,c2,c3] T:=h.set 0 d0;have h1:At ((w.setCell N d0).setCell (P0 N 1) d1) N [d0,d1,c2,c3] T:=h0.set 1 d1;have h2:At (((w.setCell N d0).setCell (P0 N 1) d1).setCell (P0 N 2) d2) N [d0,d1,d2,c3] T:=h1.set 2 d2;exact h2.set 3 d3
theorem At.n4 {w:World} {N M:Nat} {cs:List Value} {T:TypeId} (h:At w M cs T) (a:M≠N) (d0 d1 d2 d3:Value):At ((((w.setCell N d0).setCell (P0 N 1) d1).setCell (P0 N 2) d2).setCell (P0 N 3) d3) M cs T:=
 (((h.set_ne a _).set_ne a _).set_ne a _).set_ne a _
theorem r_R {w:World} {B cap:Nat} {a:Option Addr} {ks:List aX} {css:List Value} {b off:Nat} (h:RowA w B 4 a ks.length cap css) (hk:eX w B ks css) (ha:a=some ⟨b,off,none⟩) (i:Nat) (hi:i < ks.length):
 ∃ ap cp at_ ct ak ck,bY w B ks[i] (.agg #[(b8 ks[i]), .slice ap (dJ ks[i]).length cp, .slice at_ (iJ ks[i]).length ct, .slice ak (aY ks[i]).length ck])/\RowA w B 2 ap (dJ ks[i]).length cp (cK (dJ ks[i]))/\
   w.cell? (b,off+i * 4)=some (.bool (b8 ks[i]))/\w.cell? (b,off+i * 4+1)=some (.slice ap (dJ ks[i]).length cp)/\w.cell? (b,off+i * 4+2)=some (.slice at_ (iJ ks[i]).length ct)/\w.cell? (b,off+i * 4+3)=some (.slice ak (aY ks[i]).length ck):=by
 obtain⟨b',off',ap,cp,at_,ct,ak,ck,c,hb,h1,h2,h3,h4,h5,h6⟩:=l_Z h hk i hi;rw [ha]at c;injection c with e;injection e with e1 e2;subst e1;subst e2
 exact⟨_,_,_,_,_,_,h1,h2,h3,h4,h5,h6⟩
theorem q_o (e0 e1 e2:Value) (ak:Option Addr) (ck:Nat) (ks:List aX) (css:List Value) (e4 e5 e6 e7 e8 e9 e10 e11 e12:Value) (W:World) (hn:ks.length <= 100000000) (hk:RowA W W 4 ak ks.length ck css) (x:eX W W ks css):
 Calls Tryz.prog 150 #[.agg #[e0,e1,e2,(ak,ks.length,ck),e4,e5,e6,e7,e8,e9,e10,e11,e12]] W (b_P W (uZ (BK ks) ks.length) 1):=by
 obtain⟨z,hz⟩:∃z,z=uZ (BK ks) ks.length:=⟨_,rfl⟩;rw [<- hz];have I:=a6 (show ∀k:Nat,k < ks.length ->BK ks k=true ->(∀j,j < k ->BK ks j=false) ->z=(k:Int)from fun k h1 h2 h3=>by rw [hz];exact vQ h1 h2 h3)
 have J:=a6 (show (∀j,j < ks.length ->BK ks j=false) ->z= -1 from fun h=>by rw [hz];exact tK h);obtain⟨w0,n⟩:∃w0,w0=W.alloc (Obj.cells #[e0,e1,e2,(ak,ks.length,ck),e4,e5,e6,e7,e8,e9,e10,e11,e12] 118):=⟨_,rfl⟩;have l:Below W W w0:=by rw [n];exact b7 _ _
 have hA:At w0 W [e0,e1,e2,(ak,ks.length,ck),e4,e5,e6,e7,e8,e9,e10,e11,e12] 118:=by rw [n];exact At.fresh W _ _
 have Hk:=a6 (hk.keep l l.size);have K:=a6 (eX.keep l l.size _ _ x)
 have y:=a6 l;have A:=a6 n;have HA:=a6 hA
 clear hz l hA n hk x;go_enter Tryz.func150,Tryz.ntmps150;go_upto_region 1 with fail;rw [<- A.o];clear A;go_wp2_with fail
 go_loopg [4] ks.length (fun g i wr=>∃k:Nat,i= .int .i64 k/\1 <= k/\k+g=ks.length+1/\(∀j,j < k ->BK ks j=false)/\Below w0 w0 wr)
 case atStart=>
  refine⟨1,rfl,by omega,by omega,fun j hj=> ?_,a7⟩;obtain rfl:j=0:=P2
  rfl
 case round=>
  obtain⟨k,rfl,h1,hg,o,a⟩:=hrel;have B:=a6 o;have C:=a6 a
  have s:=a6 (y.o.trans (a.mono y.o.size));have x3:=(HA.o.kept a).cell 3 rfl;have xl:=(HA.o.kept a).lt
  by_cases t:k < ks.length
  . have D :(k:Int) < ks.length:=P2
    have O:IntKind.i64.wrap ((k:Int) - 1)=((k - 1:Nat):Int):=WZ
    have P:((k - 1:Nat):Int) < ks.length:=P2
    have u:=Hk.o.keep a a.size;have m:=eX.keep a a.size _ _ K.o
    obtain⟨kb,ko,a1,c1,a2,c2,a3,c3,rfl,d, -,b,g0,g1,g2,g3⟩:=l_Z u m (k - 1) P2;obtain⟨b1,d1,b2,d2,b3,d3, -,c,f0,f1,f2,f3⟩:=r_R u m rfl k t;have r:BK ks k=(b8 ks[k] && (b8 ks[k - 1] && decide (dJ ks[k]=dJ ks[k - 1]))):=by
     unfold BK;rw [A0 t,A0 (show k - 1 < ks.length by omega),decide_eq_true (show 0 < k by omega)];rfl
    generalize ks[k - 1]=qa at b g0 g1 g2 g3 r;generalize ks[k]=qb at c f0 f1 f2 f3 r;have f:=a6 r;have E:=a6 (fun(w':World) (hb:Below wr wr w')=>And.intro ((hb.cell (by exact xl)).trans x3) (And.intro
     (show w'.cell? (kb,ko+(k - 1) * 4)=some (.bool (b8 qa))/\w'.cell? (kb,ko+(k - 1) * 4+1)=some (.slice a1 (dJ qa).length c1)/\w'.cell? (kb,ko+(k - 1) * 4+2)=some (.slice a2 (iJ qa).length c2)/\w'.cell? (kb,ko+(k - 1) * 4+3)=some (.slice a3 (aY qa).length c3)from⟨(hb.cell ZJ).trans g0,(hb.cell ZJ).trans g1,(hb.cell ZJ).trans g2,(hb.cell ZJ).trans g3⟩)
     (show w'.cell? (kb,ko+k * 4)=some (.bool (b8 qb))/\w'.cell? (kb,ko+k * 4+1)=some (.slice b1 (dJ qb).length d1)/\w'.cell? (kb,ko+k * 4+2)=some (.slice b2 (iJ qb).length d2)/\w'.cell? (kb,ko+k * 4+3)=some (.slice b3 (aY qb).length d3)from⟨(hb.cell ZJ).trans f0,(hb.cell ZJ).trans f1,(hb.cell ZJ).trans f2,(hb.cell ZJ).trans f3⟩)))
    have L:=a6 b;have M:=a6 c
    clear u m b c r o a;go_upto_region 4 with fail
    go_cut [5,6] (fun p q wx=>∃M1 M2:Nat,p= .pointer M1/\q= .pointer M2/\At wx M1 [(b8 qa),(a1,(dJ qa).length,c1),(a2,(iJ qa).length,c2),(a3,(aY qa).length,c3)] 35/\At wx M2 [(b8 qb),(b1,(dJ qb).length,d1),(b2,(iJ qb).length,d2),(b3,(aY qb).length,d3)] 35/\Below wr wr wx)
    case first=>
     go_region_held3 (fun w'=>w'.cell? (P0 W 3)=some (.slice (some (kb,ko)) ks.length ck)/\(w'.cell? (kb,ko+(k - 1) * 4)=some (.bool (b8 qa))/\w'.cell? (kb,ko+(k - 1) * 4+1)=some (.slice a1 (dJ qa).length c1)/\w'.cell? (kb,ko+(k - 1) * 4+2)=some (.slice a2 (iJ qa).length c2)/\w'.cell? (kb,ko+(k - 1) * 4+3)=some (.slice a3 (aY qa).length c3))/\(w'.cell? (kb,ko+k * 4)=some (.bool (b8 qb))/\w'.cell? (kb,ko+k * 4+1)=some (.slice b1 (dJ qb).length d1)/\w'.cell? (kb,ko+k * 4+2)=some (.slice b2 (iJ qb).length d2)/\w'.cell? (kb,ko+k * 4+3)=some (.slice b3 (aY qb).length d3))) (refine E.o _ (by with_reducible (repeat (first | exact a7 | refine aK ?_ | refine aQ ?_ ?_ _ | refine aV ?_ ?_ _)) <;> (first | exact a8 | (simp <;> omega))))
      (fail)
     all_goals
      go_wp2_with fail
      go_meet
      case rel=>
       first
        | exact⟨_,_,rfl,rfl,(At.fresh wr [(b8 qa),(a1,(dJ qa).length,c1),(a2,(iJ qa).length,c2),(a3,(aY qa).length,c3)] 35).alloc _,At.second wr _ [(b8 qb),(b1,(dJ qb).length,d1),(b2,(iJ qb).length,d2),(b3,(aY qb).length,d3)] _,(g8 wr _ _).drew⟩
        | exact⟨_,_,rfl,rfl,At.second wr _ [(b8 qa),(a1,(dJ qa).length,c1),(a2,(iJ qa).length,c2),(a3,(aY qa).length,c3)] _,(At.fresh wr [(b8 qb),(b1,(dJ qb).length,d1),(b2,(iJ qb).length,d2),(b3,(aY qb).length,d3)] 35).alloc _,(g8 wr _ _).drew⟩
    case rest=>
     obtain⟨M1,M2,rfl,rfl,F,G,hb⟩:=hcut;have b:=L.o.keep hb hb.size;have c:=M.o.keep hb hb.size
     obtain⟨⟨m0,m1,m2,m3⟩, -,ml⟩:=F.f4;obtain⟨⟨n0,n1,n2,n3⟩, -,nl⟩:=G.f4;have v:=a6 (C.o.trans (hb.mono C.o.size));have N:=a6 (s.o.trans (hb.mono s.o.size));generalize b8 qa=la at f m0;generalize b8 qb=lb at f n0;generalize dJ qa=pa at f m1 b;generalize dJ qb=pb at f n1 c;have w:=a6 (fun(h:BK ks k=false)=>show ∀j,j < k+1 ->BK ks j=false from fun j hj=>by
      rcases Nat.lt_or_ge j k with h' | h'
      . exact B.o j h'
      obtain rfl:j=k:=P2
      exact h)
     clear hb F G E;cases la with
     | false=>
       clear b c;go_wp2_with fail
       go_roundg (ks.length+1 - (k+1))
       case measure=>omega
       case rel=>exact⟨k+1,by go_num,by omega,by omega,w.o (by rw [f.o];simp),v.o⟩
     | true=>
       cases lb with
       | false=>
         clear b c;go_wp2_with fail
         go_roundg (ks.length+1 - (k+1))
         case measure=>omega
         case rel=>exact⟨k+1,by go_num,by omega,by omega,w.o (by rw [f.o];simp),v.o⟩
       | true=>
         have HP:=a6 (g_C a1 b1 c1 d1 _ pa pb _ b c);clear b c;by_cases he:pa=pb
         . rw [decide_eq_true he]at HP
           have Hz:=a6 (I.o k t (by rw [f.o,he];simp) B.o);clear he;go_wp2_with fail;refine HP.o.mono ?_;rintro e w5 ⟨rfl,hd⟩;have Hd:=a6 hd.below
           clear hd HP;go_wp2_with fail;go_ret2;rw [Hz.o];exact⟨_,rfl,fun _=>rfl,N.o.trans (Hd.o _)⟩
         rw [O3 he]at HP;have H:=a6 (w.o (by rw [f.o,O3 (fun h=>he h.symm)];simp));clear he;go_wp2_with fail;refine HP.o.mono ?_;rintro e w5 ⟨rfl,hd⟩;have Hd:=a6 hd.below
         clear hd HP;go_wp2_with fail
         go_roundg (ks.length+1 - (k+1))
         case measure=>omega
         case rel=>exact⟨k+1,by go_num,by omega,by omega,H.o,v.o.trans (Hd.o _)⟩
  have D:decide ((k:Int) < ks.length)=false:=P8
  have Hz:=a6 (J.o (fun j hj=>o j P2));clear o a;go_wp2_with fail;go_ret2;rw [Hz.o];exact⟨_,rfl,fun h=>by omega,s.o⟩
end Go.Proofs.YtmadpclcmjahoaaGreatDoor
