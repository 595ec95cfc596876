/- Parts of the proof: CC15. -/
import Derived.Test.YtmadpclcmjahoaaGreatDoorCC14
set_option linter.unusedVariables false
set_option linter.unusedSimpArgs false
set_option maxHeartbeats 8000000
set_option maxRecDepth 100000
namespace Go.Proofs.YtmadpclcmjahoaaGreatDoor
open Go.RowKit Go.Redl
def l_6 (kd pos:Int) (p d:List Int) (nd:aX) (ol:List fQ) (R k X:aX):Prop:=
 (kd=2/\rK k nd=true/\X=R)∨ (kd=3/\∃into,0 < jK p/\l9 R (kX p)=some into/\b8 into=b8 k/\(FK into:Int)=pos/\dJ k=ol/\(u_4 into k).wt <= 100000000/\X=jX R (kX p) (u_4 into k))∨ (kd=5/\K4 R d k=(X,0))
theorem b_f (W:World) (o1 o2 o3 o4 o5:Obj):Below W W (((((W.alloc o1).alloc o2).alloc o3).alloc o4).alloc o5):=((iK _ _ _ _).alloc P8 _).alloc P8 _
theorem At.fifth (W:World) (o1 o2 o3 o4:Obj) (cs:List Value) (T:TypeId):At (((((W.alloc o1).alloc o2).alloc o3).alloc o4).alloc (.cells cs.toArray T)) (W.heap.size+1+1+1+1) cs T:=by
 have h:=At.fourth (W.alloc o1) o2 o3 o4 cs T;rw [show (W.alloc o1).heap.size=W.heap.size+1 by simp]at h;exact h
theorem j_R (n R k X:aX) (p d:List Int) (kd pos:Int) (nd:aX) (ol:List fQ) (v:Value) (pa ta oa:Option Addr) (pc tc oc:Nat) (l0:Bool) (a1 a2 a3:Option Addr) (m1 m2 m3 c1 c2 c3:Nat) (W:World)
 (h4:n.wt <= 100000000) (M:R.wt <= 100000000) (O:k.wt <= 100000000) (hv:bY W W n v) (h9:nd.wt <= 100000000) (hn:bY W W nd (.agg #[l0,(a1,m1,c1),(a2,m2,c2),(a3,m3,c3)])) (Q:p≠ [])
 (hp:RowA W W 1 pa p.length pc (p.map (Value.int .i64))) (S:p.length <= 1000000) (T:∀z∈p, -9223372036854775807 <= z/\z <= 9223372036854775807) (hd:RowA W W 1 ta d.length tc (d.map (Value.int .i64))) (h5:d.length <= 1000000)
 (ho:RowA W W 2 oa ol.length oc (cK ol)) (hcut:F3 n p=(R,k,0)) (A:l_6 kd pos p d nd ol R k X):
 Calls Tryz.prog 66 #[v, .agg #[kd,(pa,p.length,pc),(ta,d.length,tc),pos,l0,(a1,m1,c1),(a2,m2,c2),(a3,m3,c3),(oa,ol.length,oc),(),(),false,(),OY,(),OY,false,(),OY,(),OY]] W (AX W (X,0)):=by
 obtain⟨csn,rfl,hc⟩:=hv;obtain⟨l,b1,o1,d1,b2,o2,d2,b3,o3,d3,rfl⟩:=hc.form;obtain⟨w0,f⟩:∃w0,w0=(((((W.alloc (Obj.cells #[l,(b1,o1,d1),(b2,o2,d2),(b3,o3,d3)] 35)).alloc (Obj.cells #[kd,(pa,p.length,pc),(ta,d.length,tc),pos,l0,(a1,m1,c1),(a2,m2,c2),(a3,m3,c3),(oa,ol.length,oc),(),(),false,(),OY,(),OY,false,(),OY,(),OY] 55)).alloc (Obj.cells #[false,(),(),()] 35)).alloc (Obj.cells #[false,(),(),()] 35)).alloc (Obj.cells #[false,(),(),()] 35)):=⟨_,rfl⟩;have j:Below W W w0:=by rw [f];exact b_f _ _ _ _ _ _
 have m:w0.heap.size=W.heap.size+5:=by rw [f];simp
 have hA:bV w0 W l (b1,o1,d1) (b2,o2,d2) (b3,o3,d3):=ZQ
 have hO:At w0 (W+1) [kd,(pa,p.length,pc),(ta,d.length,tc),pos,l0,(a1,m1,c1),(a2,m2,c2),(a3,m3,c3),(oa,ol.length,oc),(),(),false,(),OY,(),OY,false,(),OY,(),OY] 55:=s_X
 have hX:bV w0 (W.heap.size+1+1) false () () ():=t_f
 have hR:bV w0 (W.heap.size+1+1+1) false () () ():=by rw [f];exact(At.fourth W _ _ _ _ _).alloc _
 have hK:bV w0 (W.heap.size+1+1+1+1) false () () ():=by rw [f];exact At.fifth W _ _ _ _ _ _
 have B:=s_s n p (.agg #[l,(b1,o1,d1),(b2,o2,d2),(b3,o3,d3)]) pa pc w0 h4 ⟨_,rfl,dY.keep j j.size _ _ hc⟩ (hp.keep j j.size) S;rw [hcut]at B;have w:=a6 B
 obtain⟨y0,y1,y2,y3, -, -⟩:=hA.facts;have x0:=hO.cell 0 rfl;have x1:=hO.cell 1 rfl;have xl:=hO.lt
 have HO:=a6 hO;have HX:=a6 hX;have HR:=a6 hR;have HK:=a6 hK;have r:=a6 j;have o:=a6 m;have U:=a6 f
 have Hn:=a6 hn;have Hp:=a6 hp;have h6:=a6 T;have Hd:=a6 hd;have Ho:=a6 ho
 have C:kd=2∨kd=3∨kd=5:=by
  rcases A with⟨h, -⟩ | ⟨h, -⟩ | ⟨h, -⟩
  . exact .inl h
  . exact .inr (.inl h)
  exact .inr (.inr h)
 have q4:(kd == 4)=false:=t_N
 have q1:(kd == 1)=false:=t_N
 have q:=a6 A;have h7:=a6 Q
 clear hc hn hp T hd ho j m hA hO hX hR hK B hcut f A Q;rcases C with rfl | rfl | rfl
 all_goals
  go_enter Tryz.func66,Tryz.ntmps66
  go_upto_region 2 with fail;rw [<- U.o];clear U;go_wp2_with fail;refine w.o.mono ?_;rintro e w1 ⟨i,hh⟩;simp only [if_true]at hh;obtain⟨cs,ds,rfl,D,E⟩:=hh;obtain⟨lr,r1,e1,f1,r2,e2,f2,r3,e3,f3,rfl⟩:=D.form;obtain⟨lk,s1,g1,h1,s2,g2,h2,s3,g3,h3,rfl⟩:=E.form;have m:=o.o;have F:=HR.o.keep (i.mono P2);have G:=HK.o.keep (i.mono P2);have V:=HX.o.keep (i.mono P2);have Y:=HO.o.kept i;have x:=r.o.trans (i.mono r.o.size);obtain⟨z0,z1,z2,z3,⟨fz0,fz1,fz2,fz3⟩,zl⟩:=F.facts;obtain⟨k0,k1,k2,k3,⟨fk0,fk1,fk2,fk3⟩,kl⟩:=G.facts;have Z:=a6 F;have H0:=a6 G;have H1:=a6 V;have H2:=a6 Y;have y:=a6 x;have H3:=a6 D;have H4:=a6 E;have H5:=a6 i.size
  clear w i F G V Y x D E y0 y1 y2 y3 x0 x1 xl HR HK HX HO m;go_upto_region 12 with fail
  have m:=o.o;have h8:=H5.o
  have H:¬ (w0.heap.size <= W.heap.size+1+1+1):=P2
  have I:¬ (w0.heap.size <= W.heap.size+1+1+1+1):=P2
  have t1:=l7 (l7 y.o (N:=W.heap.size+1+1+1) P2 lr (r1,e1,f1) (r2,e2,f2) (r3,e3,f3)) (N:=W.heap.size+1+1+1+1) P2 lk (s1,g1,h1) (s2,g2,h2) (s3,g3,h3);have t2:=bV.set4 (N:=W.heap.size+1+1+1+1) (bV.all Z.o lr (r1,e1,f1) (r2,e2,f2) (r3,e3,f3)) P2 lk (s1,g1,h1) (s2,g2,h2) (s3,g3,h3);have t3:=bV.all (bV.set4 (N:=W.heap.size+1+1+1) H0.o P2 lr (r1,e1,f1) (r2,e2,f2) (r3,e3,f3)) lk (s1,g1,h1) (s2,g2,h2) (s3,g3,h3);have t4:=bV.set4 (N:=W.heap.size+1+1+1+1) (bV.set4 (N:=W.heap.size+1+1+1) H1.o P2 lr (r1,e1,f1) (r2,e2,f2) (r3,e3,f3)) P2 lk (s1,g1,h1) (s2,g2,h2) (s3,g3,h3);have t5:=At.n4 (N:=W.heap.size+1+1+1+1) (At.n4 (N:=W.heap.size+1+1+1) H2.o P2 lr (r1,e1,f1) (r2,e2,f2) (r3,e3,f3)) P2 lk (s1,g1,h1) (s2,g2,h2) (s3,g3,h3);have t6:=lX (lX H3.o H lr (r1,e1,f1) (r2,e2,f2) (r3,e3,f3)) I lk (s1,g1,h1) (s2,g2,h2) (s3,g3,h3);have t7:=lX (lX H4.o H lr (r1,e1,f1) (r2,e2,f2) (r3,e3,f3)) I lk (s1,g1,h1) (s2,g2,h2) (s3,g3,h3);clear z0 z1 z2 z3 fz0 fz1 fz2 fz3 zl k0 k1 k2 k3 fk0 fk1 fk2 fk3 kl H I;with_reducible generalize World.setCell (World.setCell (World.setCell (World.setCell (World.setCell (World.setCell (World.setCell (World.setCell w1 _ _) _ _) _ _) _ _) _ _) _ _) _ _) _ _=w2 at t1 t2 t3 t4 t5 t6 t7⊢;obtain⟨z0,z1,z2,z3, -, -⟩:=t2.facts;obtain⟨k0,k1,k2,k3, -, -⟩:=t3.facts;obtain⟨x0,x1,x2,x3,⟨fx0,fx1,fx2,fx3⟩,xl⟩:=t4.facts;have c0:=t5.cell 0 rfl;have cl:=t5.lt;have H6:=a6 (show w0.heap.size <= w2.heap.size by rw [o.o];have:=t3.facts.2.2.2.2.2;omega);have T1:=a6 t1;have T2:=a6 t2;have T3:=a6 t3;have T4:=a6 t4;have T5:=a6 t5;have T6:=a6 t6;have T7:=a6 t7
  clear t1 t2 t3 t4 t5 t6 t7 Z H0 H1 H2 y H3 H4 H5 m h8
 . have c:rK k nd=true/\X=R:=by
    rcases q.o with⟨-,h⟩ | ⟨h, -⟩ | ⟨h, -⟩
    . exact h
    . exact absurd h P9
    exact absurd h P9
   obtain⟨H7,rfl⟩:=c;have J:=d_Z k.wt k nd (.agg #[lk,(s1,g1,h1),(s2,g2,h2),(s3,g3,h3)]) (.agg #[l0,(a1,m1,c1),(a2,m2,c2),(a3,m3,c3)]) w2 (a8) ⟨_,rfl,NodeQ.node _ _ T7.o⟩ (by obtain⟨cs,he,hc⟩:=Hn.o;exact⟨cs,he,dY.keep T1.o T1.o.size _ _ hc⟩);rw [H7]at J;have H8:=a6 J
   have e4:=T5.o.cell 4 rfl;have e5:=T5.o.cell 5 rfl;have e6:=T5.o.cell 6 rfl;have e7:=T5.o.cell 7 rfl
   clear J H7 q;go_wp2_with fail;refine H8.o.mono ?_;rintro e w3 ⟨rfl,a⟩;have H9:=T2.o.keep (a.mono (by have:=T2.o.facts.2.2.2.2.2;omega))
   have g:=T4.o.keep (a.mono ZK);have s:=a6 (T1.o.trans (a.mono T1.o.size));have t:=a6 (gY T6.o a)
   clear H8 a e4 e5 e6 e7 c0 cl z0 z1 z2 z3 k0 k1 k2 k3 x0 x1 x2 x3 fx0 fx1 fx2 fx3 xl;obtain⟨z0,z1,z2,z3, -, -⟩:=H9.facts;obtain⟨x0,x1,x2,x3,⟨fx0,fx1,fx2,fx3⟩,xl⟩:=g.facts;clear H9 g;go_wp2_with fail;refine bodyPost_ret (v:= .tuple #[.agg #[lr,(r1,e1,f1),(r2,e2,f2),(r3,e3,f3)],OY]) S6 rfl ?_;exact LY (N:=W.heap.size+1+1) s.o r.o.size t_m P2 t.o
 . have c:∃into,0 < jK p/\l9 R (kX p)=some into/\b8 into=b8 k/\(FK into:Int)=pos/\dJ k=ol/\(u_4 into k).wt <= 100000000/\X=jX R (kX p) (u_4 into k):=by
    rcases q.o with⟨h, -⟩ | ⟨-,h⟩ | ⟨h, -⟩
    . exact absurd h P9
    . exact h
    exact absurd h P9
   obtain⟨into,i1,i2,i3,i4,i5,i6,h0⟩:=c;have K:=m_a R k into p d ol 3 pos (.agg #[lr,(r1,e1,f1),(r2,e2,f2),(r3,e3,f3)]) (.agg #[lk,(s1,g1,h1),(s2,g2,h2),(s3,g3,h3)]) l0 (a1,m1,c1) (a2,m2,c2) (a3,m3,c3) pa ta oa pc tc oc w2 M O i6 ⟨_,rfl,NodeQ.node _ _ T6.o⟩ ⟨_,rfl,NodeQ.node _ _ T7.o⟩ (Hp.o.keep T1.o T1.o.size) S h6.o (Ho.o.keep T1.o T1.o.size) h7.o i1 i2 i3 i4 i5;rw [<- h0]at K;have HM:=a6 K
   clear K q i1 i2 i3 i4 i5 i6 h0;go_upto_region 25 with fail
   have hl:=At.load (P:=Tryz.prog) T5.o Tryz.underlying55 rfl P3
   simp [go_sem]at hl
   clear c0;go_wp2_with fail;refine HM.o.mono ?_;intro e w3 ht;obtain⟨a,⟨-,l',k1',o4,r1',k2',o5,r2',k3',o6,r3',rfl,u⟩ | ⟨hz, -⟩⟩:=ht.cases
   . have g:=T4.o.keep (a.mono ZK)
     have s:=a6 (T1.o.trans (a.mono T1.o.size));have t:=a6 (show NodeQ w3 (fun b=>w0.heap.size <= b) X [l',(k1',o4,r1'),(k2',o5,r2'),(k3',o6,r3')]from NodeQ.keep (a8) (fun _ _ _=>rfl) (fun b hb _=>aJ H6.o hb) _ _ u);clear HM ht a u cl z0 z1 z2 z3 k0 k1 k2 k3 x0 x1 x2 x3 fx0 fx1 fx2 fx3 xl hl;obtain⟨x0,x1,x2,x3,⟨fx0,fx1,fx2,fx3⟩,xl⟩:=g.facts;clear g;go_wp2_with fail;refine bodyPost_ret (v:= .tuple #[.agg #[l',(k1',o4,r1'),(k2',o5,r2'),(k3',o6,r3')],OY]) S6 rfl ?_;exact LY (N:=W.heap.size+1+1) s.o r.o.size t_m P2 t.o
   exact absurd rfl hz
 have c:K4 R d k=(X,0):=by
  rcases q.o with⟨h, -⟩ | ⟨h, -⟩ | ⟨-,h⟩
  . exact absurd h P9
  . exact absurd h P9
  exact h
 have L:=r_m R k d (.agg #[lr,(r1,e1,f1),(r2,e2,f2),(r3,e3,f3)]) (.agg #[lk,(s1,g1,h1),(s2,g2,h2),(s3,g3,h3)]) ta tc w2 M O ⟨_,rfl,NodeQ.node _ _ T6.o⟩ ⟨_,rfl,NodeQ.node _ _ T7.o⟩ (Hd.o.keep T1.o T1.o.size) h5;rw [c]at L;have HM:=a6 L
 have e2':=T5.o.cell 2 rfl;clear L q c;go_wp2_with fail;refine HM.o.mono ?_;intro e w3 ht;obtain⟨a,⟨-,l',k1',o4,r1',k2',o5,r2',k3',o6,r3',rfl,u⟩ | ⟨hz, -⟩⟩:=ht.cases
 . have g:=T4.o.keep (a.mono ZK)
   have s:=a6 (T1.o.trans (a.mono T1.o.size));have t:=a6 (show NodeQ w3 (fun b=>w0.heap.size <= b) X [l',(k1',o4,r1'),(k2',o5,r2'),(k3',o6,r3')]from NodeQ.keep (a8) (fun _ _ _=>rfl) (fun b hb _=>aJ H6.o hb) _ _ u);clear HM ht a u c0 cl e2' z0 z1 z2 z3 k0 k1 k2 k3 x0 x1 x2 x3 fx0 fx1 fx2 fx3 xl;obtain⟨x0,x1,x2,x3,⟨fx0,fx1,fx2,fx3⟩,xl⟩:=g.facts;clear g;go_wp2_with fail;refine bodyPost_ret (v:= .tuple #[.agg #[l',(k1',o4,r1'),(k2',o5,r2'),(k3',o6,r3')],OY]) S6 rfl ?_;exact LY (N:=W.heap.size+1+1) s.o r.o.size t_m P2 t.o
 exact absurd rfl hz
def pV:List fQ ->Nat
 | []=>0
 | p::ps=>p.1.length / 64+p.2.length / 64+pV ps
mutual
def vZ:aX ->Int ->Int
 | .mk _ ps t ks,m=>if m - (1+t.length+ps.length:Nat) - (pV ps:Nat) < 0 then -1 else wK ks (m - (1+t.length+ps.length:Nat) - (pV ps:Nat))
def wK:List aX ->Int ->Int
 | [],m=>m
 | k::ks,m=>if vZ k m < 0 then -1 else wK ks (vZ k m)
end
def F4 (n:aX) (m:Int):Bool:=decide (0 <= vZ n m)
theorem f_x (a b:List fQ):pV (a ++ b)=pV a+pV b:=by
 induction a with
 | nil=>simp [pV]
 | cons p ps ih=>simp only [List.cons_append,pV,ih];omega
theorem i_4 {ps:List fQ} {k:Nat} (h:k < ps.length):pV (ps.take (k+1))=pV (ps.take k)+(ps[k].1.length / 64+ps[k].2.length / 64):=by
 rw [O1 h,f_x];simp [pV]
theorem m_b (ps:List fQ):pV ps <= iQ ps:=by
 induction ps with
 | nil=>simp [pV]
 | cons p ps ih=>simp only [pV,iQ];omega
mutual
theorem i_5:∀ (n:aX) (m:Int),0 <= m -> -1 <= vZ n m/\vZ n m <= m
 | .mk l ps t ks,m,h=>by
   simp only [vZ];split
   . omega
   have:=i_6 ks (m - (1+t.length+ps.length:Nat) - (pV ps:Nat)) P2
   omega
theorem i_6:∀ (ks:List aX) (m:Int),0 <= m -> -1 <= wK ks m/\wK ks m <= m
 | [],m,h=>by simp only [wK];omega
 | k::ks,m,h=>by
   simp only [wK];have h1:=i_5 k m h
   split
   . omega
   have:=i_6 ks (vZ k m) P2
   omega
end
theorem j_S {ks:List aX} {k:Nat} {m:Int} (h:k < ks.length):wK (ks.drop k) m=if vZ ks[k] m < 0 then -1 else wK (ks.drop (k+1)) (vZ ks[k] m):=by
 conv=>lhs;rw [NX h]
 simp only [wK]
theorem left_eq {z:Int} {ks:List aX} {l:Bool} {ps:List fQ} {t:List Int} {most:Int} (hz:z=most - (1+t.length+ps.length:Nat) - (pV ps:Nat)):
 vZ (.mk l ps t ks) most=if z < 0 then -1 else wK ks z:=by subst hz;rfl
theorem q_u (m:Nat):∀ (n:aX) (v:Value) (most:Int) (w:World),n.wt <= m ->n.wt <= 100000000 ->0 <= most ->most <= 1000000 ->bY w w n v ->
 Calls Tryz.prog 89 #[v,most] w fun e w'=>e= .returned (vZ n most)/\Below w w w':=by
 induction m with
 | zero=>intro n v most w hm;have:=J4 n;omega
 | succ m ih=>
   intro n v most w hm hn M N hv;obtain⟨l,ps,t,ks⟩:=n;obtain⟨ap,cp,at_,ct,ak,ck,css,rfl,hp,ht,hk,hc⟩:=hv.open;have IH:=a6 ih;have G:1+iQ ps+t.length+fY ks=(aX.mk l ps t ks).wt:=rfl;have O:fY ks <= 100000000:=P2
   have P:fY ks <= m:=P2
   have Q:iQ ps <= 100000000:=P2
   have R:=i7 ks;have S:t.length <= 100000000:=P2
   have U:=E6 ps;have Hl:=fun z (hz:z=most - (1+t.length+ps.length:Nat) - (pV ps:Nat))=>a6 (left_eq (l:=l) (ks:=ks) hz)
   clear ih hv G hm hn ht;go_enter Tryz.func89,Tryz.ntmps89;go_wp2_with fail
   go_loopw [1,22] (fun s i wr=>∃k:Nat,k <= ps.length/\i= .int .i64 k/\s= .int .i64 (most - (1+t.length+ps.length:Nat) - (pV (ps.take k):Nat))/\Below (w+1) (w.alloc (Obj.cells #[l,(ap,ps.length,cp),(at_,t.length,ct),(ak,ks.length,ck)] 35)) wr) (fun _ i _=>ps.length - (intOf i).toNat)
   case atStart=>exact⟨0,Nat.zero_le _,rfl,by simp [pV],a7⟩
   case round=>
    obtain⟨k,H,rfl,rfl,a⟩:=hrel;have j:=hp.keep (j6 a) (j6 a).size;have g:=m_b (ps.take k);have A:=g_I ps k
    by_cases d:k < ps.length
    . have Hb:=a6 a
      have c:=a6 (i_4 d);have o:=c_Y (NY d);obtain⟨b,off,rfl,hb,g0,g1⟩:=j.prop_at k d;generalize ps[k]=p at o g0 g1 c;obtain⟨p1,p2⟩:=p;simp only at o g0 g1 c;generalize pV (ps.take k)=T at g c⊢;have V:T <= 100000000:=P2
      have W:p1.length <= 100000000:=P2
      have X:p2.length <= 100000000:=P2
      have Y:(⟨p1.toArray⟩:ByteArray).size=p1.length:=rfl;clear a g A o;go_wp2_with fail
      go_roundw
      case rel=>exact⟨k+1,by omega,by go_num,by rw [c.o];go_num,d_M Hb.o⟩
      case measure=>simp [intOf];omega
    obtain rfl:k=ps.length:=P2
    rw [List.take_length]at g⊢;obtain⟨x0,x1,x2,x3⟩:=JY a;have Hb:=a6 (j6 a);have h:=Hl _ rfl;have B:most - (1+t.length+ps.length:Nat) - (pV ps:Nat) <= 1000000:=P2
    generalize most - (1+t.length+ps.length:Nat) - (pV ps:Nat)=z at h B⊢;clear a g A Hl;by_cases hz:z < 0
    . go_wp2_with fail
      go_ret;exact⟨dV (by rw [h.o,if_pos hz]),Hb.o⟩
    have Hl2:Hid (vZ (.mk l ps t ks) most=wK ks z):=by
     show vZ _ _=_
     rw [h.o,if_neg hz]
    have I:0 <= z:=P2
    clear hz h;go_wp2_with fail
    go_loopw [1,43] (fun s i wr=>∃ (k:Nat) (y:Int),k <= ks.length/\0 <= y/\y <= 1000000/\i= .int .i64 k/\s= .int .i64 y/\wK (ks.drop k) y=wK ks z/\Below w w wr) (fun _ i _=>ks.length - (intOf i).toNat)
    case atStart=>exact⟨0,z,Nat.zero_le _,I,B,rfl,rfl,by simp,Hb.o⟩
    case round=>
     obtain⟨k,y,H,C,J,rfl,rfl,D,a⟩:=hrel;have j:=hk.keep a a.size;have K:=eX.keep a a.size ks css hc;have f:=a6 a;have r:=a6 D;clear a D x0 x1 x2 x3;by_cases d:k < ks.length
     . have c:=a6 (j_S (m:=y) d)
       have L:=jJ (NY d);obtain⟨b,off,l',a1,n1,c1,a2,n2,c2,a3,n3,c3,rfl,hb,E,g0,g1,g2,g3⟩:=j.kid_at K k d;generalize ks[k]=q at E L c;have hB:=(((Below.refl wr wr).alloc (a8) (Obj.cells #[l',(a1,n1,c1),(a2,n2,c2),(a3,n3,c3)] 35)));have HC:=a6 (IH.o q (.agg #[l',(a1,n1,c1),(a2,n2,c2),(a3,n3,c3)]) y _ P2 P2 C J ⟨_,rfl,dY.keep hB hB.size _ _ E⟩);have F:=i_5 q y C;generalize vZ q y=x at HC c F;obtain⟨Z,H0⟩:=F
       by_cases hx:x < 0
       . have Hr:Hid (vZ (.mk l ps t ks) most= -1):=by
          show vZ _ _=_
          rw [Hl2.o, <- r.o,c.o,if_pos hx]
         go_wp2_with fail;refine HC.o.mono ?_;rintro e w2 ⟨rfl,a⟩;have u:=a6 ((f.o.alloc f.o.size _).trans (a.mono (by simp;have:=f.o.size;omega)))
         clear a;go_wp2_with fail;go_ret;exact⟨dV Hr.o.symm,u.o⟩
       have Hr:Hid (wK (ks.drop (k+1)) x=wK ks z):=by
        show wK _ _=_
        rw [<- r.o,c.o,if_neg hx]
       go_wp2_with fail;refine HC.o.mono ?_;rintro e w2 ⟨rfl,a⟩;have u:=a6 ((f.o.alloc f.o.size _).trans (a.mono (by simp;have:=f.o.size;omega)))
       clear a;go_wp2_with fail
       go_roundw
       case rel=>exact⟨k+1,x,by omega,by omega,by omega,by go_num,rfl,Hr.o,u.o⟩
       case measure=>simp [intOf];omega
     obtain rfl:k=ks.length:=P2
     go_wp2_with fail;go_ret;exact⟨dV (by rw [Hl2.o, <- r.o,List.drop_length];rfl),f.o⟩
theorem o_p (n:aX) (v:Value) (most:Int) (w:World) (hn:n.wt <= 100000000) (h0:0 <= most) (h1:most <= 1000000) (hv:bY w w n v):
 Calls Tryz.prog 35 #[v,most] w fun e w'=>e= .returned (F4 n most)/\Below w w w':=by
 have c:=hv;obtain⟨l,ps,t,ks⟩:=n;obtain⟨ap,cp,at_,ct,ak,ck,css,rfl, -, -, -, -⟩:=c.open;generalize aX.mk l ps t ks=n at hv hn⊢;have b:=((Below.refl w w).alloc (a8) (Obj.cells #[l,(ap,ps.length,cp),(at_,t.length,ct),(ak,ks.length,ck)] 35));have HS:=a6 (q_u _ n _ most _ (a8) hn h0 h1 (hv.keep b b.size));have Hf:Hid (F4 n most=decide (0 <= vZ n most)):=rfl;generalize vZ n most=x at HS Hf;clear c hv b hn;go_enter Tryz.func35,Tryz.ntmps35;go_wp2_with fail;refine HS.o.mono ?_;rintro e w1 ⟨rfl,a⟩;have d:=a6 (j6 (i8 a))
 clear a HS;go_wp2_with fail;go_ret;exact⟨bJ Hf.o.symm,d.o⟩
def IJ (kd:Int):Prop:=kd=1∨kd=2∨kd=3∨kd=5
theorem j_T {kd:Int} (hk:IJ kd):∃fs,GJ kd=some fs/\a_d c_E kd (.string ⟨#[]⟩)=(.string ⟨fs.toArray⟩,true)/\fs.length <= 1000:=by
 rcases hk with rfl | rfl | rfl | rfl
 . exact⟨[112,110],rfl,rfl,by decide⟩
 . exact⟨[112,110],rfl,rfl,by decide⟩
 . exact⟨[112,97,111],rfl,rfl,by decide⟩
 exact⟨[112,116],rfl,rfl,by decide⟩
theorem q_v (o:fZ):j_x o.full=onB (EJ o.path o.dest o.pos o.node o.old):=by
 unfold j_x onB EJ;simp only [j_w,List.filter_cons,List.filter_nil];by_cases h1:0 < o.path.length <;> by_cases h2:0 < o.dest.length <;> by_cases h3:o.pos=0 <;> cases h4:rK o.node cV <;> by_cases h5:0 < o.old.length <;> simp [h1,h2,h3,h5]
theorem i_7 {o:fZ} {fs:List UInt8} (h:I7 o.full=0) (hf:GJ o.kind=some fs):∀c∈onB (EJ o.path o.dest o.pos o.node o.old),c∈fs:=by
 intro c hc;rw [<- q_v]at hc;unfold I7 at h;rw [show o.full.kind=o.kind from rfl,hf]at h;simp only []at h;split at h
 . rename_i h2
   have:=List.all_eq_true.1 h2 c hc
   simpa using this
 cases h
theorem c_F {n R k:aX} {p:List Int} (h:F3 n p=(R,k,0)):p≠ []/\l9 n p=some k/\∃u,l9 n p.dropLast=some u/\R=jX n p.dropLast (setKids u ((aY u).eraseIdx (jK p).toNat)):=by
 unfold F3 at h;split at h
 . simp at h
 rename_i hp
 split at h
 . rename_i m u hm hu
   simp only [Prod.mk.injEq,and_true]at h;exact⟨hp,by rw [hm,h.2],u,hu,h.1.symm⟩
 simp at h
theorem f_V {p:List Int} (hp:p≠ []):p.dropLast ++ [jK p]=p:=by
 rcases List.eq_nil_or_concat p with rfl | ⟨q,i,h⟩
 . exact absurd rfl hp
 rw [h,List.concat_eq_append];simp [jK]
theorem i_8 {ks:List aX} {j:Nat} (hj:j < ks.length):fY (ks.eraseIdx j)+ks[j].wt=fY ks:=by
 have h:=xX (ks.take j) (ks.drop j);rw [List.take_append_drop,NX hj]at h;rw [List.eraseIdx_eq_take_drop_succ,xX,h];simp only [fY];omega
theorem m_c {ks:List aX} {i:Nat} {m:aX}:fY (C6 ks i m)=fY ks+m.wt:=by
 have h:=xX (ks.take i) (ks.drop i);rw [List.take_append_drop]at h;unfold C6;rw [xX,h];simp only [fY];omega
theorem o_q {n R k:aX} {p:List Int} (h:F3 n p=(R,k,0)):R.wt+k.wt=n.wt:=by
 obtain⟨hp,hk,u,hu,rfl⟩:=c_F h;rw [<- f_V hp]at hk;obtain⟨u',j,a,hj,b,c⟩:=o_3 hk;rw [hu]at a;injection a with a;subst a
 have h1:=g_L p.dropLast n u (setKids u ((aY u).eraseIdx (jK p).toNat)) hu;have h2:=b_a u ((aY u).eraseIdx (jK p).toNat);rw [hj,O0]at h1 h2⊢;have h3:=i_8 b
 rw [c]at h3;omega
theorem o_r {n X m:aX} {p:List Int} (h:K4 n p m=(X,0)):p≠ []/\X.wt=n.wt+m.wt:=by
 unfold K4 at h;split at h
 . simp at h
 rename_i hp
 split at h
 . simp at h
 rename_i k hk
 split at h
 . simp at h
 split at h
 . simp at h
 simp only [Prod.mk.injEq,and_true]at h;subst h;have h1:=g_L p.dropLast n k (setKids k (C6 (aY k) (jK p).toNat m)) hk
 have h2:=b_a k (C6 (aY k) (jK p).toNat m);rw [m_c]at h2;exact⟨hp,by omega⟩
theorem q_w (a b:aX):(u_4 a b).wt <= a.wt+b.wt:=by
 obtain⟨l,ps,t,ks⟩:=a;obtain⟨l',ps',t',ks'⟩:=b;simp only [u_4,aX.wt,xX,NZ];omega
theorem EK {n X:aX} {o:fZ} (hk:IJ o.kind) (hw:n.wt <= 100000000) (h:nZ n o.full=(X,0)):
 dQ n=0/\b8 n=false/\o.path≠ []/\I7 o.full=0/\((o.kind=1/\dQ o.node=0/\K4 n o.path o.node=(X,0))∨ (o.kind≠1/\∃R k,F3 n o.path=(R,k,0)/\l_6 o.kind o.pos o.path o.dest o.node o.old R k X/\X.wt <= n.wt/\(o.kind=3 ->0 < jK o.path)/\(o.kind=5 ->o.dest≠ []))):=by
 unfold nZ at h;split at h
 . rename_i h0;simp at h;exact absurd h.2 h0
 rename_i h0
 split at h
 . simp at h
 rename_i hl
 split at h
 . rename_i h1;simp at h;exact absurd h.2 h1
 rename_i hf
 refine⟨by simpa using h0,by simpa using hl, ?_,by simpa using hf, ?_⟩
 . unfold zZ at h
   intro hp;have d:o.full.path= []:=hp
   split at h
   . split at h
     . rename_i h1;simp at h;exact absurd h.2 h1
     unfold K4 at h;rw [d]at h;simp at h
   have hc:(F3 n o.full.path).2.2=6:=by rw [d];rfl
   rw [if_pos (by rw [hc];decide),hc]at h
   simp at h
 unfold zZ at h;split at h
 . rename_i b
   split at h
   . rename_i h1;simp at h;exact absurd h.2 h1
   rename_i h1
   exact .inl ⟨b,by simpa using h1,h⟩
 rename_i b
 right
 refine⟨b, ?_⟩;obtain⟨R,k,e,hc⟩:∃R k e,F3 n o.path=(R,k,e):=⟨_,_,_,rfl⟩;have g:F3 n o.full.path=(R,k,e):=hc;rw [g]at h;by_cases he:e=0
 . subst he
   have i:=o_q hc;have j:=J4 k;simp only [ne_eq,not_true_eq_false,if_false]at h;have f:o.full.kind=o.kind:=rfl
   refine⟨R,k,hc, ?_⟩;rcases hk with hk | hk | hk | hk
   . exact absurd hk b
   . rw [if_pos (f.trans hk)]at h
     split at h
     . rename_i hs
       simp only [Prod.mk.injEq,and_true]at h;subst h;exact⟨.inl ⟨hk,hs,rfl⟩,by omega,by omega,by omega⟩
     simp at h
   . rw [if_neg P2,if_pos (f.trans hk)]at h
     unfold d_D at h;split at h
     . simp at h
     rename_i h1
     split at h
     . simp at h
     rename_i into a
     split at h
     . simp at h
     rename_i h2
     split at h
     . simp at h
     rename_i h3
     split at h
     . simp at h
     rename_i h4
     simp only [Prod.mk.injEq,and_true]at h;have h5:=zJ _ _ _ a
     have h6:=q_w into k;have h7:=g_L (kX o.full.path) R into (u_4 into k) a;have c:0 < jK o.path:=by
      have:¬jK o.full.path <= 0:=fun e=>h1 (.inr e)
      have e:jK o.full.path=jK o.path:=rfl
      omega
     have h8:X.wt <= n.wt:=by
      rw [<- h];show (jX R (kX o.full.path) (u_4 into k)).wt <= n.wt
      omega
     refine⟨.inr (.inl ⟨hk,into,c,a,by simpa using h2,by simpa using h3,by simpa using h4,by omega,h.symm⟩),h8,fun _=>c,by omega⟩
   rw [if_neg P2,if_neg P2]at h;obtain⟨hd,hX⟩:=o_r h;exact⟨.inr (.inr ⟨hk,h⟩),by omega,by omega,fun _=>hd⟩
 rw [if_pos he]at h
 simp at h
 exact absurd h.2 he
theorem KQ {n X:aX} {o:fZ} (hk:IJ o.kind) (hw:n.wt <= 100000000) (h:nZ n o.full=(X,0)):X.wt <= n.wt+(if o.kind=1 then o.node.wt else 0):=by
 obtain⟨-, -, -, -,⟨h1, -,h2⟩ | ⟨h1,R,k, -, -,h2, -, -⟩⟩:=EK hk hw h
 . rw [if_pos h1,(o_r h2).2];omega
 rw [if_neg h1];exact h2
theorem i_9 (ps:List fQ):iQ ps <= 128 * ps.length+64 * pV ps:=by
 induction ps with
 | nil=>simp [iQ]
 | cons p ps ih=>simp only [iQ,pV,O7];omega
mutual
theorem i_a:∀ (n:aX) (m:Int),0 <= vZ n m ->(n.wt:Int) <= 128 * (m - vZ n m)
 | .mk l ps t ks,m,h=>by
   simp only [vZ]at h⊢;split at h
   . omega
   rename_i h0
   rw [if_neg h0];have h1:=i_b ks _ h
   have h2:=i_9 ps;simp only [aX.wt];push_cast at h1⊢
   omega
theorem i_b:∀ (ks:List aX) (m:Int),0 <= wK ks m ->(fY ks:Int) <= 128 * (m - wK ks m)
 | [],m,h=>by simp [wK,fY]
 | k::ks,m,h=>by
   simp only [wK]at h⊢;split at h
   . omega
   rename_i h0
   rw [if_neg h0];have h1:=i_a k m P2
   have h2:=i_b ks _ h;simp only [fY];push_cast
   omega
end
theorem e_s {n:aX} {m:Int} (h:F4 n m=true):(n.wt:Int) <= 128 * m:=by
 unfold F4 at h;have h1:=of_decide_eq_true h
 have:=i_a n m h1
 omega
abbrev pJ (kd:Int) (p d:List Int) (pos:Int) (xs:List Int):Option (List Int):=nJ xs ⟨kd,p,d,pos,cV, [], [], [],d_C,d_C⟩
def g_T (W:World) (R:Option (List Int)) (e:Ending) (w':World):Prop:=Below W W w'/\(R=none ->e= .returned (.tuple #[(),false]))/\
 ∀ys,R=some ys ->∃v,e= .returned (.tuple #[v,true])/\w'.ownsRow W 3 1 v ys.length (ys.map (Value.int .i64))
theorem A9 {W w':World} {R:Option (List Int)} (hR:R=none) (hb:Below W W w'):g_T W R (.returned (.tuple #[(),false])) w':=⟨hb,fun _=>rfl,fun ys h=>by rw [hR]at h;cases h⟩
theorem qY {W w':World} {R:Option (List Int)} {ys:List Int} {v:Value} (hR:R=some ys) (hb:Below W W w') (ho:w'.ownsRow W 3 1 v ys.length (ys.map (Value.int .i64))):g_T W R (.returned (.tuple #[v,true])) w':=
 ⟨hb,fun h=>(by rw [hR]at h;cases h),fun zs h=>(by rw [hR]at h;cases h;exact⟨v,rfl,ho⟩)⟩
theorem a_e {l:List Int} (h:bX l=true):∀z∈l,0 <= z/\z <= 1048576:=by
 intro z hz;have:=List.all_eq_true.1 h z hz
 unfold D3 at this;simp at this
 omega
theorem a_f (q p:List Int):cZ q p=0∨cZ q p=1∨cZ q p=2∨cZ q p=3:=by
 unfold cZ;split <;> (try split) <;> (try split) <;> (try split) <;> simp
theorem e_t {q p:List Int} (h:cZ q p=2):q.length < p.length:=by
 unfold cZ at h;split at h
 . cases h
 split at h
 . cases h
 split at h
 . rename_i ha
   unfold kJ at ha;simp only [Bool.and_eq_true,decide_eq_true_eq]at ha;exact ha.1
 split at h <;> cases h
theorem g_U {q p:List Int} (h:cZ q p=3):q=p:=by
 unfold cZ at h;split at h
 . cases h
 split at h
 . assumption
 split at h
 . cases h
 split at h <;> cases h
theorem i_c {w:World} {N:Nat} {x y:Value} (h:At w N [x,y] 36) (hx:x.oneCell'=true) (hy:y.oneCell'=true):RowA w w 1 N 2 2 [x,y]:=RowQ.row (ok:=fun _=>True) (BQ (T:=36) h 2 1 rfl P2 s_U trivial)
theorem i_d {kd pos:Int} {p d xs:List Int} (h:(bX xs && (bX p && (bX d && !D3 pos)))=false):pJ kd p d pos xs=none:=by
 unfold pJ nJ;simp only [h];rfl
theorem l_7 (xs p d:List Int) (kd pos:Int) (xa pa ta:Option Addr) (xc pc tc:Nat) (v4 v5 v6 v7 v8 v9 v10 v11 v12 v13 v14 v15 v16 v17 v18 v19 v20:Value) (W:World) (hk:IJ kd)
 (hx:RowA W W 1 xa xs.length xc (xs.map (Value.int .i64))) (hp:RowA W W 1 pa p.length pc (p.map (Value.int .i64))) (hd:RowA W W 1 ta d.length tc (d.map (Value.int .i64))) (K1:xs.length <= 400000) (K2:p.length <= 400000) (K3:d.length <= 400000) (J9:p≠ []):
 Calls Tryz.prog 69 #[(xa,xs.length,xc), .agg #[kd,(pa,p.length,pc),(ta,d.length,tc),pos,v4,v5,v6,v7,v8,v9,v10,v11,v12,v13,v14,v15,v16,v17,v18,v19,v20]] W (g_T W (pJ kd p d pos xs)):=by
 obtain⟨w0,H1⟩:∃w0,w0=W.alloc (Obj.cells #[kd,(pa,p.length,pc),(ta,d.length,tc),pos,v4,v5,v6,v7,v8,v9,v10,v11,v12,v13,v14,v15,v16,v17,v18,v19,v20] 55):=⟨_,rfl⟩;have J:Below W W w0:=t_D
 have hA:At w0 W [kd,(pa,p.length,pc),(ta,d.length,tc),pos,v4,v5,v6,v7,v8,v9,v10,v11,v12,v13,v14,v15,v16,v17,v18,v19,v20] 55:=by rw [H1];exact At.fresh W _ _
 have r:∀ {sz:Nat} {a:Option Addr} {n c:Nat} {cs:List Value} (w':World),Below w0 w0 w' ->RowA W W sz a n c cs ->RowA w' W sz a n c cs:=fun w' hb hr=>hr.keep (J.trans (hb.mono J.size)) (a8)
 have hsz:∀w',Below w0 w0 w' ->W.heap.size <= w'.heap.size:=fun w' hb=>(J.trans (hb.mono J.size)).size
 have HN:=a6 (fun(w1:World) (hb:Below w0 w0 w1)=>B9 xs xa xc W w1 (r w1 hb hx) (hsz w1 hb) P2);have HP:=a6 (fun(w1:World) (hb:Below w0 w0 w1)=>B9 p pa pc W w1 (r w1 hb hp) (hsz w1 hb) P2);have HD:=a6 (fun(w1:World) (hb:Below w0 w0 w1)=>B9 d ta tc W w1 (r w1 hb hd) (hsz w1 hb) P2);have HZ:=a6 (fun(w1:World) (q:Option Addr) (hp:RowA w1 w1 1 q 1 1 [pos])=>B9 [pos] q 1 w1 w1 hp (a8) P6);have HT:=a6 (fun(w1:World) (hb:Below w0 w0 w1)=>e_j p xs pa xa pc xc W w1 (r w1 hb hp) (r w1 hb hx));have H2:=a6 (fun h=>i_d (kd:=kd) (p:=p) (d:=d) (pos:=pos) (xs:=xs) h);have K:=a6 (fun(w1:World) (hb:Below w0 w0 w1)=>r w1 hb hx);have H3:=a6 (fun(w1:World) (hb:Below w0 w0 w1)=>r w1 hb hd);have j0:=a6 (fun(w1:World) (hb:Below w0 w0 w1)=>r w1 hb hp)
 have x:=a6 hsz;have HA:=a6 hA;have y:=a6 J;have j1:=a6 H1;have O:=a6 J9
 have c1:=hA.cell 1 rfl;have cl:=hA.lt
 clear hx hp hd J hA H1 r hsz J9;go_enter Tryz.func69,Tryz.ntmps69;go_upto_region 1 with fail;rw [<- j1.o];clear j1;go_wp2_with fail;refine(HN.o w0 (a7)).mono ?_;obtain⟨s0,h3⟩:∃s0,s0=bX xs:=⟨_,rfl⟩;rw [<- h3];have L:=a6 h3
 rintro e w1 ⟨rfl,b⟩;have hA1:=HA.o.kept b
 have d1:=hA1.cell 1 rfl;have dl:=hA1.lt
 have h4:=a6 b;clear b hA1 c1 cl HN h3;cases s0 with
 | false=>
   have g:=a6 (y.o.trans (h4.o.mono y.o.size));have HR:=a6 (H2.o (by rw [<- L.o];rfl));clear HP HD HZ HT HA d1 dl;go_wp2_with fail;go_ret2;exact A9 HR.o g.o
 | true=>
 go_wp2_with fail;refine(HP.o w1 h4.o).mono ?_;obtain⟨s1,h5⟩:∃s1,s1=bX p:=⟨_,rfl⟩;rw [<- h5];have P:=a6 h5
 rintro e w2 ⟨rfl,b⟩;have H4:=a6 (b6 h4.o b)
 clear b HP d1 dl h5;cases s1 with
 | false=>
   have g:=a6 (y.o.trans (H4.o.mono y.o.size));have HR:=a6 (H2.o (by rw [<- L.o, <- P.o];rfl));clear HD HZ HT HA;go_wp2_with fail;go_ret2;exact A9 HR.o g.o
 | true=>
 have h6:=HA.o.kept H4.o;have f2:=h6.cell 2 rfl;have fl:=h6.lt
 clear h6;go_wp2_with fail;refine(HD.o w2 H4.o).mono ?_;obtain⟨s2,h7⟩:∃s2,s2=bX d:=⟨_,rfl⟩;rw [<- h7];have h8:=a6 h7
 rintro e w3 ⟨rfl,b⟩;have H5:=a6 (b6 H4.o b)
 clear b HD f2 fl h7;cases s2 with
 | false=>
   have g:=a6 (y.o.trans (H5.o.mono y.o.size));have HR:=a6 (H2.o (by rw [<- L.o, <- P.o, <- h8.o];rfl));clear HZ HT HA;go_wp2_with fail;go_ret2;exact A9 HR.o g.o
 | true=>
 have h9:=HA.o.kept H5.o;have g3:=h9.cell 3 rfl;have gl:=h9.lt
 clear h9;go_wp2_with fail;refine(HZ.o _ _ (B6 w3 pos 3 _ rfl P6)).mono ?_;obtain⟨s3,J0⟩:∃s3,s3=bX [pos]:=⟨_,rfl⟩;rw [<- J0];have J1:=a6 J0
 rintro e w4 ⟨rfl,b⟩;have H6:=a6 (b6 (H5.o.trans ((b7 w3 (Obj.cells #[Value.int .i64 pos] 3)).mono H5.o.size)) b)
 clear b g3 gl HZ J0;cases s3 with
 | false=>
   have g:=a6 (y.o.trans (H6.o.mono y.o.size));have HR:=a6 (H2.o (by have h:=J1.o;simp [bX]at h;rw [<- L.o, <- P.o, <- h8.o,h];rfl));clear HT HA;go_wp2_with fail;go_ret2;exact A9 HR.o g.o
 | true=>
 have J2:=HA.o.kept H6.o;have k1:=J2.cell 1 rfl;have kl:=J2.lt
 clear J2;go_wp2_with fail;refine(HT.o w4 H6.o).mono ?_;obtain⟨st,J3⟩:∃st,st=cZ p xs:=⟨_,rfl⟩;rw [<- J3];have A:=a6 J3
 rintro e w5 ⟨rfl,hdr⟩;have o:=a6 (b6 H6.o (hdr.below _))
 clear hdr HT k1 kl J3;have G:=a6 (a_e L.o.symm);have K4:=a6 (a_e P.o.symm)
 have h0:=a6 (show 0 <= pos/\pos <= 1048576 from a_e J1.o.symm pos P6);have H7:=a6 (show (bX xs && (bX p && (bX d && !D3 pos)))=true by have h:=J1.o;simp [bX]at h;rw [<- L.o, <- P.o, <- h8.o];simp [h]);have H8:=a6 (fun(h:st≠0)=>e_k (q:=p) (p:=xs) (by rw [<- A.o];exact h));have s:=a6 (fun(w1:World) (hb:Below w0 w0 w1) (k:Nat) (dd:Int) (hk:k < xs.length) (hw: -1048576 <= dd/\dd <= 1048576)=>g_P xs k dd xa xc W w1 (K.o w1 hb) (x.o w1 hb) P2 hk (by
  have hm:xs.getD k 0∈xs:=by rw [gK hk];exact NY hk
  have:=G.o _ hm;omega))
 have Q:=a6 (fun(w1:World) (hb:Below w0 w0 w1)=>GV xs p xa pa xc pc W w1 (K.o w1 hb) (j0.o w1 hb) (x.o w1 hb) P2 P2 (fun z hz=>by have:=G.o z hz;omega));have D:=a6 (fun(w1:World) (hb:Below w0 w0 w1)=>GV xs d xa ta xc tc W w1 (K.o w1 hb) (H3.o w1 hb) (x.o w1 hb) P2 P2 (fun z hz=>by have:=G.o z hz;omega));have t:=a6 (fun(w1:World) (hb:Below w0 w0 w1)=>pZ W xs.length xa xc _ w1 (K.o w1 hb) (x.o w1 hb) P2);obtain⟨m,hm⟩:∃m,p.length=m+1:=⟨p.length - 1,by have:=List.length_pos_iff.2 O.o;omega⟩;have Hm:=a6 hm;have R:=HA.o.kept o.o;have m0:=R.cell 0 rfl;have m2:=R.cell 2 rfl;have m3:=R.cell 3 rfl;have ml:=R.lt
 have g:=a6 (y.o.trans (o.o.mono y.o.size));have K5:m <= 1000000:=P2
 have K6:decide ((m:Int) < 0)=false:=P6
 have K7:IntKind.i64.wrap ((m:Int)+1 - 1)=(m:Int):=QY
 have K8:((p.length:Nat):Int)=(m:Int)+1:=P2
 clear R hm;rcases hk with rfl | rfl | rfl | rfl
 . have HI:=a6 (Q.o w5 o.o)
   have HR:=a6 (show pJ 1 p d pos xs=some (fX xs p)by unfold pJ nJ;rw [H7.o];simp [O.o]);clear s Q D t;go_wp2_with fail;refine HI.o.mono ?_;rintro e w6 ⟨v,rfl,f,b⟩;have j:=a6 (g.o.trans (b.mono g.o.size))
   have Ho:=a6 (qK f g.o.size);clear HI f b;go_wp2_with fail;go_ret2;exact qY HR.o j.o Ho.o
 . have E:st=0∨st=1∨st=2∨st=3:=t_i
   have l:=a6 (show pJ 2 p d pos xs=if st=2∨st=3 then none else if st=1 then some (fJ xs (p.length - 1) (-1)) else some xs by rw [A.o];unfold pJ nJ;rw [H7.o];simp [O.o]);clear Q D;rcases E with rfl | rfl | rfl | rfl
   . have HI:=a6 (t.o w5 o.o)
     have HR:=a6 (show pJ 2 p d pos xs=some xs by rw [l.o];simp);clear s t l;go_wp2_with fail;refine HI.o.mono ?_;rintro e w6 ⟨v,rfl,f,b⟩;have j:=a6 (g.o.trans (b.mono g.o.size))
     have Ho:=a6 (qK f g.o.size);clear HI f b;go_wp2_with fail;go_ret2;exact qY HR.o j.o Ho.o
   . have hl:=H8.o P9
     have HI:=a6 (s.o w5 o.o m (-1) W5 P2);have HR:=a6 (show pJ 2 p d pos xs=some (fJ xs m (-1))by rw [l.o,Hm.o];simp);clear s t l hl;go_wp2_with fail;refine HI.o.mono ?_;rintro e w6 ⟨v,rfl,f,b⟩;have j:=a6 (g.o.trans (b.mono g.o.size))
     have Ho:=a6 (qK f g.o.size);clear HI f b;go_wp2_with fail;go_ret2;exact qY HR.o j.o Ho.o
   . have HR:=a6 (show pJ 2 p d pos xs=none by rw [l.o];simp)
     clear s t l;go_wp2_with fail;go_ret2;exact A9 HR.o g.o
   have HR:=a6 (show pJ 2 p d pos xs=none by rw [l.o];simp);clear s t l;go_wp2_with fail;go_ret2;exact A9 HR.o g.o
 . have E:st=0∨st=1∨st=2∨st=3:=t_i
   have l:=a6 (show pJ 3 p d pos xs=if jK p=0 then none else if st=2 then some (fJ (fJ xs p.length pos) (p.length - 1) (-1)) else if st=3∨st=1 then some (fJ xs (p.length - 1) (-1)) else some xs by rw [A.o];unfold pJ nJ;rw [H7.o];simp [O.o]);clear Q D;have S:m < p.length:=W5
   obtain⟨pb,po,j9,K9,j2⟩:=(j0.o w5 o.o).int_at m S;subst j9;have px:=j2 m S
   have U:jK p=p.getD m 0:=by
    have h:=Hm.o;unfold jK;rw [List.getLastD_eq_getLast?,List.getLast?_eq_getElem?,h,Nat.add_sub_cancel,List.getD]
   rw [U]at l;generalize p.getD m 0=i at px l;have k0:(m:Int) < (m:Int)+1:=P2
   clear j2 U S;by_cases M:i=0
   . have K0:(i == 0)=true:=by simpa using M
     have HR:=a6 (show pJ 3 p d pos xs=none by rw [l.o,if_pos M]);clear s t l M;go_wp2_with fail;go_ret2;exact A9 HR.o g.o
   have K0:(i == 0)=false:=by simpa using M
   have F:=a6 (show pJ 3 p d pos xs=if st=2 then some (fJ (fJ xs p.length pos) (p.length - 1) (-1)) else if st=3∨st=1 then some (fJ xs (p.length - 1) (-1)) else some xs by rw [l.o,if_neg M]);clear l M;rcases E with rfl | rfl | rfl | rfl
   . have HI:=a6 (t.o w5 o.o)
     have HR:=a6 (show pJ 3 p d pos xs=some xs by rw [F.o];simp);clear s t F;go_wp2_with fail;refine HI.o.mono ?_;rintro e w6 ⟨v,rfl,f,b⟩;have j:=a6 (g.o.trans (b.mono g.o.size))
     have Ho:=a6 (qK f g.o.size);clear HI f b;go_wp2_with fail;go_ret2;exact qY HR.o j.o Ho.o
   . have hl:=H8.o P9
     have HI:=a6 (s.o w5 o.o m (-1) W5 P2);have HR:=a6 (show pJ 3 p d pos xs=some (fJ xs m (-1))by rw [F.o,Hm.o];simp);clear s t F hl;go_wp2_with fail;refine HI.o.mono ?_;rintro e w6 ⟨v,rfl,f,b⟩;have j:=a6 (g.o.trans (b.mono g.o.size))
     have Ho:=a6 (qK f g.o.size);clear HI f b;go_wp2_with fail;go_ret2;exact qY HR.o j.o Ho.o
   . have H9:m+1 < xs.length:=t_O
     have J4:=s.o w5 o.o (m+1) pos H9 (by have:=h0.o;omega)
     push_cast at J4
     have HI:=a6 J4;have HR:=a6 (show pJ 3 p d pos xs=some (fJ (fJ xs (m+1) pos) m (-1))by rw [F.o,Hm.o];simp);have j3:IntKind.i64.wrap ((m:Int)+1)=(m:Int)+1:=IntWalk.i64_in _ P2;have V:=c_B xs (m+1) pos;have X:∀z∈fJ xs (m+1) pos,0 <= z/\z <= 9000000000000:=fun z hz=>by
      unfold fJ at hz;have hg:xs.getD (m+1) 0∈xs:=by rw [gK H9];exact NY H9
      have h1:=G.o _ hg;have h2:=h0.o;rcases List.mem_or_eq_of_mem_set hz with h | h
      . have:=G.o z h;omega
      omega
     have j4:=a6 X;generalize fJ xs (m+1) pos=ys at HI HR j4 V;have J5:=a6 (show ys.length <= 1000000 by omega);have J6:=a6 (show m < ys.length by omega);clear s t F J4 X V H9;go_wp2_with fail;refine HI.o.mono ?_;rintro e w6 ⟨v,rfl,f,b⟩;obtain⟨ya,yc,rfl,j5⟩:=eK f PJ;have j:=a6 (g.o.trans (b.mono g.o.size));have Y:=a6 (g_P ys m (-1) ya yc w6 w6 j5 (a8) J5.o J6.o (by
      have hg:ys.getD m 0∈ys:=by rw [gK J6.o];exact NY J6.o
      have:=j4.o _ hg
      omega))
     clear HI f b j5;go_wp2_with fail;refine Y.o.mono ?_;rintro e w7 ⟨v7,rfl,f,b⟩;have J7:=a6 (j.o.trans (b.mono j.o.size))
     have Ho:=a6 (qK f j.o.size);clear Y f b;go_wp2_with fail;go_ret2;exact qY HR.o J7.o Ho.o
   have hl:=H8.o P9;have HI:=a6 (s.o w5 o.o m (-1) W5 P2);have HR:=a6 (show pJ 3 p d pos xs=some (fJ xs m (-1))by rw [F.o,Hm.o];simp);clear s t F hl;go_wp2_with fail;refine HI.o.mono ?_;rintro e w6 ⟨v,rfl,f,b⟩;have j:=a6 (g.o.trans (b.mono g.o.size))
   have Ho:=a6 (qK f g.o.size);clear HI f b;go_wp2_with fail;go_ret2;exact qY HR.o j.o Ho.o
 have E:st=0∨st=1∨st=2∨st=3:=t_i
 have l:=a6 (show pJ 5 p d pos xs=if st=3∨st=2 then some (d ++ xs.drop p.length) else some (fX (if st=1 then fJ xs (p.length - 1) (-1) else xs) d)by rw [A.o];unfold pJ nJ;rw [H7.o];simp [O.o]);clear Q t;rcases E with rfl | rfl | rfl | rfl
 . have HI:=a6 (D.o w5 o.o)
   have HR:=a6 (show pJ 5 p d pos xs=some (fX xs d)by rw [l.o];simp);clear s D l;go_wp2_with fail;refine HI.o.mono ?_;rintro e w6 ⟨v,rfl,f,b⟩;have j:=a6 (g.o.trans (b.mono g.o.size))
   have Ho:=a6 (qK f g.o.size);clear HI f b;go_wp2_with fail;go_ret2;exact qY HR.o j.o Ho.o
 . have hl:=H8.o P9
   have HI:=a6 (s.o w5 o.o m (-1) W5 P2);have HR:=a6 (show pJ 5 p d pos xs=some (fX (fJ xs m (-1)) d)by rw [l.o,Hm.o];simp);have j6:∀z∈fJ xs m (-1), -1 <= z/\z <= 9000000000000:=fun z hz=>by
    unfold fJ at hz;have j7:m < xs.length:=W5
    have hg:xs.getD m 0∈xs:=by rw [gK j7];exact NY j7
    have h1:=G.o _ hg;rcases List.mem_or_eq_of_mem_set hz with h | h
    . have:=G.o z h;omega
    omega
   have j8:=a6 j6;have V:=c_B xs m (-1)
   generalize fJ xs m (-1)=ys at HI HR j8 V;clear s D l hl j6;have J5:=a6 (show ys.length <= 1000000 by omega)
   clear V;go_wp2_with fail;refine HI.o.mono ?_;rintro e w6 ⟨v,rfl,f,b⟩;obtain⟨ya,yc,rfl,X⟩:=eK f PJ;have H:=a6 (b6 o.o b);have j:=a6 (g.o.trans (b.mono g.o.size));have Y:=a6 (GV ys d ya ta yc tc w6 w6 X ((H3.o w6 H.o).keep (a7) (x.o w6 H.o)) (a8) J5.o P2 j8.o);have J8:=HA.o.kept H.o;have n2:=J8.cell 2 rfl;have nl:=J8.lt
   clear HI f b X J8;go_wp2_with fail;refine Y.o.mono ?_;rintro e w7 ⟨v7,rfl,f,b⟩;have J7:=a6 (j.o.trans (b.mono j.o.size))
   have Ho:=a6 (qK f j.o.size);clear Y f b;go_wp2_with fail;go_ret2;exact qY HR.o J7.o Ho.o
 . have Z:m+1 <= xs.length:=t_O
   obtain⟨ca,cc,I,C⟩:=(K.o w5 o.o).cut_l 36 3 Tryz.underlying36 (fun W=>by kernel_rfl) (m+1) Z;have HR:=a6 (show pJ 5 p d pos xs=some (d ++ xs.drop (m+1))by rw [l.o,Hm.o];simp);rw [Nat.mul_one, <- List.map_drop,show xs.length - (m+1)=(xs.drop (m+1)).length by simp]at C;rw [show xs.length - (m+1)=(xs.drop (m+1)).length by simp]at I
   push_cast at I
   have H0:(xs.drop (m+1)).length <= xs.length:=P6
   generalize xs.drop (m+1)=T at C I HR H0;have HC:=a6 (fun(w':World) (hb:Below w5 w5 w') (N:Nat) (hA:At w' N [(ta,d.length,tc),(ca,T.length,cc)] 36)=>(show Calls Tryz.prog 144 #[.slice N 2 2] w' (vX w' 3 1 (d ++ T).length ((d ++ T).map (Value.int .i64)))by
    have h:=b_4 N 2 w' [(ta,d.length,tc),(ca,T.length,cc)] [d.map (Value.int .i64),T.map (Value.int .i64)] w' (i_c hA rfl rfl)
     (C7.cons ((H3.o w' (b6 o.o hb)).keep (a7) (x.o w' (b6 o.o hb))) (C7.cons (C.keep (hb.mono (x.o w5 o.o)) (x.o w' (b6 o.o hb))) (C7.nil _ _))) (a8) P8
    rw [show ([d.map (Value.int .i64),T.map (Value.int .i64)].flatten)=(d ++ T).map (Value.int .i64)by simp,O6]at h;exact h))
   have j3:IntKind.i64.wrap ((m:Int)+1)=(m:Int)+1:=IntWalk.i64_in _ P2;generalize d ++ T=zs at HC HR;clear s D l Z C H0;go_upto_region 33 with fail
   go_region_law (first
    | (refine bQ rfl 144 _ _ rfl P5 [.slice w5 2 2] ?_ _ (HC.o _ P1 _ R7) ?_
       . go_simp
       rintro e w6 ⟨v,rfl,f,b⟩;refine⟨_,rfl, ?_⟩;have H:=a6 (b6 (w0:=w5) P1 b);have Ho:=a6 (qK f (aJ g.o.size (Below.size (w:=w5) (B:=w5.heap.size) P1)));clear f b))
   all_goals
    have j:=a6 (g.o.trans (H.o.mono g.o.size));go_wp2_with fail;go_ret2;exact qY HR.o j.o Ho.o
 have Z:m+1 <= xs.length:=by have h1:=g_U A.o.symm;have h2:=Hm.o;rw [h1]at h2;omega
 obtain⟨ca,cc,I,C⟩:=(K.o w5 o.o).cut_l 36 3 Tryz.underlying36 (fun W=>by kernel_rfl) (m+1) Z;have HR:=a6 (show pJ 5 p d pos xs=some (d ++ xs.drop (m+1))by rw [l.o,Hm.o];simp);rw [Nat.mul_one, <- List.map_drop,show xs.length - (m+1)=(xs.drop (m+1)).length by simp]at C;rw [show xs.length - (m+1)=(xs.drop (m+1)).length by simp]at I
 push_cast at I
 have H0:(xs.drop (m+1)).length <= xs.length:=P6
 generalize xs.drop (m+1)=T at C I HR H0;have HC:=a6 (fun(w':World) (hb:Below w5 w5 w') (N:Nat) (hA:At w' N [(ta,d.length,tc),(ca,T.length,cc)] 36)=>(show Calls Tryz.prog 144 #[.slice N 2 2] w' (vX w' 3 1 (d ++ T).length ((d ++ T).map (Value.int .i64)))by
  have h:=b_4 N 2 w' [(ta,d.length,tc),(ca,T.length,cc)] [d.map (Value.int .i64),T.map (Value.int .i64)] w' (i_c hA rfl rfl)
   (C7.cons ((H3.o w' (b6 o.o hb)).keep (a7) (x.o w' (b6 o.o hb))) (C7.cons (C.keep (hb.mono (x.o w5 o.o)) (x.o w' (b6 o.o hb))) (C7.nil _ _))) (a8) P8
  rw [show ([d.map (Value.int .i64),T.map (Value.int .i64)].flatten)=(d ++ T).map (Value.int .i64)by simp,O6]at h;exact h))
 have j3:IntKind.i64.wrap ((m:Int)+1)=(m:Int)+1:=IntWalk.i64_in _ P2;generalize d ++ T=zs at HC HR;clear s D l Z C H0;go_upto_region 33 with fail
 go_region_law (first
  | (refine bQ rfl 144 _ _ rfl P5 [.slice w5 2 2] ?_ _ (HC.o _ P1 _ R7) ?_
     . go_simp
     rintro e w6 ⟨v,rfl,f,b⟩;refine⟨_,rfl, ?_⟩;have H:=a6 (b6 (w0:=w5) P1 b);have Ho:=a6 (qK f (aJ g.o.size (Below.size (w:=w5) (B:=w5.heap.size) P1)));clear f b))
 all_goals
  have j:=a6 (g.o.trans (H.o.mono g.o.size));go_wp2_with fail;go_ret2;exact qY HR.o j.o Ho.o
end Go.Proofs.YtmadpclcmjahoaaGreatDoor
