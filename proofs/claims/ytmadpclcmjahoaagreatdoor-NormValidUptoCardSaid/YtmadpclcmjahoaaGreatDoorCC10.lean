/- Parts of the proof: CC10. -/
import Derived.Test.YtmadpclcmjahoaaGreatDoorCC9
set_option linter.unusedVariables false
set_option linter.unusedSimpArgs false
set_option maxHeartbeats 8000000
set_option maxRecDepth 100000
namespace Go.Proofs.YtmadpclcmjahoaaGreatDoor
open Go.RowKit Go.Redl
def AX (W:World) (R:aX×Int) (e:Ending) (w':World):Prop:=
 Below W W w'/\if R.2=0 then ∃cs,e= .returned (.tuple #[.agg cs.toArray,OY])/\NodeQ w' (fun b=>W.heap.size <= b) R.1 cs
  else e= .returned (.tuple #[.agg #[false,(),(),()],R.2])
theorem AX.of_changed {W w:World} {n:aX} {p:List Int} {R:aX ->aX×Int} {e:Ending} {w':World} {r:aX×Int} (hb:Below W W w) (h:h_v w n p R e w')
 (hr:r=match l9 n p with | none=>(cV,5) | some m=>if (R m).2=0 then (jX n p (R m).1,0) else (cV,(R m).2)):AX W r e w':=by
 obtain⟨h1,h2⟩:=h;refine⟨hb.trans (h1.mono hb.size), ?_⟩;subst hr;cases a:l9 n p with
 | none=>rw [a]at h2;simp only;rw [if_neg P9];exact h2
 | some m=>
   rw [a]at h2;simp only at h2⊢;by_cases hz:(R m).2=0
   . rw [if_pos hz]at h2
     simp only [hz,if_true];obtain⟨cs,rfl,hq⟩:=h2;exact⟨cs,rfl,NodeQ.keep (a8) (fun _ _ _=>rfl) (fun x hx _=>aJ hb.size hx) _ _ hq⟩
   rw [if_neg hz]at h2;simp only [hz,if_false];exact h2
theorem LY {W w0 w1:World} {N:Nat} {r:aX} {l:Bool} {b1 b2 b3:Option Addr} {o1 o2 o3 d1 d2 d3:Nat} (hb:Below W W w1) (hW:W.heap.size <= w0.heap.size) (hN:N < w0.heap.size) (c:W.heap.size <= N) (hq:NodeQ w1 (fun b=>w0.heap.size <= b) r [l,(b1,o1,d1),(b2,o2,d2),(b3,o3,d3)]):
 AX W (r,0) (.returned (.tuple #[.agg #[l,(b1,o1,d1),(b2,o2,d2),(b3,o3,d3)],OY])) ((((w1.setCell N l).setCell (P0 N 1) (b1,o1,d1)).setCell (P0 N 2) (b2,o2,d2)).setCell (P0 N 3) (b3,o3,d3)):=by
 refine⟨l7 hb c _ _ _ _, ?_⟩;rw [if_pos rfl];have a:¬ (w0.heap.size <= N):=P2
 exact⟨_,rfl,NodeQ.keep (a8) (fun _ _ _=>rfl) (fun b hb _=>aJ hW hb) _ _ (cQ (cQ (cQ (cQ hq a) a) a) a)⟩
theorem l_1 {W w1:World} {N:Nat} {r:aX×Int} (hb:Below W W w1) (a:W.heap.size <= N) (hr:r.2≠0):
 AX W r (.returned (.tuple #[.agg #[false,(),(),()],r.2])) ((((w1.setCell N false).setCell (P0 N 1) ()).setCell (P0 N 2) ()).setCell (P0 N 3) ()):=by
 refine⟨l7 hb a _ _ _ _, ?_⟩;rw [if_neg hr]
theorem AX.cases {W:World} {R:aX×Int} {e:Ending} {w':World} (h:AX W R e w'):Below W W w'/\((R.2=0/\∃l b1 o1 d1 b2 o2 d2 b3 o3 d3,e= .returned (.tuple #[.agg #[.bool l, .slice b1 o1 d1, .slice b2 o2 d2, .slice b3 o3 d3],OY])/\NodeQ w' (fun b=>W.heap.size <= b) R.1 [.bool l, .slice b1 o1 d1, .slice b2 o2 d2, .slice b3 o3 d3])∨
 (R.2≠0/\e= .returned (.tuple #[.agg #[false,(),(),()],R.2]))):=by
 obtain⟨h1,h2⟩:=h;refine⟨h1, ?_⟩
 by_cases hz:R.2=0
 . rw [if_pos hz]at h2
   obtain⟨cs,rfl,hq⟩:=h2;obtain⟨l,b1,o1,d1,b2,o2,d2,b3,o3,d3,rfl⟩:=hq.form;exact .inl ⟨hz,l,b1,o1,d1,b2,o2,d2,b3,o3,d3,rfl,hq⟩
 rw [if_neg hz]at h2;exact .inr ⟨hz,h2⟩
theorem s_r (n m':aX) (p:List Int) (v v':Value) (pa:Option Addr) (pc:Nat) (W:World) (k:n.wt <= 100000000) (g:m'.wt <= 100000000) (hv:bY W W n v) (u:bY W W m' v') (hp:RowA W W 1 pa p.length pc (p.map (Value.int .i64))):
 Calls Tryz.prog 185 #[v,(pa,p.length,pc),v'] W (AX W (n_T n p m')):=by
 obtain⟨R,hR⟩:∃R,R=n_T n p m':=⟨_,rfl⟩;rw [<- hR];have HR:=a6 hR
 obtain⟨csn,rfl,hc⟩:=hv;obtain⟨l,a1,n1,c1,a2,n2,c2,a3,n3,c3,rfl⟩:=hc.form;obtain⟨csm,rfl,h⟩:=u;obtain⟨e0,b1,m1,d1,b2,m2,d2,b3,m3,d3,rfl⟩:=h.form;clear hR;obtain⟨w0,b⟩:∃w0,w0=((W.alloc (Obj.cells #[l,(a1,n1,c1),(a2,n2,c2),(a3,n3,c3)] 35)).alloc (Obj.cells #[e0,(b1,m1,d1),(b2,m2,d2),(b3,m3,d3)] 35)).alloc (Obj.cells #[false,(),(),()] 35):=⟨_,rfl⟩;have a:Below W W w0:=by rw [b];exact iK _ _ _ _
 have hA:bV w0 W l (a1,n1,c1) (a2,n2,c2) (a3,n3,c3):=t_g
 have hM:bV w0 (W+1) e0 (b1,m1,d1) (b2,m2,d2) (b3,m3,d3):=u_8
 have hB:bV w0 (W.heap.size+1+1) false () () ():=by rw [b];exact At.third W _ _ _ _
 have o:w0.heap.size=W.heap.size+3:=by rw [b];simp
 have q:bY w0 w0 m' (.agg #[e0,(b1,m1,d1),(b2,m2,d2),(b3,m3,d3)]):=⟨_,rfl,dY.keep a a.size _ _ h⟩;have HC:=a6 (c_u 238 #[.pointer (some (P0 (W+1) 0))] P5 n p (.agg #[l,(a1,n1,c1),(a2,n2,c2),(a3,n3,c3)]) pa pc (fun _=>(m',0)) w0 k ⟨_,rfl,dY.keep a a.size _ _ hc⟩ (hp.keep a a.size) (fun m _=>r_I m' m (W+1) e0 b1 b2 b3 m1 m2 m3 d1 d2 d3 w0 hM q g));obtain⟨y0,y1,y2,y3, -, -⟩:=hA.facts;have s:=a6 b;have c:=a6 a;have HB:=a6 hB;have t:=a6 o
 clear hc h a hA hM hB o q hp b;go_enter Tryz.func185,Tryz.ntmps185;go_upto_region 1 with fail;rw [<- s.o];clear s;go_wp2_with fail;refine HC.o.mono ?_;intro e w1 d;have ht:AX w0 R e w1:=AX.of_changed (a7) d (by rw [HR.o];unfold n_T;cases l9 n p <;> rfl)
 clear HR;obtain⟨R1,R2⟩:=R;have i:=HB.o.keep (d.1.mono (by rw [t.o];omega));obtain⟨x0,x1,x2,x3,⟨f0,f1,f2,f3⟩, -⟩:=i.facts;obtain⟨f,⟨hz,l',k1,o1,r1,k2,o2,r2,k3,o3,r3,rfl,hq⟩ | ⟨hz,rfl⟩⟩:=ht.cases
 . simp only at hz
   subst hz;have Hq:=a6 hq;have j:=a6 (c.o.trans (f.mono c.o.size))
   clear HC d ht i f hq y0 y1 y2 y3;go_wp2_with fail;refine bodyPost_ret (v:= .tuple #[.agg #[l',(k1,o1,r1),(k2,o2,r2),(k3,o3,r3)],OY]) s_S rfl ?_;exact LY (N:=W.heap.size+1+1) j.o c.o.size (by rw [t.o];omega) P2 Hq.o
 have Hz:=a6 hz;have j:=a6 (c.o.trans (f.mono c.o.size))
 clear HC d ht i f hz y0 y1 y2 y3;simp only;go_wp2_with fail;refine bodyPost_ret (v:= .tuple #[.agg #[false,(),(),()],R2]) s_S rfl ?_;exact l_1 (N:=W.heap.size+1+1) (r:=(R1,R2)) j.o P2 Hz.o
theorem g_N {w:World} {B pc:Nat} {a:Option Addr} {q:List Int} {i:Int} (h:RowA w B 1 a (q ++ [i]).length pc ((q ++ [i]).map (Value.int .i64))):
 ∃b off,a=some ⟨b,off,none⟩/\b < B/\w.cell? ⟨b,off+q.length,none⟩=some (.int .i64 i)/\RowA w B 1 (some ⟨b,off,none⟩) q.length pc (q.map (Value.int .i64)):=by
 obtain⟨b,off,ha,hb,hc⟩:=h.some_ P6;have c:=h.le;rw [NZ,List.length_singleton]at c;refine⟨b,off,ha,hb,hc _ _ P6,⟨by simp,by omega,h.max,PJ,(fun e=>by cases e),fun _=>⟨b,off,rfl,hb,fun j u hj=>hc j u ?_⟩⟩⟩;rw [List.map_append,List.getElem?_append_left]
 . exact hj
 rcases Nat.lt_or_ge j (q.map (Value.int .i64)).length with h | h
 . exact h
 rw [List.getElem?_eq_none h]at hj;cases hj
theorem q_g (n m':aX) (v v':Value) (pa:Option Addr) (pc:Nat) (W:World) (hv:bY W W n v) (b:bY W W m' v'):
 Calls Tryz.prog 121 #[v, .slice pa 0 pc,v'] W (AX W (cV,6)):=by
 obtain⟨csn,rfl,hc⟩:=hv;obtain⟨l,a1,n1,c1,a2,n2,c2,a3,n3,c3,rfl⟩:=hc.form;obtain⟨csm,rfl,a⟩:=b;obtain⟨e0,b1,m1,d1,b2,m2,d2,b3,m3,d3,rfl⟩:=a.form;clear hc a;go_enter Tryz.func121,Tryz.ntmps121;go_wp2_with fail;refine bodyPost_ret (v:= .tuple #[.agg #[false,(),(),()], .int .i64 6]) (by simp [results,Tryz.results121,go_sem]) rfl ?_;exact⟨iK _ _ _ _,by rw [if_neg P9]⟩
theorem r_K (m' m:aX) (i:Int) (M N:Nat) (e0:Bool) (a1 a2 a3:Option Addr) (n1 n2 n3 q1 q2 q3:Nat) (W:World) (hM:W.cell? M=some (.int .i64 i)) (a:M < W.heap.size) (hN:At W N [e0,(a1,n1,q1),(a2,n2,q2),(a3,n3,q3)] 35) (hv:bY W W m' (.agg #[e0,(a1,n1,q1),(a2,n2,q2),(a3,n3,q3)])) (b:m'.wt <= 100000000) (hn:m.wt <= 100000000):
 l_J 182 #[.pointer M, .pointer N] W m (c_w i m' m):=by
 by_cases he:(c_w i m' m).2=0
 . unfold c_w at he⊢
   split at he
   . cases he
   rename_i hl
   rw [if_neg hl];split at he
   . cases he
   rename_i hi
   rw [if_neg hi];obtain⟨k,rfl⟩:∃k:Nat,i=k:=⟨i.toNat,by omega⟩;rw [O0];have hk:(aY m).length <= 100000000:=by obtain⟨l,ps,t,ks⟩:=m;have:=i7 ks;simp only [aX.wt]at hn;simp only [aY];omega
   exact q_e m' m k M N e0 a1 a2 a3 n1 n2 n3 q1 q2 q3 W hM a hN hv b ZX P2 hk
 exact q_d m' m i M N W hM a he
theorem o_2 (n m':aX) (q:List Int) (i:Int) (v v':Value) (pa:Option Addr) (pc:Nat) (W:World) (s:n.wt <= 100000000) (t:m'.wt <= 100000000) (hv:bY W W n v) (H:bY W W m' v') (hp:RowA W W 1 pa (q ++ [i]).length pc ((q ++ [i]).map (Value.int .i64))) (hq:q.length <= 1000000):
 Calls Tryz.prog 121 #[v,(pa,(q ++ [i]).length,pc),v'] W (AX W (K4 n (q ++ [i]) m')):=by
 obtain⟨R,hR⟩:∃R,R=K4 n (q ++ [i]) m':=⟨_,rfl⟩;rw [<- hR];have HR:=a6 hR
 obtain⟨pb,po,rfl,y,z,A⟩:=g_N hp;have M:q.length+1 <= pc:=by have:=hp.le;simpa using this
 have I:=hp.max;unfold maxLen at I;rw [NZ,List.length_singleton]at *;obtain⟨csn,rfl,hc⟩:=hv;obtain⟨l,a1,n1,c1,a2,n2,c2,a3,n3,c3,rfl⟩:=hc.form;obtain⟨csm,rfl,u⟩:=H;obtain⟨e0,b1,m1,d1,b2,m2,d2,b3,m3,d3,rfl⟩:=u.form;clear hR hp;obtain⟨w0,b⟩:∃w0,w0=((W.alloc (Obj.cells #[l,(a1,n1,c1),(a2,n2,c2),(a3,n3,c3)] 35)).alloc (Obj.cells #[e0,(b1,m1,d1),(b2,m2,d2),(b3,m3,d3)] 35)).alloc (Obj.cells #[false,(),(),()] 35):=⟨_,rfl⟩;have f:Below W W w0:=by rw [b];exact iK _ _ _ _
 have hA:bV w0 W l (a1,n1,c1) (a2,n2,c2) (a3,n3,c3):=t_g
 have hM:bV w0 (W+1) e0 (b1,m1,d1) (b2,m2,d2) (b3,m3,d3):=u_8
 have hB:bV w0 (W.heap.size+1+1) false () () ():=by rw [b];exact At.third W _ _ _ _
 have B:w0.heap.size=W.heap.size+3:=by rw [b];simp
 have y0:w0.cell? (pb,po+q.length)=some (.int .i64 i):=(f.cell (p:=(pb,po+q.length)) y).trans z;have L:pb < w0.heap.size:=Nat.lt_of_lt_of_le y f.size;have HA:=a6 hA;have HM:=a6 hM;have HB:=a6 hB
 have C:=a6 b;have D:=a6 f;have g:=a6 B;have Hc:=a6 hc;have J:=a6 u;have Hpq:=a6 A
 have h1:((q.length:Int)+1) - 1=(q.length:Int):=P2
 have h2:(q.length:Int) <= (pc:Int):=P2
 clear hc u f hA hM hB B b A z;go_enter Tryz.func121,Tryz.ntmps121;go_upto_region 1 with fail;rw [<- C.o];clear C;go_upto_region 3 with fail
 go_region
 obtain⟨w1,h⟩:∃w1,w1=(w0.alloc (Obj.cells #[i] 3)).drew:=⟨_,rfl⟩;rw [<- h];have c:Below w0 w0 w1:=by rw [h];exact(b7 _ _).drew
 have hI:At w1 w0 [i] 3:=by rw [h];exact At.fresh w0 _ _
 have a:=D.o.trans (c.mono D.o.size);have hA1:=HA.o.keep (c.mono (by rw [g.o];omega));have E:=HM.o.keep (c.mono (by rw [g.o];omega))
 have K:=a6 (HB.o.keep (c.mono (by rw [g.o];omega)));have F:bY w1 w1 m' (.agg #[e0,(b1,m1,d1),(b2,m2,d2),(b3,m3,d3)]):=⟨_,rfl,dY.keep a a.size _ _ J.o⟩;have HC:=a6 (c_u 182 #[.pointer w0, .pointer (some (P0 (W+1) 0))] P5 n q (.agg #[l,(a1,n1,c1),(a2,n2,c2),(a3,n3,c3)]) (some (pb,po)) pc (c_w i m') w1 s ⟨_,rfl,dY.keep a a.size _ _ Hc.o⟩ (Hpq.o.keep a a.size) (fun m hm=>r_K m' m i w0 (W+1) e0 b1 b2 b3 m1 m2 m3 d1 d2 d3 w1 (hI.cell 0 rfl) hI.lt E F t (aJ (zJ q n m hm) s)));obtain⟨x0,x1,x2,x3, -, -⟩:=hA1.facts;have d:=a6 a;have G:=a6 (show W.heap.size+3 <= w1.heap.size by have:=c.size;rw [g.o]at this;exact this);clear h c hI a hA1 E F y0 HA HM HB;go_wp2_with fail;refine HC.o.mono ?_;intro e w2 j;have ht:AX w1 R e w2:=AX.of_changed (a7) j (by
  rw [HR.o];unfold K4;rw [if_neg P6,q8,AV]
  cases l9 n q with
  | none=>rfl
  | some k=>
    simp only [c_w];split
    . rfl
    split <;> rfl)
 clear HR;obtain⟨R1,R2⟩:=R;have w:=K.o.keep (j.1.mono (by have:=G.o;omega));obtain⟨z0,z1,z2,z3,⟨f0,f1,f2,f3⟩, -⟩:=w.facts;obtain⟨o,⟨hz,l',k1,o1,r1,k2,o2,r2,k3,o3,r3,rfl,hq⟩ | ⟨hz,rfl⟩⟩:=ht.cases
 . simp only at hz
   subst hz;have Hq:=a6 hq;have x:=a6 (d.o.trans (o.mono d.o.size))
   clear HC j ht w o hq x0 x1 x2 x3;go_wp2_with fail;refine bodyPost_ret (v:= .tuple #[.agg #[l',(k1,o1,r1),(k2,o2,r2),(k3,o3,r3)],OY]) s_T rfl ?_;exact LY (N:=W.heap.size+1+1) x.o d.o.size (by have:=G.o;omega) P2 Hq.o
 have Hz:=a6 hz;have x:=a6 (d.o.trans (o.mono d.o.size))
 clear HC j ht w o hz x0 x1 x2 x3;simp only;go_wp2_with fail;refine bodyPost_ret (v:= .tuple #[.agg #[false,(),(),()],R2]) s_T rfl ?_;exact l_1 (N:=W.heap.size+1+1) (r:=(R1,R2)) x.o P2 Hz.o
theorem r_m (n m':aX) (p:List Int) (v v':Value) (pa:Option Addr) (pc:Nat) (W:World) (b:n.wt <= 100000000) (a:m'.wt <= 100000000) (hv:bY W W n v) (c:bY W W m' v') (hp:RowA W W 1 pa p.length pc (p.map (Value.int .i64))) (hq:p.length <= 1000000):
 Calls Tryz.prog 121 #[v,(pa,p.length,pc),v'] W (AX W (K4 n p m')):=by
 rcases List.eq_nil_or_concat p with rfl | ⟨q,i,rfl⟩
 . exact q_g n m' v v' pa pc W hv c
 rw [List.concat_eq_append]at *;exact o_2 n m' q i v v' pa pc W b a hv c hp (by simp at hq;omega)
def q_h (W:World) (R:aX×aX×Int) (e:Ending) (w':World):Prop:=
 Below W W w'/\if R.2.2=0 then ∃cs ds,e= .returned (.tuple #[.agg cs.toArray, .agg ds.toArray,OY])/\NodeQ w' (fun b=>W.heap.size <= b) R.1 cs/\NodeQ w' (fun b=>W.heap.size <= b) R.2.1 ds
  else e= .returned (.tuple #[.agg #[false,(),(),()], .agg #[false,(),(),()],R.2.2])
theorem bV.set4 {w:World} {M N:Nat} {c0 c1 c2 c3:Value} (h:bV w M c0 c1 c2 c3) (a:M≠N) (d0 d1 d2 d3:Value):bV ((((w.setCell N d0).setCell (P0 N 1) d1).setCell (P0 N 2) d2).setCell (P0 N 3) d3) M c0 c1 c2 c3:=(((h.set a).set a).set a).set a
theorem gY {w w':World} {ok:Nat ->Prop} {n:aX} {cs:List Value} (h:NodeQ w ok n cs) (hb:Below w w w'):NodeQ w' ok n cs:=NodeQ.keep hb.size (fun b _ a=>hb.block b a) (fun _ h _=>h) n cs h
theorem lX {w:World} {ok:Nat ->Prop} {N:Nat} {n:aX} {cs:List Value} (h:NodeQ w ok n cs) (a:¬ok N) (d0 d1 d2 d3:Value):NodeQ ((((w.setCell N d0).setCell (P0 N 1) d1).setCell (P0 N 2) d2).setCell (P0 N 3) d3) ok n cs:=cQ (cQ (cQ (cQ h a) a) a) a
theorem o_3 {n m:aX} {q:List Int} {i:Int} (h:l9 n (q ++ [i])=some m):∃ (k:aX) (j:Nat),l9 n q=some k/\i=j/\∃hj:j < (aY k).length,(aY k)[j]=m:=by
 rw [b_9]at h;cases hk:l9 n q with
 | none=>rw [hk]at h;cases h
 | some k=>
   rw [hk]at h;obtain⟨j,rfl,hj,h2⟩:=jQ (show l9 k [i]=some m from h);have e:(aY k)[j]=m:=by simpa [l9]using h2
   exact⟨k,j,rfl,rfl,hj,e⟩
theorem q_i (n:aX) (v:Value) (pa:Option Addr) (pc:Nat) (W:World) (hv:bY W W n v):
 Calls Tryz.prog 120 #[v, .slice pa 0 pc] W (q_h W (cV,cV,6)):=by
 obtain⟨csn,rfl,hc⟩:=hv;obtain⟨l,a1,n1,c1,a2,n2,c2,a3,n3,c3,rfl⟩:=hc.form;clear hc;go_enter Tryz.func120,Tryz.ntmps120;go_wp2_with fail;refine bodyPost_ret (v:= .tuple #[.agg #[false,(),(),()], .agg #[false,(),(),()], .int .i64 6]) (by simp [results,Tryz.results120,go_sem]) rfl ?_;exact⟨iK _ _ _ _,by rw [if_neg P9]⟩
theorem r_L (n:aX) (q:List Int) (i:Int) (v:Value) (pa:Option Addr) (pc:Nat) (W:World) (hbig:n.wt <= 100000000) (hv:bY W W.heap.size n v) (hp:RowA W W.heap.size 1 pa (q ++ [i]).length pc ((q ++ [i]).map (Value.int .i64))) (hat:l9 n (q ++ [i])=none):
 Calls Tryz.prog 120 #[v, .slice pa (q ++ [i]).length pc] W (q_h W (cV,cV,5)):=by
 obtain⟨csn,rfl,hc⟩:=hv
 obtain⟨l,a1,n1,c1,a2,n2,c2,a3,n3,c3,rfl⟩:=hc.form
 obtain⟨w0,hw0⟩:∃w0,w0=((W.alloc (Obj.cells #[.bool l, .slice a1 n1 c1, .slice a2 n2 c2, .slice a3 n3 c3] 35)).alloc (Obj.cells #[.bool false, .slice none 0 0, .slice none 0 0, .slice none 0 0] 35)).alloc (Obj.cells #[.bool false, .slice none 0 0, .slice none 0 0, .slice none 0 0] 35):=⟨_,rfl⟩
 have hb0:Below W.heap.size W w0:=by rw [hw0];exact iK _ _ _ _
 have hA:bV w0 W.heap.size (.bool l) (.slice a1 n1 c1) (.slice a2 n2 c2) (.slice a3 n3 c3):=by rw [hw0];exact((bV.fresh W _ _ _ _).alloc _).alloc _
 have hB:bV w0 (W.heap.size+1) (.bool false) (.slice none 0 0) (.slice none 0 0) (.slice none 0 0):=by rw [hw0];exact(rZ W _ _ _ _ _).alloc _
 have hC:bV w0 (W.heap.size+1+1) (.bool false) (.slice none 0 0) (.slice none 0 0) (.slice none 0 0):=by rw [hw0];exact At.third W _ _ _ _
 have hs0:w0.heap.size=W.heap.size+3:=by rw [hw0];simp
 have hg:=f_G n (q ++ [i]) (.agg #[.bool l, .slice a1 n1 c1, .slice a2 n2 c2, .slice a3 n3 c3]) pa pc w0 hbig ⟨_,rfl,dY.keep hb0 hb0.size _ _ hc⟩ (hp.keep hb0 hb0.size)
 rw [hat]at hg
 have HG:=Lib.hid hg
 obtain⟨y0,y1,y2,y3, -, -⟩:=hA.facts
 have HB:=Lib.hid hB;have HC:=Lib.hid hC;have Hw0:=Lib.hid hw0;have Hb0:=Lib.hid hb0;have Hs0:=Lib.hid hs0
 clear hc hp hat hg hA hB hC hb0 hs0 hw0
 obtain⟨k,hk⟩:∃k,(q ++ [i]).length=k+1:=⟨q.length,by simp⟩
 rw [hk]at HG⊢
 clear hk
 go_enter Tryz.func120,Tryz.ntmps120
 go_upto_region 1 with fail
 rw [<- Hw0.out]
 clear Hw0
 go_wp2_with fail
 refine HG.out.mono ?_
 rintro e w1 ⟨rfl,hb1⟩
 obtain⟨x0,x1,x2,x3,⟨f0,f1,f2,f3⟩,xl⟩:=(HB.out.keep (hb1.mono (by rw [Hs0.out];omega))).facts
 obtain⟨z0,z1,z2,z3,⟨g0,g1,g2,g3⟩,zl⟩:=(HC.out.keep (hb1.mono (by rw [Hs0.out];omega))).facts
 have Hb1:=Lib.hid (Hb0.out.trans (hb1.mono Hb0.out.size));have Hb10:=Lib.hid hb1
 clear HG hb1 y0 y1 y2 y3
 go_wp2_with fail
 have h1:W.heap.size <= W.heap.size+1+1:=by omega
 have h2:W.heap.size <= W.heap.size+1:=by omega
 have hx:=(HB.out.keep (Hb10.out.mono (by rw [Hs0.out];omega)))
 have hz:=(HC.out.keep (Hb10.out.mono (by rw [Hs0.out];omega)))
 have q1:=l7 (l7 (l7 Hb1.out h1 (.bool false) (.slice none 0 0) (.slice none 0 0) (.slice none 0 0)) h2 (.bool false) (.slice none 0 0) (.slice none 0 0) (.slice none 0 0)) h1 (.bool false) (.slice none 0 0) (.slice none 0 0) (.slice none 0 0)
 have q2:=bV.set4 (N:=W.heap.size+1+1) (bV.all (bV.set4 (N:=W.heap.size+1+1) hx (by omega) (.bool false) (.slice none 0 0) (.slice none 0 0) (.slice none 0 0)) (.bool false) (.slice none 0 0) (.slice none 0 0) (.slice none 0 0)) (by omega) (.bool false) (.slice none 0 0) (.slice none 0 0) (.slice none 0 0)
 have q3:=bV.all (bV.set4 (N:=W.heap.size+1) (bV.all hz (.bool false) (.slice none 0 0) (.slice none 0 0) (.slice none 0 0)) (by omega) (.bool false) (.slice none 0 0) (.slice none 0 0) (.slice none 0 0)) (.bool false) (.slice none 0 0) (.slice none 0 0) (.slice none 0 0)
 clear x0 x1 x2 x3 f0 f1 f2 f3 xl z0 z1 z2 z3 g0 g1 g2 g3 zl hx hz
 with_reducible generalize World.setCell (World.setCell (World.setCell (World.setCell (World.setCell (World.setCell (World.setCell (World.setCell (World.setCell (World.setCell (World.setCell (World.setCell w1 _ _) _ _) _ _) _ _) _ _) _ _) _ _) _ _) _ _) _ _) _ _) _ _=w5 at q1 q2 q3⊢
 obtain⟨x0,x1,x2,x3, -, -⟩:=q2.facts
 obtain⟨z0,z1,z2,z3, -, -⟩:=q3.facts
 refine bodyPost_ret (v:= .tuple #[.agg #[.bool false, .slice none 0 0, .slice none 0 0, .slice none 0 0], .agg #[.bool false, .slice none 0 0, .slice none 0 0, .slice none 0 0], .int .i64 5]) (by simp [results,Tryz.results120,go_sem,x0,x1,x2,x3,z0,z1,z2,z3]) rfl ?_
 exact⟨q1,by rw [if_neg (by decide)]⟩
theorem q_j (n m k:aX) (q:List Int) (j:Nat) (v:Value) (pa:Option Addr) (pc:Nat) (W:World) (h:n.wt <= 100000000) (hv:bY W W n v) (hp:RowA W W 1 pa (q ++ [(j:Int)]).length pc ((q ++ [(j:Int)]).map (Value.int .i64))) (hq:q.length <= 1000000) (B:l9 n (q ++ [(j:Int)])=some m) (hk:l9 n q=some k) (hj:j < (aY k).length):
 Calls Tryz.prog 120 #[v,(pa,(q ++ [(j:Int)]).length,pc)] W (q_h W (jX n q (setKids k ((aY k).eraseIdx j)),m,0)):=by
 have J2:=aJ (zJ q n k hk) h;have j9:=aJ (zJ _ n m B) h;have J3:(aY k).length <= 100000000:=by obtain⟨l,ps,t,ks⟩:=k;have:=i7 ks;simp only [aX.wt]at J2;simp only [aY];omega
 have C:=fun(w0:World) (v:Value) (hv:bY w0 w0 n v) (hp:RowA w0 w0 1 pa (q ++ [(j:Int)]).length pc ((q ++ [(j:Int)]).map (Value.int .i64)))=>f_G n (q ++ [(j:Int)]) v pa pc w0 h hv hp
 rw [B]at C;have O:=hp
 obtain⟨pb,po,rfl,P,Q,R⟩:=g_N hp;have K0:q.length+1 <= pc:=by have:=hp.le;simpa using this
 have J4:=hp.max;unfold maxLen at J4;obtain⟨csn,rfl,hc⟩:=hv;obtain⟨l,a1,n1,c1,a2,n2,c2,a3,n3,c3,rfl⟩:=hc.form;obtain⟨w0,d⟩:∃w0,w0=((W.alloc (Obj.cells #[l,(a1,n1,c1),(a2,n2,c2),(a3,n3,c3)] 35)).alloc (Obj.cells #[false,(),(),()] 35)).alloc (Obj.cells #[false,(),(),()] 35):=⟨_,rfl⟩;have i:Below W W w0:=by rw [d];exact iK _ _ _ _
 have hA:bV w0 W l (a1,n1,c1) (a2,n2,c2) (a3,n3,c3):=by rw [d];exact((bV.fresh W _ _ _ _).alloc _).alloc _
 have hB:bV w0 (W+1) false () () ():=by rw [d];exact(rZ W _ _ _ _ _).alloc _
 have hC:bV w0 (W.heap.size+1+1) false () () ():=by rw [d];exact At.third W _ _ _ _
 have o:w0.heap.size=W.heap.size+3:=by rw [d];simp
 have HG:=a6 (C w0 (.agg #[l,(a1,n1,c1),(a2,n2,c2),(a3,n3,c3)]) ⟨_,rfl,dY.keep i i.size _ _ hc⟩ (O.keep i i.size));obtain⟨y0,y1,y2,y3, -, -⟩:=hA.facts;have HA:=a6 hA;have HB:=a6 hB;have HC:=a6 hC;have S:=a6 d;have D:=a6 i;have u:=a6 o;have Hc:=a6 hc;have Hpq:=a6 R;have T:=a6 Q
 have Hk:=a6 hk;have h1:((q.length:Int)+1) - 1=(q.length:Int):=P2
 have h2:(q.length:Int) <= (pc:Int):=P2
 clear hc hp O B C hA hB hC i o d R Q hk;rw [NZ,List.length_singleton]at *;go_enter Tryz.func120,Tryz.ntmps120;go_upto_region 1 with fail;rw [<- S.o];clear S;go_upto_region 3 with fail
 go_wp2_with fail;refine HG.o.mono ?_;rintro e w1 ⟨cs,rfl,E,F⟩;obtain⟨lm,p1,o1,d1,p2,o2,d2,p3,o3,d3,rfl⟩:=E.form;have G:=HC.o.keep (F.mono (by rw [u.o];omega));obtain⟨z0,z1,z2,z3,⟨g0,g1,g2,g3⟩,zl⟩:=G.facts;have x:=a6 F;have U:=a6 E;have V:=a6 G
 clear HG F y0 y1 y2 y3 E G;go_upto_region 6 with fail
 obtain⟨w2,c⟩:∃w2,w2=(((w1.setCell (P0 (W.heap.size+1+1) 0) lm).setCell (P0 (W.heap.size+1+1) 1) (p1,o1,d1)).setCell (P0 (W.heap.size+1+1) 2) (p2,o2,d2)).setCell (P0 (W.heap.size+1+1) 3) (p3,o3,d3):=⟨_,rfl⟩;rw [<- c];have J5:=x.o.size
 have o:=u.o;have s:w2.heap.size=w1.heap.size:=by rw [c];simp [World.setCell]
 have X:bV w2 (W.heap.size+1+1) lm (p1,o1,d1) (p2,o2,d2) (p3,o3,d3):=by rw [c];exact bV.all V.o _ _ _ _
 have Y:bV w2 W l (a1,n1,c1) (a2,n2,c2) (a3,n3,c3):=by rw [c];exact bV.set4 (HA.o.keep (x.o.mono P2)) P2 _ _ _ _
 have Z:bV w2 (W+1) false () () ():=by rw [c];exact bV.set4 (HB.o.keep (x.o.mono P2)) P2 _ _ _ _
 have y:Below W W w2:=by rw [c];exact l7 (D.o.trans (x.o.mono D.o.size)) P2 _ _ _ _
 have H0:NodeQ w2 (fun b=>w0.heap.size <= b) m [lm,(p1,o1,d1),(p2,o2,d2),(p3,o3,d3)]:=by
  have a:¬ (w0.heap.size <= W.heap.size+1+1):=P2
  rw [c];exact cQ (cQ (cQ (cQ U.o a) a) a) a
 have y0:w2.cell? (pb,po+q.length)=some (.int .i64 (j:Int)):=(y.cell (p:=(pb,po+q.length)) P).trans T.o;have H1:=a6 Y;have H2:=a6 Z;have H3:=a6 X;have H4:=a6 y;have J6:=a6 H0
 have H5:=a6 (show W.heap.size+3 <= w2.heap.size by omega);have j8:pb < w2.heap.size:=Nat.lt_of_lt_of_le P y.size;clear c J5 o s X Y Z y H0 z0 z1 z2 z3 g0 g1 g2 g3 zl HA HB HC V U T;go_region;obtain⟨w3,z⟩:∃w3,w3=(w2.alloc (Obj.cells #[(j:Int)] 3)).drew:=⟨_,rfl⟩;rw [<- z];have f:Below w2 w2 w3:=by rw [z];exact(b7 _ _).drew
 have hI:At w3 w2 [(j:Int)] 3:=by rw [z];exact At.fresh w2 _ _
 have r:=H4.o.trans (f.mono H4.o.size);have s:=H5.o;have H6:=H1.o.keep (f.mono P2);have J7:=a6 (H2.o.keep (f.mono P2));have J8:=a6 (H3.o.keep (f.mono P2))
 have H7:=a6 (c_u 180 #[.pointer w2] P5 n q (.agg #[l,(a1,n1,c1),(a2,n2,c2),(a3,n3,c3)]) (some (pb,po)) pc (fun k=>(setKids k ((aY k).eraseIdx j),0)) w3 h ⟨_,rfl,dY.keep r r.size _ _ Hc.o⟩ (Hpq.o.keep r r.size) (fun k' H8=>by
  have e:k'=k:=by have:=Hk.o;rw [this]at H8;exact(Option.some.inj H8).symm
  subst e;exact r_J k' j w2 w3 (hI.cell 0 rfl) hI.lt hj J3))
 obtain⟨x0,x1,x2,x3, -, -⟩:=H6.facts;have H9:=a6 r;have J9:=a6 f
 have j0:=a6 (show w2.heap.size <= w3.heap.size from f.size);clear z f hI r H6 y0 H1 H2 H3 s;go_wp2_with fail;refine H7.o.mono ?_;intro e w4 A;have ht:AX w3 (jX n q (setKids k ((aY k).eraseIdx j)),0) e w4:=AX.of_changed (a7) A (by rw [Hk.o];simp)
 have s:=H5.o;have j1:=j0.o
 have H:=J7.o.keep (A.1.mono P2);have I:=J8.o.keep (A.1.mono P2);obtain⟨J,⟨-,l',k1,s1,r1,k2,s2,r2,k3,s3,r3,rfl,h0⟩ | ⟨hz, -⟩⟩:=ht.cases
 . obtain ⟨z0,z1,z2,z3,⟨f0,f1,f2,f3⟩,zl⟩:=H.facts
   obtain⟨v0,v1,v2,v3,⟨g0,g1,g2,g3⟩,vl⟩:=I.facts;have h3:=a6 h0;have h4:=a6 (H9.o.trans (J.mono H9.o.size));have h5:=a6 J
   have h6:=a6 H;have h7:=a6 I
   clear H7 A ht H I J h0 x0 x1 x2 x3;go_upto_region 8 with fail
   obtain⟨w5,g⟩:∃w5,w5=(((w4.setCell (P0 (W+1) 0) l').setCell (P0 (W+1) 1) (k1,s1,r1)).setCell (P0 (W+1) 2) (k2,s2,r2)).setCell (P0 (W+1) 3) (k3,s3,r3):=⟨_,rfl⟩;rw [<- g];have K:bV w5 (W+1) l' (k1,s1,r1) (k2,s2,r2) (k3,s3,r3):=by rw [g];exact bV.all h6.o _ _ _ _
   have L:bV w5 (W.heap.size+1+1) lm (p1,o1,d1) (p2,o2,d2) (p3,o3,d3):=by rw [g];exact bV.set4 h7.o P2 _ _ _ _
   have h8:Below W W w5:=by rw [g];exact l7 h4.o P2 _ _ _ _
   have o:=u.o;have h9:NodeQ w5 (fun b=>w0.heap.size <= b) (jX n q (setKids k ((aY k).eraseIdx j))) [l',(k1,s1,r1),(k2,s2,r2),(k3,s3,r3)]:=by
    have a:¬ (w3.heap.size <= W.heap.size+1):=P2
    rw [g];exact NodeQ.keep (a8) (fun _ _ _=>rfl) (fun b hb _=>by omega) _ _ (cQ (cQ (cQ (cQ h3.o a) a) a) a)
   have J0:NodeQ w5 (fun b=>w0.heap.size <= b) m [lm,(p1,o1,d1),(p2,o2,d2),(p3,o3,d3)]:=by
    have a:¬ (w0.heap.size <= W.heap.size+1):=P2
    rw [g];exact cQ (cQ (cQ (cQ (gY (gY J6.o J9.o) h5.o) a) a) a) a
   have j2:=a6 K;have j3:=a6 L;have j4:=a6 h8;have j5:=a6 h9;have j6:=a6 J0
   obtain⟨z0,z1,z2,z3,⟨f0,f1,f2,f3⟩,zl⟩:=K.facts;obtain⟨v0,v1,v2,v3,⟨g0,g1,g2,g3⟩,vl⟩:=L.facts;clear g K L h8 h9 J0 h6 h7 h4 h3 o s j1;go_region;have j7:=u.o;have q0:=l7 (l7 j4.o (N:=W.heap.size+1) P2 l' (k1,s1,r1) (k2,s2,r2) (k3,s3,r3)) (N:=W.heap.size+1+1) P2 lm (p1,o1,d1) (p2,o2,d2) (p3,o3,d3);have q1:=bV.set4 (N:=W.heap.size+1+1) (bV.all j2.o l' (k1,s1,r1) (k2,s2,r2) (k3,s3,r3)) P2 lm (p1,o1,d1) (p2,o2,d2) (p3,o3,d3);have q2:=bV.all (bV.set4 (N:=W.heap.size+1) j3.o P2 l' (k1,s1,r1) (k2,s2,r2) (k3,s3,r3)) lm (p1,o1,d1) (p2,o2,d2) (p3,o3,d3);have hx1:¬ (w0.heap.size <= W.heap.size+1):=P2
   have M:¬ (w0.heap.size <= W.heap.size+1+1):=P2
   have q3:=lX (lX j5.o hx1 l' (k1,s1,r1) (k2,s2,r2) (k3,s3,r3)) M lm (p1,o1,d1) (p2,o2,d2) (p3,o3,d3);have q4:=lX (lX j6.o hx1 l' (k1,s1,r1) (k2,s2,r2) (k3,s3,r3)) M lm (p1,o1,d1) (p2,o2,d2) (p3,o3,d3);clear z0 z1 z2 z3 f0 f1 f2 f3 zl v0 v1 v2 v3 g0 g1 g2 g3 vl;with_reducible generalize World.setCell (World.setCell (World.setCell (World.setCell (World.setCell (World.setCell (World.setCell (World.setCell w5 _ _) _ _) _ _) _ _) _ _) _ _) _ _) _ _=w6 at q0 q1 q2 q3 q4⊢;obtain⟨x0,x1,x2,x3, -, -⟩:=q1.facts;obtain⟨z0,z1,z2,z3, -, -⟩:=q2.facts;have Q0:=a6 q0;have Q3:=a6 q3;have Q4:=a6 q4
   clear q0 q1 q2 q3 q4 hx1 M j7;go_wp2_with fail;refine bodyPost_ret (v:= .tuple #[.agg #[l',(k1,s1,r1),(k2,s2,r2),(k3,s3,r3)], .agg #[lm,(p1,o1,d1),(p2,o2,d2),(p3,o3,d3)],OY]) (by simp [results,Tryz.results120,go_sem,x0,x1,x2,x3,z0,z1,z2,z3]) rfl ?_;have J1:=D.o.size;refine⟨Q0.o.drew, ?_⟩;rw [if_pos rfl];exact⟨_,_,rfl,NodeQ.keep (w:=w6) (w':=w6.drew) (a8) (fun _ _ _=>rfl) (fun b hb _=>aJ J1 hb) _ _ Q3.o,NodeQ.keep (w:=w6) (w':=w6.drew) (a8) (fun _ _ _=>rfl) (fun b hb _=>aJ J1 hb) _ _ Q4.o⟩
 exact absurd rfl hz
theorem s_s (n:aX) (p:List Int) (v:Value) (pa:Option Addr) (pc:Nat) (W:World) (b:n.wt <= 100000000) (hv:bY W W n v) (hp:RowA W W 1 pa p.length pc (p.map (Value.int .i64))) (hq:p.length <= 1000000):
 Calls Tryz.prog 120 #[v,(pa,p.length,pc)] W (q_h W (F3 n p)):=by
 rcases List.eq_nil_or_concat p with rfl | ⟨q,i,rfl⟩
 . exact q_i n v pa pc W hv
 rw [List.concat_eq_append]at *
 cases a:l9 n (q ++ [i])with
 | none=>
   have e:F3 n (q ++ [i])=(cV,cV,5):=by unfold F3;rw [if_neg P6,a]
   rw [e];exact r_L n q i v pa pc W b hv hp a
 | some m=>
   obtain⟨k,j,hk,rfl,hj,hm⟩:=o_3 a;have e:=a_7 hk hj;rw [hm]at e;rw [e];exact q_j n m k q j v pa pc W b hv hp (by simp at hq;omega) a hk hj
theorem uY.q {w:World} {M:Nat} {n:aX} {cs:List Value} (h:uY w M n cs):NodeQ w (fun b=>M <= b) n cs:=by
 obtain⟨l,ps,t,ks⟩:=n;unfold uY at h;unfold NodeQ;obtain⟨ap,cp,at_,ct,ak,ck,css,h1,h2,h3,h4,h5,h6,h7⟩:=h;obtain⟨a1,c1,a,c⟩:=RowQ.of_own h3 PJ;obtain⟨a2,c2,d,e⟩:=RowQ.of_own h5 h6.onec;injection a with e1 e2 e3
 injection d with g1 g2 g3
 subst e1;subst e3;subst g1;subst g3;exact⟨ap,cp,at_,ct,ak,ck,css,h1,h2.keep (a8) (fun _ _ _=>rfl) (fun b hb _=>hb.1),c.keep (a8) (fun _ _ _=>rfl) (fun b hb _=>(h3.lt b hb).1),h4,e.keep (a8) (fun _ _ _=>rfl) (fun b hb _=>(h5.lt b hb).1),dK.keep (a8) (fun _ _ _=>rfl) (fun b hb _=>hb.1) _ _ h6⟩
theorem uY.form {w:World} {M:Nat} {n:aX} {cs:List Value} (h:uY w M n cs):∃l a1 n1 c1 a2 n2 c2 a3 n3 c3,cs= [.bool l, .slice a1 n1 c1, .slice a2 n2 c2, .slice a3 n3 c3]:=h.q.form
theorem uY.set {w:World} {M N o:Nat} {n:aX} {cs:List Value} {u:Value} (h:uY w M n cs) (hN:N < M):uY (w.setCell (N,o) u) M n cs:=by
 obtain⟨l,ps,t,ks⟩:=n;unfold uY at h⊢;obtain⟨ap,cp,at_,ct,ak,ck,css,h1,h2,h3,h4,h5,h6,h7⟩:=h;have hh:∀b,M <= b ->(w.setCell (N,o) u).heap[b]? =w.heap[b]? :=fun b hb=>Below.heap_setCell w (N,o) u b (by show b≠N;omega)
 exact⟨ap,cp,at_,ct,ak,ck,css,h1,h2.keep R9 (fun b hb _=>hh b hb.1) (fun _ hb _=>hb),ownsRow_setCell_below (a:=(N,o)) h3 hN _,h4,ownsRow_setCell_below (a:=(N,o)) h5 hN _,dK.keep R9 (fun b hb _=>hh b hb.1) (fun _ hb _=>hb) _ _ h6,h7⟩
theorem uY.from {w:World} {M M':Nat} {n:aX} {cs:List Value} (h:uY w M n cs) (hM:M' <= M):uY w M' n cs:=by
 obtain⟨l,ps,t,ks⟩:=n;unfold uY at h⊢;obtain⟨ap,cp,at_,ct,ak,ck,css,h1,h2,h3,h4,h5,h6,h7⟩:=h;exact⟨ap,cp,at_,ct,ak,ck,css,h1,h2.keep (a8) (fun _ _ _=>rfl) (fun b hb _=>⟨by omega,hb.2⟩),q9 h3 hM,h4,q9 h5 hM,dK.keep (a8) (fun _ _ _=>rfl) (fun b hb _=>⟨by omega,hb.2⟩) _ _ h6,h7⟩
def s_L (W:World) (m:aX) (e:Ending) (w':World):Prop:= ∃cs,e= .returned (.tuple #[.agg cs.toArray,OY])/\uY w' W m cs/\Below W W w'
theorem r_M (n m:aX) (p:List Int) (v:Value) (pa:Option Addr) (pc:Nat) (W:World) (w:n.wt <= 100000000) (hv:bY W W n v) (hp:RowA W W 1 pa p.length pc (p.map (Value.int .i64))) (i:l9 n p=some m):
 Calls Tryz.prog 13 #[v,(pa,p.length,pc)] W (s_L W m):=by
 have k:=zJ p n;obtain⟨csn,rfl,hc⟩:=hv;obtain⟨l,a1,n1,c1,a2,n2,c2,a3,n3,c3,rfl⟩:=hc.form;have hA:=(bV.fresh W l (a1,n1,c1) (a2,n2,c2) (a3,n3,c3)).alloc (Obj.cells #[false,(),(),()] 35);have hB:=rZ W (Obj.cells #[l,(a1,n1,c1),(a2,n2,c2),(a3,n3,c3)] 35) false () () ();have f:Below W W ((W.alloc (Obj.cells #[l,(a1,n1,c1),(a2,n2,c2),(a3,n3,c3)] 35)).alloc (Obj.cells #[false,(),(),()] 35)):=((a7).alloc (a8) _).alloc P6 _;have o:((W.alloc (Obj.cells #[l,(a1,n1,c1),(a2,n2,c2),(a3,n3,c3)] 35)).alloc (Obj.cells #[false,(),(),()] 35)).heap.size=W.heap.size+2:=P6
 obtain⟨y0,y1,y2,y3, -, -⟩:=hA.facts;have g:=a6 (r_w n p pa pc W 0 W _ ⟨l,a1,n1,c1,a2,n2,c2,a3,n3,c3,dY.keep f (a8) _ _ hc,y0,y1,y2,y3⟩ (hp.keep f (a8)));have q:=a6 f;have HB:=a6 hB;have c:=a6 o
 clear hc hA hB f o y0 y1 y2 y3 hp;rw [i]at g;have x:=k m i
 clear i k;go_enter Tryz.func13,Tryz.ntmps13;obtain⟨w0,r⟩:∃w0,w0=(W.alloc (Obj.cells #[l,(a1,n1,c1),(a2,n2,c2),(a3,n3,c3)] 35)).alloc (Obj.cells #[false,(),(),()] 35):=⟨_,rfl⟩;go_wp2_with fail;rw [<- r]at g q HB c⊢;refine g.o.mono ?_;rintro e w1 ⟨⟨b,off,rfl,l',b1,o1,d1,b2,o2,d2,b3,o3,d3,s,x0,x1,x2,x3⟩,rfl⟩;have HC:=a6 (p_O m (.agg #[l',(b1,o1,d1),(b2,o2,d2),(b3,o3,d3)]) w0 P2 ⟨_,rfl,dY.keep (a7) ZY _ _ s⟩)
 clear g r s;go_wp2_with fail;refine HC.o.mono ?_;rintro e w2 ⟨cs,rfl,a,d⟩;obtain⟨m1,p1,q1,r1,p2,q2,r2,p3,q3,r3,rfl⟩:=a.form;have t:=HB.o.keep (d.mono ZY);obtain⟨z0,z1,z2,z3,⟨g0,g1,g2,g3⟩,y⟩:=t.facts;have u:=a6 (q.o.trans (d.mono ZY));have j:=a6 a;clear HC a d x0 x1 x2 x3 t HB;go_wp2_with fail;refine bodyPost_ret (v:= .tuple #[.agg #[m1,(p1,q1,r1),(p2,q2,r2),(p3,q3,r3)],OY]) t_o rfl ?_;refine⟨_,rfl, ?_, ?_⟩
 . have h:W.heap.size+1 < w0.heap.size:=ZY
   exact uY.from (uY.set (uY.set (uY.set (uY.set j.o h) h) h) h) ZY
 with_reducible exact l7 u.o (Nat.le_succ _) _ _ _ _
def yJ (p:List Int) (d:Int):List Int×Int:=if p= [] then ([],6) else if (0 < d/\jK p=9223372036854775807)∨ (d < 0/\jK p <= 0) then ([],8) else (p.dropLast ++ [jK p+d],0)
def g_O (W:World) (r:List Int×Int) (e:Ending) (w':World):Prop:=
 Below W W w'/\∃v,e= .returned (.tuple #[v,r.2])/\w'.ownsRow W 3 1 v r.1.length (r.1.map (Value.int .i64))
theorem o_4 (p:List Int) (d:Int) (a:Option Addr) (c:Nat) (B:Nat) (W:World) (hr:RowA W B 1 a p.length c (p.map (Value.int .i64))) (hB:B <= W.heap.size) (hn:p.length <= 1000000) (hd:d=1∨d= -1) (hw:∀z∈p, -9223372036854775807 <= z/\z <= 9223372036854775807):
 Calls Tryz.prog 191 #[(a,p.length,c),d] W (g_O W (yJ p d)):=by
 rcases List.eq_nil_or_concat p with rfl | ⟨q,i,rfl⟩
 . have hb:yJ [] d=([],6):=rfl
   rw [hb];clear hr hb;go_enter Tryz.func191,Tryz.ntmps191;go_wp2_with fail;go_ret2;exact⟨a7,_,rfl,World.ownsRow_nil _ _ _ _⟩
 rw [List.concat_eq_append]at *;have w:=hw i P6;have r:yJ (q ++ [i]) d=if (0 < d/\i=9223372036854775807)∨ (d < 0/\i <= 0) then ([],8) else (q ++ [i+d],0):=by
  unfold yJ;rw [if_neg P6,AV,q8]
 have j:=a6 r;generalize yJ (q ++ [i]) d=R at j⊢;have HC:=a6 (pZ B (q ++ [i]).length a c _ W hr hB P2);have hl:(q ++ [i]).length=q.length+1:=P6
 have hq:q.length <= 1000000:=P2
 rw [hl]at HC⊢;have h1:((q.length:Int)+1) - 1=(q.length:Int):=P2
 clear hr hw r hl hn;go_enter Tryz.func191,Tryz.ntmps191;go_wp2_with fail;refine HC.o.mono ?_;rintro e w1 ⟨v,rfl,b,k⟩;obtain⟨a',c',rfl, -⟩:=eK b PJ;obtain⟨g,rfl,hg⟩:=JZ b P6;have s:=G4 b q.length i P6;have x:=b.frozenAt q.length;have y:q.length+1 <= c':=by
  rcases b.2 with⟨h,_⟩ | ⟨g',cap,cur,h,_,_,h2,_⟩
  . cases h
  injection h with _ _ h;omega
 have l:=a6 b;have f:=a6 k
 clear HC b k;have m:∀z:Int,((q ++ [i]).map (Value.int .i64)).set q.length z=(q ++ [z]).map (Value.int .i64):=fun z=>by
  rw [List.map_append,List.set_append_right _ _ P6];simp
 have n:=a6 m;clear m;rcases hd with rfl | rfl
 . by_cases hm:i=9223372036854775807
   . have hR:R=([],8):=by rw [j.o,if_pos (.inl ⟨by decide,hm⟩)]
     subst hR;have o:(i == 9223372036854775807)=true:=ZV
     go_wp2_with fail;go_ret2;exact⟨f.o,_,rfl,World.ownsRow_nil _ _ _ _⟩
   have hR:R=(q ++ [i+1],0):=by rw [j.o,if_neg P2]
   subst hR;have o:(i == 9223372036854775807)=false:=ZV
   have t:IntKind.i64.wrap (i+1)=i+1:=QY
   go_wp2_with fail;go_ret2;have h:=(l.o.stored q.length (.int .i64 (i+1))).1
   rw [n.o]at h;refine⟨f.o.setCell (p:=(g,q.length)) hg _,_,rfl, ?_⟩;rw [NZ,List.length_singleton];exact h
 by_cases hm:i <= 0
 . have hR:R=([],8):=by rw [j.o,if_pos (.inr ⟨by decide,hm⟩)]
   subst hR;have o:decide (i <= 0)=true:=ZV
   go_wp2_with fail;go_ret2;exact⟨f.o,_,rfl,World.ownsRow_nil _ _ _ _⟩
 have hR:R=(q ++ [i+ -1],0):=by rw [j.o,if_neg P2]
 subst hR;have o:decide (i <= 0)=false:=ZV
 have t:IntKind.i64.wrap (i+ -1)=i+ -1:=QY
 go_wp2_with fail;go_ret2;have h:=(l.o.stored q.length (.int .i64 (i+ -1))).1
 rw [n.o]at h;refine⟨f.o.setCell (p:=(g,q.length)) hg _,_,rfl, ?_⟩;rw [NZ,List.length_singleton];exact h
theorem j_F (p:List Int) (a:Option Addr) (c:Nat) (B:Nat) (W:World) (hr:RowA W B 1 a p.length c (p.map (Value.int .i64))) (hB:B <= W.heap.size) (hn:p.length <= 1000000) (hw:∀z∈p, -9223372036854775807 <= z/\z <= 9223372036854775807):
 Calls Tryz.prog 131 #[(a,p.length,c)] W (g_O W (yJ p (-1))):=by
 have HC:=a6 (o_4 p (-1) a c B W hr hB hn (.inr rfl) hw);generalize yJ p (-1)=R at HC⊢;obtain⟨R1,R2⟩:=R;clear hr hw;go_enter Tryz.func131,Tryz.ntmps131;go_wp2_with fail;refine HC.o.mono ?_;rintro e w1 ⟨hb,v,rfl,ho⟩;have Hb:=a6 hb;have Ho:=a6 ho
 clear HC hb ho;go_wp2_with fail;go_ret2;exact⟨Hb.o,_,rfl,Ho.o⟩
def I9 (p:List Int):List Int×Int:=if p= [] then ([],6) else (p.dropLast,0)
theorem h_Q (p:List Int) (a:Option Addr) (c:Nat) (B:Nat) (W:World) (hr:RowA W B 1 a p.length c (p.map (Value.int .i64))) (hB:B <= W.heap.size) (hn:p.length <= 1000000):
 Calls Tryz.prog 129 #[(a,p.length,c)] W (g_O W (I9 p)):=by
 rcases List.eq_nil_or_concat p with rfl | ⟨q,i,rfl⟩
 . have hb:I9 []=([],6):=rfl
   rw [hb];clear hr hb;go_enter Tryz.func129,Tryz.ntmps129;go_wp2_with fail;go_ret2;exact⟨a7,_,rfl,World.ownsRow_nil _ _ _ _⟩
 rw [List.concat_eq_append]at *;have f:I9 (q ++ [i])=(q,0):=by unfold I9;rw [if_neg P6,q8]
 rw [f];have j:=hr.le
 have k:=hr.max;unfold maxLen at k;obtain⟨pb,po,rfl,l, -,hq⟩:=g_N hr;have hl:(q ++ [i]).length=q.length+1:=P6
 have HC:=a6 (pZ B q.length (some (pb,po)) c _ W hq hB P2);rw [hl]at j⊢;have h1:((q.length:Int)+1) - 1=(q.length:Int):=P2
 have h2:(q.length:Int) <= (c:Int):=P2
 clear hr f hl hq;go_enter Tryz.func129,Tryz.ntmps129;go_wp2_with fail;refine HC.o.mono ?_;rintro e w1 ⟨v,rfl,b,d⟩;have g:=a6 b;have h:=a6 d
 clear HC b d;go_wp2_with fail;go_ret2;exact⟨h.o,_,rfl,g.o⟩
theorem r_N (q p:List Int) (a a':Option Addr) (c c' B:Nat) (w:World) (hr:RowA w B 1 a q.length c (q.map (Value.int .i64))) (d:RowA w B 1 a' p.length c' (p.map (Value.int .i64))):
 Calls Tryz.prog 196 #[(a,q.length,c),(a',p.length,c')] w fun e w'=>e= .returned (F6 q p)/\pY w w':=by
 have HC:=a6 (k_V q p a a' c c' B w hr d);have f:=K3 q p;have hx:F6 q p=(decide (g9 q p+1=q.length) && (decide (g9 q p < p.length) && decide (q.getD (g9 q p) 0 < p.getD (g9 q p) 0))):=rfl;have m:q.length <= 9223372036854775807:=PQ
 generalize g9 q p=k at HC f hx;have Hx:=a6 hx;generalize F6 q p=R at Hx⊢;clear hx;by_cases h1:k+1=q.length
 . have i:((k:Int) == (q.length:Int) - 1)=true:=P8
   by_cases h2:k < p.length
   . have j:decide ((k:Int) < p.length)=true:=P8
     have g:k < q.length:=P2
     obtain⟨b,o,rfl,hb,hc⟩:=hr.int_at k g;obtain⟨b',o',rfl,n,h⟩:=d.int_at k h2;have x0:=hc k g;have x1:=h k h2
     have r:(k:Int) < q.length:=P2
     have l:(k:Int) < p.length:=P2
     have hR:Hid (R=decide (q.getD k 0 < p.getD k 0)):=by show _=_;rw [Hx.o];simp [h1,h2]
     clear hr d hc h Hx;generalize q.getD k 0=x at x0 hR;generalize p.getD k 0=y at x1 hR;have Hh:=a6 h1;clear h1;go_enter Tryz.func196,Tryz.ntmps196;go_wp2_with fail;refine HC.o.mono ?_;rintro e w1 ⟨rfl,n1,rfl⟩;clear HC;go_wp2_with fail
     go_quiet (fail)
     go_wp2_with fail;go_ret;exact⟨by rw [hR.o];rfl,by first | exact j9 _ _ _ | exact kY _ _⟩
   have j:decide ((k:Int) < p.length)=false:=P8
   have hR:Hid (R=false):=by show _=_;rw [Hx.o];simp [h2]
   have Hh:=a6 h1;clear hr d Hx h1;go_enter Tryz.func196,Tryz.ntmps196;go_wp2_with fail;refine HC.o.mono ?_;rintro e w1 ⟨rfl,n1,rfl⟩;clear HC;go_wp2_with fail
   go_quiet (fail)
   go_wp2_with fail;go_ret;exact⟨by rw [hR.o];rfl,by first | exact j9 _ _ _ | exact kY _ _⟩
 have i:((k:Int) == (q.length:Int) - 1)=false:=P8
 have hR:Hid (R=false):=by show _=_;rw [Hx.o];simp [h1]
 clear hr d Hx;go_enter Tryz.func196,Tryz.ntmps196;go_wp2_with fail;refine HC.o.mono ?_;rintro e w1 ⟨rfl,n1,rfl⟩;clear HC;go_wp2_with fail
 go_quiet (fail)
 go_wp2_with fail;go_ret;exact⟨by rw [hR.o];rfl,by first | exact j9 _ _ _ | exact kY _ _⟩
theorem e_i {w w1 w2:World} (h:pY w w1) (k:pY w1 w2):pY w w2:=by
 obtain⟨n,rfl⟩:=h;obtain⟨m,rfl⟩:=k;exact j9 _ _ _
theorem D6 {w w':World} {B sz n c:Nat} {a:Option Addr} {cs:List Value} (h:RowA w B sz a n c cs) (hd:pY w w'):RowA w' B sz a n c cs:=h.keep (hd.below B) (a8)
theorem e_j (q p:List Int) (a a':Option Addr) (c c' B:Nat) (w:World) (hr:RowA w B 1 a q.length c (q.map (Value.int .i64))) (b:RowA w B 1 a' p.length c' (p.map (Value.int .i64))):
 Calls Tryz.prog 141 #[(a,q.length,c),(a',p.length,c')] w fun e w'=>e= .returned (cZ q p:Nat)/\pY w w':=by
 have HS:=a6 (d_B q p a a' c c' B w hr b);have HA:=a6 (fun(w1:World) (h:pY w w1)=>g_E q p a a' c c' B w1 (D6 hr h) (D6 b h));have HL:=a6 (fun(w1:World) (h:pY w w1)=>r_N q p a a' c c' B w1 (D6 hr h) (D6 b h));have hx:cZ q p=if q= [] then 0 else if q=p then 3 else if kJ q p then 2 else if F6 q p then 1 else 0:=rfl
 have Hx:=a6 hx;generalize cZ q p=R at Hx⊢;have d:q.length=0 ↔ q= []:=List.length_eq_zero_iff;have t:q.length <= 9223372036854775807:=PQ
 generalize kJ q p=A at HA Hx;generalize F6 q p=L at HL Hx;clear hr b hx;by_cases h0:q.length=0
 . have hR:R=0:=by rw [Hx.o,if_pos (d.1 h0)]
   subst hR;rw [h0];clear h0 d Hx HS HA HL;go_enter Tryz.func141,Tryz.ntmps141;go_wp2_with fail;go_ret;exact⟨rfl,CQ _⟩
 have u:((q.length:Int) == 0)=false:=by simpa using h0
 have k:q≠ []:=fun e=>h0 (d.2 e)
 have l:R=if q=p then 3 else if A then 2 else if L then 1 else 0:=by rw [Hx.o,if_neg k]
 have f:=a6 l;clear Hx h0 d k l;by_cases h1:q=p
 . have hd:decide (q=p)=true:=UV
   rw [hd]at HS;have hR:R=3:=by rw [f.o,if_pos h1]
   clear f h1 hd HA HL;go_enter Tryz.func141,Tryz.ntmps141;go_wp2_with fail;refine HS.o.mono ?_;rintro e w1 ⟨rfl,hd⟩;have Hd:=a6 hd
   clear HS hd;subst hR;go_wp2_with fail;go_ret;exact⟨rfl,Hd.o⟩
 have hd:decide (q=p)=false:=UV
 rw [hd]at HS;have m:R=if A then 2 else if L then 1 else 0:=by rw [f.o,if_neg h1]
 have g:=a6 m;clear f h1 hd m;go_enter Tryz.func141,Tryz.ntmps141;go_wp2_with fail;refine HS.o.mono ?_;rintro e w1 ⟨rfl,hd⟩;have Hd:=a6 hd
 clear HS hd;go_wp2_with fail;refine(HA.o w1 Hd.o).mono ?_;rintro e w2 ⟨rfl,n⟩;have j:=a6 (e_i Hd.o n)
 clear HA n;cases A with
 | true=>
   have hR:R=2:=by rw [g.o];rfl
   clear g;subst hR;go_wp2_with fail;go_ret;exact⟨rfl,j.o⟩
 | false=>
   have o:R=if L then 1 else 0:=by rw [g.o];rfl
   have i:=a6 o;clear g o;go_wp2_with fail;refine(HL.o w2 j.o).mono ?_;rintro e w3 ⟨rfl,r⟩;have s:=a6 (e_i j.o r)
   clear HL r;cases L with
   | true=>
     have hR:R=1:=by rw [i.o];rfl
     clear i;subst hR;go_wp2_with fail;go_ret;exact⟨rfl,s.o⟩
   | false=>
     have hR:R=0:=by rw [i.o];rfl
     clear i;subst hR;go_wp2_with fail;go_ret;exact⟨rfl,s.o⟩
theorem e_k {q p:List Int} (h:cZ q p≠0):q.length - 1 < p.length/\0 < q.length:=by
 unfold cZ at h;split at h
 . exact absurd rfl h
 rename_i hq
 have a:=List.length_pos_iff.2 hq
 split at h
 . rename_i e;subst e;omega
 split at h
 . rename_i ha
   unfold kJ at ha;simp only [Bool.and_eq_true,decide_eq_true_eq]at ha;omega
 split at h
 . rename_i hl
   unfold F6 at hl;simp only [Bool.and_eq_true,decide_eq_true_eq]at hl;omega
 exact absurd rfl h
abbrev r_n (W:World) (zs:List Int) (e:Ending) (w':World):Prop:=vX W 3 1 zs.length (zs.map (Value.int .i64)) e w'
theorem c_B (p:List Int) (k:Nat) (d:Int):(fJ p k d).length=p.length:=by simp [fJ]
theorem g_P (p:List Int) (k:Nat) (d:Int) (a:Option Addr) (c B:Nat) (W:World) (hr:RowA W B 1 a p.length c (p.map (Value.int .i64))) (hB:B <= W.heap.size) (hn:p.length <= 1000000) (hk:k < p.length) (hw: -9223372036854775807 <= p.getD k 0+d/\p.getD k 0+d <= 9223372036854775807):
 Calls Tryz.prog 143 #[(a,p.length,c),k,d] W (r_n W (fJ p k d)):=by
 have HC:=a6 (pZ B p.length a c _ W hr hB P2);have f:(p.map (Value.int .i64)).set k (.int .i64 (p.getD k 0+d))=(fJ p k d).map (Value.int .i64):=by unfold fJ;rw [List.map_set]
 have i:=a6 f;have l:=a6 (c_B p k d);have r:(k:Int) < p.length:=P2
 have j:(p.map (Value.int .i64))[k]? =some (.int .i64 (p.getD k 0)):=by simp [List.getD,NV hk]
 generalize fJ p k d=S at i l⊢;generalize p.getD k 0=x at f i hw j;have s:IntKind.i64.wrap (x+d)=x+d:=QY
 clear hr f;go_enter Tryz.func143,Tryz.ntmps143;go_wp2_with fail;refine HC.o.mono ?_;rintro e w1 ⟨v,rfl,b,m⟩;obtain⟨a',c',rfl, -⟩:=eK b PJ;obtain⟨g,rfl,hg⟩:=JZ b (by intro e;rw [e]at j;cases j);have q:=G4 b k _ j;have t:=b.frozenAt k;have n:=a6 b;have o:=a6 m
 clear HC b m j;go_wp2_with fail;go_ret;have h:=(n.o.stored k (.int .i64 (x+d))).1
 rw [i.o]at h;refine⟨_,rfl, ?_,o.o.setCell (p:=(g,k)) hg _⟩;rw [l.o];exact h
theorem GV (p q:List Int) (a a':Option Addr) (c c' B:Nat) (W:World) (hr:RowA W B 1 a p.length c (p.map (Value.int .i64))) (i:RowA W B 1 a' q.length c' (q.map (Value.int .i64))) (hB:B <= W.heap.size) (hn:p.length <= 1000000) (l:q.length <= 1000000) (hw:∀z∈p, -1 <= z/\z <= 9000000000000):
 Calls Tryz.prog 142 #[(a,p.length,c),(a',q.length,c')] W (r_n W (fX p q)):=by
 have HS:=a6 (e_j q p a' a c' c B W i hr);have hx:fX p q=if cZ q p=0 then p else fJ p (q.length - 1) 1:=rfl
 have hk:cZ q p≠0 ->q.length - 1 < p.length/\0 < q.length:=fun h=>e_k h
 have HC:=a6 (fun(w1:World) (h:pY W w1)=>pZ B p.length a c _ w1 (D6 hr h) (by have:=(h.below W).size;omega) P2);have f:=a6 (fun(w1:World) (h:pY W w1) (hk:q.length - 1 < p.length)=>g_P p (q.length - 1) 1 a c B w1 (D6 hr h) (by have:=(h.below W).size;omega) hn hk (by
  have hm:p.getD (q.length - 1) 0∈p:=by rw [gK hk];exact NY hk
  have:=hw _ hm;omega))
 generalize cZ q p=s at HS hx hk;clear hr i hw;by_cases hs:s=0
 . subst hs
   rw [if_pos rfl]at hx;rw [hx];clear hx hk f;go_enter Tryz.func142,Tryz.ntmps142;go_wp2_with fail;refine HS.o.mono ?_;rintro e w1 ⟨rfl,hd⟩;have g:=a6 (HC.o w1 hd)
   have Hd:=a6 hd;clear HS HC hd;go_wp2_with fail;refine g.o.mono ?_;rintro e w2 ⟨v,rfl,b,d⟩;have Hb:=a6 ((Hd.o.below W).trans (d.mono (Hd.o.below W).size))
   have Ho:=a6 (q9 b (Hd.o.below W).size);clear g b d;go_wp2_with fail;go_ret;exact⟨_,rfl,Ho.o,Hb.o⟩
 rw [if_neg hs]at hx;rw [hx];obtain⟨j,n⟩:=hk hs;have hb:((s:Int) == 0)=false:=by simpa using hs
 have k:((q.length:Int) - 1)=((q.length - 1:Nat):Int):=P2
 generalize fJ p (q.length - 1) 1=S at f⊢;generalize q.length - 1=m at f k j;have o:=a6 k;clear hx hs hk HC;go_enter Tryz.func142,Tryz.ntmps142;go_wp2_with fail;refine HS.o.mono ?_;rintro e w1 ⟨rfl,hd⟩;have g:=a6 (f.o w1 hd j)
 have Hd:=a6 hd;clear HS f hd;go_wp2_with fail;refine g.o.mono ?_;rintro e w2 ⟨v,rfl,b,d⟩;have Hb:=a6 ((Hd.o.below W).trans (d.mono (Hd.o.below W).size))
 have Ho:=a6 (q9 b (Hd.o.below W).size);clear g b d;go_wp2_with fail;go_ret;exact⟨_,rfl,Ho.o,Hb.o⟩
end Go.Proofs.YtmadpclcmjahoaaGreatDoor
