/- Parts of the proof: CC30. -/
import Derived.Test.YtmadpclcmjahoaaGreatDoorCC29
import Derived.ProofKit
import Derived.LaidMore
import Derived.ChangeOld
import Derived.Below
import Derived.Stop.Joined
import Derived.Deep.DeepHandedRow
import Derived.Deep.DeepWitnessRowRef
import Derived.JoinedCond
set_option linter.unusedVariables false
set_option linter.unusedSimpArgs false
set_option maxHeartbeats 8000000
set_option maxRecDepth 100000
namespace Go.Proofs.YtmadpclcmjahoaaGreatDoor
open Go.RowKit Go.Redl
theorem l_u (s:b5) (B:Int) (hB:∀r:bK,mQ s r <= B):∀ (l:List bK) (m:Int),m <= B ->l.foldl (fun m r=>max m (mQ s r)) m <= B
 | [],m,h=>h
 | r::l,m,h=>l_u s B hB l _ (by show max m (mQ s r) <= B;have:=hB r;omega)
theorem g_o (s:b5) (r:bK):mQ s r <= s.rules.length+2:=by
 have:=i_C s (s.rules.length+2) [] r 0;unfold mQ;omega
theorem i_X (s:b5):(oX s).1 <= s.rules.length+2:=by
 unfold oX;split
 . show (0:Int) <= _;omega
 exact l_u s _ (g_o s) _ 0 P2
theorem r_6 (s:b5) (v:Value) (W:World) (hw:s.wt <= 100000000) (hv:SchemaV W W s v):
 Calls Tryz.prog 87 #[v] W fun e w'=>e= .returned (.tuple #[(oX s).1,(oX s).2])/\Below W W w':=by
 have Hv:=a6 (fun(w':World) (hb:Below W W w')=>hv.keep hb hb.size);have H1:=a6 (fun(w':World) (hb:Below W W w')=>hv.keep hb (a8));obtain⟨sa,sc,css,ea,ec,o0,o1,o2,o3,o4,o5,rfl, -, -, -, -⟩:=hv.open;have H:=a6 hw;have H8:=a6 (g_o s);have H9:s.rules.length <= 100000000:=SK
 obtain⟨R1,I⟩:∃R1,R1=(oX s).1:=⟨_,rfl⟩;obtain⟨R2,J⟩:∃R2,R2=(oX s).2:=⟨_,rfl⟩;have HR:=a6 (show (if eJ s≠0 then ((0:Int),eJ s) else ((rJ s).foldl (fun m r=>max m (mQ s r)) 0,0))=(R1,R2)by rw [I,J];rfl);rw [<- I, <- J];obtain⟨w0,t⟩:∃w0,w0=W.alloc (Obj.cells #[(sa,s.rules.length,sc),aZ s.els.type,s.els.text.1,aZ s.els.text.2,s.els.other.1,aZ s.els.other.2,(ea,s.els.kids.length,ec),s.els.fill,aZ s.els.fillT,o0,o1,o2,o3,o4,o5,s.cap] 30):=⟨_,rfl⟩;have K:Below W W w0:=by rw [t];exact b7 _ _
 have hA:At w0 W [(sa,s.rules.length,sc),aZ s.els.type,s.els.text.1,aZ s.els.text.2,s.els.other.1,aZ s.els.other.2,(ea,s.els.kids.length,ec),s.els.fill,aZ s.els.fillT,o0,o1,o2,o3,o4,o5,s.cap] 30:=by rw [t];exact At.fresh W _ _
 have u:=fun(w':World) (h:At w' W [(sa,s.rules.length,sc),aZ s.els.type,s.els.text.1,aZ s.els.text.2,s.els.other.1,aZ s.els.other.2,(ea,s.els.kids.length,ec),s.els.fill,aZ s.els.fillT,o0,o1,o2,o3,o4,o5,s.cap] 30)=>E1 (P:=Tryz.prog) h Tryz.underlying30 rfl P3
 simp [go_sem]at u
 have S:=a6 u;have T:=u w0 hA;have HC:=a6 (i_K s _ w0 hw (Hv.o w0 K));have U:=a6 t;have V:=a6 K;have HA:=a6 hA
 have xl:=hA.lt;clear hv hw t K hA u I J;go_enter Tryz.func87,Tryz.ntmps87;go_upto_region 1 with fail;rw [<- U.o];clear U;obtain⟨C,hC⟩:∃C,C=eJ s:=⟨_,rfl⟩;rw [<- hC]at HC HR;clear hC;go_wp2_with fail;refine HC.o.mono ?_;rintro e w1 ⟨rfl,a⟩;have n:=a6 (V.o.trans (a.mono V.o.size))
 have L:=a6 (HA.o.kept a);have x:=S.o w1 L.o;have xl1:=L.o.lt;have X:=a6 (c_b s _ W w1 H.o (H1.o w1 n.o) n.o.size);clear a HC T xl;by_cases M:C=0
 . subst M
   have j:=a6 (show (rJ s).foldl (fun m r=>max m (mQ s r)) 0=R1/\(0:Int)=R2 by have h:=HR.o;rw [if_neg P6]at h;injection h with h1 h2;exact⟨h1,h2⟩);clear HR;go_wp2_with fail;refine X.o.mono ?_;rintro e w2 ⟨ra,rc,css2,rfl,y,A,a⟩;have H2:(rJ s).length <= 100000000:=by have h1:=mX s.rules;have h2:=H.o;unfold b5.wt bK.wt at h2;rw [c_a];omega
   have o:=a6 (n.o.trans (a.mono n.o.size));have H3:=a6 (L.o.kept a);have B:=a6 y.row;have D:=a6 A
   obtain⟨rs,N⟩:∃rs,rs=rJ s:=⟨_,rfl⟩;have H4:=a6 N;rw [<- N]at B D H2 j⊢;clear y A a X x N xl1;go_wp2_with fail
   go_loopg [16,5] rs.length (fun g i m wr=>∃ (k:Nat) (z:Int),i= .int .i64 k/\m= .int .i64 z/\k+g=rs.length/\Hid ((rs.drop k).foldl (fun m r=>max m (mQ s r)) z=R1)/\Hid (Below w2 w2 wr))
   case atStart=>exact⟨0,0,rfl,rfl,by omega,j.o.1,(show Below _ _ _ from a7)⟩
   case round=>
    obtain⟨k,z,rfl,rfl,hg,w,l⟩:=hrel;have H5:=a6 (o.o.trans (l.o.mono o.o.size))
    by_cases O:k < rs.length
    . have H7:(k:Int) < rs.length:=P2
      obtain⟨b,off,qa,qc,rfl,H6, -,p0,p1,p2,p3,p4,p5,p6,p7⟩:=h_d (B.o.keep l.o l.o.size) (i9.keep (l.o.mono o.o.size) (a8) D.o) k O;have Y:=a6 (show rs[k]∈rJ s by rw [<- H4.o];exact NY O);have Q:=a6 (show (rs.drop (k+1)).foldl (fun m r=>max m (mQ s r)) (max z (mQ s rs[k]))=R1 by
       have h:=w.o;rw [NX O,List.foldl_cons]at h;exact h)
      generalize rs[k]=q at p0 p1 p2 p3 p4 p5 p6 p7 Y Q;obtain⟨w10,c⟩:∃w10,w10=wr.alloc (Obj.cells #[aZ q.type,q.text.1,aZ q.text.2,q.other.1,aZ q.other.2,(qa,q.kids.length,qc),q.fill,aZ q.fillT] 27):=⟨_,rfl⟩;have E:Below wr wr w10:=WV
      have hX:At w10 wr [aZ q.type,q.text.1,aZ q.text.2,q.other.1,aZ q.other.2,(qa,q.kids.length,qc),q.fill,aZ q.fillT] 27:=by rw [c];exact At.fresh wr _ _
      have p:=E1 (P:=Tryz.prog) hX Tryz.underlying27 rfl P3
      simp [go_sem]at p
      have f:=l.o.trans (E.mono l.o.size);have R:=S.o w10 (H3.o.kept f);have F:=a6 c;have G:=a6 f;have Z:=o.o.trans (f.mono o.o.size);have HD:=a6 (l_i s _ q qa qc w10 H.o (Hv.o w10 Z) Y.o);have h0:=hX.lt;clear c E hX f Z H6 w;go_upto_region 8 with fail
      rw [<- F.o];clear F p0 p1 p2 p3 p4 p5 p6 p7;obtain⟨d,hd⟩:∃d,d=mQ s q:=⟨_,rfl⟩;rw [<- hd]at HD Q;clear hd;go_wp2_with fail;refine HD.o.mono ?_;rintro e w12 ⟨rfl,a⟩;have H0:=a6 (G.o.trans (a.mono G.o.size))
      clear a HD R p;go_wp2_with fail
      go_roundg (rs.length - (k+1))
      case measure=>omega
      case rel=>exact⟨k+1,max z d,by go_num,by first | rfl | simp,by omega,Q,H0⟩
    obtain rfl:k=rs.length:=P2
    have Hz:=a6 (show z=R1 by have h:=w.o;rw [List.drop_length]at h;exact h);clear w;go_wp2_with fail;go_ret2;rw [Hz.o, <- j.o.2];exact⟨rfl,H5.o⟩
 have h3:(C != 0)=true:=by simp [M]
 have j:=a6 (show (0:Int)=R1/\C=R2 by have h:=HR.o;rw [if_pos M]at h;injection h with h1 h2;exact⟨h1,h2⟩);clear HR x;go_wp2_with fail;go_ret2;rw [<- j.o.1, <- j.o.2];exact⟨rfl,n.o⟩
def JJ (s:b5) (n:aX) (L:List (List Int)):Int×Int:=if (oX s).2≠0 then (0,(oX s).2) else ((M3 n L:Int) * (4+2 * (oX s).1),0)
theorem s_c {n:aX} (hw:n.wt <= 1048576) (L:List (List Int)):M3 n L <= 1048576:=aJ (m_U hw L) (aJ (r_0 hw) hw)
theorem n_6 {a b:Int} (ha:0 <= a) (c:a <= 1048576) (hb:0 <= b) (d:b <= 2200000):0 <= a * b/\a * b <= 2306867200000:=by
 refine⟨Int.mul_nonneg ha hb, ?_⟩;have h1:a * b <= 1048576 * b:=Int.mul_le_mul_of_nonneg_right c hb
 omega
theorem r_7 (s:b5) (n:aX) (u v:Value) (vx:Value) (xs:List PX) (W:World) (hs:s.wt <= 1048576) (hn:n.wt <= 1048576) (J:xs.length <= 1048576) (p:∀x∈xs,x.1.length <= 100000000) (hu:SchemaV W W s u) (hv:bY W W n v) (hx:u_7 W W vx xs):
 Calls Tryz.prog 29 #[u,v,vx] W fun e w'=>e= .returned (.tuple #[(JJ s n (iV xs)).1,(JJ s n (iV xs)).2])/\Below W W w':=by
 have q:=hu;have r:=hv
 obtain⟨l,ps,t,ks⟩:=n;obtain⟨a,c,css,ea,ec,o0,o1,o2,o3,o4,o5,rfl, -, -, -, -⟩:=q.open;obtain⟨ap,cp,at_,ct,ak,ck,cs4,rfl, -, -, -, -⟩:=r.open;generalize aX.mk l ps t ks=n at hn hv⊢;obtain⟨xa,xc,rfl, -⟩:=hx.row;obtain⟨w0,f⟩:∃w0,w0=(W.alloc (Obj.cells #[(a,s.rules.length,c),aZ s.els.type,s.els.text.1,aZ s.els.text.2,s.els.other.1,aZ s.els.other.2,(ea,s.els.kids.length,ec),s.els.fill,aZ s.els.fillT,o0,o1,o2,o3,o4,o5,s.cap] 30)).alloc (Obj.cells #[l,(ap,ps.length,cp),(at_,t.length,ct),(ak,ks.length,ck)] 35):=⟨_,rfl⟩;have g:Below W W w0:=t_B
 have hA:At w0 W [(a,s.rules.length,c),aZ s.els.type,s.els.text.1,aZ s.els.text.2,s.els.other.1,aZ s.els.other.2,(ea,s.els.kids.length,ec),s.els.fill,aZ s.els.fillT,o0,o1,o2,o3,o4,o5,s.cap] 30:=YJ
 have hN:At w0 (W+1) [l,(ap,ps.length,cp),(at_,t.length,ct),(ak,ks.length,ck)] 35:=s_Q
 have w:=E1 (P:=Tryz.prog) hA Tryz.underlying30 rfl P3
 simp [go_sem]at w
 have HF:=a6 (r_6 s _ w0 P2 (hu.keep g g.size));have j:=a6 (fun(w':World) (hb:Below W W w')=>i_f n _ W _ xs w' P2 (hv.keep hb (a8)) hb.size (hx.keep hb (a8)) P2 p);have i:=a6 (s_c hn (iV xs));have k:=a6 (i_q s);have m:=a6 (show (oX s).1 <= 1048580 by have h1:=i_X s;have h2:=mX s.rules;unfold b5.wt at hs;omega)
 have y:=a6 f;have A:=a6 g;have HN:=a6 hN
 have d:=a6 (show JJ s n (iV xs)=if (oX s).2≠0 then (0,(oX s).2) else ((M3 n (iV xs):Int) * (4+2 * (oX s).1),0)from rfl);obtain⟨BD,B⟩:∃BD,BD=JJ s n (iV xs):=⟨_,rfl⟩;rw [<- B]at d⊢;obtain⟨RG,C⟩:∃RG,RG=M3 n (iV xs):=⟨_,rfl⟩;rw [<- C]at j i d;obtain⟨⟨F1,F2⟩,D⟩:∃z,oX s=z:=⟨_,rfl⟩;rw [D]at HF k m d;simp only at HF k m d;have xl:=hN.lt
 clear hu hv q r hs hn g f hA hN hx p C B D;go_enter Tryz.func29,Tryz.ntmps29;go_upto_region 1 with fail;rw [<- y.o];clear y;go_wp2_with fail;refine HF.o.mono ?_;rintro e w1 ⟨rfl,b⟩;have h:=a6 (A.o.trans (b.mono A.o.size))
 obtain⟨⟨y0,y1,y2,y3⟩, -,yl⟩:=(HN.o.kept b).f4;have o:=a6 (j.o w1 h.o);clear b HF j w;by_cases h0:F2=0
 . subst h0
   have Hz:=a6 (show BD=((RG:Int) * (4+2 * F1),0)by rw [d.o,if_neg P6]);go_wp2_with fail;refine o.o.mono ?_;rintro e w2 ⟨rfl,b⟩;have G:=a6 (h.o.trans (b.mono h.o.size))
   have H:=k.o;have I:=m.o;have E:=i.o
   have hr0:(0:Int) <= RG:=P2
   have F:(RG:Int) <= 1048576:=P2
   have hm:=n_6 hr0 F (show (0:Int) <= 4+2 * F1 by omega) P2;have e1:IntKind.i64.wrap (2 * F1)=2 * F1:=IntWalk.i64_in _ P2;have e2:IntKind.i64.wrap (4+2 * F1)=4+2 * F1:=IntWalk.i64_in _ P2;have e3:IntKind.i64.wrap ((RG:Int) * (4+2 * F1))=(RG:Int) * (4+2 * F1):=IntWalk.i64_in _ P2;clear b o y0 y1 y2 y3 H I E hr0 F hm;go_wp2_with fail;go_ret2;rw [Hz.o];exact⟨rfl,G.o⟩
 have Hz:=a6 (show BD=(0,F2)by rw [d.o,if_pos h0]);clear o y0 y1 y2 y3;go_wp2_with fail;go_ret2;rw [Hz.o];exact⟨rfl,h.o⟩
theorem MQ {x:Int} (h1: -9000000000000000000 <= x) (h2:x <= 9000000000000000000):wrap64 x=x:=by unfold wrap64;omega
theorem p_s {z:Int} {p:yY} (h0:0 <= z) (h1:z <= 8000000000000000000) (hp:p.1.length+p.2.2.length <= 10000000):z <= b_W z p/\b_W z p <= z+200000:=by
 have ht:((p.1.length:Int)+(p.2.2.length:Int)).tdiv 64=((p.1.length:Int)+(p.2.2.length:Int)) / 64:=Int.tdiv_eq_ediv_of_nonneg P2;have e:b_W z p=z+((p.1.length:Int)+(p.2.2.length:Int)) / 64:=by
  unfold b_W;rw [MQ (x:=(p.1.length:Int)+(p.2.2.length:Int)) P2 P2,ht,MQ (x:=((p.1.length:Int)+(p.2.2.length:Int)) / 64) P2 P2,MQ P2 P2]
 rw [e];omega
theorem i_Y:∀ (l:List yY) (z:Int),0 <= z ->z+200000 * (l.length:Int) <= 8000000000000000000 ->(∀p∈l,p.1.length+p.2.2.length <= 10000000) ->z <= l.foldl b_W z/\l.foldl b_W z <= z+200000 * (l.length:Int)
 | [],z,h0,h1,h=>by simp
 | p::l,z,h0,h1,h=>by
   simp only [O7,List.foldl_cons]at h1⊢;obtain⟨a,b⟩:=p_s h0 P2 (h p P6);obtain⟨c,d⟩:=i_Y l (b_W z p) P2 P2 (fun q hq=>h q (List.mem_cons_of_mem _ hq))
   omega
theorem p_t {y:Int} {q:bK} (h0:0 <= y) (h1:y <= 4000000000000000000) (hq:q.wt <= 1048576):y+1 <= a_U y q/\a_U y q <= y+300000000000:=by
 have hk:=N8 q.kids;unfold bK.wt at hq;have ht:((q.type.length:Int)+(q.text.2.length:Int)+(q.other.2.length:Int)+(q.fillT.length:Int)).tdiv 64=((q.type.length:Int)+(q.text.2.length:Int)+(q.other.2.length:Int)+(q.fillT.length:Int)) / 64:=Int.tdiv_eq_ediv_of_nonneg P2
 have e:l_a y q=y+(1+(q.kids.length:Int)+((q.type.length:Int)+(q.text.2.length:Int)+(q.other.2.length:Int)+(q.fillT.length:Int)) / 64):=by
  unfold l_a;rw [MQ (x:=(q.type.length:Int)+(q.text.2.length:Int)) P2 P2,MQ (x:=(q.type.length:Int)+(q.text.2.length:Int)+(q.other.2.length:Int)) P2 P2,
   MQ (x:=(q.type.length:Int)+(q.text.2.length:Int)+(q.other.2.length:Int)+(q.fillT.length:Int)) P2 P2,ht,
   MQ (x:=((q.type.length:Int)+(q.text.2.length:Int)+(q.other.2.length:Int)+(q.fillT.length:Int)) / 64) P2 P2,
   MQ (x:=1+(q.kids.length:Int)+((q.type.length:Int)+(q.text.2.length:Int)+(q.other.2.length:Int)+(q.fillT.length:Int)) / 64) P2 P2,MQ P2 P2]
 obtain⟨a,b⟩:=i_Y q.kids (l_a y q) (by rw [e];omega) (by rw [e];omega) (fun p hp=>by have:=N9 hp;omega);unfold a_U;rw [e]at a b⊢;omega
theorem i_Z:∀ (l:List bK) (y:Int),0 <= y ->y+300000000000 * (l.length:Int) <= 4000000000000000000 ->(∀q∈l,q.wt <= 1048576) ->y+(l.length:Int) <= l.foldl a_U y
 | [],y,h0,h1,h=>by simp
 | q::l,y,h0,h1,h=>by
   simp only [O7,List.foldl_cons]at h1⊢;obtain⟨a,b⟩:=p_t h0 P2 (h q P6);have:=i_Z l (a_U y q) P2 P2 (fun q hq=>h q (List.mem_cons_of_mem _ hq))
   omega
theorem n_7 {s:b5} (hw:s.wt <= 1048576) (h:J7 (s.rules ++ [s.els])=true):s.rules.length <= 79:=by
 unfold J7 at h;have h:=of_decide_eq_true h
 have hl:=mX s.rules;unfold b5.wt at hw;have h2:=i_Z (s.rules ++ [s.els]) 0 P2 P8 (fun q hq=>by
  rcases OQ hq with hq | hq
  . have:=E7 hq;omega
  rw [O9 hq];omega)
 simp at h2 h
 omega
mutual
theorem f_a:∀ (n:aX) (m:Int),0 <= vZ n m ->(DV n:Int)+vZ n m <= m
 | .mk l ps t ks,m,h=>by
   unfold vZ at h⊢;split
   . rename_i h0;rw [if_pos h0]at h;omega
   rename_i h0
   rw [if_neg h0]at h;have:=d_u ks _ h
   rw [DV];omega
theorem d_u:∀ (ks:List aX) (m:Int),0 <= wK ks m ->(F5 ks:Int)+wK ks m <= m
 | [],m,h=>by unfold wK F5;omega
 | k::ks,m,h=>by
   unfold wK at h⊢;split
   . rename_i h0;rw [if_pos h0]at h;omega
   rename_i h0
   rw [if_neg h0]at h;have h1:=d_u ks _ h
   have h2:=f_a k m P2;rw [F5];omega
end
theorem n_8 {n:aX} {m:Nat} (h:F4 n m=true):DV n <= m:=by
 unfold F4 at h;have h:=of_decide_eq_true h
 have:=f_a n m h
 omega
mutual
theorem p_u:∀T:MT,f_5 T <= DV T.bare
 | .mk m l ps t ks=>by
   rw [f_5];split
   . exact a8
   have:=l_v ks;rw [MT.bare,DV];omega
theorem l_v:∀ks:List MT,f_6 ks <= F5 (MT.bares ks)
 | []=>by rw [f_6,MT.bares,F5];exact a8
 | k::ks=>by
   have h1:=p_u k;have h2:=l_v ks;rw [f_6,MT.bares,F5];omega
end
theorem G1 {s:b5} {n:aX} (hw:s.wt <= 1048576) (h1:J7 (s.rules ++ [s.els])=true) (h2:F4 n 50=true) (hs:eJ s=0) (L:List (List Int)):n.wt+40 * muT s (MT.on L n) <= 399000:=by
 have hr:=n_7 hw h1;have hf:=i_X s;have hn:DV n <= 50:=n_8 (m:=50) h2;have hc:=p_u (MT.on L n);rw [mZ]at hc;have hm:=k_B hs (MT.on L n)
 have b:=e_s h2;have a:KV s <= 166:=by unfold KV o_I;omega
 have hx:KV s * f_5 (MT.on L n) <= 166 * 50:=Nat.mul_le_mul a P2
 omega
theorem p_v {s:b5} {picks:List Int} {T A:MT} {ops:List fZ} (h:wX s picks 0 T A 0 ops):∀q,T.mk? q=false:=by
 cases h with
 | done h=>exact h
 | step hL hp r=>have:=c_P r;omega
theorem n_9 {s:b5} {n:aX} {L:List (List Int)} {picks:List Int} {A:MT} {m:Nat} {ops:List fZ} (hw:n.wt <= 1048576) (hs:eJ s=0) (hr:wX s picks 0 (MT.on L n) A m ops) (hm:m <= muT s (MT.on L n)):
 (JJ s n L).2=0/\(m:Int) <= (JJ s n L).1/\((m:Int)=0 ↔ (JJ s n L).1=0):=by
 have hc:=k_B hs (MT.on L n);rw [<- l_t hw]at hc;have b:=i_q s
 have a:(oX s).2=0:=by unfold oX;rw [if_neg (by simp [hs])]
 have hb:JJ s n L=((M3 n L:Int) * (4+2 * (oX s).1),0):=by
  unfold JJ;rw [if_neg (by simp [a])]
 have he:((KV s * M3 n L:Nat):Int)=(M3 n L:Int) * (4+2 * (oX s).1):=by
  unfold KV o_I;rw [Int.natCast_mul,Int.mul_comm];congr 1
  omega
 rw [hb];refine⟨rfl, ?_, ?_, ?_⟩
 . show (m:Int) <= (M3 n L:Int) * (4+2 * (oX s).1)
   omega
 . intro h0
   obtain rfl:m=0:=P2
   have hz:=i_U _ (p_v hr);rw [<- l_t hw]at hz;show (M3 n L:Int) * (4+2 * (oX s).1)=0;rw [hz];simp
 intro h0;have h0:(M3 n L:Int) * (4+2 * (oX s).1)=0:=h0
 omega
open Go.ChangeShapes Go.WideShapes Go.ChangeAt Go.WideMaps Go.WideElems Go.Deep
theorem own:ownKnob Tryz.prog.godebug=none:=P3
theorem wQ:laidOutB Tryz.prog=true:=P3
def IntΦ {H:Type} (z:Int) (cs:List Value) (d:DataW H):Prop:=cs= [.int .i64 z]/\1 <= Rows.uptoBulk d
theorem f_b {H:Type}:∀ {l:List Int} {css:List Value} {ds:List (DataW H)},I3 IntΦ l css ds ->css=l.map (Value.int .i64)/\l.length <= Rows.uptoBulkAll ds
 | [],css,ds,h=>by obtain⟨rfl,rfl⟩:=h;exact⟨rfl,by simp⟩
 | z::l,css,ds,h=>by
   obtain⟨c,cs,d,ds',rfl,rfl,⟨rfl,hb⟩,hr⟩:=h;obtain⟨rfl,h3⟩:=f_b hr;exact⟨rfl,by simp only [O7,Rows.uptoBulkAll];omega⟩
theorem C4 {H:Type} {enc:TypeId×Value ->H} {W:World} {fuel:Nat} {cs:List Value} {x:DataW H×List MemPlace} (h:DataW.trod enc Tryz.prog W 0 (fun _=>true) true fuel 36 cs=some x):
 ∃a cap zs,cs= [.slice a (List.length zs) cap]/\RowA W W 1 a (List.length zs) cap (zs.map (Value.int .i64))/\zs.length+1 <= Rows.uptoBulk x.1:=by
 obtain⟨a,cap,ys,css,ds,rfl,hr,b,hs⟩:=wY IntΦ Tryz.underlying36 (show Tryz.prog.cellsOf 3=1 by kernel_rfl) P9
  (fun m cs x _ hx=>by
    obtain⟨xv,xp⟩:=x;obtain⟨z,e0,e1, -⟩:=DataW.trod_int Tryz.underlying3 hx;have e2:=(Prod.mk.inj e1).1;subst e2;exact⟨z,e0,by simp [Rows.uptoBulk]⟩) (fun y c d hh=>by obtain⟨rfl, -⟩:=hh;intro u hu;simp at hu;subst hu;rfl) h
 obtain⟨rfl,hlen⟩:=f_b b;have m0:=A4 (n:=0) (hs.imp (fun h=>⟨h.1,rfl,h.2.2⟩) id);exact⟨a,cap,ys,rfl,hr,by omega⟩
theorem d_J {a b:Bool} (h:a=true) (k:b=true):(a && b)=true:=by rw [h,k];rfl
def PathΦ {H:Type} (W:World) (x:PX) (cs:List Value) (d:DataW H):Prop:=cs= [C5 x]/\RowA W W 1 x.2.1 x.1.length x.2.2 (x.1.map (Value.int .i64))/\x.1.length+1 <= Rows.uptoBulk d
theorem j_0 {H:Type} {W:World}:∀ {l:List PX} {css:List Value} {ds:List (DataW H)},I3 (PathΦ W) l css ds ->css=l.map C5/\(∀x∈l,RowA W W 1 x.2.1 x.1.length x.2.2 (x.1.map (Value.int .i64)))/\l.length <= Rows.uptoBulkAll ds
 | [],css,ds,h=>by obtain⟨rfl,rfl⟩:=h;exact⟨rfl,by simp,by simp⟩
 | x::l,css,ds,h=>by
   obtain⟨c,cs,d,ds',rfl,rfl,⟨rfl,hr,hb⟩,ht⟩:=h;obtain⟨rfl,h2,h3⟩:=j_0 ht;refine⟨rfl,fun y hy=> ?_,by simp only [O7,Rows.uptoBulkAll];omega⟩;rcases OJ hy with rfl | hy
   . exact hr
   exact h2 y hy
theorem N3 {H:Type} {enc:TypeId×Value ->H} {W:World} {fuel:Nat} {cs:List Value} {x:DataW H×List MemPlace} (h:DataW.trod enc Tryz.prog W 0 (fun _=>true) true fuel 47 cs=some x):
 ∃a cap xs,cs= [.slice a (List.length xs) cap]/\u_7 W W (.slice a (List.length xs) cap) xs/\xs.length+1 <= Rows.uptoBulk x.1:=by
 obtain⟨a,cap,ys,css,ds,rfl,hr,e,hs⟩:=wY (PathΦ W) Tryz.underlying47 (show Tryz.prog.cellsOf 36=1 by kernel_rfl) P9
  (fun m cs x _ hx=>by
    obtain⟨pa,pc,zs,rfl,h1,h2⟩:=C4 hx;exact⟨(zs,pa,pc),rfl,h1,h2⟩) (fun y c d hh=>by obtain⟨rfl, -⟩:=hh;intro u hu;simp at hu;subst hu;rfl) h
 obtain⟨rfl,b,hlen⟩:=j_0 e;have m0:=A4 (n:=0) (hs.imp (fun h=>⟨h.1,rfl,h.2.2⟩) id);exact⟨a,cap,ys,rfl,⟨⟨a,cap,rfl,hr⟩,b⟩,by omega⟩
def tX (n:aX):List (List Int):=oY ((xQ n).filter (dX n))
theorem c_n {n:aX}:(tX n).length <= n.wt/\∀p∈tX n,p.length <= n.wt:=a_J (j8 _) (fun q hq=>(List.mem_filter.1 (m4.1 hq)).2)
def p_w (W:World) (s:b5) (n:aX) (e:Ending) (w':World):Prop:=
 Below W W w'/\(o8 s n≠0/\e= .returned (.tuple #[.agg #[false,(),(),()],(o8 s n)])∨
  o8 s n=0/\∃ (A:MT) (m:Nat) (ops:List fZ) (cs:List Value),wX s [] 0 (MT.on (tX n) n) A m ops/\e= .returned (.tuple #[.agg cs.toArray,OY])/\NodeQ w' (fun b=>W.heap.size <= b) A.bare cs)
def s_O (W:World) (s:b5) (n:aX) (L:List (List Int)) (picks:List Int) (E:Int) (x:List Value) (lv:Value) (k:Nat) (w':World):Prop:=
 Below W W w'/\E=o8 s n/\(o8 s n≠0/\x= [.bool false, .slice none 0 0, .slice none 0 0, .slice none 0 0]/\lv= .slice none 0 0/\k=0∨
  o8 s n=0/\∃ (A:MT) (ops:List fZ) (na:Option Addr) (nc:Nat),wX s picks 0 (MT.on L n) A k ops/\lv= .slice na ops.length nc/\NodeQ w' (fun b=>W.heap.size <= b) A.bare x)
theorem c_Q.alike {W w':World} {s:b5} {n:aX} {L:List (List Int)} {picks:List Int} {e:Ending} (h:c_Q W s n L picks e w'):
 ∃ (E:Int) (x0:Bool) (x1 x2 x3 na:Option Addr) (y1 y2 y3 z1 z2 z3 k nn nc:Nat),e= .returned (.tuple #[.agg #[x0,(x1,y1,z1),(x2,y2,z2),(x3,y3,z3)],(na,nn,nc),k,E])/\s_O W s n L picks E [x0,(x1,y1,z1),(x2,y2,z2),(x3,y3,z3)] (na,nn,nc) k w':=by
 obtain⟨hb,⟨h1,rfl⟩ | ⟨h1,A,m,ops,cs,na,nc,h2,rfl,h4⟩⟩:=h
 . exact⟨_,false,none,none,none,none,0,0,0,0,0,0,0,0,0,rfl,hb,rfl, .inl ⟨h1,rfl,rfl,rfl⟩⟩
 obtain⟨x0,x1,y1,z1,x2,y2,z2,x3,y3,z3,rfl⟩:=h4.form;exact⟨0,x0,x1,x2,x3,na,y1,y2,y3,z1,z2,z3,m,ops.length,nc,rfl,hb,h1.symm, .inr ⟨h1,A,ops,na,nc,h2,rfl,h4⟩⟩
theorem h_j {sn en:Nat} {Y1 Y3 Y5 Y7:ByteArray} {Y2 Y4 Y6 Y8:Int} (s:b5) (n:aX) (a ea:Option Addr) (c ec:Nat) (o0 o1 o2 o3 o4 o5:Int) (l:Bool) (b1 b2 b3:Option Addr) (m1 m2 m3 d1 d2 d3:Nat) (W:World) (hs:s.wt <= 1048576) (hn:n.wt <= 400000)
 (hu:SchemaV W W s (.agg #[(a,sn,c),Y1,Y2,Y3,Y4,Y5,(ea,en,ec),Y6,Y7,o0,o1,o2,o3,o4,o5,Y8])) (hv:bY W W n (.agg #[l,(b1,m1,d1),(b2,m2,d2),(b3,m3,d3)])) (z:o8 s n=0 ->a_w s n (tX n) []):
 Calls Tryz.prog 21 #[.agg #[(a,sn,c),Y1,Y2,Y3,Y4,Y5,(ea,en,ec),Y6,Y7,o0,o1,o2,o3,o4,o5,Y8], .agg #[l,(b1,m1,d1),(b2,m2,d2),(b3,m3,d3)]] W (p_w W s n):=by
 obtain⟨w0,i⟩:∃w0,w0=((W.alloc (Obj.cells #[(a,sn,c),Y1,Y2,Y3,Y4,Y5,(ea,en,ec),Y6,Y7,o0,o1,o2,o3,o4,o5,Y8] 30)).alloc (Obj.cells #[l,(b1,m1,d1),(b2,m2,d2),(b3,m3,d3)] 35)).alloc (Obj.cells #[false,(),(),()] 35):=⟨_,rfl⟩;have d:Below W W w0:=by rw [i];exact iK _ _ _ _
 have B:=a6 (show At w0 W [(a,sn,c),Y1,Y2,Y3,Y4,Y5,(ea,en,ec),Y6,Y7,o0,o1,o2,o3,o4,o5,Y8] 30 by rw [i];exact((At.fresh W _ _).alloc _).alloc _);have C:=a6 (show At w0 (W+1) [l,(b1,m1,d1),(b2,m2,d2),(b3,m3,d3)] 35 by rw [i];exact(At.second W _ _ _).alloc _);have D:=a6 (show At w0 (W.heap.size+1+1) [false,(),(),()] 35 by rw [i];exact At.third W _ _ _ _);have L:=a6 (show w0.heap.size=W.heap.size+3 by rw [i];simp);have t:=c_n (n:=n);have HA:=a6 (fun(w':World) (hb:Below w0 w0 w')=>(show Calls Tryz.prog 23 #[.agg #[l,(b1,m1,d1),(b2,m2,d2),(b3,m3,d3)]] w' (C8 w' (tX n))from e_u n _ w' w' P2 (hv.keep (d.trans (hb.mono d.size)) (d.trans (hb.mono d.size)).size) (a8)));have HR:=a6 (fun(w':World) (hb:Below w0 w0 w') (ya:Option Addr) (yc:Nat) (ys:List PX) (hx:u_7 w' w' (ya,ys.length,yc) ys) (hp:iV ys=tX n)=>(show Calls Tryz.prog 22 #[.agg #[(a,sn,c),Y1,Y2,Y3,Y4,Y5,(ea,en,ec),Y6,Y7,o0,o1,o2,o3,o4,o5,Y8], .agg #[l,(b1,m1,d1),(b2,m2,d2),(b3,m3,d3)],(ya,ys.length,yc),()] w' (c_Q w' s n (tX n) [])by
  have h:=b_r s n a ea c ec o0 o1 o2 o3 o4 o5 l b1 b2 b3 m1 m2 m3 d1 d2 d3 ya yc ys [] none 0 w' hs hn (hu.keep (d.trans (hb.mono d.size)) (d.trans (hb.mono d.size)).size) (hv.keep (d.trans (hb.mono d.size)) (d.trans (hb.mono d.size)).size) hx
   (by have h1:=t.1;rw [<- hp,iV,O6]at h1;omega) (fun x hx=>by have:=t.2 x.1 UK;omega) (RowA.empty _ _ _) P6 (by rw [hp];exact z)
  rw [hp]at h;exact h))
 have F:=a6 (fun(w':World) (hb:Below w0 w0 w')=>show At w' W [(a,sn,c),Y1,Y2,Y3,Y4,Y5,(ea,en,ec),Y6,Y7,o0,o1,o2,o3,o4,o5,Y8] 30/\At w' (W+1) [l,(b1,m1,d1),(b2,m2,d2),(b3,m3,d3)] 35 from And.intro (B.o.kept hb) (C.o.kept hb));have u:=fun(w':World) (h:At w' W [(a,sn,c),Y1,Y2,Y3,Y4,Y5,(ea,en,ec),Y6,Y7,o0,o1,o2,o3,o4,o5,Y8] 30)=>At.load (P:=Tryz.prog) h Tryz.underlying30 rfl P3
 simp [go_sem]at u
 have w:=fun(w':World) (h:At w' (W+1) [l,(b1,m1,d1),(b2,m2,d2),(b3,m3,d3)] 35)=>At.load (P:=Tryz.prog) h Tryz.underlying35 rfl P3
 simp [go_sem]at w
 have G:=a6 d;have H:=a6 i
 clear i d hu hv t z;go_enter Tryz.func21,Tryz.ntmps21;go_upto_region 1 with fail;rw [<- H.o];clear H;go_cut [6,9] (fun x y wx=>∃ (M:Nat) (E:Int) (x0:Bool) (x1 x2 x3:Option Addr) (y1 y2 y3 z1 z2 z3:Nat),x= .pointer M/\y= .int .i64 E/\Hid (At wx M [x0,(x1,y1,z1),(x2,y2,z2),(x3,y3,z3)] 35)/\Hid (E=o8 s n/\(o8 s n≠0/\([x0,(x1,y1,z1),(x2,y2,z2),(x3,y3,z3)]:List Value)= [.bool false, .slice none 0 0, .slice none 0 0, .slice none 0 0]∨o8 s n=0/\∃ (A:MT) (k:Nat) (ops:List fZ),wX s [] 0 (MT.on (tX n) n) A k ops/\NodeQ wx (fun b=>w0.heap.size <= b/\b≠M) A.bare [x0,(x1,y1,z1),(x2,y2,z2),(x3,y3,z3)]))/\Hid (Below w0 w0 wx)/\w0.heap.size <= M)
 case first=>
  go_region_held3 (fun w'=>At w' W [(a,sn,c),Y1,Y2,Y3,Y4,Y5,(ea,en,ec),Y6,Y7,o0,o1,o2,o3,o4,o5,Y8] 30/\At w' (W+1) [l,(b1,m1,d1),(b2,m2,d2),(b3,m3,d3)] 35) ((refine F.o _ ?_;((with_reducible (repeat (first | exact j.o | exact g.o | exact a7 | refine aK ?_ | refine aQ ?_ ?_ _ | refine aV ?_ ?_ _)) <;> (first | exact a8 | exact j.o.size | exact g.o.size | (have:=j.o.size;simp [World.setCell];omega) | (have:=g.o.size;simp [World.setCell];omega) | (simp <;> omega) | omega)))))
   (first
   | (refine bQ rfl 23 _ _ rfl P5 [.agg #[l,(b1,m1,d1),(b2,m2,d2),(b3,m3,d3)]] ?_ _ (HA.o _ P1) ?_
      . go_simp
      rintro e w5 ⟨vx,ys,rfl,o,I,f⟩;obtain⟨ma,mc,O⟩:=o.form;subst O;refine⟨_,rfl, ?_⟩;have g:=a6 (b6 (w0:=w0) P1 f);have Q:=a6 o;have R:=a6 I
      first
       | (refine At.lay (N:= ?_) (cs:= [false,(),(),()]) (T:=35) (At.kept ?_ f) ?_
          rotate_left
          . with_reducible (repeat (first | exact At.second _ _ _ _ | exact At.fresh _ _ _ | refine At.drew ?_ | refine At.alloc ?_ _))
          intro J)
       | skip
      clear f o I)
   | (refine bQ rfl 22 _ _ rfl P5 [.agg #[(a,sn,c),Y1,Y2,Y3,Y4,Y5,(ea,en,ec),Y6,Y7,o0,o1,o2,o3,o4,o5,Y8], .agg #[l,(b1,m1,d1),(b2,m2,d2),(b3,m3,d3)],(ma,ys.length,mc),()] ?_ _ (HR.o _ ?_ ma mc ys ?_ R.o) ?_
      . go_simp
      . (with_reducible (repeat (first | exact g.o | exact a7 | refine aK ?_ | refine aQ ?_ ?_ _ | refine aV ?_ ?_ _)) <;> (first | exact a8 | exact g.o.size | (have:=g.o.size;simp [World.setCell];omega) | (simp <;> omega) | omega))
      . exact(Q.o.below P1).read
      rintro e w6 K;obtain⟨E,x0,x1,x2,x3,na,y1,y2,y3,z1,z2,z3,k,nn,nc,rfl,p⟩:=c_Q.alike K;refine⟨_,rfl, ?_⟩;have j:=a6 (b6 (w0:=w0) S0 p.1);have S:=a6 p;have f:=p.1;have U:=a6 f.size;have V:=a6 g.o.size
      first
       | (refine At.lay (N:= ?_) (cs:= [false,(),(),()]) (T:=35) (At.kept ?_ f) ?_
          rotate_left
          . with_reducible (repeat (first | exact J.o | exact At.second _ _ _ _ | exact At.fresh _ _ _ | refine At.drew ?_ | refine At.alloc ?_ _))
          intro q)
       | skip
      first
       | (obtain⟨⟨r0,r1',r2',r3'⟩,rf,rl⟩:=q.o.f4)
       | skip
      clear p K f))
  all_goals
   clear w u;go_wp2_with fail
   go_meet
   case rel=>
    have X:=U.o;have H1:=V.o
    try simp at X
    first
     | (have H2:=J.o.lt)
     | skip
    refine⟨_,E,x0,x1,x2,x3,y1,y2,y3,z1,z2,z3,rfl,rfl,a6 ?_,a6 ?_,a6 ?_, ?_⟩
    . (repeat (first | with_reducible exact q.o | with_reducible exact q.o.s4 _ _ _ _ | with_reducible exact(q.o.alloc _).s4 _ _ _ _ | with_reducible exact At.second _ _ _ _ | with_reducible exact At.fresh _ _ _ | (with_reducible refine At.fresh2 ?_;(simp [World.setCell];done)) | with_reducible refine At.drew ?_ | with_reducible refine At.alloc ?_ _ | (with_reducible refine At.n4 ?_ ?_ _ _ _ _;rotate_left;(omega))))
    . obtain ⟨-,hE,h | ⟨h1,A,ops,na',nc',h2,h4,h5⟩⟩:=S.o
      . exact⟨hE, .inl ⟨h.1,h.2.1⟩⟩
      refine⟨hE, .inr ⟨h1,A,_,ops,h2, ?_⟩⟩
      (repeat (first | with_reducible refine lX ?_ P6 _ _ _ _ | with_reducible refine gY ?_ (b7 _ _)))
      refine NodeQ.keep (a8) (fun _ _ _=>rfl) (fun b hb H3=> ?_) _ _ h5
      try simp at hb
      exact⟨by omega,by omega⟩
    . (with_reducible (repeat (first | exact j.o | exact a7 | refine aK ?_ | refine aQ ?_ ?_ _ | refine aV ?_ ?_ _)) <;> (first | exact a8 | exact j.o.size | (have:=j.o.size;simp [World.setCell];omega) | (simp <;> omega) | omega))
    first | exact a8 | omega
 case rest=>
 obtain⟨M,E,x0,x1,x2,x3,y1,y2,y3,z1,z2,z3,rfl,rfl,Y,Z,hB,hM⟩:=hcut;obtain⟨⟨g0,g1,g2,g3⟩, -,gl⟩:=Y.o.f4;obtain⟨⟨r0,r1,r2,r3⟩,rf,rl⟩:=(D.o.kept hB.o).f4;have H0:=a6 (D.o.kept hB.o);have m:=a6 (G.o.trans (hB.o.mono G.o.size));clear u w HA HR F B C;go_wp2_with fail;obtain⟨⟨e0,e1,e2,e3⟩, -, -⟩:=At.f4 ((((H0.o.set 0 x0).set 1 (x1,y1,z1)).set 2 (x2,y2,z2)).set 3 (x3,y3,z3));refine bodyPost_ret (v:= .tuple #[.agg #[x0,(x1,y1,z1),(x2,y2,z2),(x3,y3,z3)],E]) (by simp [results,Tryz.results21,go_sem,e0,e1,e2,e3]) rfl ?_;obtain⟨hE,⟨h1,h2⟩ | ⟨h1,A,k,ops,h2,h3⟩⟩:=Z.o
 . injection h2 with i0 h2;injection h2 with i1 h2;injection h2 with i2 h2;injection h2 with i3 h2
   refine⟨by(with_reducible (repeat (first | exact m.o | exact a7 | refine aK ?_ | refine aQ ?_ ?_ _ | refine aV ?_ ?_ _)) <;> (first | exact a8 | exact m.o.size | (have:=m.o.size;simp [World.setCell];omega) | (simp <;> omega) | omega)), .inl ⟨h1, ?_⟩⟩;rw [hE,i0,i1,i2,i3]
 refine⟨by(with_reducible (repeat (first | exact m.o | exact a7 | refine aK ?_ | refine aQ ?_ ?_ _ | refine aV ?_ ?_ _)) <;> (first | exact a8 | exact m.o.size | (have:=m.o.size;simp [World.setCell];omega) | (simp <;> omega) | omega)), .inr ⟨h1,A,k,ops, [x0,(x1,y1,z1),(x2,y2,z2),(x3,y3,z3)],h2,by rw [hE,h1], ?_⟩⟩;have hq:=lX (NodeQ.keep (ok':=fun b=>W.heap.size+3 <= b) (a8) (fun _ _ _=>rfl) (fun b h _=>by have:=h.1;have:=L.o;omega) _ _ h3) (N:=W.heap.size+1+1) P2 x0 (x1,y1,z1) (x2,y2,z2) (x3,y3,z3);have r:∀w',NodeQ w' (fun b=>W.heap.size+3 <= b) A.bare [x0,(x1,y1,z1),(x2,y2,z2),(x3,y3,z3)] ->NodeQ w' (fun b=>W.heap.size <= b) A.bare [x0,(x1,y1,z1),(x2,y2,z2),(x3,y3,z3)]:=fun w' h=>NodeQ.keep (a8) (fun _ _ _=>rfl) (fun b h _=>by omega) _ _ h
 first
  | exact r _ hq
  | exact gY (r _ hq) (Below.drew (a7))
theorem n_a (W:World):Calls Tryz.prog 74 #[] W (s_6 W):=by
 go_enter Tryz.func74,Tryz.ntmps74
 go_wp2_with fail;obtain⟨w4,a⟩:∃w4,w4=(((W.alloc (Obj.cells (b_n (W.heap.size+1+1+1)).toArray 30)).alloc (Obj.cells #[Value.int IntKind.i64 1,Value.string ⟨#[]⟩] 24)).alloc (Obj.cells e_N.toArray 27)).alloc (Obj.cells e_N.toArray 27):=⟨_,rfl⟩;have hA:At w4 W (b_n (W.heap.size+1+1+1)) 30:=by rw [a];exact(((At.fresh _ _ _).alloc _).alloc _).alloc _
 have hD:At w4 (W.heap.size+1+1+1) e_N 27:=by
  rw [a];have h:=At.fresh (((W.alloc (Obj.cells (b_n (W.heap.size+1+1+1)).toArray 30)).alloc (Obj.cells #[Value.int IntKind.i64 1,Value.string ⟨#[]⟩] 24)).alloc (Obj.cells e_N.toArray 27)) e_N 27
  simpa using h
 have hb:Below W W w4:=by
  rw [a];exact(((a7).alloc (a8) _).alloc P6 _ |>.alloc P8 _).alloc P8 _
 have b:=run_loadVar_mid (P:=Tryz.prog) w4 W 0 30 (b_n (W.heap.size+1+1+1)) _ (fun j v hj=>by rw [O5];exact hA.cell j hj) Tryz.underlying30 rfl P3
 show bodyPost _ _ _ _ _ ((((W.alloc (Obj.cells (b_n (W.heap.size+1+1+1)).toArray 30)).alloc (Obj.cells #[Value.int IntKind.i64 1,Value.string ⟨#[]⟩] 24)).alloc (Obj.cells e_N.toArray 27)).alloc (Obj.cells e_N.toArray 27))
 rw [<- a];refine bodyPost_ret (v:= .agg (b_n (W.heap.size+1+1+1)).toArray) (by simp [results,Tryz.results74,asAddr,b]) rfl ⟨_,rfl,q_O hD,hb⟩
def f_c (T:MT):List (List Int):=oY ((xQ T.bare).filter T.mk?)
theorem k_I {T:MT} (hok:T.Ok):wV (f_c T) T:=by
 refine⟨j8 _,fun q=> ?_⟩;unfold f_c;rw [m4,List.mem_filter];exact⟨fun h=>h.2,fun h=>⟨EY (MT.Ok.elem q hok h),h⟩⟩
def r_8 (s:b5) (picks:List Int):Nat ->Nat ->MT ->Option (MT×Nat×List fZ)
 | 0,_,_=>none
 | f +1,k,T=>match (m5 (f_c T))[a_t picks k (m5 (f_c T)).length]? with
   | some p=>match r_8 s picks f (k+1) (T.look s p)with
     | some (A,m,ops)=>some (A,m,T.opsAt s p ++ ops)
     | none=>none
   | none=>if m5 (f_c T)= [] then some (T,k, []) else none
theorem j_1 {s:b5} (hs:eJ s=0) {picks:List Int}:∀ (f k:Nat) {T A:MT} {m:Nat} {ops:List fZ},T.Ok ->dQ T.bare=0 ->r_8 s picks f k T=some (A,m,ops) ->wX s picks k T A m ops
 | 0,k,T,A,m,ops,hok,hE,h=>by cases h
 | f + 1,k,T,A,m,ops,hok,hE,h=>by
   unfold r_8 at h;have hL:=k_I hok
   split at h
   . rename_i p hp
     split at h
     . rename_i A' m' ops' hr
       injection h with h
       injection h with e1 h
       injection h with e2 e3
       subst e1;subst e2;subst e3;exact .step hL hp (j_1 hs f (k+1) (c_h hs p hE hok) (qZ hs p hE) hr)
     cases h
   split at h
   . rename_i he
     injection h with h
     injection h with e1 h
     injection h with e2 e3
     subst e1;subst e2;subst e3;exact .done (f_3 hL he)
   cases h
def a_Z:aX:= .mk false [(E8, [100,111,99])] [] [.mk false [(E8, [112])] [] [.mk true [] [97] []]]
def p_x:MT:= .mk false false [(E8, [100,111,99])] [] [.mk false false [(E8, [112])] [] [.mk false true [] [97] []]]
theorem s_d:r_8 H0 [] 5 0 (MT.on [[]] c_9)=some (p_x,3,r_r):=P3
theorem f_d:wX H0 [] 0 (MT.on [[]] c_9) p_x 3 r_r:=j_1 P3 5 0 (i_S _ _) (by rw [mZ];kernel_rfl) s_d
theorem l_w:a_w H0 c_9 [[]] []:=⟨_,_,_,f_d,by decide+kernel,by decide,by decide⟩
theorem g_p:p_x.bare=a_Z:=P3
theorem j_2:tX c_9= [[]]:=P3
theorem j_3:o8 H0 c_9=0:=P3
theorem n_b (sv v:Value) (w:World) (hs:SchemaV w w H0 sv) (hv:bY w w c_9 v):
 Calls Tryz.prog 21 #[sv,v] w fun e w'=>∃ (x0:Bool) (x1 x2 x3:Option Addr) (y1 y2 y3 z1 z2 z3:Nat),e= .returned (.tuple #[.agg #[x0,(x1,y1,z1),(x2,y2,z2),(x3,y3,z3)],OY])/\NodeQ w' (fun b=>w.heap.size <= b) a_Z [x0,(x1,y1,z1),(x2,y2,z2),(x3,y3,z3)]/\Below w w w':=by
 have d:=hs;obtain⟨csn,rfl,hc⟩:=hv;obtain⟨l,b1,m1,d1,b2,m2,d2,b3,m3,d3,rfl⟩:=hc.form;obtain⟨a,c,css,ea,ec,o0,o1,o2,o3,o4,o5,rfl, -, -, -, -⟩:=d.open;have h:=h_j H0 c_9 a ea c ec o0 o1 o2 o3 o4 o5 l b1 b2 b3 m1 m2 m3 d1 d2 d3 w P9 P9 hs ⟨_,rfl,hc⟩ (fun _=>by rw [j_2];exact l_w);refine h.mono ?_;rintro e w' ⟨hb,⟨h1, -⟩ | ⟨h1,A,m,ops,cs,h2,rfl,h3⟩⟩
 . exact absurd j_3 h1
 rw [j_2]at h2;obtain⟨rfl,rfl,rfl⟩:=c_j f_d h2;rw [g_p]at h3;obtain⟨x0,x1,y1,z1,x2,y2,z2,x3,y3,z3,rfl⟩:=h3.form;exact⟨x0,x1,x2,x3,y1,y2,y3,z1,z2,z3,rfl,h3,hb⟩
theorem n_c (sv v:Value) (xa:Option Addr) (xc:Nat) (xs:List PX) (w:World) (hs:SchemaV w w H0 sv) (hv:bY w w c_9 v) (hx:u_7 w w (xa,xs.length,xc) xs) (hp:iV xs= [[]]):
 Calls Tryz.prog 22 #[sv,v,(xa,xs.length,xc),()] w fun e w'=>∃ (x0:Bool) (x1 x2 x3 na:Option Addr) (y1 y2 y3 z1 z2 z3 nc:Nat),e= .returned (.tuple #[.agg #[x0,(x1,y1,z1),(x2,y2,z2),(x3,y3,z3)], .slice na 2 nc, .int .i64 3,OY])/\NodeQ w' (fun b=>w.heap.size <= b) a_Z [x0,(x1,y1,z1),(x2,y2,z2),(x3,y3,z3)]/\Below w w w':=by
 have d:=hs;obtain⟨csn,rfl,hc⟩:=hv;obtain⟨l,b1,m1,d1,b2,m2,d2,b3,m3,d3,rfl⟩:=hc.form;obtain⟨a,c,css,ea,ec,o0,o1,o2,o3,o4,o5,rfl, -, -, -, -⟩:=d.open;have hl:xs.length=1:=by have h:=congrArg List.length hp;rw [iV,O6]at h;exact h
 have h:=b_r H0 c_9 a ea c ec o0 o1 o2 o3 o4 o5 l b1 b2 b3 m1 m2 m3 d1 d2 d3 xa xc xs [] none 0 w P9 P9 hs ⟨_,rfl,hc⟩ hx P2 (fun x f=>by
  have h2:x.1∈iV xs:=List.mem_map_of_mem f;rw [hp]at h2;rw [O9 h2];simp) (RowA.empty _ _ _) P6 (fun _=>by rw [hp];exact l_w)
 refine h.mono ?_;rintro e w' ⟨hb,⟨h1, -⟩ | ⟨h1,A,m,ops,cs,na,nc,h2,rfl,h3⟩⟩
 . exact absurd j_3 h1
 rw [hp]at h2;obtain⟨rfl,rfl,rfl⟩:=c_j f_d h2;rw [g_p]at h3;obtain⟨x0,x1,y1,z1,x2,y2,z2,x3,y3,z3,rfl⟩:=h3.form;exact⟨x0,x1,x2,x3,na,y1,y2,y3,z1,z2,z3,nc,rfl,h3,hb⟩
theorem r_9 (x:UInt8) (r:List UInt8) (q:aX) (w1:World) (cells:List Value) (hc:cells.length=4) (hn:dY w1 w1 q cells):
 Calls Tryz.prog 31 #[.string ⟨(x::r).toArray⟩, .slice w1 1 1] (w1.alloc (Obj.cells cells.toArray 35)) (r_o (w1.alloc (Obj.cells cells.toArray 35)) (x::r) w1 1 [q]):=
 o_x x r w1 1 [q] cells (w1.alloc (Obj.cells cells.toArray 35)) (c_G 4 1 cells hc P2 hn.one (a7)) (by
     unfold eX;exact⟨cells, [],by simp,dY.keep (c_s w1 _) (c_s w1 _).size _ _ hn,by unfold eX;rfl⟩)
theorem f_f (W:World):Calls Tryz.prog 19 #[] W fun e w'=>e= .returned true/\Below W W w':=by
 have HW:=a6 n_a;have HL:=a6 (fun(w:World)=>j_W 97 rfl [] none 0 w (RowA.empty _ _ _));have HE:=a6 r_9;have HN:=a6 n_b;have HR:=a6 n_c
 go_enter Tryz.func19,Tryz.ntmps19
 go_wp2_with fail;refine(HW.o W).mono ?_;rintro e w1 ⟨sv,rfl,n,a⟩;have R:=a6 a;have o:=a6 n
 have p:=HL.o w1;clear a n;go_wp2_with fail;refine p.mono ?_;rintro e w2 ⟨ap,cp,at_,ct,rfl,b,a⟩;have A:=a6 (eZ R.o a (a8));have f:=a6 (o.o.keep a a.size);have q:=HE.o 100 [111,99] _ w2 _ rfl b;clear a b p o;go_wp2_with fail;refine q.mono ?_;rintro e w3 ⟨g,rfl,b,a⟩;have S:=a6 (eZ (A.o.alloc A.o.size _) a (a8))
 have c:=(b7 w2 (Obj.cells #[Value.bool true,Value.slice ap [].length cp,Value.slice at_ 1 ct,Value.slice none 0 0] 35)).trans (a.mono (b7 w2 _).size);have B:=a6 (HN.o sv _ w3 (f.o.keep c c.size) ⟨_,rfl,b⟩);clear a b q f c;go_wp2_with fail;refine B.o.mono ?_;rintro e w4 ⟨l,b1,b2,b3,m1,m2,m3,d1,d2,d3,rfl,hX,a⟩;have T:=a6 (eZ S.o a (a8))
 have C:=a6 hX;clear a hX B;go_upto_region 2 with fail
 obtain⟨w5,u⟩:∃w5,w5=w4.alloc (Obj.cells #[l,(b1,m1,d1),(b2,m2,d2),(b3,m3,d3)] 35):=⟨_,rfl⟩;rw [<- u];have r:Below w4 w4 w5:=t_J
 have D:=a6 (show At w5 w4 [l,(b1,m1,d1),(b2,m2,d2),(b3,m3,d3)] 35 by rw [u];exact At.fresh _ _ _);have E:=a6 (gY C.o r);have U:=a6 (eZ T.o r (a8));clear u r C;go_wp2_with fail;refine(HW.o w5).mono ?_;rintro e w6 ⟨sv,rfl,n,a⟩;have V:=a6 a;have o:=a6 n
 have p:=HL.o w6;clear a n;go_wp2_with fail;refine p.mono ?_;rintro e w7 ⟨ap,cp,at_,ct,rfl,b,a⟩;have F:=a6 (eZ V.o a (a8));have f:=a6 (o.o.keep a a.size);have q:=HE.o 100 [111,99] _ w7 _ rfl b;clear a b p o;go_wp2_with fail;refine q.mono ?_;rintro e w8 ⟨g2,rfl,b,a⟩;have G:=a6 (eZ (F.o.alloc F.o.size _) a (a8))
 have c:=(b7 w7 (Obj.cells #[Value.bool true,Value.slice ap [].length cp,Value.slice at_ 1 ct,Value.slice none 0 0] 35)).trans (a.mono (b7 w7 _).size);have s:=b7 w8 (Obj.cells #[()] 36);have z:=a6 (HR.o sv _ w8 1 [([],none,0)] (w8.alloc (Obj.cells #[()] 36)) (f.o.keep (c.trans (s.mono c.size)) (c.trans (s.mono c.size)).size) ⟨_,rfl,dY.keep s s.size _ _ b⟩
  ⟨⟨_,_,rfl,B6 w8 () 36 _ rfl P6⟩,fun x hx=>by rw [O9 hx];exact RowA.empty _ _ _⟩ rfl)
 have H:([(([]:List Int),(none:Option Addr),0)]:List PX).length=1:=rfl;rw [H]at z;clear a b q f c H;go_wp2_with fail;refine z.o.mono ?_;rintro e wa ⟨x0,x1,x2,x3,na,y1,y2,y3,z1,z2,z3,nc,rfl,hX,a⟩;have X:=a6 (eZ (G.o.alloc G.o.size _) a (a8))
 have I:=a6 (NodeQ.keep (ok':=fun _=>True) (a8) (fun _ _ _=>rfl) (fun _ _ _=>trivial) _ _ hX);clear a hX z s;go_upto_region 3 with fail
 obtain⟨wb,v⟩:∃wb,wb=wa.alloc (Obj.cells #[x0,(x1,y1,z1),(x2,y2,z2),(x3,y3,z3)] 35):=⟨_,rfl⟩;rw [<- v];have t:Below wa wa wb:=by rw [v];exact b7 _ _
 have j:=b6 X.o t;have Y:=a6 (fun(w':World) (hb:Below wb wb w')=>show At w' w4 [l,(b1,m1,d1),(b2,m2,d2),(b3,m3,d3)] 35/\At w' wa [x0,(x1,y1,z1),(x2,y2,z2),(x3,y3,z3)] 35 from
  And.intro ((D.o.kept j).kept hb) ((show At wb wa [x0,(x1,y1,z1),(x2,y2,z2),(x3,y3,z3)] 35 by rw [v];exact At.fresh _ _ _).kept hb))
 have J:=a6 (fun(w':World) (hb:Below wb wb w')=>(show bY w' w' a_Z (.agg #[l,(b1,m1,d1),(b2,m2,d2),(b3,m3,d3)])from⟨_,rfl,NodeQ.node _ _ (gY E.o (b6 j hb))⟩));have Z:=a6 (fun(w':World) (hb:Below wb wb w')=>(show bY w' w' a_Z (.agg #[x0,(x1,y1,z1),(x2,y2,z2),(x3,y3,z3)])from⟨_,rfl,NodeQ.node _ _ (gY I.o (b6 t hb))⟩));have K:=a6 (eZ U.o j (a8));have L:=a6 (fun(w':World) (v1 v2:Value) (h1:bY w' w' a_Z v1) (h2:bY w' w' a_Z v2)=>by
  have h:=e_0 a_Z.wt a_Z a_Z v1 v2 w' (a8) h1 h2;rw [oQ]at h;exact h)
 have M:=fun(w':World) (h:At w' w4 [l,(b1,m1,d1),(b2,m2,d2),(b3,m3,d3)] 35)=>At.load (P:=Tryz.prog) h Tryz.underlying35 rfl P3
 simp [go_sem]at M
 have N:=fun(w':World) (h:At w' wa [x0,(x1,y1,z1),(x2,y2,z2),(x3,y3,z3)] 35)=>At.load (P:=Tryz.prog) h Tryz.underlying35 rfl P3
 simp [go_sem]at N
 clear v t j E I D HW HN HR;go_region_held3 (fun w'=>At w' w4 [l,(b1,m1,d1),(b2,m2,d2),(b3,m3,d3)] 35/\At w' wa [x0,(x1,y1,z1),(x2,y2,z2),(x3,y3,z3)] 35) ((refine Y.o _ ?_;((with_reducible (repeat (first | exact y.o | exact d.o | exact i.o | exact k.o | exact m.o | exact a7 | refine aK ?_ | refine aQ ?_ ?_ _ | refine aV ?_ ?_ _)) <;> (first | exact a8 | exact y.o.size | exact d.o.size | exact i.o.size | exact k.o.size | exact m.o.size | (have:=y.o.size;simp [World.setCell];omega) | (have:=d.o.size;simp [World.setCell];omega) | (have:=i.o.size;simp [World.setCell];omega) | (have:=k.o.size;simp [World.setCell];omega) | (have:=m.o.size;simp [World.setCell];omega) | (simp <;> omega) | omega)))))
  (first
  | (refine GY ?_ 32 _ _ rfl P5 [.string ⟨#[97]⟩,()] ?_ _ (HL.o _) ?_
     . go_simp
     . go_simp
     rintro e wc ⟨ap2,cp2,at2,ct2,rfl,b,a⟩;refine⟨_,rfl, ?_⟩;have m:=a6 (b6 (w0:=wb) P1 a);have H0:=a6 b;clear b a)
  | (refine GY ?_ 31 _ _ rfl P5 [.string ⟨#[112]⟩, .slice wc 1 1] ?_ _ (HE.o 112 [] _ wc _ rfl H0.o) ?_
     . go_simp
     . go_simp
     rintro e wd ⟨g3,rfl,O,a⟩;refine⟨_,rfl, ?_⟩;have k:=a6 (b6 (w0:=wb) RZ a);have H1:=a6 O;clear O a)
  | (refine GY ?_ 31 _ _ rfl P5 [.string ⟨#[100,111,99]⟩, .slice wd 1 1] ?_ _ (HE.o 100 [111,99] _ wd _ rfl H1.o) ?_
     . go_simp
     . go_simp
     rintro e we ⟨g4,rfl,Q,a⟩;refine⟨_,rfl, ?_⟩;have i:=a6 (b6 (w0:=wb) (by(with_reducible (repeat (first | exact k.o | exact a7 | refine aK ?_ | refine aQ ?_ ?_ _ | refine aV ?_ ?_ _)) <;> (first | exact a8 | exact k.o.size | (have:=k.o.size;simp [World.setCell];omega) | (simp <;> omega) | omega))) a);have H2:=a6 Q;clear Q a)
  | (refine GY ?_ 24 _ _ rfl P5 [.agg #[l,(b1,m1,d1),(b2,m2,d2),(b3,m3,d3)], .agg #[false, .slice g4 1 1,(), .slice wd 1 1]] ?_ _ (L.o we _ _ (J.o _ i.o) ⟨_,rfl,H2.o⟩) ?_
     . go_simp
     . go_simp
     rintro e wf ⟨rfl,a⟩;refine⟨_,rfl, ?_⟩;have d:=a6 (b6 (w0:=wb) (by(with_reducible (repeat (first | exact i.o | exact a7 | refine aK ?_ | refine aQ ?_ ?_ _ | refine aV ?_ ?_ _)) <;> (first | exact a8 | exact i.o.size | (have:=i.o.size;simp [World.setCell];omega) | (simp <;> omega) | omega))) a);clear a)
  | (refine GY ?_ 24 _ _ rfl P5 [.agg #[x0,(x1,y1,z1),(x2,y2,z2),(x3,y3,z3)], .agg #[l,(b1,m1,d1),(b2,m2,d2),(b3,m3,d3)]] ?_ _ (L.o _ _ _ (Z.o _ P7) (J.o _ P7)) ?_
     . go_simp
     . go_simp
     rintro e wg ⟨rfl,a⟩;refine⟨_,rfl, ?_⟩;have y:=a6 (b6 (w0:=wb) P7 a);clear a))
 all_goals
  clear M N;go_wp2_with fail;go_ret;exact⟨rfl,K.o.trans (y.o.mono K.o.size)⟩
def J3 (s:b5) (n:aX) (L:List (List Int)) (m:Nat):Bool:=L.all (fun p=>decide (p.length <= 40)) && (J7 (s.rules ++ [s.els]) && (F4 n 50 && (decide (L.length <= 40) && decide (m <= 400))))
theorem h_k (s:b5) (n:aX) (u v:Value) (vx:Value) (xs:List PX) (qa:Option Addr) (m qc:Nat) (W:World) (hs:s.wt <= 100000000) (hn:n.wt <= 100000000) (R:xs.length <= 100000000) (hm:m <= 100000000) (hu:SchemaV W W s u) (hv:bY W W n v) (hx:u_7 W W vx xs):
 Calls Tryz.prog 20 #[u,v,vx,(qa,m,qc)] W (fun e w'=>e= .returned (J3 s n (iV xs) m)/\Below W W w'):=by
 have E:=hu;have F:=hv
 obtain⟨l,ps,t,ks⟩:=n;obtain⟨a,c,css,ea,ec,o0,o1,o2,o3,o4,o5,rfl, -, -, -, -⟩:=E.open;obtain⟨ap,cp,at_,ct,ak,ck,cs4,rfl, -, -, -, -⟩:=F.open;generalize aX.mk l ps t ks=n at hn hv⊢;obtain⟨xa,xc,rfl, -⟩:=hx.row;obtain⟨w0,y⟩:∃w0,w0=(W.alloc (Obj.cells #[(a,s.rules.length,c),aZ s.els.type,s.els.text.1,aZ s.els.text.2,s.els.other.1,aZ s.els.other.2,(ea,s.els.kids.length,ec),s.els.fill,aZ s.els.fillT,o0,o1,o2,o3,o4,o5,s.cap] 30)).alloc (Obj.cells #[l,(ap,ps.length,cp),(at_,t.length,ct),(ak,ks.length,ck)] 35):=⟨_,rfl⟩;have d:Below W W w0:=t_0
 have hA:At w0 W [(a,s.rules.length,c),aZ s.els.type,s.els.text.1,aZ s.els.text.2,s.els.other.1,aZ s.els.other.2,(ea,s.els.kids.length,ec),s.els.fill,aZ s.els.fillT,o0,o1,o2,o3,o4,o5,s.cap] 30:=u_3
 have hN:At w0 (W+1) [l,(ap,ps.length,cp),(at_,t.length,ct),(ak,ks.length,ck)] 35:=by rw [y];exact At.second W _ _ _
 have HS:=a6 (fun(w':World) (hb:Below w0 w0 w')=>i_h s _ w' hs (hu.keep (d.trans (hb.mono d.size)) (d.trans (hb.mono d.size)).size));have HT:=a6 (fun(w':World) (hb:Below w0 w0 w')=>o_p n _ 50 w' hn P2 P2 (hv.keep (d.trans (hb.mono d.size)) (d.trans (hb.mono d.size)).size));have HX:=a6 (fun(w':World) (hb:Below w0 w0 w')=>hx.keep (d.trans (hb.mono d.size)) (d.trans (hb.mono d.size)).size);have C:=fun(w':World) (h:At w' W [(a,s.rules.length,c),aZ s.els.type,s.els.text.1,aZ s.els.text.2,s.els.other.1,aZ s.els.other.2,(ea,s.els.kids.length,ec),s.els.fill,aZ s.els.fillT,o0,o1,o2,o3,o4,o5,s.cap] 30)=>ldx (P:=Tryz.prog) h Tryz.underlying30 rfl P3
 simp [go_sem]at C
 obtain⟨T,hT⟩:∃T,T=J3 s n (iV xs) m:=⟨_,rfl⟩;have L:=a6 (show ((iV (xs.drop 0)).all (fun p=>decide (p.length <= 40)) && (J7 (s.rules ++ [s.els]) && (F4 n 50 && (decide (xs.length <= 40) && decide (m <= 400)))))=T by rw [hT];unfold J3;simp);rw [<- hT];have HA:=a6 hA;have HN:=a6 hN
 have z:=a6 d;have G:=a6 y
 clear hu hv E F hs hn d y hA hN hx hT;go_enter Tryz.func20,Tryz.ntmps20;go_upto_region 1 with fail;rw [<- G.o];clear G;go_wp2_with fail
 go_loopg [13] xs.length (fun g i wr=>∃k:Nat,i= .int .i64 k/\k+g=xs.length/\Hid (((iV (xs.drop k)).all (fun p=>decide (p.length <= 40)) && (J7 (s.rules ++ [s.els]) && (F4 n 50 && (decide (xs.length <= 40) && decide (m <= 400)))))=T)/\wr=w0)
 case atStart=>exact⟨0,rfl,by omega,L,rfl⟩
 case round=>
  obtain⟨k,rfl,hg,A,rfl⟩:=hrel
  by_cases H:k < xs.length
  . have Q:(k:Int) < xs.length:=P2
    have I:=HX.o wr (a7);obtain⟨b,off,rfl,hb,hc⟩:=I.at_ k H;have w:=a6 ((congrArg (· && (J7 (s.rules ++ [s.els]) && (F4 n 50 && (decide (xs.length <= 40) && decide (m <= 400))))) (i_i H)).symm.trans A.o);generalize xs[k]=x at hc w;obtain⟨q0,qa',qc'⟩:=x;unfold C5 at hc;simp only at hc w;clear I hb A;by_cases hq:q0.length <= 40
    . have M:¬ (40:Int) < q0.length:=P2
      have f:=a6 (show ((iV (xs.drop (k+1))).all (fun p=>decide (p.length <= 40)) && (J7 (s.rules ++ [s.els]) && (F4 n 50 && (decide (xs.length <= 40) && decide (m <= 400)))))=T by have h:=w.o;rw [decide_eq_true hq,Bool.true_and]at h;exact h);clear hq w;go_wp2_with fail
      go_roundg (xs.length - (k+1))
      case measure=>omega
      case rel=>exact⟨k+1,by go_num,by omega,f,rfl⟩
    have M:(40:Int) < q0.length:=P2
    have f:=a6 (show false=T by have h:=w.o;rw [O3 hq,Bool.false_and,Bool.false_and]at h;exact h);clear hq w;go_wp2_with fail;go_ret;exact⟨bJ f.o,z.o⟩
  obtain rfl:k=xs.length:=P2
  have f:=a6 (show (J7 (s.rules ++ [s.els]) && (F4 n 50 && (decide (xs.length <= 40) && decide (m <= 400))))=T by have h:=A.o;rw [List.drop_length]at h;exact h);have hS:=C wr (HA.o);have J:=a6 (HS.o wr (a7));clear A HX;have S:¬ (xs.length:Int) < xs.length:=P2
  go_wp2_with fail;refine J.o.mono ?_;rintro e w1 ⟨rfl,j⟩;have K:=a6 j
  have D:=a6 (HT.o w1 j);obtain⟨⟨y0,y1,y2,y3⟩, -,yl⟩:=(HN.o.kept j).f4;clear j J HS hS HN C;cases h1:J7 (s.rules ++ [s.els])with
  | false=>
    have Hr:=a6 (show false=T by have h:=f.o;rw [h1,Bool.false_and]at h;exact h);clear h1 D f;go_wp2_with fail;go_ret;exact⟨bJ Hr.o,z.o.trans (K.o.mono z.o.size)⟩
  | true=>
    have o:=a6 (show (F4 n 50 && (decide (xs.length <= 40) && decide (m <= 400)))=T by have h:=f.o;rw [h1,Bool.true_and]at h;exact h);clear h1 f;go_wp2_with fail;refine D.o.mono ?_;rintro e w2 ⟨rfl,j⟩;have B:=a6 (z.o.trans ((b6 K.o j).mono z.o.size))
    clear j D y0 y1 y2 y3 yl HT;cases h2:F4 n 50 with
    | false=>
      have Hr:=a6 (show false=T by have h:=o.o;rw [h2,Bool.false_and]at h;exact h);clear h2 o;go_wp2_with fail;go_ret;exact⟨bJ Hr.o,B.o⟩
    | true=>
      have q:=a6 (show (decide (xs.length <= 40) && decide (m <= 400))=T by have h:=o.o;rw [h2,Bool.true_and]at h;exact h);clear h2 o;by_cases h3:xs.length <= 40
      . have N:(xs.length:Int) <= 40:=P2
        have r:=a6 (show decide (m <= 400)=T by have h:=q.o;rw [decide_eq_true h3,Bool.true_and]at h;exact h);clear h3 q;by_cases h4:m <= 400
        . have O:(m:Int) <= 400:=P2
          have Hr:=a6 ((decide_eq_true h4).symm.trans r.o);clear h4 r;go_wp2_with fail;go_ret;exact⟨bJ QJ,B.o⟩
        have O:¬ (m:Int) <= 400:=P2
        have Hr:=a6 ((O3 h4).symm.trans r.o);clear h4 r;go_wp2_with fail;go_ret;exact⟨bJ QJ,B.o⟩
      have N:¬ (xs.length:Int) <= 40:=P2
      have Hr:=a6 (show false=T by have h:=q.o;rw [O3 h3,Bool.false_and]at h;exact h);clear h3 q;go_wp2_with fail;go_ret;exact⟨bJ QJ,B.o⟩
end Go.Proofs.YtmadpclcmjahoaaGreatDoor
