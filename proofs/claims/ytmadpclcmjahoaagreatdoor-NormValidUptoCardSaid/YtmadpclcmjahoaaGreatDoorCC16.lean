/- Parts of the proof: CC16. -/
import Derived.Test.YtmadpclcmjahoaaGreatDoorCC15
import Derived.Laws.IdiomStrings
set_option linter.unusedVariables false
set_option linter.unusedSimpArgs false
set_option maxHeartbeats 8000000
set_option maxRecDepth 100000
namespace Go.Proofs.YtmadpclcmjahoaaGreatDoor
open Go.RowKit Go.Redl
structure u_7 (W:World) (B:Nat) (v:Value) (xs:List PX):Prop where
 row:∃a c,v= .slice a xs.length c/\RowA W B 1 a xs.length c (xs.map C5)
 all:∀x∈xs,RowA W B 1 x.2.1 x.1.length x.2.2 (x.1.map (Value.int .i64))
theorem u_7.keep {w w':World} {B B':Nat} {v:Value} {xs:List PX} (h:u_7 w B v xs) (hb:Below B w w') (hB:B <= B'):u_7 w' B' v xs:=by
 obtain⟨⟨a,c,h1,h2⟩,h3⟩:=h;exact⟨⟨a,c,h1,h2.keep hb hB⟩,fun x hx=>(h3 x hx).keep hb hB⟩
theorem i_e (xs:List PX):∀u∈xs.map C5,u.oneCell'=true:=by
 intro u hu;obtain⟨x, -,rfl⟩:=OV hu;rfl
theorem lV.read {w:World} {M L:Nat} {v:Value} {xs:List PX} (h:lV w M L v xs):u_7 w w v xs:=by
 obtain⟨a,c,hv,hr⟩:=eK h.own (i_e xs);exact⟨⟨a,c,hv,hr⟩,fun x hx=>(h.all x hx).row⟩
theorem u_7.at_ {w:World} {B:Nat} {a:Option Addr} {n c:Nat} {xs:List PX} (h:u_7 w B (a,n,c) xs) (k:Nat) (hk:k < xs.length):
 ∃b off,a=some ⟨b,off,none⟩/\b < B/\w.cell? ⟨b,off+k,none⟩=some (C5 xs[k]):=by
 obtain⟨⟨a',c',hv,hr⟩, -⟩:=h;injection hv with e1 e2 e3;subst e1
 obtain⟨b,off,ha,hb,hc⟩:=hr.some_ u_a;exact⟨b,off,ha,hb,hc k _ (by simp [NV hk])⟩
theorem lV.push {M L:Nat} {w0 w':World} {v v':Value} {xs:List PX} {y:PX} {ob:Obj} (h:lV w0 M L v xs) (hy:N5 w0 (fun b=>L <= b/\v.ownBlock≠some b) y)
 (hg:(w0.alloc ob).grownBy w' v.ownBlock) (a:w'.ownsRow M 36 1 v' (xs.length+1) (xs.map C5 ++ [C5 y])) (hw:v'.ownBlock=v.ownBlock∨ ∀k,v'.ownBlock=some k ->(w0.alloc ob).heap.size <= k):lV w' M L v' (xs ++ [y]):=by
 have hs:=hg.size;have c:∀x∈xs ++ [y],N5 w0 (fun b=>L <= b/\v.ownBlock≠some b) x:=fun x hx=>by
  rcases OQ hx with hx | hx
  . exact h.all x hx
  rw [O9 hx];exact hy
 refine⟨by rw [NZ,List.map_append];exact a,fun x hx=>(c x hx).keep (by simp at hs;omega) (fun b hb d=> ?_) fun b hb d=>⟨hb.1, ?_⟩⟩
 . rw [hg.block b P8 (fun e=>hb.2 e.symm),Lib.alloc_old _ _ _ d]
 rcases hw with e | e
 . rw [e];exact hb.2
 intro e2;have:=e b e2;simp at this;omega
theorem BV {P:Program} {ops:Array Oper} {rest:List Oper} {o:Oper} {a:Act} {w0:World} {Q:Exit ->Act ->World ->Prop} {ob:Obj}
 (hg:o.guard=none) (s x:Operand) (ho:o.op= .call { callee:= .builtin .append,args:= #[s,x],argTypes:= #[47,47] })
 (ht:P.underlying 47=some (.slice 36)) (hi:(P.info? 36).map (fun i=>(i.zero,i.size,i.bytes))=some (some (.slice none 0 0),1,24))
 (M L:Nat) (v:Value) (xs:List PX) (hs:a.eval s=v) (hO:lV w0 M L v xs) (y:PX) (e:ob= .cells #[C5 y] 36) (hx:a.eval x= .slice w0 1 1)
 (hq:N5 w0 (fun b=>L <= b/\v.ownBlock≠some b) y) (hn:xs.length <= 100000000) (hM:M <= w0.heap.size)
 (h:∀v' w',lV w' M L v' (xs ++ [y]) ->Below M w0 w' ->wpList P ops Q rest (a.put o.dst v') w'):wpList P ops Q (o::rest) a (w0.alloc ob):=by
 subst e;refine I2 hg s x 47 ho M 36 () 1 24 ht hi rfl P9 v xs.length (xs.map C5) hs (kQ hO.own (b7 _ _)) w0 1 1 (w0+1) [C5 y] hx (B6 w0 (C5 y) 36 _ rfl P2) R8 P2 P8 fun v' w' d c f=> ?_
 exact h v' w' (lV.push hO hq c d f) (((Below.refl M w0).alloc hM _).grown c P8 (fun k hk=>hO.ge k hk))
theorem j_U (B n:Nat) (a:Option Addr) (cap:Nat) (cs:List Value) (w:World) (hr:RowA w B 1 a n cap cs) (hB:B <= w.heap.size) (hn:n <= 100000000):
 Calls Tryz.prog 153 #[(a,n,cap)] w (vX w 36 1 n cs):=by
 have c:=fun(w:World)=>Lib.run_eql_slice_nil w (P:=Tryz.prog) 47 36 a n cap 0 0 Tryz.underlying47
 cases ha:a with
 | none=>
   subst ha;obtain rfl:=hr.nil rfl;obtain rfl:n=0:=S7
   have d:cs= []:=O2 SJ;subst d;go_enter Tryz.func153,Tryz.ntmps153;go_wp2_with fail;go_ret;exact⟨_,rfl,World.ownsRow_nil _ _ _ _,a7⟩
 | some ad=>
   subst ha;go_enter Tryz.func153,Tryz.ntmps153
   go_wp2_with (at_builtin;refine u_9 rfl _ _ 47 rfl w.heap.size 36 () 1 24 Tryz.underlying47 E9 rfl P9 _ 0 [] rfl ?hown _ n cap B cs rfl ?hr ?h63 ?hb ?hbase ?_)
   case hown=>exact World.ownsRow_lit w #[] 0 (a8) (Nat.zero_le _) rfl
   case hr=>exact hr.keep ((a7).alloc hB _) (a8)
   case h63=>unfold maxLen;omega
   case hb=>omega
   case hbase=>simp
   intro v' w1 hown b;have Ho:=a6 hown;have Hg:=a6 b;clear hown b c hr
   go_wp2_with fail;go_ret;refine⟨v',rfl,by simpa using Ho.o,((a7).alloc (a8) _).grown Hg.o P6 ?_⟩
   simp [Value.ownBlock]
theorem o_s (c0 c1 c2 c3:Value) (W:World):Calls Tryz.prog 68 #[.agg #[c0,c1,c2,c3], .agg #[OY,(),(),OY,false,(),(),(),(),(),(),false,(),OY,(),OY,false,(),OY,(),OY]] W fun e w'=>e= .returned ()/\Below W W w':=by
 obtain⟨w0,b⟩:∃w0,w0=(W.alloc (Obj.cells #[c0,c1,c2,c3] 35)).alloc (Obj.cells #[OY,(),(),OY,false,(),(),(),(),(),(),false,(),OY,(),OY,false,(),OY,(),OY] 55):=⟨_,rfl⟩;have c:Below W W w0:=t_C
 have hA:At w0 (W+1) [OY,(),(),OY,false,(),(),(),(),(),(),false,(),OY,(),OY,false,(),OY,(),OY] 55:=TV
 have k0:=hA.cell 0 rfl;have kl:=hA.lt
 have d:=a6 c;have f:=a6 b
 have g:∀ (fn:Fn) (first cap:Array Value) (w:World),(Instr.makeFunc fn first cap).run Tryz.prog w= .ok (.func fn first cap) w:=fun _ _ _ _=>rfl
 have h:=fun(W:World) (a:Addr) (fn:Fn) (first cap:Array Value) (m:Mode)=>run_store Tryz.prog W a (.func fn first cap) m rfl
 clear c hA b;go_enter Tryz.func68,Tryz.ntmps68;go_upto_region 1 with fail;rw [<- f.o];clear f;go_wp2_with fail;go_ret;exact⟨rfl,d.o.trans ((b7 w0 _).mono d.o.size)⟩
theorem ldx {P:Program} {w:World} {N:Nat} {cs:List Value} {T:TypeId} {d:TypeDesc} (h:At w N cs T) (hu:P.underlying T=some d) (hd:d.isRow=true) (hi:(P.info? T).map (·.size)=some cs.length):(Instr.loadAt T (.pointer N)).run P w= .ok (.agg cs.toArray) w:=
 run_loadAt_mid w N 0 T cs d (fun j v hj=>by rw [O5];exact h.cell j hj) hu hd hi
theorem l_8 (n:aX) (v:Value) (B:Nat) (vx:Value) (xs:List PX) (W:World) (l:n.wt <= 100000000) (hv:bY W B n v) (hB:B <= W.heap.size) (hx:u_7 W B vx xs) (hn:xs.length <= 100000000) (H:∀x∈xs,x.1.length <= 100000000):
 Calls Tryz.prog 15 #[v,vx, .agg #[OY,(),(),OY,false,(),(),(),(),(),(),false,(),OY,(),OY,false,(),OY,(),OY]] W (C8 W (oY (((iV xs).filter bX).filter (dX n)))):=by
 have I:=hv;obtain⟨lf,ps,t,ks⟩:=n;obtain⟨ap,cp,at_,ct,ak,ck,css,rfl, -, -, -, -⟩:=I.open;generalize aX.mk lf ps t ks=n at hv l⊢;obtain⟨w0,m⟩:∃w0,w0=(W.alloc (Obj.cells #[lf,(ap,ps.length,cp),(at_,t.length,ct),(ak,ks.length,ck)] 35)).alloc (Obj.cells #[OY,(),(),OY,false,(),(),(),(),(),(),false,(),OY,(),OY,false,(),OY,(),OY] 55):=⟨_,rfl⟩;have J:Below W W w0:=t_z
 have hO:At w0 (W+1) [OY,(),(),OY,false,(),(),(),(),(),(),false,(),OY,(),OY,false,(),OY,(),OY] 55:=s_P
 have hA:At w0 W [lf,(ap,ps.length,cp),(at_,t.length,ct),(ak,ks.length,ck)] 35:=XZ
 have s:=fun(w':World) (h:At w' (W+1) [OY,(),(),OY,false,(),(),(),(),(),(),false,(),OY,(),OY,false,(),OY,(),OY] 55)=>ldx (P:=Tryz.prog) h Tryz.underlying55 rfl P3
 simp [go_sem]at s
 obtain⟨a,c,rfl, -⟩:=hx.row;have HM:=a6 (fun(w1:World)=>o_s lf (ap,ps.length,cp) (at_,t.length,ct) (ak,ks.length,ck) w1);have HE:=a6 (fun(w1:World) (hb:Below W W w1) (u:Value) (ys:List PX) (hy:lV w1 W W u ys) (hl:ys.length <= 100000000)=>b_8 n _ B W W u ys w1 l (hv.keep (hb.mono hB) (a8)) (aJ hB hb.size) hB hy hl);have HV:=a6 (fun(w1:World) (hb:Below W W w1) (x:PX) (K:x∈xs)=>q_4 x.1 x.2.1 x.2.2 B w1 ((hx.all x K).keep (hb.mono hB) (a8)) (aJ hB hb.size) (H x K));have HX:=a6 hx;have HO:=a6 hO;have HA:=a6 hA;have D:=a6 J;have L:=a6 m;have HB:=a6 hB
 obtain⟨⟨x0,x1,x2,x3⟩, -,xl⟩:=hA.f4;have hS:=s w0 hO;clear hv I l J hO hA m hx H hB;go_enter Tryz.func15,Tryz.ntmps15;go_upto_region 1 with fail;rw [<- L.o];clear L;go_wp2_with fail;refine(HM.o w0).mono ?_;rintro e w1 ⟨rfl,d⟩;have S:=a6 (HA.o.kept d);have T:=a6 (HO.o.kept d)
 have U:=a6 (D.o.trans (d.mono D.o.size));have w:=a6 D.o.size;have y:=a6 d.size;clear d HM x0 x1 x2 x3 xl hS HA HO;go_wp2_with fail
 go_loopg [17,7] xs.length (fun g i o wr=>∃ (k:Nat) (ys:List PX),i= .int .i64 k/\k+g=xs.length/\ys.length <= k/\Hid (iV ys=(iV (xs.take k)).filter bX)/\Hid (lV wr w1 w1 o ys)/\Hid (Below w1 w1 wr))
 case atStart=>exact⟨0, [],rfl,by omega,by simp,(show iV []=(iV (xs.take 0)).filter bX by simp),lV.nil _ _ _,a7⟩
 case round=>
  obtain⟨k,ys,rfl,hg,H2,z,hy,f⟩:=hrel;obtain⟨oa,oc,ho⟩:=hy.o.form;subst ho;have p:=a6 (U.o.trans (f.o.mono (aJ w.o y.o)))
  by_cases E:k < xs.length
  . have H1:(k:Int) < xs.length:=P2
    obtain⟨b,off,rfl,hb,hc⟩:=(HX.o.keep (p.o.mono HB.o) (a8)).at_ k E;have j:=a6 (HV.o wr p.o xs[k] (NY E));have F:=a6 (show xs.take (k+1)=xs.take k ++ [xs[k]]from O1 E);have hS:=s wr (T.o.kept f.o);generalize xs[k]=x at hc j F;obtain⟨x0,xa,xc⟩:=x;unfold C5 at hc;simp only at hc j;cases A:bX x0 with
    | false=>
      have q:=a6 A;clear A;go_wp2_with fail;refine j.o.mono ?_;rintro e w2 ⟨d,hm⟩;rw [q.o]at hm;simp only [Bool.false_eq_true,if_false]at hm;subst hm;have r:=a6 (b6 f.o d)
      have G:=a6 (hy.o.below d);clear d j hc hS;go_wp2_with fail
      go_roundg (xs.length - (k+1))
      case measure=>omega
      case rel=>
       refine⟨k+1,ys,by go_num,by omega,by omega, ?_,G,r⟩
       show iV ys=(iV (xs.take (k+1))).filter bX
       rw [F.o,mJ,B8,List.filter_append,List.filter_cons_of_neg (by simp [q.o]),List.filter_nil,List.append_nil];exact z.o
    | true=>
      have q:=a6 A;clear A;go_wp2_with fail;refine j.o.mono ?_;rintro e w2 ⟨d,hm⟩;rw [q.o]at hm;simp only [if_true]at hm;obtain⟨mv,rfl,C⟩:=hm;obtain⟨va,vc,rfl,hq⟩:=nV C (JV .i64 x0);have r:=a6 (b6 f.o d);have G:=a6 (hy.o.below d);have Hq:=a6 (show N5 w2 (fun b=>w1.heap.size <= b/\(Value.slice oa ys.length oc).ownBlock≠some b) (x0,va,vc)from qJ hq fun b hb=>⟨aJ f.o.size hb,fun e=>by have:=(hy.o.own.lt b e).2;omega⟩);have V:=a6 (b6 f.o d).size;clear d j hc hS C hq;go_wp2_with (at_builtin;refine BV rfl _ _ rfl Tryz.underlying47 E9 w1 w1 (Value.slice oa ys.length oc) ys rfl ?hO (x0,va,vc) rfl rfl ?hq ?hn ?hM ?_)
      case hO=>exact G.o
      case hq=>exact Hq.o
      case hn=>omega
      case hM=>exact V.o
      intro v' w3 M N;have X:=a6 M;have Y:=a6 (r.o.trans N)
      clear M N Hq;go_wp2_with fail
      go_roundg (xs.length - (k+1))
      case measure=>omega
      case rel=>
       refine⟨k+1,ys ++ [(x0,va,vc)],by go_num,by omega,by simp;omega, ?_,X,Y⟩
       show iV (ys ++ [(x0,va,vc)])=(iV (xs.take (k+1))).filter bX
       rw [F.o,mJ,mJ,B8,B8,List.filter_append,List.filter_cons_of_pos (by simp [q.o]),List.filter_nil, <- z.o]
  obtain rfl:k=xs.length:=P2
  have O:=a6 (show iV ys=(iV xs).filter bX by have:=z.o;rwa [List.take_length]at this);have Q:=a6 (HE.o wr p.o _ ys (hy.o.from (aJ w.o y.o) (aJ w.o y.o)) P2);obtain⟨⟨y0,y1,y2,y3⟩, -,yl⟩:=(S.o.kept f.o).f4;have Z:=a6 (show ∀k,(Value.slice oa ys.length oc).ownBlock=some k ->W.heap.size <= k from fun k hk=>aJ (aJ w.o y.o) (hy.o.ge k hk));clear HE z s;go_wp2_with fail;refine Q.o.mono ?_;rintro e w2 ⟨v',zs,rfl,hz,hp, -, -,R⟩;obtain⟨va,vc,H0⟩:=hz.form;subst H0;have Hz:=a6 hz;have Hp:=a6 hp;have r:=a6 (p.o.trans (R.old p.o.size Z.o))
  clear hz hp R Q y0 y1 y2 y3 yl;go_wp2_with fail;go_ret;exact⟨_,zs,rfl,Hz.o,by rw [Hp.o,O.o],r.o⟩
def f_W (W:World) (r:Option (List Int)) (e:Ending) (w':World):Prop:=Below W W w'/\
 (∀p,r=some p ->∃v,e= .returned (.tuple #[v,OY])/\w'.ownsRow W 3 1 v p.length (p.map (Value.int .i64)))/\(r=none ->∃v k,e= .returned (.tuple #[v, .int .i64 k])/\k≠0)
def N1 (W:World) (r:Option (List Int)) (f:Value):Prop:= ∃l caps,f= .func (.func l) #[] caps/\(∀args w,(callFunc l args).run Tryz.prog w= .ok (.enter l args) w)/\∀w',Below W W w' ->Calls Tryz.prog l caps w' (f_W w' r)
theorem o_t (fvs:List Value) (rs:List (Option (List Int))) (a:Option Addr) (c:Nat) (W:World) (hr:RowA W W 1 a fvs.length c fvs) (hl:rs.length=fvs.length) (hn:fvs.length <= 1000000)
 (hg:∀k (hk:k < fvs.length),N1 W (rs.getD k none) fvs[k]):Calls Tryz.prog 137 #[(a,fvs.length,c)] W (C8 W (rs.filterMap id)):=by
 have Hr:=a6 hr;have Hg:=a6 hg;have Hl:=a6 hl
 clear hr hg hl;go_enter Tryz.func137,Tryz.ntmps137;go_wp2_with fail
 go_loopg [10,3,5,6,7] fvs.length (fun g i o _ _ _ wr=>∃ (k:Nat) (ys:List PX),i= .int .i64 k/\k+g=fvs.length/\ys.length <= k/\Hid (iV ys=(rs.take k).filterMap id)/\Hid (lV wr W W o ys)/\Hid (Below W W wr))
 case atStart=>exact⟨0, [],rfl,by omega,by simp,(show iV []=(rs.take 0).filterMap id by simp),lV.nil _ _ _,a7⟩
 case round=>
  obtain⟨k,ys,rfl,I,J,s,hy,f⟩:=hrel;obtain⟨oa,oc,ho⟩:=hy.o.form;subst ho;by_cases j:k < fvs.length
  . have H:(k:Int) < fvs.length:=P2
    obtain⟨l,caps,hf,he,hC⟩:=Hg.o k j;obtain⟨b,off,rfl,hb,hc⟩:=Hr.o.some_ (by intro e;rw [e]at j;simp at j);have t:=(f.o.cell (p:=(b,off+k)) hb).trans (hc k _ (NV j));have y:k < rs.length:=by rw [Hl.o];exact j
    have w:=a6 (show (rs.take (k+1)).filterMap id=(rs.take k).filterMap id ++ [rs.getD k none].filterMap id by
     rw [O1 y,List.filterMap_append,List.getD,NV y];rfl)
    have HC:=a6 (hC wr f.o);have HG:=a6 hb;rw [hf]at t;clear hf hC hc;generalize rs.getD k none=r at HC w
    cases r with
    | none=>
      go_wp2_with fail;refine HC.o.mono ?_;rintro e w2 ⟨d, -,A⟩;obtain⟨v,z,rfl,hz⟩:=A rfl;have K:(z == 0)=false:=SQ
      have m:=a6 (f.o.trans (d.mono f.o.size));have x:=a6 (hy.o.below d);clear d HC A hz;go_wp2_with fail
      go_roundg (fvs.length - (k+1))
      case measure=>omega
      case rel=>
       refine⟨k+1,ys,by go_num,by omega,by omega, ?_,x,m⟩
       show iV ys=(rs.take (k+1)).filterMap id
       rw [w.o];simpa using s.o
    | some p=>
      go_wp2_with fail;refine HC.o.mono ?_;rintro e w2 ⟨d,n, -⟩;obtain⟨v,rfl,q⟩:=n p rfl;obtain⟨va,vc,rfl,hq⟩:=nV q PJ;have m:=a6 (f.o.trans (d.mono f.o.size));have x:=a6 (hy.o.below d);have Hq:=a6 (show N5 w2 (fun b=>W.heap.size <= b/\(Value.slice oa ys.length oc).ownBlock≠some b) (p,va,vc)from qJ hq fun b hb=>⟨aJ f.o.size hb,fun e=>by have:=(hy.o.own.lt b e).2;omega⟩);have E:=a6 m.o.size;clear d HC n q hq;go_wp2_with (at_builtin;refine BV rfl _ _ rfl Tryz.underlying47 E9 W W (Value.slice oa ys.length oc) ys rfl ?hO (p,va,vc) rfl rfl ?hq ?hn ?hM ?_)
      case hO=>exact x.o
      case hq=>exact Hq.o
      case hn=>omega
      case hM=>exact E.o
      intro v' w3 B C;have F:=a6 B;have G:=a6 (m.o.trans C)
      clear B C Hq;go_wp2_with fail
      go_roundg (fvs.length - (k+1))
      case measure=>omega
      case rel=>
       refine⟨k+1,ys ++ [(p,va,vc)],by go_num,by omega,by simp;omega, ?_,F,G⟩
       show iV (ys ++ [(p,va,vc)])=(rs.take (k+1)).filterMap id
       rw [w.o,mJ,B8, <- s.o];rfl
  obtain rfl:k=fvs.length:=P2
  have D:=a6 (show iV ys=rs.filterMap id by have h:=s.o;rwa [<- Hl.o,List.take_length]at h);go_wp2_with fail;go_ret;exact⟨_,ys,rfl,hy.o,D.o,f.o⟩
def lY:Option (List Int) ->List (List Int) ->List (List Int)
 | _, []=> []
 | none,p::l=>p::lY (some p) l
 | some q,p::l=>if kJ q p then lY (some q) l else p::lY (some p) l
def m5 (l:List (List Int)):List (List Int):=lY none l
theorem a_g (l:List (List Int)):(oY l).length <= l.length:=by
 induction l with
 | nil=>simp [oY]
 | cons p l ih=>
   have h:∀ (p:List Int) (l:List (List Int)),(c_v p l).length <= l.length+1:=by
    intro p l;induction l with
    | nil=>simp [c_v]
    | cons q l ih => unfold c_v;split; · simp
                     split; · simp
                     simp;exact ih
   have:=h p (oY l)
   show (c_v p (oY l)).length <= _
   simp;omega
theorem l_9 (B:Nat) (vx:Value) (xs:List PX) (W:World) (hB:B <= W.heap.size) (hx:u_7 W B vx xs) (hn:xs.length <= 100000000) (Y:∀x∈xs,x.1.length <= 100000000):
 Calls Tryz.prog 76 #[vx] W (C8 W (m5 (oY (iV xs)))):=by
 obtain⟨a,c,rfl,K⟩:=hx.row;have HC:=a6 (j_U B xs.length a c (xs.map C5) W K hB hn);have HS:=a6 (fun(w1:World) (v:Value) (ho:w1.ownsRow W 36 1 v xs.length (xs.map C5)) (hb:Below W W w1)=>r_j W 0 v xs w1 ⟨ho,fun x H5=>by
  refine RowQ.keep ((hx.all x H5).q hB) hb.size (fun b _ u=>hb.block b u) fun b h4 _=>⟨Nat.zero_le _,fun e=> ?_⟩
  have:=(ho.lt b e).1
  omega⟩ hn)
 have HP:=a6 Y;obtain⟨T,hT⟩:∃T,T=oY (iV xs):=⟨_,rfl⟩;rw [<- hT]at HS⊢;have Z:=a6 (show T.length <= 100000000 from by rw [hT];exact aJ (a_g _) t_k)
 obtain⟨R,hR⟩:∃R,R=m5 T:=⟨_,rfl⟩;have HR:=a6 (show lY none T=R from hR.symm);rw [<- hR];clear hx K Y hT hR hB;go_enter Tryz.func76,Tryz.ntmps76;go_wp2_with fail;refine HC.o.mono ?_;rintro e w1 ⟨v,rfl,f,d⟩;have H0:=a6 (HS.o w1 v f d)
 have H1:=a6 (show ∀k,v.ownBlock=some k ->W.heap.size <= k from fun k hk=>(f.lt k hk).1);obtain⟨va,vc,hv, -⟩:=nV f (i_e xs);subst hv;have L:=a6 d
 clear f d HC HS;go_wp2_with fail;refine H0.o.mono ?_;rintro e w2 ⟨v2,ys,rfl,hy,hp,hm, -,H2⟩;obtain⟨ya,yc,H6⟩:=hy.form;subst H6;have M:=a6 (L.o.trans (H2.old L.o.size H1.o))
 have HY:=a6 hy.read;have h5:ys.length <= 100000000:=by have h:=congrArg List.length hp;simp at h;have:=Z.o;omega
 have H7:=a6 (show ∀y∈ys,y.1.length <= 100000000 from fun y H8=>HP.o y (hm y H8));rw [<- hp]at HR;have N:=a6 M.o.size
 clear hy hp hm H2 H0 HP Z L H1;go_wp2_with fail
 go_loopg [10,3] ys.length (fun g i o wr=>∃ (k:Nat) (os:List PX),i= .int .i64 k/\k+g=ys.length/\os.length <= k/\Hid (iV os ++ lY ((os.getLast?).map (·.1)) (iV (ys.drop k))=R)/\Hid (lV wr w2 w2 o os)/\Hid (Below w2 w2 wr))
 case atStart=>exact⟨0, [],rfl,by omega,by simp,(show iV [] ++ lY none (iV (ys.drop 0))=R by simpa using HR.o),lV.nil _ _ _,a7⟩
 case round=>
  obtain⟨k,os,rfl,hg,hok,w,ho,r⟩:=hrel;obtain⟨oa,oc,H9⟩:=ho.o.form;subst H9;by_cases u:k < ys.length
  . have h2:(k:Int) < ys.length:=P2
    have O:=HY.o.keep r.o r.o.size;obtain⟨b,off,rfl,hb,hc⟩:=O.at_ k u;have n:=a6 (O.all ys[k] (NY u));have t:=a6 (H7.o ys[k] (NY u));have G:=a6 (show iV (ys.drop k)=ys[k].1::iV (ys.drop (k+1))by rw [NX u];rfl);generalize ys[k]=x at hc n t G;obtain⟨x0,xa,xc⟩:=x;unfold C5 at hc;simp only at hc n t G;have Hb:=a6 hb
    clear O hb;by_cases he:os= []
    . have p:=a6 (show iV os ++ ([x0] ++ lY (some x0) (iV (ys.drop (k+1))))=R by
       have h:=w.o;rw [he,G.o]at h;rw [he];exact h)
      have P:os.length=0:=by rw [he];rfl
      have h0:((os.length:Int) == 0)=true:=by simp [P]
      have h6:=a6 P;clear he w P;go_wp2_with fail;refine(pZ wr x0.length xa xc _ wr n.o ?_ t.o).mono ?_
      . exact a8
      rintro e w4 ⟨cv,rfl,f,d⟩;obtain⟨ca,cc,rfl,hq⟩:=nV f (JV .i64 x0);have C:=a6 (b6 r.o d);have Q:=a6 (ho.o.below d);have Hq:=a6 (show N5 w4 (fun b=>w2.heap.size <= b/\(Value.slice oa os.length oc).ownBlock≠some b) (x0,ca,cc)from qJ hq fun b hb=>⟨aJ r.o.size hb,fun e=>by have:=(ho.o.own.lt b e).2;omega⟩);clear d f hq;go_wp2_with (at_builtin;refine BV rfl _ _ rfl Tryz.underlying47 E9 w2 w2 (Value.slice oa os.length oc) os rfl ?hO (x0,ca,cc) rfl rfl ?hq ?hn ?hM ?_)
      case hO=>exact Q.o
      case hq=>exact Hq.o
      case hn=>omega
      case hM=>exact C.o.size
      intro v' w5 D E;have S:=a6 D;have U:=a6 (C.o.trans E)
      clear D E Hq;go_wp2_with fail
      go_roundg (ys.length - (k+1))
      case measure=>omega
      case rel=>
       refine⟨k+1,os ++ [(x0,ca,cc)],by go_num,by omega,by simp;omega, ?_,S,U⟩
       show iV (os ++ [(x0,ca,cc)]) ++ lY (((os ++ [(x0,ca,cc)]).getLast?).map (·.1)) (iV (ys.drop (k+1)))=R
       rw [List.getLast?_append,mJ,B8,O4];exact p.o
    obtain⟨m,hm⟩:∃m,os.length=m+1:=⟨os.length - 1,by have:os.length≠0:=fun h=>he (O2 h);omega⟩;have V:m < os.length:=P2
    have h0:((os.length:Int) == 0)=false:=beq_eq_false_iff_ne.2 P2;have h3:IntKind.i64.wrap ((os.length:Int) - 1)=(m:Int):=by rw [show ((os.length:Int) - 1)=(m:Int)by omega];exact IntWalk.i64_in _ P2
    have h7:(m:Int) < os.length:=P2
    obtain⟨b2,off2,rfl,H3,F⟩:=ho.o.read.at_ m V;have s:=a6 (ho.o.read.all os[m] (NY V));have l:=a6 (show os.getLast? =some os[m]by rw [List.getLast?_eq_getElem?,show os.length - 1=m by omega,NV V]);have M:=a6 H3;generalize os[m]=q at F s l;obtain⟨q0,qa,qc⟩:=q;unfold C5 at F;simp only at F s l;have z:=a6 (g_E q0 x0 qa xa qc xc wr wr s.o n.o)
    have H:=a6 (show iV os ++ lY (some q0) (x0::iV (ys.drop (k+1)))=R by
     have h:=w.o;rw [l.o,G.o]at h;exact h)
    have Hm:=a6 hm;clear he w H3 hm;cases A:kJ q0 x0 with
    | true=>
      rw [A]at z;have p:=a6 (show iV os ++ lY (some q0) (iV (ys.drop (k+1)))=R by
       have h:=H.o;unfold lY at h;rw [if_pos A]at h;exact h)
      clear A H;go_wp2_with fail;refine z.o.mono ?_;rintro e w3 ⟨rfl,hd⟩;have d:=hd.below (w':=w3) wr.heap.size
      have I:=a6 (b6 r.o d);have J:=a6 (ho.o.below d);clear hd d z hc F;go_wp2_with fail
      go_roundg (ys.length - (k+1))
      case measure=>omega
      case rel=>
       refine⟨k+1,os,by go_num,by omega,by omega, ?_,J,I⟩
       show iV os ++ lY (os.getLast?.map (·.1)) (iV (ys.drop (k+1)))=R
       rw [l.o];exact p.o
    | false=>
      rw [A]at z;have p:=a6 (show iV os ++ ([x0] ++ lY (some x0) (iV (ys.drop (k+1))))=R by
       have h:=H.o;unfold lY at h;rw [if_neg (by simp [A])]at h;exact h)
      clear A H;go_wp2_with fail;refine z.o.mono ?_;rintro e w3 ⟨rfl,hd⟩;have j:=hd.below (w':=w3) wr.heap.size
      have I:=a6 (b6 r.o j);have J:=a6 (ho.o.below j);have X:=a6 (n.o.keep j (a8));have h1:=a6 j.size;clear hd j z hc F;go_wp2_with fail;refine(pZ wr x0.length xa xc _ w3 X.o ?_ t.o).mono ?_
      . exact h1.o
      rintro e w4 ⟨cv,rfl,f,d⟩;obtain⟨ca,cc,rfl,hq⟩:=nV f (JV .i64 x0);have C:=a6 (b6 I.o d);have Q:=a6 (J.o.below d);have Hq:=a6 (show N5 w4 (fun b=>w2.heap.size <= b/\(Value.slice (some (b2,off2)) os.length oc).ownBlock≠some b) (x0,ca,cc)from qJ hq fun b hb=>⟨aJ I.o.size hb,fun e=>by have:=(J.o.own.lt b e).2;omega⟩);clear d f hq;go_wp2_with (at_builtin;refine BV rfl _ _ rfl Tryz.underlying47 E9 w2 w2 (Value.slice (some (b2,off2)) os.length oc) os rfl ?hO (x0,ca,cc) rfl rfl ?hq ?hn ?hM ?_)
      case hO=>exact Q.o
      case hq=>exact Hq.o
      case hn=>omega
      case hM=>exact C.o.size
      intro v' w5 D E;have S:=a6 D;have U:=a6 (C.o.trans E)
      clear D E Hq;go_wp2_with fail
      go_roundg (ys.length - (k+1))
      case measure=>omega
      case rel=>
       refine⟨k+1,os ++ [(x0,ca,cc)],by go_num,by omega,by simp;omega, ?_,S,U⟩
       show iV (os ++ [(x0,ca,cc)]) ++ lY (((os ++ [(x0,ca,cc)]).getLast?).map (·.1)) (iV (ys.drop (k+1)))=R
       rw [List.getLast?_append,mJ,B8,O4];exact p.o
  obtain rfl:k=ys.length:=P2
  have H4:=a6 (show iV os=R by have:=w.o;rw [List.drop_length]at this;simpa [lY]using this);clear w;go_wp2_with fail;go_ret;exact⟨_,os,rfl,ho.o.from N.o N.o,H4.o,M.o.trans (r.o.mono N.o)⟩
abbrev xQ (n:aX):List (List Int):=jZ (fun _=>true) n []
theorem j_V (n:aX) (v:Value) (W:World) (hw:n.wt <= 100000000) (hv:bY W W n v):Calls Tryz.prog 78 #[v] W (C8 W (xQ n)):=by
 refine(r_G n v W hw hv).mono fun e w' h=> ?_
 obtain⟨u,cs,rfl,h1,h2,h3⟩:=h;obtain⟨xs,hx,rfl,h4⟩:=f_J h2;refine⟨u,xs,rfl,⟨?_,h4⟩,hx.symm,h3⟩;have hl:(xQ n).length=xs.length:=by rw [show xQ n=iV xs from hx];simp
 rw [<- hl];exact h1
theorem e_u (n:aX) (v:Value) (B:Nat) (W:World) (hw:n.wt <= 100000000) (hv:bY W B n v) (hB:B <= W.heap.size):Calls Tryz.prog 23 #[v] W (C8 W (oY ((xQ n).filter (dX n)))):=by
 have j:=hv;have i:=uK (fun _=>true) n [];obtain⟨lf,ps,t,ks⟩:=n;obtain⟨ap,cp,at_,ct,ak,ck,css,rfl, -, -, -, -⟩:=j.open;generalize aX.mk lf ps t ks=n at hv hw i⊢;obtain⟨w0,d⟩:∃w0,w0=W.alloc (Obj.cells #[lf,(ap,ps.length,cp),(at_,t.length,ct),(ak,ks.length,ck)] 35):=⟨_,rfl⟩;have a:Below W W w0:=by rw [d];exact b7 _ _
 have hA:At w0 W [lf,(ap,ps.length,cp),(at_,t.length,ct),(ak,ks.length,ck)] 35:=by rw [d];exact At.fresh W _ _
 have HP:=a6 (fun(w1:World) (hb:Below w0 w0 w1)=>j_V n _ w1 hw (hv.keep ((a.trans (hb.mono a.size)).mono hB) (aJ hB (a.trans (hb.mono a.size)).size)));obtain⟨R,hR⟩:∃R,R=xQ n:=⟨_,rfl⟩;have HE:=a6 (fun(w1:World) (hb:Below W W w1) (u:Value) (ys:List PX) (hy:lV w1 w0 w0 u ys) (hl:ys.length <= 100000000)=>b_8 n _ B w0 w0 u ys w1 hw (hv.keep (hb.mono hB) (a8)) (aJ hB hb.size) (aJ hB a.size) hy hl);have HR:=a6 (show R.length <= 100000000 by rw [hR];exact aJ i hw);simp only [<- hR]at HP⊢;have b:=a6 a;have l:=a6 d;have HA:=a6 hA
 have o:=a6 (fun(w':World) (hb:Below w0 w0 w')=>(HA.o.kept hb).f4.1);clear hv j hw a d hA hB i hR;go_enter Tryz.func23,Tryz.ntmps23;go_upto_region 1 with fail;rw [<- l.o];clear l;go_region_held3 (fun w'=>w'.cell? W=some (.bool lf)/\w'.cell? (P0 W 1)=some (.slice ap ps.length cp)/\w'.cell? (P0 W 2)=some (.slice at_ t.length ct)/\w'.cell? (P0 W 3)=some (.slice ak ks.length ck)) (refine o.o _ (by(with_reducible (repeat (first | exact f.o | exact c.o | exact a7 | refine aK ?_ | refine aQ ?_ ?_ _ | refine aV ?_ ?_ _)) <;> (first | exact a8 | exact f.o.size | exact c.o.size | (have:=f.o.size;simp [World.setCell];omega) | (have:=c.o.size;simp [World.setCell];omega) | (simp <;> omega) | omega))))
  (first
  | (refine bQ rfl 78 _ _ rfl P5 [.agg #[lf,(ap,ps.length,cp),(at_,t.length,ct),(ak,ks.length,ck)]] ?_ _ (HP.o _ P1) ?_
     . go_simp
     rintro e w1 ⟨u,ys,rfl,hy,hp,g⟩;obtain⟨ua,uc,hu⟩:=hy.form;subst hu;refine⟨_,rfl, ?_⟩;have c:=a6 (b6 (w0:=w0) P1 g);have p:=a6 (b.o.trans (c.o.mono b.o.size));have Hy:=a6 (hy.from (M':=w0.heap.size) (L':=w0.heap.size) (by exact a8) (by exact a8));have Hp:=a6 hp;have q:=a6 (show ys.length <= 100000000 by have:=HR.o;have h:=congrArg List.length hp;simp at h;omega);clear hy hp g)
  | (refine bQ rfl 70 _ _ rfl P5 [.agg #[lf,(ap,ps.length,cp),(at_,t.length,ct),(ak,ks.length,ck)],(ua,ys.length,uc)] ?_ _ (HE.o _ p.o _ ys Hy.o q.o) ?_
     . go_simp
     rintro e w2 ⟨v',zs,rfl,hz,hp, -, -,m⟩;obtain⟨va,vc,r⟩:=hz.form;subst r;refine⟨_,rfl, ?_⟩;have Hz:=a6 hz;have s:=a6 hp
     have f:=a6 (c.o.grown m c.o.size (fun k hk=>Hy.o.ge k hk));clear hz hp m))
 all_goals
  go_wp2_with fail;go_ret;exact⟨_,zs,rfl,Hz.o.from b.o.size b.o.size,by rw [s.o,Hp.o],b.o.trans (f.o.mono b.o.size)⟩
def D7 (n:aX) (p:List Int):Nat:=match l9 n p with
 | some k=>(xQ k).length
 | none=>0
def e_v (n:aX) (L:List (List Int)):Nat:=(L.map (D7 n)).sum
abbrev o_u (n:aX) (L:List (List Int)):List (List Int):=oY ((L.filter bX).filter (dX n))
def M3 (n:aX) (L:List (List Int)):Nat:=e_v n (m5 (oY (o_u n L)))
theorem m_e (n:aX) (p:List Int):D7 n p <= n.wt:=by
 have h:=zJ p n;unfold D7;cases a:l9 n p with
 | none=>simp
 | some k=>exact aJ (uK _ k []) (h k a)
theorem i_f (n:aX) (v:Value) (B:Nat) (vx:Value) (xs:List PX) (W:World) (f:n.wt <= 100000000) (hv:bY W B n v) (hB:B <= W.heap.size) (hx:u_7 W B vx xs) (hn:xs.length <= 100000000) (G:∀x∈xs,x.1.length <= 100000000):
 Calls Tryz.prog 86 #[v,vx] W fun e w'=>e= .returned (M3 n (iV xs):Nat)/\Below W W w':=by
 have M:=hv;obtain⟨lf,ps,t,ks⟩:=n;obtain⟨ap,cp,at_,ct,ak,ck,css,rfl, -, -, -, -⟩:=M.open;generalize aX.mk lf ps t ks=n at hv f⊢;obtain⟨a,c,rfl, -⟩:=hx.row;obtain⟨w0,A⟩:∃w0,w0=W.alloc (Obj.cells #[lf,(ap,ps.length,cp),(at_,t.length,ct),(ak,ks.length,ck)] 35):=⟨_,rfl⟩;have z:Below W W w0:=by rw [A];exact b7 _ _
 have hA:At w0 W [lf,(ap,ps.length,cp),(at_,t.length,ct),(ak,ks.length,ck)] 35:=by rw [A];exact At.fresh W _ _
 have HS:=a6 (l_8 n _ B _ xs w0 f (hv.keep (z.mono hB) (a8)) (aJ hB z.size) (hx.keep (z.mono hB) (a8)) hn G);have HM:=a6 (show ∀p∈oY (((iV xs).filter bX).filter (dX n)),p.length <= 100000000 from fun p hp=>by
  have h:=(List.mem_filter.1 (List.mem_filter.1 (m4.1 hp)).1).1;obtain⟨x,Y,rfl⟩:=OV h;exact G x Y)
 have HL:=a6 (show (oY (((iV xs).filter bX).filter (dX n))).length <= 100000000 from aJ (a_g _) (aJ (List.length_filter_le _ _) (aJ (List.length_filter_le _ _) t_k)));have HG:=a6 (fun(w1:World) (hb:Below W W w1) (p:List Int) (pa:Option Addr) (pc:Nat) (hp:RowA w1 w1 1 pa p.length pc (p.map (Value.int .i64)))=>f_G n p _ pa pc w1 f (hv.keep (hb.mono hB) (aJ hB hb.size)) hp);have HW:=a6 f;have HR:=a6 (show M3 n (iV xs)=e_v n (m5 (oY (oY (((iV xs).filter bX).filter (dX n)))))from rfl);generalize M3 n (iV xs)=T at HR⊢;generalize oY (((iV xs).filter bX).filter (dX n))=E at HS HM HL HR;have HA:=a6 hA;have H:=a6 z;have N:=a6 A
 obtain⟨⟨x0,x1,x2,x3⟩, -,xl⟩:=hA.f4;clear hv M f z hA A hx G hB hn;go_enter Tryz.func86,Tryz.ntmps86;go_upto_region 1 with fail;rw [<- N.o];clear N;go_wp2_with fail;refine HS.o.mono ?_;rintro e w1 ⟨u,ys,rfl,hy,hp,d⟩;obtain⟨ua,uc,hu⟩:=hy.form;subst hu;have O:ys.length=E.length:=by rw [<- hp];simp
 have I:=a6 (l_9 w1 _ ys w1 (a8) hy.read (by rw [O];exact HL.o) fun y Z=>HM.o y.1 (by rw [<- hp];exact List.mem_map.2 ⟨y,Z,rfl⟩));rw [hp]at I;have P:=a6 (HA.o.kept d)
 have H0:=a6 (H.o.trans (d.mono H.o.size));have H1:=a6 d.size;have HQ:=a6 (show (m5 (oY E)).length <= 100000000 by
  have h:∀ (q:Option (List Int)) (l:List (List Int)),(lY q l).length <= l.length:=by
   intro q l;induction l generalizing q with
   | nil=>cases q <;> simp [lY]
   | cons p l ih=>
     cases q with
     | none=>simp only [lY,O7];have:=ih (some p);omega
     | some q=>
       simp only [lY];split
       . have:=ih (some q);simp;omega
       have:=ih (some p);simp;omega
  exact aJ (h none (oY E)) (aJ (a_g _) HL.o))
 clear hy hp O d HS x0 x1 x2 x3 xl HA HM HL;go_wp2_with fail;refine I.o.mono ?_;rintro e w2 ⟨u2,zs,rfl,hz,hp,d⟩;obtain⟨za,zc,hu⟩:=hz.form;subst hu;have HZ:=a6 hz.read
 have H2:=a6 (P.o.kept d);have Q:=a6 (H0.o.trans (d.mono (aJ H.o.size H1.o)));have h0:zs.length <= 100000000:=by have:=HQ.o;rw [<- hp]at this;simpa using this
 have HT:=a6 (show e_v n (iV zs)=T by rw [hp];exact HR.o.symm);clear hz hp d I P HR HQ;go_wp2_with fail
 go_loopg [16,5] zs.length (fun g i s wr=>∃k m:Nat,i= .int .i64 k/\s= .int .i64 m/\k+g=zs.length/\m <= k * 100000000/\Hid (m+e_v n (iV (zs.drop k))=T)/\Hid (Below w2 w2 wr))
 case atStart=>exact⟨0,0,rfl,rfl,by omega,by omega,(show 0+e_v n (iV (zs.drop 0))=T by simpa using HT.o),a7⟩
 case round=>
  obtain⟨k,m,rfl,rfl,hg,H3,J,j⟩:=hrel;have R:=a6 (Q.o.trans (j.o.mono Q.o.size))
  by_cases K:k < zs.length
  . have H9:(k:Int) < zs.length:=P2
    have C:=HZ.o.keep j.o j.o.size;obtain⟨b,off,rfl,hb,hc⟩:=C.at_ k K;have o:=C.all zs[k] (NY K);have D:=a6 (show m+(D7 n zs[k].1+e_v n (iV (zs.drop (k+1))))=T by
     have h:=J.o;rw [NX K]at h;exact h)
    have hsz:=m_e n zs[k].1;generalize zs[k]=x at hc o D hsz;obtain⟨q0,qa,qc⟩:=x;unfold C5 at hc;simp only at hc o D hsz;have w:=a6 (HG.o wr R.o q0 qa qc o)
    obtain⟨⟨x0,x1,x2,x3⟩, -,xl⟩:=(H2.o.kept j.o).f4;have H4:=HW.o
    cases r:l9 n q0 with
    | none=>
      rw [r]at w;have Hs:=a6 (show D7 n q0=0 by unfold D7;rw [r])
      clear r C o hb hsz;go_wp2_with fail;refine w.o.mono ?_;rintro e w3 ⟨rfl,d⟩;have H5:=a6 ((b6 j.o d).trans ((b7 w3 (Obj.cells #[false,(),(),()] 35)).mono (b6 j.o d).size))
      clear d w hc x0 x1 x2 x3 xl;go_wp2_with fail
      go_roundg (zs.length - (k+1))
      case measure=>omega
      case rel=>exact⟨k+1,m,by go_num,rfl,by omega,aJ H3 (Nat.mul_le_mul_right _ (Nat.le_succ k)),(show m+e_v n (iV (zs.drop (k+1)))=T by have h:=D.o;rw [Hs.o,O5]at h;exact h),H5.o⟩
    | some q=>
      rw [r]at w;have Hs:=a6 (show D7 n q0=(xQ q).length by unfold D7;rw [r])
      have h1:(xQ q).length <= 100000000:=by rw [<- Hs.o];omega
      have H6:=a6 (show q.wt <= 100000000 from aJ (zJ q0 n q r) H4);clear r C o hb hsz;go_wp2_with fail;refine w.o.mono ?_;rintro e w3 ⟨cs,rfl,hq,d⟩;have L:=NodeQ.node _ _ hq
      obtain⟨l,a1,n1,c1,a2,n2,c2,a3,n3,c3,rfl⟩:=L.form;have F:=b7 w3 (Obj.cells #[l,(a1,n1,c1),(a2,n2,c2),(a3,n3,c3)] 35);have H7:=a6 ((b6 j.o d).trans (F.mono (b6 j.o d).size));have HP:=a6 (j_V q (.agg #[l,(a1,n1,c1),(a2,n2,c2),(a3,n3,c3)]) _ H6.o ⟨_,rfl,dY.keep F F.size _ _ L⟩);clear d w hc x0 x1 x2 x3 xl hq L F;go_wp2_with fail;refine HP.o.mono ?_;rintro e w5 ⟨u5,fs,rfl,hf,S,d⟩;obtain⟨fa,fc,hu⟩:=hf.form;subst hu;have U:fs.length=(xQ q).length:=by rw [<- S];simp
      have H8:=a6 (b6 H7.o d);have h2:IntKind.i64.wrap ((m:Int)+(fs.length:Int))=((m+fs.length:Nat):Int):=(IntWalk.i64_in _ P2).trans P2;have V:=a6 U;clear hf S d HP U;go_wp2_with fail
      go_roundg (zs.length - (k+1))
      case measure=>omega
      case rel=>exact⟨k+1,m+fs.length,by go_num,rfl,by omega,by have:=V.o;omega,(show (m+fs.length)+e_v n (iV (zs.drop (k+1)))=T by have h:=D.o;rw [Hs.o, <- V.o, <- Nat.add_assoc]at h;exact h),H8.o⟩
  obtain rfl:k=zs.length:=P2
  have X:=a6 (show m=T by have:=J.o;rw [List.drop_length]at this;simpa [e_v]using this);clear J;go_wp2_with fail;go_ret;exact⟨dV (by rw [X.o]),R.o⟩
theorem b_g:∀ {a b:List Int},a <+:b ->¬nY b a < 0
 | [], [],_=>by simp [nY]
 | [],_::_,_=>by simp [nY]
 | _::_, [],h=>by simp at h
 | x::a,y::b,h=>by
   obtain⟨rfl,h2⟩:=List.cons_prefix_cons.1 h;unfold nY;rw [if_pos (AQ.2 rfl)];exact b_g h2
theorem d_d:∀ {a b c:List Int},nY a b < 0 ->nY b c < 0 ->a <+:c ->a <+:b
 | [],b,c,_,_,_=>List.nil_prefix
 | x::a, [],c,h,_,_=>by simp [nY]at h
 | x::a,y::b, [],_,_,h=>by simp at h
 | x::a,y::b,z::c,h1,h2,h3=>by
   obtain⟨rfl,h4⟩:=List.cons_prefix_cons.1 h3;unfold nY at h1 h2;have d:x=y:=by
    by_cases e:A6 x y=0
    . exact AQ.1 e
    rw [if_neg e]at h1;have g1:=a_0.1 h1;rw [if_neg (fun e2=>by have:=AQ.1 e2;omega)]at h2;have g2:=a_0.1 h2
    omega
   subst d;rw [if_pos (AQ.2 rfl)]at h1 h2;exact List.cons_prefix_cons.2 ⟨rfl,d_d h1 h2 h4⟩
theorem f_X {a b:List Int}:kJ a b=true ↔ a.length < b.length/\a <+:b:=by
 unfold kJ;rw [Bool.and_eq_true,decide_eq_true_eq,decide_eq_true_eq,e_1]
theorem f_Y {a b:List Int} (c:nY a b < 0):a <+:b ↔ kJ a b=true:=by
 rw [f_X];refine⟨fun h=>⟨?_,h⟩,fun h=>h.2⟩;rcases Nat.lt_or_ge a.length b.length with h1 | h1
 . exact h1
 have:=h.eq_of_length_le h1;subst this;exact absurd c (by rw [K2];omega)
theorem a_h:∀ (S:List (List Int)) (q:List Int),pK S ->(∀s∈S,nY q s < 0) ->
 (∀r∈lY (some q) S,r∈S/\¬q <+:r)/\(lY (some q) S).Pairwise (fun a b=>¬a <+:b/\¬b <+:a)/\∀s∈S,q <+:s∨ ∃r∈lY (some q) S,r <+:s
 | [],q,_,_=>by simp [lY]
 | p ::S,q,hS,hq=>by
   obtain⟨h1,h2⟩:=List.pairwise_cons.1 hS;have c:=hq p P6;unfold lY;by_cases ha:kJ q p=true
   . rw [if_pos ha]
     obtain⟨g1,g2,g3⟩:=a_h S q h2 fun s hs=>hq s (by simp [hs])
     refine⟨fun r hr=>⟨by simp [(g1 r hr).1],(g1 r hr).2⟩,g2,fun s hs=> ?_⟩;rcases OJ hs with rfl | hs
     . exact .inl ((f_Y c).2 ha)
     exact g3 s hs
   rw [if_neg ha];have d:¬q <+:p:=fun h=>ha ((f_Y c).1 h)
   obtain⟨g1,g2,g3⟩:=a_h S p h2 h1;refine⟨fun r hr=> ?_,List.pairwise_cons.2 ⟨fun r hr=>⟨(g1 r hr).2,fun h=>b_g h (h1 r (g1 r hr).1)⟩,g2⟩,fun s hs=> ?_⟩
   . rcases OJ hr with rfl | hr
     . exact⟨by simp,d⟩
     exact⟨by simp [(g1 r hr).1],fun h=>d (d_d c (h1 r (g1 r hr).1) h)⟩
   rcases OJ hs with rfl | hs
   . exact .inr ⟨s,by simp,List.prefix_rfl⟩
   rcases g3 s hs with h | ⟨r,hr,h⟩
   . exact .inr ⟨p,by simp,h⟩
   exact .inr ⟨r,by simp [hr],h⟩
theorem IK (S:List (List Int)) (hS:pK S):
 (∀r∈m5 S,r∈S)/\(m5 S).Pairwise (fun a b=>¬a <+:b/\¬b <+:a)/\∀s∈S,∃r∈m5 S,r <+:s:=by
 unfold m5;cases S with
 | nil=>simp [lY]
 | cons p S=>
   obtain⟨h1,h2⟩:=List.pairwise_cons.1 hS;obtain⟨g1,g2,g3⟩:=a_h S p h2 h1;unfold lY;refine⟨fun r hr=> ?_,List.pairwise_cons.2 ⟨fun r hr=>⟨(g1 r hr).2,fun h=>b_g h (h1 r (g1 r hr).1)⟩,g2⟩,fun s hs=> ?_⟩
   . rcases OJ hr with rfl | hr
     . simp
     simp [(g1 r hr).1]
   rcases OJ hs with rfl | hs
   . exact⟨s,by simp,List.prefix_rfl⟩
   rcases g3 s hs with h | ⟨r,hr,h⟩
   . exact⟨p,by simp,h⟩
   exact⟨r,by simp [hr],h⟩
mutual
theorem b_h (want:aX ->Bool):∀ (n:aX) (p x:List Int),x∈jZ want n p ->p <+:x
 | .mk l ps t ks,p,x=>by
   intro h;unfold jZ at h;rcases OQ h with h | h
   . split at h
     . rw [O9 h];exact List.prefix_rfl
     simp at h
   obtain⟨j, -,hj⟩:=e_w want ks 0 p x h;exact(List.prefix_append _ _).trans hj
theorem e_w (want:aX ->Bool):∀ (ks:List aX) (i:Nat) (p x:List Int),x∈kV want ks i p ->∃j:Nat,i <= j/\(p ++ [(j:Int)]) <+:x
 | [],i,p,x=>by intro h;unfold kV at h;simp at h
 | k::ks,i,p,x=>by
   intro h;unfold kV at h;rcases OQ h with h | h
   . exact⟨i,a8,b_h want k _ x h⟩
   obtain⟨j,hj,hx⟩:=e_w want ks (i+1) p x h;exact⟨j,by omega,hx⟩
end
mutual
theorem d_e:∀ (n:aX) (p q:List Int),(jZ (fun _=>true) n p).length=(jZ (fun _=>true) n q).length
 | .mk l ps t ks,p,q=>by
   unfold jZ;rw [NZ,NZ,d_f ks 0 p q];simp
theorem d_f:∀ (ks:List aX) (i:Nat) (p q:List Int),(kV (fun _=>true) ks i p).length=(kV (fun _=>true) ks i q).length
 | [],i,p,q=>rfl
 | k::ks,i,p,q=>by
   unfold kV;rw [NZ,NZ,d_e k _ (q ++ [(i:Int)]),d_f ks (i+1) p q]
end
theorem m_f {p x:List Int} {i j:Int} {r:List Int} (h1:(p ++ [j]) <+:x) (h2:(p ++ i::r) <+:x):i=j:=by
 obtain⟨s,rfl⟩:=h1;obtain⟨u,hu⟩:=h2;rw [O4,O4,List.append_cancel_left_eq]at hu;simp at hu;exact hu.1
theorem i_g:∀ (r:List Int) (n:aX) (p:List Int),(jZ (fun _=>true) n p).countP (fun x=>(p ++ r).isPrefixOf x)=D7 n r
 | [],n,p=>by
   rw [List.append_nil];have h:(jZ (fun _=>true) n p).countP (fun x=>p.isPrefixOf x)=(jZ (fun _=>true) n p).length:=
    List.countP_eq_length.2 fun x hx=>List.isPrefixOf_iff_prefix.2 (b_h _ n p x hx)
   rw [h];unfold D7;rw [show l9 n []=some n by unfold l9;rfl];exact d_e n p []
 | i :: r, .mk l ps t ks,p=>by
   have hK:∀ (ks:List aX) (j:Nat),(kV (fun _=>true) ks j p).countP (fun x=>(p ++ i::r).isPrefixOf x)=if (j:Int) <= i then (match ks[(i - j).toNat]? with | some k=>D7 k r | none=>0) else 0:=by
    intro ks;induction ks with
    | nil=>intro j;unfold kV;simp
    | cons k ks ih=>
      intro j;unfold kV;rw [List.countP_append,ih (j+1)];by_cases a:i=(j:Int)
      . subst a
        have h1:(jZ (fun _=>true) k (p ++ [(j:Int)])).countP (fun x=>(p ++ (j:Int)::r).isPrefixOf x)=D7 k r:=by
         have:=i_g r k (p ++ [(j:Int)]);rw [O4]at this;exact this
        rw [h1,if_neg P2,if_pos (Int.le_refl _)]
        simp
      have h1:(jZ (fun _=>true) k (p ++ [(j:Int)])).countP (fun x=>(p ++ i::r).isPrefixOf x)=0:=by
       rw [List.countP_eq_zero];intro x hx h;exact a (m_f (b_h _ k _ x hx) (List.isPrefixOf_iff_prefix.1 h))
      rw [h1,O5];by_cases b:(j:Int) <= i
      . rw [if_pos b,if_pos P2]
        have e:(i - (j:Int)).toNat=(i - ((j+1:Nat):Int)).toNat+1:=P2
        rw [e,List.getElem?_cons_succ]
      rw [if_neg b,if_neg P2]
   unfold jZ;rw [List.countP_append,hK ks 0];have h0:([p]:List (List Int)).countP (fun x=>(p ++ i::r).isPrefixOf x)=0:=by
    rw [List.countP_eq_zero];intro x hx h;rw [O9 hx]at h;have:=(List.isPrefixOf_iff_prefix.1 h).length_le
    simp at this
    omega
   simp only [if_true];rw [h0,O5];unfold D7;rw [show l9 (.mk l ps t ks) (i::r)=if 0 <= i then (match ks[i.toNat]? with | some k=>l9 k r | none=>none) else none by rw [l9];rfl]
   by_cases hi:0 <= i
   . rw [if_pos R4,if_pos hi]
     simp only [Int.natCast_zero,Int.sub_zero];cases ks[i.toNat]? with
     | none=>rfl
     | some k=>rfl
   rw [if_neg R4,if_neg hi]
def d_w (E:List (List Int)) (x:List Int):Bool:=E.any fun q=>q.isPrefixOf x
theorem cov_iff {E:List (List Int)} {x:List Int}:d_w E x=true ↔ ∃q∈E,q <+:x:=by
 unfold d_w;rw [List.any_eq_true];constructor
 . rintro⟨q,h1,h2⟩;exact⟨q,h1,List.isPrefixOf_iff_prefix.1 h2⟩
 rintro⟨q,h1,h2⟩;exact⟨q,h1,List.isPrefixOf_iff_prefix.2 h2⟩
theorem f_Z {α :Type} (f g: α ->Bool):∀ (l:List α),(∀x∈l,f x=true ->g x=false) ->l.countP (fun x=>f x || g x)=l.countP f+l.countP g
 | [],_=>rfl
 | x::l,h=>by
   have ih:=f_Z f g l fun y hy=>h y t_t
   have hx:=h x P6;simp only [List.countP_cons,ih];cases hf:f x with
   | true=>simp [hx hf];omega
   | false=>cases g x <;> simp <;> omega
theorem g_0 (n:aX):∀ (R:List (List Int)),R.Pairwise (fun a b=>¬a <+:b/\¬b <+:a) ->e_v n R=(xQ n).countP (d_w R)
 | [],_=>(List.countP_eq_zero.2 fun x _=>by simp [d_w]).symm
 | r ::R,h=>by
   obtain⟨h1,h2⟩:=List.pairwise_cons.1 h;have hc:=i_g r n [];rw [List.nil_append]at hc;have e:(xQ n).countP (d_w (r::R))=(xQ n).countP (fun x=>r.isPrefixOf x || d_w R x):=rfl
   rw [e,f_Z _ _ _ fun x _ hr=> ?_, <- g_0 n R h2,hc]
   . simp [e_v]
   cases hq:d_w R x with
   | false=>rfl
   | true=>
     obtain⟨q,c,d⟩:=cov_iff.1 hq;rcases List.prefix_or_prefix_of_prefix (List.isPrefixOf_iff_prefix.1 hr) d with g | g
     . exact absurd g (h1 q c).1
     exact absurd g (h1 q c).2
theorem g_1:∀ (p:List Int) (n k:aX),n.wt <= 1048576 ->l9 n p=some k ->bX p=true
 | [],n,k,_,_=>rfl
 | i ::p,n,k,hw,h=>by
   unfold l9 at h;split at h
   . rename_i hi
     cases hk:(aY n)[i.toNat]? with
     | none=>rw [hk]at h;cases h
     | some q=>
       rw [hk]at h;have b:=(List.getElem?_eq_some_iff.1 hk).1
       have a:q∈aY n:=List.mem_of_getElem? hk;obtain⟨l,ps,t,ks⟩:=n;simp only [aY]at b a;have h1:=jJ a
       have h2:=i7 ks;simp only [aX.wt]at hw;have ih:=g_1 p q k P2 h
       unfold bX at ih⊢;rw [List.all_cons,ih,Bool.and_true];simp [D3]
       omega
   cases h
theorem e_x {n:aX} (hw:n.wt <= 1048576) {p:List Int} (h:dX n p=true):bX p=true:=by
 unfold dX at h;cases a:l9 n p with
 | none=>rw [a]at h;cases h
 | some k=>exact g_1 p n k hw a
theorem o_v {n:aX} (hw:n.wt <= 1048576) (L:List (List Int)):o_u n L=oY (L.filter (dX n)):=by
 unfold o_u;congr 1;rw [List.filter_filter];refine List.filter_congr fun p _=> ?_
 cases h:dX n p with
 | true=>simp [e_x hw h]
 | false=>simp
theorem m_g (L:List (List Int)):oY (oY L)=oY L:=(k_X (j8 L) fun x=>Iff.rfl).symm
theorem m_h (L:List (List Int)) (x:List Int):d_w (m5 (oY L)) x=d_w L x:=by
 obtain⟨h1, -,h3⟩:=IK (oY L) (j8 L);rw [Bool.eq_iff_iff,cov_iff,cov_iff];constructor
 . rintro⟨q,hq,hx⟩;exact⟨q,m4.1 (h1 q hq),hx⟩
 rintro⟨q,hq,hx⟩;obtain⟨r,hr,a⟩:=h3 q (m4.2 hq);exact⟨r,hr,a.trans hx⟩
theorem g_V {n:aX} (hw:n.wt <= 1048576) (L:List (List Int)):M3 n L=(xQ n).countP (d_w (L.filter (dX n))):=by
 unfold M3;rw [o_v hw,m_g,g_0 n _ (IK _ (j8 _)).2.1];congr 1
 funext x
 exact m_h _ x
theorem o_w (c:UInt8) (hc:Conv.runesFrom ⟨#[c]⟩ 1 0 #[]= #[.int .i32 c.toNat]) (w:World):∃cap w',(convert 9 32 (.string ⟨#[c]⟩)).run Tryz.prog w= .ok (.slice w 1 cap) w'/\
 Below w w w'/\RowA w' w' 1 w 1 cap [.int .i32 c.toNat]:=by
 have hsz:(Conv.runesFrom ⟨#[c]⟩ (⟨#[c]⟩:ByteArray).size 0 #[])= #[.int .i32 c.toNat]:=hc;have h:=run_runes_of_string (P:=Tryz.prog) w 9 32 21 ⟨#[c]⟩ Tryz.underlying9 Tryz.underlying32 Tryz.underlying21 (by rw [hsz];simp);rw [hsz]at h;have h1:(#[Value.int .i32 c.toNat]:Array Value).size=1:=rfl
 rw [h1]at h;have a:=grownCap_ge w 1 0 21
 have b:=grownCap_le_maxLen w 1 0 21 R8;refine⟨_,_,h,(a7).drew.alloc (a8) _,⟨by simp,a,b,by simp;rfl,(fun h=>by cases h),fun _=>⟨w,0,rfl,by simp,fun j u hj=> ?_⟩⟩⟩;have hg:=heap_alloc_new w.drew (Obj.cells (#[Value.int .i32 c.toNat] ++ Array.replicate (grownCap w 1 0 21 - 1) (.int .i32 0)) 21);have hd:w.drew.heap.size=w.heap.size:=rfl;rw [hd]at hg;rw [cell_of_row _ w (0+j) _ _ _ hg];have d:j=0:=by
  cases j with
  | zero=>rfl
  | succ j=>simp at hj
 subst d;simp at hj;subst hj;rw [Array.getElem?_append_left P6]
 rfl
def s_x (W:World) (ps:List fQ) (c:UInt8) (e:Ending) (w':World):Prop:=
 ∃ap cp at_ ct,e= .returned (.agg #[true, .slice ap ps.length cp, .slice at_ 1 ct,()])/\dY w' w' (.mk true ps [(c.toNat:Int)] []) [true, .slice ap ps.length cp, .slice at_ 1 ct,()]/\Below W W w'
theorem j_W (c:UInt8) (hc:Conv.runesFrom ⟨#[c]⟩ 1 0 #[]= #[.int .i32 c.toNat]) (ps:List fQ) (ap:Option Addr) (cp:Nat) (W:World) (hp:RowA W W 2 ap ps.length cp (cK ps)):
 Calls Tryz.prog 32 #[.string ⟨#[c]⟩,(ap,ps.length,cp)] W (s_x W ps c):=by
 obtain⟨cap,w1,h1,h2,h3⟩:=o_w c hc (W.alloc (Obj.cells #[Value.bool false,Value.slice none 0 0,Value.slice none 0 0,Value.slice none 0 0] 35));have f:(W.alloc (Obj.cells #[Value.bool false,Value.slice none 0 0,Value.slice none 0 0,Value.slice none 0 0] 35)).heap.size=W.heap.size+1:=P6
 have hz:=h2.size;rw [f]at h2 hz h3 h1;have a:w1.heap[W.heap.size]? =some (Obj.cells #[Value.bool false,Value.slice none 0 0,Value.slice none 0 0,Value.slice none 0 0] 35 (0,0)):=by
  rw [h2.block _ P2];exact heap_alloc_new W _
 have k0:w1.cell? W=some (.bool false):=VK
 have k1:w1.cell? (P0 W 1)=some (.slice none 0 0):=VK
 have k2:w1.cell? (P0 W 2)=some (.slice none 0 0):=VK
 have k3:w1.cell? (P0 W 3)=some (.slice none 0 0):=VK
 have f0:∀i,w1.frozen? ⟨W,i,none⟩=false:=fun i=>by simp [World.frozen?,a]
 have Hp:=a6 hp;have H2:=a6 h2;have H3:=a6 h3;have k:=a6 a
 clear hp h2 h3 f a hc;go_enter Tryz.func32,Tryz.ntmps32;go_wp2_with fail;have l:W.heap.size+1 < w1.heap.size∨True:= .inr trivial;refine bodyPost_ret (v:= .agg #[true,(ap,ps.length,cp), .slice (some (P0 (W+1) 0)) 1 cap,()]) (by simp [results,Tryz.results32,go_sem,k0,k1,k2,k3]) rfl ⟨ap,cp,_,cap,rfl, ?_, ?_⟩
 . have hb:Below W W w1:=j6 H2.o
   have r1:RowA w1 w1 2 ap ps.length cp (cK ps):=Hp.o.keep hb hb.size;have e:∀b off,ap=some ⟨b,off,none⟩ ->cK ps≠ [] ->b < W.heap.size:=fun b off h g=>by
    obtain⟨b',off',h',j, -⟩:=Hp.o.some_ g;rw [h]at h';cases h';exact j
   unfold dY;refine⟨ap,cp,_,cap,none,0, [],rfl, ?_, ?_, ?_,RowA.empty _ _ _,by unfold eX;rfl⟩
   . have hlen:=a_R ps
     by_cases d:cK ps= []
     . have h0:=Hp.o
       exact⟨h0.len,h0.le,h0.max,h0.one,h0.nil,fun h=>absurd d h⟩
     have r2:=(((r1.setCell W true (fun b off h=>by have:=e b off h d;simp;omega)).setCell (P0 W 1) (ap,ps.length,cp) (fun b off h=>by have:=e b off h d;simp;omega)).setCell (P0 W 2) (.slice (some (P0 (W+1) 0)) 1 cap) (fun b off h=>by have:=e b off h d;simp;omega)).setCell (P0 W 3) () (fun b off h=>by have:=e b off h d;simp;omega)
     simpa [World.setCell]using r2
   . have r2:=(((H3.o.setCell W true (fun b off h=>by cases h;simp)).setCell (P0 W 1) (ap,ps.length,cp) (fun b off h=>by cases h;simp)).setCell (P0 W 2) (.slice (some (P0 (W+1) 0)) 1 cap) (fun b off h=>by cases h;simp)).setCell (P0 W 3) () (fun b off h=>by cases h;simp)
     simpa [World.setCell]using r2
   intro z hz
   simp at hz
   subst hz;have:=c.toNat_lt
   have h1:IntKind.i32.min= -2147483648:=P9
   have h2:IntKind.i32.max=2147483647:=P9
   simp only [Lit.wf,Bool.and_eq_true,decide_eq_true_eq,h1,h2];omega
 exact((((j6 H2.o).setCell (p:=W) (a8) _).setCell (p:=(P0 W 1)) (a8) _).setCell (p:=(P0 W 2)) (a8) _).setCell (p:=(P0 W 3)) (a8) _
theorem c_G {w w':World} {E:TypeId} (sz n:Nat) (cs:List Value) (hl:cs.length=n * sz) (hn:n <= 1000000) (h1:∀u∈cs,u.oneCell'=true) (hb:Below (w+1) (w.alloc (Obj.cells cs.toArray E)) w'):RowA w' w' sz w n n cs:=by
 refine⟨hl,a8,by unfold maxLen;omega,h1,(fun h=>by cases h),fun _=>⟨w,0,rfl, ?_,fun j u hj=> ?_⟩⟩
 . have:=hb.size;simp at this;omega
 have hg:w'.heap[w.heap.size]? =some (Obj.cells cs.toArray E (0,0)):=by
  rw [hb.block _ P2];exact heap_alloc_new w _
 rw [cell_of_row _ w (0+j) _ E (0,0) hg];simpa using hj
def r_o (W:World) (s:List UInt8) (a:Option Addr) (c:Nat) (ks:List aX) (e:Ending) (w':World):Prop:=
 ∃g,e= .returned (.agg #[false, .slice (some ⟨g,0,none⟩) 1 1,(),(a,ks.length,c)])/\dY w' w' (.mk false [(E8,s)] [] ks) [false, .slice (some ⟨g,0,none⟩) 1 1,(),(a,ks.length,c)]/\Below W W w'
theorem o_x (x:UInt8) (r:List UInt8) (a:Option Addr) (c:Nat) (ks:List aX) (css:List Value) (W:World) (hr:RowA W W 4 a ks.length c css) (hk:eX W W ks css):
 Calls Tryz.prog 31 #[.string ⟨(x::r).toArray⟩,(a,ks.length,c)] W (r_o W (x::r) a c ks):=by
 have f:((⟨(x::r).toArray⟩:ByteArray).toList.isEmpty)=false:=QQ
 have d:(!(⟨(x::r).toArray⟩:ByteArray).toList.isEmpty)=true:=QQ
 have e:Hid (cK [(E8,x::r)]= [.string ⟨#[116,121,112,101]⟩, .string ⟨(x::r).toArray⟩]):=rfl;obtain⟨S,hS⟩:∃S,S=(⟨(x::r).toArray⟩:ByteArray):=⟨_,rfl⟩;rw [<- hS]at f d e⊢;have Hr:=a6 hr;have Hk:=a6 hk
 clear hr hk hS;go_enter Tryz.func31,Tryz.ntmps31;go_wp2_with fail;have b:=fun(o1 o2:Obj)=>a6 (a_5 W o1 o2 (Obj.cells #[.string ⟨#[116,121,112,101]⟩,S] 138))
 refine bodyPost_ret (v:= .agg #[false, .slice (some (P0 (W.heap.size+1+1) 0)) 1 1,(),(a,ks.length,c)]) (by simp [results,Tryz.results31,go_sem]) rfl ⟨W.heap.size+1+1,rfl, ?_,(b _ _).o⟩;unfold dY;refine⟨some ⟨W.heap.size+1+1,0,none⟩,1,none,0,a,c,css,rfl, ?_,RowA.empty _ _ _,by simp,Hr.o.keep (b _ _).o (b _ _).o.size,eX.keep (b _ _).o (b _ _).o.size ks css Hk.o⟩;rw [e.o];have h:=c_G (w:=(W.alloc (Obj.cells #[Value.bool false,Value.slice (some (P0 (W.heap.size+1+1) 0)) 1 1,Value.slice none 0 0,Value.slice a ks.length c] 35)).alloc (Obj.cells #[Value.bool false,Value.slice (some (P0 (W.heap.size+1+1) 0)) 1 1,Value.slice none 0 0,Value.slice a ks.length c] 35)) (E:=138) 2 1 [.string ⟨#[116,121,112,101]⟩,S] rfl P2 t_2 (a7)
 simpa using h
end Go.Proofs.YtmadpclcmjahoaaGreatDoor
