/- Parts of the proof: CC28. -/
import Derived.Test.YtmadpclcmjahoaaGreatDoorCC27
set_option linter.unusedVariables false
set_option linter.unusedSimpArgs false
set_option maxHeartbeats 8000000
set_option maxRecDepth 100000
namespace Go.Proofs.YtmadpclcmjahoaaGreatDoor
open Go.RowKit Go.Redl
def k_E (N:Nat) (lv gv:Value) (b:Nat):Prop:=b=N∨lv.ownBlock=some b∨gv.ownBlock=some b
abbrev OkB (B N:Nat) (lv gv:Value) (b:Nat):Prop:=B <= b/\¬k_E N lv gv b
structure sY (W:World) (B N:Nat) (tc:List Value) (lv gv:Value) (T:aX) (xs:List PX) (l:List fZ):Prop where
 tree:NodeQ W (OkB B N lv gv) T tc
 left:W.ownsRow B 36 1 lv xs.length (xs.map C5)
 paths:∀x∈xs,N5 W (OkB B N lv gv) x
 log:∃css,W.ownsRow B 55 21 gv l.length css/\m8 W (OkB B N lv gv) l css
 ln:lv.ownBlock≠some N
 gn:gv.ownBlock≠some N
 lg:∀b,lv.ownBlock=some b ->gv.ownBlock≠some b
structure CJ (W w':World) (N:Nat) (lv gv lv' gv':Value):Prop where
 os:w'.os=W.os
 tape:w'.tape=W.tape
 output:w'.output=W.output
 size:W.heap.size <= w'.heap.size
 block:∀b,b < W.heap.size ->¬k_E N lv gv b ->w'.heap[b]? =W.heap[b]?
 sub:∀b,b < W.heap.size ->k_E N lv' gv' b ->k_E N lv gv b
theorem CJ.of_below {W w':World} (N:Nat) (lv gv:Value) (h:Below W W w'):CJ W w' N lv gv lv gv:=⟨h.os,h.tape,h.output,h.size,fun b hb _=>h.block b hb,fun _ _ h=>h⟩
theorem CJ.of_grown {W w':World} {N:Nat} (lv gv:Value) (h:W.grownBy w' (some N)):CJ W w' N lv gv lv gv:=⟨h.os,h.tape,h.output,h.size,fun b hb hn=>h.block b hb (fun e=>hn (.inl t_4)),fun _ _ h=>h⟩
theorem CJ.trans {W w1 w2:World} {N:Nat} {lv gv lv1 gv1 lv2 gv2:Value} (h:CJ W w1 N lv gv lv1 gv1) (k:CJ w1 w2 N lv1 gv1 lv2 gv2):CJ W w2 N lv gv lv2 gv2:=
 ⟨k.os.trans h.os,k.tape.trans h.tape,k.output.trans h.output,aJ h.size k.size,fun b hb hn=>(k.block b (Nat.lt_of_lt_of_le hb h.size) (fun a=>hn (h.sub b hb a))).trans (h.block b hb hn),fun b hb c=>h.sub b hb (k.sub b (Nat.lt_of_lt_of_le hb h.size) c)⟩
theorem CJ.old {W w':World} {B N:Nat} {lv gv lv' gv':Value} (h:CJ W w' N lv gv lv' gv') (hB:B <= W.heap.size) (hn:∀b,k_E N lv gv b ->B <= b):Below B W w':=
 ⟨h.os,h.tape,h.output,h.size,fun b hb=>h.block b P2 (fun a=>by have:=hn b a;omega)⟩
theorem sY.bad {W:World} {B N:Nat} {tc:List Value} {lv gv:Value} {T:aX} {xs:List PX} {l:List fZ} (h:sY W B N tc lv gv T xs l) (hN:B <= N):∀b,k_E N lv gv b ->B <= b:=by
 obtain⟨css,h1, -⟩:=h.log;rintro b (rfl | e | e)
 . exact hN
 . exact(h.left.lt b e).1
 exact(h1.lt b e).1
theorem sY.badlt {W:World} {B N:Nat} {tc:List Value} {lv gv:Value} {T:aX} {xs:List PX} {l:List fZ} (h:sY W B N tc lv gv T xs l) (hN:N < W.heap.size):∀b,k_E N lv gv b ->b < W.heap.size:=by
 obtain⟨css,h1, -⟩:=h.log;rintro b (rfl | e | e)
 . exact hN
 . exact(h.left.lt b e).2
 exact(h1.lt b e).2
theorem sY.rowx {W:World} {B N:Nat} {tc:List Value} {lv gv:Value} {T:aX} {xs:List PX} {l:List fZ} (h:sY W B N tc lv gv T xs l):lV W B B lv xs:=
 ⟨h.left,fun x hx=>qJ (h.paths x hx) fun b hb=>⟨hb.1,fun e=>hb.2 (.inr (.inl e))⟩⟩
theorem sY.keep {W w':World} {B N:Nat} {tc:List Value} {lv gv:Value} {T:aX} {xs:List PX} {l:List fZ} {r:Option Nat} (h:sY W B N tc lv gv T xs l) (hg:W.grownBy w' r) (hr:∀b,r=some b ->b=N):sY w' B N tc lv gv T xs l:=by
 have hk:∀b,OkB B N lv gv b ->b < W.heap.size ->w'.heap[b]? =W.heap[b]? :=fun b hb a=>hg.block b a (fun e=>hb.2 (.inl (hr b e.symm)))
 obtain⟨css,h1,h2⟩:=h.log;exact⟨NodeQ.keep hg.size hk (fun _ h _=>h) _ _ h.tree,h.left.kept hg (by
  cases hv:lv.ownBlock with
  | none=>exact .inl rfl
  | some b=>exact .inr (fun e=>h.ln (by rw [hv, <- hr b (by rw [<- e])]))),fun x hx=>(h.paths x hx).keep hg.size hk (fun _ h _=>h),
  ⟨css,h1.kept hg (by
  cases hv:gv.ownBlock with
  | none=>exact .inl rfl
  | some b=>exact .inr (fun e=>h.gn (by rw [hv, <- hr b (by rw [<- e])]))),h2.stay ⟨hg.size,hk,fun _ h _=>h⟩⟩,h.ln,h.gn,h.lg⟩
theorem sY.below {W w':World} {B N:Nat} {tc:List Value} {lv gv:Value} {T:aX} {xs:List PX} {l:List fZ} (h:sY W B N tc lv gv T xs l) (hb:Below W W w'):sY w' B N tc lv gv T xs l:=h.keep (CK hb) (fun b e=>by cases e)
theorem sY.del {W w':World} {B N:Nat} {tc:List Value} {lv gv v':Value} {T:aX} {xs ys:List PX} {l:List fZ} (h:sY W B N tc lv gv T xs l) (hg:W.grownBy w' lv.ownBlock) (hz:w'.ownsRow B 36 1 v' ys.length (ys.map C5)) (hs:∀y∈ys,y∈xs) (hv:∀k,v'.ownBlock=some k ->lv.ownBlock=some k):
 sY w' B N tc v' gv T ys l/\CJ W w' N lv gv v' gv:=by
 have hok:∀b,OkB B N lv gv b ->OkB B N v' gv b:=fun b hb=>⟨hb.1,fun a=>hb.2 (by
  rcases a with e | e | e
  . exact .inl e
  . exact .inr (.inl (hv b e))
  exact .inr (.inr e))⟩
 have hk:∀b,OkB B N lv gv b ->b < W.heap.size ->w'.heap[b]? =W.heap[b]? :=fun b hb c=>hg.block b c (fun e=>hb.2 (.inr (.inl e.symm)))
 obtain⟨css,h1,h2⟩:=h.log;refine⟨⟨NodeQ.keep hg.size hk (fun b hb _=>hok b hb) _ _ h.tree,hz,fun x hx=>(h.paths x (hs x hx)).keep hg.size hk (fun b hb _=>hok b hb),⟨css,h1.kept hg (by
  cases hv:gv.ownBlock with
  | none=>exact .inl rfl
  | some b=>exact .inr (fun e=>h.lg b e.symm hv)),h2.stay ⟨hg.size,hk,fun b hb _=>hok b hb⟩⟩,fun e=>h.ln (hv _ e),h.gn,fun b e=>h.lg b (hv b e)⟩, ?_⟩
 exact⟨hg.os,hg.tape,hg.output,hg.size,fun b hb hn=>hg.block b hb (fun e=>hn (.inr (.inl e.symm))),fun b hb a=>by
  rcases a with e | e | e
  . exact .inl e
  . exact .inr (.inl (hv b e))
  exact .inr (.inr e)⟩
theorem SchemaV.shape {W:World} {B:Nat} {s:b5} {v:Value} (h:SchemaV W B s v):∃ (a:Option Addr) (c:Nat) (ea:Option Addr) (ec sn en:Nat) (Y1:ByteArray) (Y2:Int) (Y3:ByteArray) (Y4:Int) (Y5:ByteArray) (Y6:Int) (Y7:ByteArray) (Y8 o0 o1 o2 o3 o4 o5:Int),v= .agg #[(a,sn,c),Y1,Y2,Y3,Y4,Y5,(ea,en,ec),Y6,Y7,o0,o1,o2,o3,o4,o5,Y8]:=by
 obtain⟨a,c,css,ea,ec,o0,o1,o2,o3,o4,o5,rfl, -, -, -, -⟩:=h.open;exact⟨_,_,_,_,_,_,_,_,_,_,_,_,_,_,_,_,_,_,_,_,rfl⟩
def o8 (s:b5) (n:aX):Int:=if eJ s≠0 then eJ s else if dQ n≠0 then dQ n else if b8 n then 7 else 0
theorem s_C (s:b5) (n:aX) (u v:Value) (W:World) (hs:s.wt <= 1048576) (hn:n.wt <= 1048576) (hu:SchemaV W W s u) (hv:bY W W n v):
 Calls Tryz.prog 75 #[u,v] W fun e w'=>e= .returned (o8 s n)/\Below W W w':=by
 have p:=hu;obtain⟨csn,rfl,hc⟩:=hv;obtain⟨l,b1,m1,d1,b2,m2,d2,b3,m3,d3,rfl⟩:=hc.form;have f:=e_M (dY.q (a8) _ _ hc);obtain⟨a,c,css,ea,ec,o0,o1,o2,o3,o4,o5,rfl, -, -, -, -⟩:=p.open;obtain⟨w0,g⟩:∃w0,w0=(W.alloc (Obj.cells #[(a,s.rules.length,c),aZ s.els.type,s.els.text.1,aZ s.els.text.2,s.els.other.1,aZ s.els.other.2,(ea,s.els.kids.length,ec),s.els.fill,aZ s.els.fillT,o0,o1,o2,o3,o4,o5,s.cap] 30)).alloc (Obj.cells #[l,(b1,m1,d1),(b2,m2,d2),(b3,m3,d3)] 35):=⟨_,rfl⟩;have d:Below W W w0:=t_A
 have B:=a6 (show At w0 W [(a,s.rules.length,c),aZ s.els.type,s.els.text.1,aZ s.els.text.2,s.els.other.1,aZ s.els.other.2,(ea,s.els.kids.length,ec),s.els.fill,aZ s.els.fillT,o0,o1,o2,o3,o4,o5,s.cap] 30 by rw [g];exact(At.fresh W _ _).alloc _);have r:=a6 (show At w0 (W+1) [l,(b1,m1,d1),(b2,m2,d2),(b3,m3,d3)] 35 by rw [g];exact At.second W _ _ _);have t:∀w',Below w0 w0 w' ->bY w' w' n (.agg #[l,(b1,m1,d1),(b2,m2,d2),(b3,m3,d3)]):=fun w' hb=>⟨_,rfl,dY.keep (d.trans (hb.mono d.size)) (d.trans (hb.mono d.size)).size _ _ hc⟩
 have HT:=a6 (i_K s _ w0 P2 (hu.keep d d.size));have HK:=a6 (fun(w':World) (hb:Below w0 w0 w')=>e_b n _ w' w' hn (t w' hb) (a8));have HL:=a6 f;have i:=a6 d;have w:=a6 g
 unfold o8;obtain⟨z1,x⟩:∃z1,z1=eJ s:=⟨_,rfl⟩;obtain⟨z2,y⟩:∃z2,z2=dQ n:=⟨_,rfl⟩;rw [<- f];simp only [<- x, <- y]at HT HK⊢;obtain⟨R0,k⟩:∃R0:Int,R0=(if z1≠0 then z1 else if z2≠0 then z2 else if l then 7 else 0):=⟨_,rfl⟩;rw [<- k];have j:=a6 k
 clear k;clear p hc g d hu t f hs hn x y;go_enter Tryz.func75,Tryz.ntmps75;go_upto_region 1 with fail;rw [<- w.o];clear w;go_wp2_with (refine bZ rfl _ _ rfl W.heap.size #[(a,s.rules.length,c),aZ s.els.type,s.els.text.1,aZ s.els.text.2,s.els.other.1,aZ s.els.other.2,(ea,s.els.kids.length,ec),s.els.fill,aZ s.els.fillT,o0,o1,o2,o3,o4,o5,s.cap] rfl B.o _ Tryz.underlying30 rfl P3 ?_);refine HT.o.mono ?_;rintro e w1 ⟨rfl,b⟩;have m:=a6 b
 have z:=a6 (HK.o w1 b);clear b HT HK;by_cases hz:z1=0
 . subst hz
   obtain⟨⟨y0,y1,y2,y3⟩, -,yl⟩:=(r.o.kept m.o).f4;go_wp2_with fail;refine z.o.mono ?_;rintro e w2 ⟨rfl,b⟩;have A:=a6 (b6 m.o b)
   have h:=a6 (i.o.trans (A.o.mono i.o.size));clear b z y0 y1 y2 y3 yl;by_cases hz:z2=0
   . subst hz
     obtain⟨⟨y0,y1,y2,y3⟩, -,yl⟩:=(r.o.kept A.o).f4
     cases l with
     | true=>
       go_wp2_with fail;go_ret;exact⟨by rw [j.o];rfl,h.o⟩
     | false=>
       go_wp2_with fail;go_ret;exact⟨by rw [j.o];rfl,h.o⟩
   have C:(z2 != 0)=true:=SQ
   have o:=a6 (show R0=z2 by rw [j.o,if_neg P6,if_pos hz]);clear hz;go_wp2_with fail;go_ret;exact⟨by rw [o.o];rfl,h.o⟩
 have C:(z1 != 0)=true:=SQ
 have o:=a6 (show R0=z1 by rw [j.o,if_pos hz]);clear hz;have h:=a6 (i.o.trans (m.o.mono i.o.size))
 go_wp2_with fail;go_ret;exact⟨by rw [o.o];rfl,h.o⟩
theorem FZ (w:World) (r:Option Nat):w.grownBy w r:=⟨rfl,rfl,rfl,a8,fun _ _ _=>rfl⟩
theorem a_v {w w1:World} {r:Option Nat} (h:w.grownBy w1 r) (o:Obj):w.grownBy (w1.alloc o) r:=h.then (b7 _ _)
theorem a_K {w w1:World} {r:Option Nat} (h:w.grownBy w1 r):w.grownBy w1.drew r:=h.then (a7).drew
theorem L2 {a b c:World} {r:Option Nat} (h:a.grownBy b r) (k:b.grownBy c r):a.grownBy c r:=fK h k
theorem p_m {w:World} {base e sz n:Nat} {v:Value} {cs:List Value} (h:w.ownsRow base e sz v n cs):∃a c,v= .slice a n c:=by
 obtain⟨-,h2⟩:=h;rcases h2 with⟨h,rfl⟩ | ⟨_,_,_,h, -⟩
 . exact⟨_,_,h⟩
 exact⟨_,_,h⟩
theorem c_N {w:World} {N:Nat} {ok:Nat ->Prop} {od:fZ} {c:List Value} (h:At w N c 55) (hq:OpQ w ok od c):RowA w (N+1) 21 N 1 1 c:=
 ⟨by rw [hq.len],a8,by unfold maxLen;omega,hq.one,(fun e=>by cases e),fun _=>⟨N,0,rfl,by omega,fun j u hj=>by rw [O5];exact h.cell j hj⟩⟩
theorem f_9 {P:Program} {ops:Array Oper} {o:Oper} {a:Act} {w:World} {K:Act ->World ->Prop} {Q:Exit ->Act ->World ->Prop} {E:Prop}
 (hg:o.guard=none) (s x:Operand) (ho:o.op= .call { callee:= .builtin .append,args:= #[s,x],argTypes:= #[42,42] })
 (ht:P.underlying 42=some (.slice 55)) (hi:(P.info? 55).map (fun i=>(i.zero,i.size,i.bytes))=some (some (.agg #[OY,(),(),OY,false,(),(),(),(),(),(),false,(),OY,(),OY,false,(),OY,(),OY]),21,360))
 (M:Nat) (v:Value) (l:List fZ) (css:List Value) (ok:Nat ->Prop) (hs:a.eval s=v) (g:w.ownsRow M 55 21 v l.length css) (hQ:m8 w ok l css) (hok:∀b,ok b ->v.ownBlock≠some b) (od:fZ) (c:List Value) (ad:Addr) (B:Nat)
 (hx:a.eval x= .slice (some ad) 1 1) (hr:RowA w B 21 (some ad) 1 1 c) (hq:OpQ w ok od c) (hn:l.length <= 100000000000) (hM:M <= w.heap.size)
 (h:∀v' w',(∃na nc,v'= .slice na (l ++ [od]).length nc) ->w'.ownsRow M 55 21 v' (l ++ [od]).length (css ++ c) ->m8 w' ok (l ++ [od]) (css ++ c) ->w.grownBy w' v.ownBlock ->(v'.ownBlock=v.ownBlock∨ ∀k,v'.ownBlock=some k ->w.heap.size <= k) ->K (a.put o.dst v') w'):
 if Region.wanted o (yielded ops a.tmps)=true then Oper.wp P o a w K Q else E:=by
 refine JX hg s x 42 ho M 55 _ 21 360 ht hi rfl P9 v l.length css hs g ad 1 1 B c hx hr R8 P2 hM fun v' w' d f m=> ?_
 have j:b_0 w w' ok ok:=⟨f.size,fun b hb n=>f.block b n (fun e=>hok b hb e.symm),fun _ h _=>h⟩;have hl:(l ++ [od]).length=l.length+1:=P6
 rw [<- hl]at d;exact h v' w' (p_m d) d (m8.append (hQ.stay j) (m8.single (hq.stay j))) f m
theorem m_Y {wr wc wz wq:World} {B N:Nat} {lv gv vx gv':Value} {T T2:aX} {xs zs:List PX} {gs gs':List fZ} {tc tc2 css:List Value}
 (hS:sY wr B N tc lv gv T xs gs) (hN:N < wr.heap.size) (r:B <= N) (hb:Below wr wr wc) (hX:NodeQ wc (fun b=>wr.heap.size <= b) T2 tc2) (hg:wc.grownBy wz gv.ownBlock)
 (g:wz.ownsRow wc 36 1 vx zs.length (zs.map C5)) (j:∀x∈zs,N5 wz (fun b=>wc.heap.size <= b/\vx.ownBlock≠some b/\gv'.ownBlock≠some b) x)
 (l:wz.ownsRow B 55 21 gv' gs'.length css) (hq:m8 wz (fun b=>b < wr.heap.size/\OkB B N lv gv b) gs' css) (how:gv'.ownBlock=gv.ownBlock∨ ∀k,gv'.ownBlock=some k ->wc.heap.size <= k)
 (p:∀k,vx.ownBlock=some k ->gv'.ownBlock≠some k) (c:wz.grownBy wq (some N)):
 sY wq B N tc2 vx gv' T2 zs gs'/\CJ wr wq N lv gv vx gv'/\b_0 wr wq (OkB B N lv gv) (OkB B N vx gv'):=by
 obtain⟨css0,q,s⟩:=hS.log;have m:∀k,gv.ownBlock=some k ->k < wr.heap.size:=fun k hk=>(q.lt k hk).2
 have f:∀k,vx.ownBlock=some k ->wc.heap.size <= k:=fun k hk=>(g.lt k hk).1
 have s1:=hb.size;have s2:=hg.size;have s3:=c.size
 have hok:∀b,OkB B N lv gv b ->b < wr.heap.size ->OkB B N vx gv' b:=fun b h a=>⟨h.1,fun d=>by
  rcases d with e | e | e
  . exact h.2 (.inl e)
  . have:=f b e;omega
  rcases how with hw | hw
  . exact h.2 (.inr (.inr VV))
  have:=hw b e;omega⟩
 have i:∀b,OkB B N lv gv b ->b < wr.heap.size ->wq.heap[b]? =wr.heap[b]? :=fun b h a=>by
  rw [c.block b P2 (fun e=>h.2 (.inl t_4)),hg.block b P2 (fun e=>h.2 (.inr (.inr e.symm))),hb.block b a]
 have n:vx.ownBlock≠some N:=fun e=>by have:=f N e;omega
 have o:gv'.ownBlock≠some N:=fun e=>by
  rcases how with hw | hw
  . exact hS.gn VV
  have:=hw N e;omega
 have hsz:wr.heap.size <= wq.heap.size:=P2
 refine⟨⟨?_, ?_, ?_,⟨css, ?_, ?_⟩,n,o,fun b e=>p b e⟩,⟨c.os.trans (hg.os.trans hb.os),c.tape.trans (hg.tape.trans hb.tape),c.output.trans (hg.output.trans hb.output),hsz,fun b a hn=> ?_,fun b a d=> ?_⟩,⟨hsz,i,hok⟩⟩
 . refine NodeQ.keep P2 (fun b h a=> ?_) (fun b h a=> ?_) _ _ hX
   . rw [c.block b P2 (fun e=>by injection e with e;omega),hg.block b a (fun e=>by have:=m b e.symm;omega)]
   refine⟨by omega,fun d=> ?_⟩;rcases d with e | e | e
   . omega
   . have:=f b e;omega
   rcases how with hw | hw
   . have:=m b VV;omega
   have:=hw b e;omega
 . have hk:=g.kept c (by
    cases hv:vx.ownBlock with
    | none=>exact .inl rfl
    | some k=>exact .inr (fun e=>n (by rw [hv];exact e)))
   exact(lV.from (M':=B) (L':=0) (L:=0) ⟨hk,fun x hx=>qJ ((j x hx).keep c.size (fun b h a=>c.block b a (fun e=>by injection e with e;omega)) (fun _ h _=>h)) fun b h=>⟨Nat.zero_le _,h.2.1⟩⟩ P2 (a8)).own
 . intro x hx
   refine(j x hx).keep c.size (fun b h a=>c.block b a (fun e=>by injection e with e;omega)) (fun b h a=>⟨by omega,fun d=> ?_⟩);rcases d with e | e | e
   . omega
   . exact h.2.1 e
   exact h.2.2 e
 . exact l.kept c (by
    cases hv:gv'.ownBlock with
    | none=>exact .inl rfl
    | some k=>exact .inr (fun e=>o (by rw [hv];exact e)))
 . exact hq.stay ⟨c.size,fun b h a=>c.block b a (fun e=>h.2.2 (.inl t_4)),fun b h a=>hok b h.2 h.1⟩
 . rw [c.block b P2 (fun e=>hn (.inl t_4)),hg.block b P2 (fun e=>hn (.inr (.inr e.symm))),hb.block b a]
 rcases d with e | e | e
 . exact .inl e
 . have:=f b e;omega
 rcases how with hw | hw
 . exact .inr (.inr VV)
 have:=hw b e;omega
theorem sY.rowx_g {W w':World} {B N:Nat} {tc:List Value} {lv gv:Value} {T:aX} {xs:List PX} {l:List fZ} (h:sY W B N tc lv gv T xs l) (hg:W.grownBy w' gv.ownBlock):lV w' B B lv xs:=
 ⟨h.left.kept hg (by
  cases hv:lv.ownBlock with
  | none=>exact .inl rfl
  | some k=>exact .inr (fun e=>h.lg k hv e.symm)),fun x hx=>qJ ((h.paths x hx).keep hg.size (fun b hb a=>hg.block b a (fun e=>hb.2 (.inr (.inr e.symm)))) (fun _ h _=>h)) fun b hb=>⟨hb.1,fun e=>hb.2 (.inr (.inl e))⟩⟩
structure f_C (wr wc wz:World) (B N:Nat) (lv gv vx gv':Value) (zs:List PX) (gs':List fZ):Prop where
 g:wc.grownBy wz gv.ownBlock
 left:wz.ownsRow wc 36 1 vx zs.length (zs.map C5)
 paths:∀x∈zs,N5 wz (fun b=>wc.heap.size <= b/\vx.ownBlock≠some b/\gv'.ownBlock≠some b) x
 log:∃css,wz.ownsRow B 55 21 gv' gs'.length css/\m8 wz (fun b=>b < wr.heap.size/\OkB B N lv gv b) gs' css
 how:gv'.ownBlock=gv.ownBlock∨ ∀k,gv'.ownBlock=some k ->wc.heap.size <= k
 apart:∀k,vx.ownBlock=some k ->gv'.ownBlock≠some k
theorem f_C.marks_log {wr wc w5 w wz:World} {B N:Nat} {lv gv vx gv':Value} {zs:List PX} {gs':List fZ} {css:List Value} (a:∀k,gv.ownBlock=some k ->k < wc.heap.size) (h5:Below wc wc w5) (hr:lV w5 wc wc vx zs) (hb:Below w5 w5 w) (hg:w.grownBy wz gv.ownBlock)
 (d:wz.ownsRow B 55 21 gv' gs'.length css) (hq:m8 wz (fun b=>b < wr.heap.size/\OkB B N lv gv b) gs' css) (how:gv'.ownBlock=gv.ownBlock∨ ∀k,gv'.ownBlock=some k ->w.heap.size <= k):f_C wr wc wz B N lv gv vx gv' zs gs':=by
 have s1:=h5.size;have s2:=hb.size;have s3:=hg.size
 have c:∀k,vx.ownBlock=some k ->wc.heap.size <= k/\k < w5.heap.size:=fun k hk=>hr.own.lt k hk
 refine⟨L2 (cX h5) (L2 (cX hb) hg),(kQ hr.own hb).kept hg ?_,fun x hx=> ?_,⟨css,d,hq⟩,how.imp id (fun h k hk=>by have:=h k hk;omega),fun k hk e=> ?_⟩
 . cases hv:vx.ownBlock with
   | none=>exact .inl rfl
   | some k=>exact .inr (fun e=>by have:=a k e.symm;have:=(c k hv).1;omega)
 . refine (G6 (hr.all x hx) hb).keep hg.size (fun b h f=>hg.block b f (fun e=>by have:=a b e.symm;have:=h.1;omega)) (fun b h f=> ?_)
   exact⟨h.1,h.2,fun e=>by
    rcases how with hw | hw
    . have:=a b VV;have:=h.1;omega
    have:=hw b e;omega⟩
 rcases how with hw | hw
 . have:=a k VV;have:=(c k hk).1;omega
 have:=hw k e;have:=(c k hk).2;omega
theorem f_C.done {wr wc wz wq:World} {B N:Nat} {lv gv vx gv':Value} {T T2:aX} {xs zs:List PX} {gs gs':List fZ} {tc tc2:List Value} (h:f_C wr wc wz B N lv gv vx gv' zs gs')
 (hS:sY wr B N tc lv gv T xs gs) (hN:N < wr.heap.size) (a:B <= N) (hb:Below wr wr wc) (hX:NodeQ wc (fun b=>wr.heap.size <= b) T2 tc2) (c:wz.grownBy wq (some N)):
 sY wq B N tc2 vx gv' T2 zs gs'/\CJ wr wq N lv gv vx gv'/\b_0 wr wq (OkB B N lv gv) (OkB B N vx gv'):=by
 obtain⟨css,h1,h2⟩:=h.log;exact m_Y hS hN a hb hX h.g h.left h.paths h1 h2 h.how h.apart c
theorem At.n5 {w:World} {N M:Nat} {cs:List Value} {T:TypeId} (h:At w M cs T) (a:M≠N) (d0 d1 d2 d3 d4:Value):At (((((w.setCell N d0).setCell (P0 N 1) d1).setCell (P0 N 2) d2).setCell (P0 N 3) d3).setCell (P0 N 4) d4) M cs T:=
 ((((h.set_ne a _).set_ne a _).set_ne a _).set_ne a _).set_ne a _
theorem k_F {w:World} {ok:Nat ->Prop} {N:Nat} {n:aX} {cs:List Value} (h:NodeQ w ok n cs) (a:¬ok N) (d0 d1 d2 d3 d4:Value):NodeQ (((((w.setCell N d0).setCell (P0 N 1) d1).setCell (P0 N 2) d2).setCell (P0 N 3) d3).setCell (P0 N 4) d4) ok n cs:=
 cQ (cQ (cQ (cQ (cQ h a) a) a) a) a
def k_G (ok:Nat ->Prop) (w:World) (l:List fZ) (v:Value):Prop:= ∃a c css,v= .slice a l.length c/\RowQ w ok 21 a l.length c css/\m8 w ok l css
theorem k_G.stay {ok ok':Nat ->Prop} {w w':World} {l:List fZ} {v:Value} (h:k_G ok w l v) (s:b_0 w w' ok ok'):k_G ok' w' l v:=by
 obtain⟨a,c,css,rfl,h1,h2⟩:=h;exact⟨a,c,css,rfl,h1.stay s,h2.stay s⟩
theorem k_G.load2 {ok:Nat ->Prop} {w:World} {l:List fZ} {a:Option Addr} {n c:Nat} (h:k_G ok w l (a,n,c)) (i:Nat) (hi:i < l.length):
 ∃ b off pa pc ta tc n0 n1 n2 n3 oa oc,a=some ⟨b,off,none⟩/\b < w.heap.size/\f_I w ok pa pc l[i].path/\f_I w ok ta tc l[i].dest/\NodeQ w ok l[i].node [n0,n1,n2,n3]/\RowQ w ok 2 oa l[i].old.length oc (cK l[i].old)/\
   w.rangeAt b (off+i * 21) (I6 l[i] pa pc ta tc n0 n1 n2 n3 oa oc):=by
 obtain⟨a',c',css,hv,hr,hq⟩:=h;injection hv with e1 e2 e3;subst e1;subst e2;subst e3
 obtain⟨cs,hc,e⟩:=hq.at_ i hi;obtain⟨pa,pc,ta,tc,n0,n1,n2,n3,oa,oc,rfl,h1,h2,h3,h4⟩:=hc;obtain⟨b,off,ha,hb,d⟩:=hr.row.some_ (by
  intro he;have:=hq.len
  rw [he]at this;simp at this;omega)
 refine⟨b,off,pa,pc,ta,tc,n0,n1,n2,n3,oa,oc,ha,hb,h1,h2,h3,h4,fun j u hj=> ?_⟩;have f:j < 21:=by
  have:=(List.getElem?_eq_some_iff.1 hj).1
  simpa [I6]using this
 have:=d (i * 21+j) u ((e j f).trans hj);rw [<- Nat.add_assoc]at this;exact this
def s_D:Op:=Op.load 47 (Operand.tmp 55)
def s_E:Op:=Op.load 42 (Operand.tmp 61)
@[go_sem] theorem loadA_eq:s_D=Op.load 47 (Operand.tmp 55):=rfl
@[go_sem] theorem loadB_eq:s_E=Op.load 42 (Operand.tmp 61):=rfl
def s_F (W:World) (B N:Nat) (s:b5) (cs:List Value) (lv gv:Value) (X:aX) (R:List (List Int)) (lg:List fZ) (e:Ending) (w':World):Prop:=
 e = .returned OY/\∃ (t0:Bool) (t1 t2 t3:Option Addr) (u1 u2 u3 q1 q2 q3:Nat) (ys:List PX) (gs:List fZ) (ma na:Option Addr) (mc nc:Nat),
   At w' N (cs ++ [.bool t0, .slice t1 u1 q1, .slice t2 u2 q2, .slice t3 u3 q3, .slice ma ys.length mc, .slice na gs.length nc]) 128/\
   sY w' B N [t0,(t1,u1,q1),(t2,u2,q2),(t3,u3,q3)] (ma,ys.length,mc) (na,gs.length,nc) X ys gs/\iV ys=R/\gs=lg/\CJ W w' N lv gv (ma,ys.length,mc) (na,gs.length,nc)
theorem p_o {sn en:Nat} {Y1 Y3 Y5 Y7:ByteArray} {Y2 Y4 Y6 Y8:Int} (s:b5) (T X k:aX) (L:List fZ) (p:List Int) (N B:Nat) (a ea:Option Addr) (c ec:Nat) (o0 o1 o2 o3 o4 o5:Int) (t0:Bool) (t1 t2 t3 la ga:Option Addr) (u1 u2 u3 r1 r2 r3 lc gc:Nat) (xs:List PX) (lg:List fZ) (pa:Option Addr) (pc:Nat) (W:World)
 (hs:s.wt <= 1048576) (j7:SchemaV W B s (.agg #[(a,sn,c),Y1,Y2,Y3,Y4,Y5,(ea,en,ec),Y6,Y7,o0,o1,o2,o3,o4,o5,Y8])) (X1:B <= N) (hA:At W N [(a,sn,c),Y1,Y2,Y3,Y4,Y5,(ea,en,ec),Y6,Y7,o0,o1,o2,o3,o4,o5,Y8,t0,(t1,u1,r1),(t2,u2,r2),(t3,u3,r3),(la,xs.length,lc),(ga,lg.length,gc)] 128) (G:sY W B N [t0,(t1,u1,r1),(t2,u2,r2),(t3,u3,r3)] (la,xs.length,lc) (ga,lg.length,gc) T xs lg)
 (D:pK (iV xs)/\∀q∈iV xs,dX T q=true) (hp:RowA W W 1 pa p.length pc (p.map (Value.int .i64))) (H:p.length <= 500000) (j8:l9 T p=some k) (j9:b8 k=false) (hf:(eV s k).1≠0) (hL:L=nX (cJ s (dZ k)) (aY k) p (eV s k))
 (hw:T.wt+lK L <= 400000) (hlen:lg.length+L.length <= 90000000000) (Y0:L.length <= 90000000) (K0:∀o∈L,m_Q o/\o.dest.length <= 400000) (R:oZ T (L.map fZ.full)=some X):
 Calls Tryz.prog 154 #[.pointer N,(pa,p.length,pc)] W (s_F W B N s [(a,sn,c),Y1,Y2,Y3,Y4,Y5,(ea,en,ec),Y6,Y7,o0,o1,o2,o3,o4,o5,Y8] (la,xs.length,lc) (ga,lg.length,gc) X (mY T (iV xs) (L.map fZ.full)) (lg ++ L)):=by
 have X2:=hA.lt;have K1:∀w',Below W W w' ->bY w' w' T (.agg #[t0,(t1,u1,r1),(t2,u2,r2),(t3,u3,r3)]):=fun w' hb=>⟨_,rfl,dY.keep hb hb.size _ _ (NodeQ.node _ _ G.tree)⟩
 have K2:p_P s T p=(L,0):=by
  unfold p_P;rw [j8];simp only;rw [j9,if_neg P6,if_neg hf,hL]
 have HO:=a6 (fun(w':World) (hb:Below W W w')=>(show Calls Tryz.prog 12 #[.agg #[(a,sn,c),Y1,Y2,Y3,Y4,Y5,(ea,en,ec),Y6,Y7,o0,o1,o2,o3,o4,o5,Y8], .agg #[t0,(t1,u1,r1),(t2,u2,r2),(t3,u3,r3)],(pa,p.length,pc)] w' (r_p w' (L,0))by
  have h:=m_l s _ T _ p pa pc w' P2 P2 (j7.keep (hb.mono P2) (aJ P2 hb.size)) (K1 w' hb) (hp.keep hb hb.size) H;rw [K2]at h;exact h))
 have K3:=a6 K0;obtain⟨RS,J4⟩:∃RS,RS=mY T (iV xs) (L.map fZ.full):=⟨_,rfl⟩;rw [<- J4];have K4:=a6 (show oZ T ((L.drop 0).map fZ.full)=some X/\mY T (iV xs) ((L.drop 0).map fZ.full)=RS from⟨by rw [List.drop_zero];exact R,by rw [List.drop_zero,J4]⟩)
 have HA:=a6 hA;have K5:=a6 G;have K6:=a6 D;have Hw:=a6 hw
 have K7:=a6 (fun(w':World) (hb:Below W W w')=>HA.o.kept hb);have K8:=fun(w':World) (h:At w' N [(a,sn,c),Y1,Y2,Y3,Y4,Y5,(ea,en,ec),Y6,Y7,o0,o1,o2,o3,o4,o5,Y8,t0,(t1,u1,r1),(t2,u2,r2),(t3,u3,r3),(la,xs.length,lc),(ga,lg.length,gc)] 128)=>At.part (P:=Tryz.prog) h 0 [(a,sn,c),Y1,Y2,Y3,Y4,Y5,(ea,en,ec),Y6,Y7,o0,o1,o2,o3,o4,o5,Y8] rfl Tryz.underlying30 rfl P3
 simp [go_sem]at K8
 have I:=fun(w':World) (h:At w' N [(a,sn,c),Y1,Y2,Y3,Y4,Y5,(ea,en,ec),Y6,Y7,o0,o1,o2,o3,o4,o5,Y8,t0,(t1,u1,r1),(t2,u2,r2),(t3,u3,r3),(la,xs.length,lc),(ga,lg.length,gc)] 128)=>At.part (P:=Tryz.prog) h 16 [t0,(t1,u1,r1),(t2,u2,r2),(t3,u3,r3)] rfl Tryz.underlying35 rfl P3
 simp [go_sem]at I
 clear hA G D hw K0 hp K2 R J4 K1 hf j8 hL j9 j7;go_enter Tryz.func154,Tryz.ntmps154;go_upto_region 1 with fail
 go_region_held3 (fun w'=>At w' N [(a,sn,c),Y1,Y2,Y3,Y4,Y5,(ea,en,ec),Y6,Y7,o0,o1,o2,o3,o4,o5,Y8,t0,(t1,u1,r1),(t2,u2,r2),(t3,u3,r3),(la,xs.length,lc),(ga,lg.length,gc)] 128) (refine K7.o _ (by(with_reducible (repeat (first | exact J.o | exact a7 | refine aK ?_ | refine aQ ?_ ?_ _ | refine aV ?_ ?_ _)) <;> (first | exact a8 | exact J.o.size | (have:=J.o.size;simp [World.setCell];omega) | (simp <;> omega) | omega))))
  (first
  | (refine bQ rfl 12 _ _ rfl P5 [.agg #[(a,sn,c),Y1,Y2,Y3,Y4,Y5,(ea,en,ec),Y6,Y7,o0,o1,o2,o3,o4,o5,Y8], .agg #[t0,(t1,u1,r1),(t2,u2,r2),(t3,u3,r3)],(pa,p.length,pc)] ?_ _ (HO.o _ P1) ?_
     . go_simp
     rintro e w1 ⟨lv,rfl,X3,m⟩;obtain⟨va,vc,css2,rfl,h7,h8⟩:=X3;refine⟨_,rfl, ?_⟩;have J:=a6 (b6 (w0:=W) P1 m);have Hlv:=a6 (show b_Q W w1 L (va,L.length,vc)from b_Q.from ⟨va,vc,css2,rfl,h7,h8⟩ QZ);clear m h7 h8))
 all_goals
  have k0:=a6 (show k_G (OkB B N (la,xs.length,lc) (ga,lg.length,gc)) w1 L (va,L.length,vc)by
   obtain⟨a',c',css',h1,h2,h3⟩:=Hlv.o;have hk:∀b,W.heap.size <= b ->OkB B N (la,xs.length,lc) (ga,lg.length,gc) b:=fun b hb=>⟨by omega,fun k1=>by have:=K5.o.badlt X2 b k1;omega⟩
   exact⟨a',c',css',h1,qJ h2 hk,h3.stay ⟨a8,fun _ _ _=>rfl,fun b hb _=>hk b hb⟩⟩)
  have k2:=a6 (HA.o.kept J.o);have h9:=a6 (K5.o.below J.o)
  have J0:=a6 (CJ.of_below N (la,xs.length,lc) (ga,lg.length,gc) J.o);have X4:L.length <= 90000000:=P2
  clear K8 I K7 HO Hlv;go_wp2_with fail
  go_loopg [30,8,9,10,11] L.length (fun g i _ _ _ _ wr=>∃ (z:Nat) (Tz:aX) (ys:List PX) (gs:List fZ) (t0:Bool) (t1 t2 t3 ma na:Option Addr) (u1 u2 u3 q1 q2 q3 mc nc:Nat),i= .int .i64 z/\z+g=L.length/\Hid (oZ Tz ((L.drop z).map fZ.full)=some X/\mY Tz (iV ys) ((L.drop z).map fZ.full)=RS)/\Hid (Tz.wt+lK (L.drop z) <= 400000)/\
   Hid (At wr N [(a,sn,c),Y1,Y2,Y3,Y4,Y5,(ea,en,ec),Y6,Y7,o0,o1,o2,o3,o4,o5,Y8,t0,(t1,u1,q1),(t2,u2,q2),(t3,u3,q3),(ma,ys.length,mc),(na,gs.length,nc)] 128)/\Hid (sY wr B N [t0,(t1,u1,q1),(t2,u2,q2),(t3,u3,q3)] (ma,ys.length,mc) (na,gs.length,nc) Tz ys gs)/\Hid (pK (iV ys)/\∀q∈iV ys,dX Tz q=true)/\Hid (gs=lg ++ L.take z)/\Hid (k_G (OkB B N (ma,ys.length,mc) (na,gs.length,nc)) wr L (va,L.length,vc))/\
   Hid (CJ W wr N (la,xs.length,lc) (ga,lg.length,gc) (ma,ys.length,mc) (na,gs.length,nc)))
  case atStart=>exact⟨0,T,xs,lg,t0,t1,t2,t3,la,ga,u1,u2,u3,r1,r2,r3,lc,gc,rfl,by omega,K4,Hw,k2,h9,K6,(show lg=lg ++ L.take 0 by simp),k0,J0⟩
  case round=>
   obtain⟨z,Tz,ys,gs,t0,t1,t2,t3,ma,na,u1,u2,u3,q1,q2,q3,mc,nc,rfl,hg,H,hw,hA,hS,D,H6,J5,k3⟩:=hrel;clear k2 h9 k0 J0 K4 Hw K6;by_cases t:z < L.length
   . --<1
     have x9:(z:Int) < L.length:=P2
     have hdr:=NX t;have J6:L.take (z+1)=L.take z ++ [L[z]]:=O1 t;obtain⟨b,off,pa',pc',ta,tc,n0,n1,n2,n3,oa,oc,rfl,hb,h1,h2,h3,h4,h5⟩:=J5.o.load2 z t;have k4:=K3.o L[z] (NY t);have v:=H.o;have H7:=hw.o;rw [hdr]at v H7;generalize L[z]=o at h1 h2 h3 h4 h5 k4 v H7 J6;clear hdr H hw;obtain⟨kd,p',d,pos,nd,ol⟩:=o;simp only [List.map_cons]at v;obtain⟨v,J7⟩:=v;obtain⟨T2,E,J1⟩:=d_p v;rw [nQ E]at J7;obtain⟨l0,a1,m1',c1,a2,m2',c2,a3,m3',c3,C⟩:=h3.form;injection C with e0 C;injection C with e1 C;injection C with e2 C;injection C with e3 C
     subst e0;subst e1;subst e2;subst e3;obtain⟨⟨hk,J8, -,J9⟩,j0⟩:=k4;simp only at h1 h2 h3 h4 hk J8 j0 J9;have X5:Tz.wt <= 400000:=P2
     have k5:=KQ (o:=⟨kd,p',d,pos,nd,ol⟩) hk P2 E;have J2:T2.wt+lK (L.drop (z+1)) <= 400000:=by
      simp only [lK]at H7;simp only at k5;omega
     obtain⟨S,J3⟩:=e_L (o:=⟨kd,p',d,pos,nd,ol⟩) hk P2 E;obtain⟨U,V⟩:=k_D (o:=⟨kd,p',d,pos,nd,ol⟩) hk P2 E;simp only at S J3 U V;have k6:=(EK (o:=⟨kd,p',d,pos,nd,ol⟩) hk P2 E).2.1
     have k7:=e_M hS.o.tree;rw [k6]at k7;subst k7;have HR:=a6 (show wr.rangeAt b (off+z * 21) [kd,(pa',p'.length,pc'),(ta,d.length,tc),pos,l0,(a1,m1',c1),(a2,m2',c2),(a3,m3',c3),(oa,ol.length,oc),(),(),false,(),OY,(),OY,false,(),OY,(),OY]from h5)
     have HP:=a6 (fun(w':World) (n:Below wr wr w')=>q_N Tz T2 p' d kd pos nd ol t1 t2 t3 u1 u2 u3 q1 q2 q3 pa' ta oa pc' tc oc l0 a1 a2 a3 m1' m2' m3' c1 c2 c3 w' P2 ⟨_,rfl,dY.keep n n.size _ _ (NodeQ.node _ _ hS.o.tree)⟩ J8
      ⟨_,rfl,dY.keep n n.size _ _ (NodeQ.node _ _ h3)⟩ (h1.row.keep n n.size) (h2.row.keep n n.size) P2 (h4.row.keep n n.size) J9 hk E)
     have Y:=a_J D.o.1 D.o.2;have Y9:ys.length <= 400000:=by have h:=Y.1;simp at h;omega
     have k8:∀ (w':World),wr.grownBy w' (Value.slice na gs.length nc).ownBlock ->∀b,OkB B N (ma,ys.length,mc) (na,gs.length,nc) b ->b < wr.heap.size ->w'.heap[b]? =wr.heap[b]? :=fun w' F b n t=>F.block b t (fun e=>n.2 (.inr (.inr e.symm)))
     have HT:=a6 (fun(w':World) (F:wr.grownBy w' (Value.slice na gs.length nc).ownBlock) (X':Value) (X6:bY w' w' T2 X')=>
      s_5 T2 nd kd pos p' d ol X' pa' ta pc' tc l0 (a1,m1',c1) (a2,m2',c2) (a3,m3',c3) (oa,ol.length,oc) () () false () OY () OY false () OY () OY (ma,ys.length,mc) ys w' hk P2 X6 (RowQ.row (h1.keep F.size (k8 w' F) (fun _ h _=>h))) P2 U (fun z hz=>by have:=S z hz;omega) (RowQ.row (h2.keep F.size (k8 w' F) (fun _ h _=>h))) j0 V (hS.o.rowx_g F).read P2
       (fun x hx=>by have:=Y.2 x.1 (List.mem_map_of_mem hx);omega))
     have HQ:=a6 (show OpQ wr (OkB B N (ma,ys.length,mc) (na,gs.length,nc)) ⟨kd,p',d,pos,nd,ol⟩ (I6 ⟨kd,p',d,pos,nd,ol⟩ pa' pc' ta tc l0 (a1,m1',c1) (a2,m2',c2) (a3,m3',c3) oa oc)from⟨pa',pc',ta,tc,_,_,_,_,oa,oc,rfl,h1,h2,h3,h4⟩);have k9:=a6 J2;have Q0:=a6 (show oZ T2 ((L.drop (z+1)).map fZ.full)=some X from J1);have Q1:=a6 J7;have Q2:=a6 J6
     clear h1 h2 h3 h4 h5 v H7 J1 J2 k5 X5 E hk J8 j0 J9 k6 J7 S J3 U V Y D J6;go_wp2_with (first
      | (refine h_4 rfl _ _ rfl b (off+z * 21) #[kd,(pa',p'.length,pc'),(ta,d.length,tc),pos,l0,(a1,m1',c1),(a2,m2',c2),(a3,m3',c3),(oa,ol.length,oc),(),(),false,(),OY,(),OY,false,(),OY,(),OY] rfl HR.o _ Tryz.underlying55 rfl P3 ?_)
      | (refine m6 rfl _ _ _ rfl rfl wr.heap.size [OY,(),(),OY,false,(),(),(),(),(),(),false,(),OY,(),OY,false,(),OY,(),OY] #[kd,(pa',p'.length,pc'),(ta,d.length,tc),pos,l0,(a1,m1',c1),(a2,m2',c2),(a3,m3',c3),(oa,ol.length,oc),(),(),false,(),OY,(),OY,false,(),OY,(),OY] rfl rfl (At.fresh wr _ _) rfl rfl P3 ?_))
     intro va' h1 g1;have Q3:=fK (cX (b7 wr (Obj.cells #[OY,(),(),OY,false,(),(),(),(),(),(),false,(),OY,(),OY,false,(),OY,(),OY] 55))) g1
     have K:=a6 (Q3.old (M:=wr.heap.size) (a8) (fun k hk=>by cases hk;exact a8));have Q4:=a6 (show At va' wr [kd,(pa',p'.length,pc'),(ta,d.length,tc),pos,l0,(a1,m1',c1),(a2,m2',c2),(a3,m3',c3),(oa,ol.length,oc),(),(),false,(),OY,(),OY,false,(),OY,(),OY] 55 from h1);have Q5:=a6 (hA.o.kept K.o);have y0:N < wr.heap.size:=hA.o.lt;have Q6:=a6 (fun(w':World) (hb:Below va'.heap.size va' w')=>And.intro (Q5.o.kept hb) (Q4.o.kept hb));have I:=fun(w':World) (h:At w' N [(a,sn,c),Y1,Y2,Y3,Y4,Y5,(ea,en,ec),Y6,Y7,o0,o1,o2,o3,o4,o5,Y8,false,(t1,u1,q1),(t2,u2,q2),(t3,u3,q3),(ma,ys.length,mc),(na,gs.length,nc)] 128)=>At.part (P:=Tryz.prog) h 16 [false,(t1,u1,q1),(t2,u2,q2),(t3,u3,q3)] rfl Tryz.underlying35 rfl P3
     simp [go_sem]at I
     have j1:=fun(w':World) (h:At w' wr [kd,(pa',p'.length,pc'),(ta,d.length,tc),pos,l0,(a1,m1',c1),(a2,m2',c2),(a3,m3',c3),(oa,ol.length,oc),(),(),false,(),OY,(),OY,false,(),OY,(),OY] 55)=>At.load (P:=Tryz.prog) h Tryz.underlying55 rfl P3
     simp [go_sem]at j1
     have Q7:=a6 (fun(w':World) (hb:Below va'.heap.size va' w')=>HP.o w' (b6 K.o hb));clear h1 g1 Q3 HP HR;go_upto_region 7 with fail
     go_cut [9,10,11] (fun x y e wx=>∃ (M1 M2:Nat) (x0:Bool) (x1 x2 x3:Option Addr) (y1 y2 y3 z1 z2 z3:Nat),x= .pointer M1/\y= .pointer M2/\e= .int .i64 0/\Hid (At wx M1 [x0,(x1,y1,z1),(x2,y2,z2),(x3,y3,z3)] 35)/\Hid (NodeQ wx (fun b=>va'.heap.size <= b/\b≠M1/\b≠M2) T2 [x0,(x1,y1,z1),(x2,y2,z2),(x3,y3,z3)])/\va'.heap.size <= M1/\Hid (Below va'.heap.size va' wx))
     case first=>
      go_region_held3 (fun w'=>At w' N [(a,sn,c),Y1,Y2,Y3,Y4,Y5,(ea,en,ec),Y6,Y7,o0,o1,o2,o3,o4,o5,Y8,false,(t1,u1,q1),(t2,u2,q2),(t3,u3,q3),(ma,ys.length,mc),(na,gs.length,nc)] 128/\At w' wr [kd,(pa',p'.length,pc'),(ta,d.length,tc),pos,l0,(a1,m1',c1),(a2,m2',c2),(a3,m3',c3),(oa,ol.length,oc),(),(),false,(),OY,(),OY,false,(),OY,(),OY] 55) (refine Q6.o _ PZ)
       (first
       | (refine bQ rfl 14 _ _ rfl P5 [.agg #[false,(t1,u1,q1),(t2,u2,q2),(t3,u3,q3)],K9, .agg #[kd,(pa',p'.length,pc'),(ta,d.length,tc),pos,l0,(a1,m1',c1),(a2,m2',c2),(a3,m3',c3),(oa,ol.length,oc),(),(),false,(),OY,(),OY,false,(),OY,(),OY]] ?_ _ (Q7.o _ P1) ?_
          . go_simp
          rintro e vb ⟨m,x0,x1,x2,x3,y1,y2,y3,z1,z2,z3,sa,sb,sc,sd,rfl,Q8⟩;refine⟨_,rfl, ?_⟩;have O:=a6 (b6 (w0:=va') P1 m);have X7:=a6 m.size;have Z:=a6 Q8
          first
           | (refine At.lay (N:= ?_) (cs:= [false,(),(),()]) (T:=35) (At.kept ?_ m) ?_
              rotate_left
              . with_reducible (repeat (first | exact At.second _ _ _ _ | exact At.fresh _ _ _ | refine At.drew ?_ | refine At.alloc ?_ _))
              intro Q)
           | skip
          first
           | (refine At.lay (N:= ?_) (cs:= [false,(),OY,(),OY]) (T:=53) (At.kept ?_ m) ?_
              rotate_left
              . with_reducible (repeat (first | exact At.second _ _ _ _ | exact At.fresh _ _ _ | refine At.drew ?_ | refine At.alloc ?_ _))
              intro X8)
           | skip
          first
           | (obtain⟨⟨r0,r1',r2',r3'⟩,rf,rl⟩:=Q.o.f4)
           | skip
          first
           | (obtain⟨⟨g0,g1',g2',g3',g4'⟩,gf,gl⟩:=X8.o.f5)
           | skip
          clear m Q8))
      all_goals
       clear I j1;go_wp2_with fail
       go_meet
       case rel=>
        have X9:=X7.o
        simp at X9
        refine⟨_,_,x0,x1,x2,x3,y1,y2,y3,z1,z2,z3,rfl,rfl,rfl,a6 ?_,a6 ?_, ?_,a6 ?_⟩
        . (repeat (first | with_reducible exact Q.o | with_reducible exact Q.o.s4 _ _ _ _ | with_reducible exact(Q.o.alloc _).s4 _ _ _ _ | with_reducible exact Q.o.s5 _ _ _ _ _ | with_reducible exact(Q.o.alloc _).s5 _ _ _ _ _ | with_reducible exact At.second _ _ _ _ | with_reducible exact At.fresh _ _ _ | (with_reducible refine At.fresh2 ?_;(simp [World.setCell];done)) | with_reducible refine At.drew ?_ | with_reducible refine At.alloc ?_ _ | (with_reducible refine At.n4 ?_ ?_ _ _ _ _;rotate_left;(omega)) | (with_reducible refine At.n5 ?_ ?_ _ _ _ _ _;rotate_left;(omega))))
        . (repeat (first | with_reducible refine lX ?_ P6 _ _ _ _ | with_reducible refine k_F ?_ P6 _ _ _ _ _ | with_reducible refine gY ?_ (b7 _ _)))
          refine NodeQ.keep (a8) (fun _ _ _=>rfl) (fun b hb t=> ?_) _ _ Z.o
          try simp at hb
          refine⟨by omega,by omega,by omega⟩
        . omega
        (with_reducible (repeat (first | exact O.o | exact a7 | refine aK ?_ | refine aQ ?_ ?_ _ | refine aV ?_ ?_ _)) <;> (first | exact a8 | exact O.o.size | (have:=O.o.size;simp [World.setCell];omega) | (simp <;> omega) | omega))
     case rest=>
     obtain⟨M1,M2,x0,x1,x2,x3,y1,y2,y3,z1,z2,z3,rfl,rfl,rfl,Q9,hX,y4,hB⟩:=hcut;have H8:=a6 (b6 K.o hB.o);have r:=a6 (Q5.o.kept hB.o);obtain⟨css,j2,q0⟩:=hS.o.log;have H0:∀k,(Value.slice na gs.length nc).ownBlock=some k ->k < wr.heap.size:=fun k hk=>(j2.lt k hk).2
     have Z:=a6 (show NodeQ wc (fun b=>wr.heap.size <= b) T2 [x0,(x1,y1,z1),(x2,y2,z2),(x3,y3,z3)]from NodeQ.keep (a8) (fun _ _ _=>rfl) (fun b h t=>by have h1:=h.1;have h2:=K.o.size;omega) _ _ hX.o);have j3:=a6 (fun(w':World) (hg:wc.grownBy w' (Value.slice na gs.length nc).ownBlock)=>HT.o w' (L2 (cX H8.o) hg) (.agg #[x0,(x1,y1,z1),(x2,y2,z2),(x3,y3,z3)]) ⟨_,rfl,NodeQ.node _ _ (NodeQ.keep hg.size (fun b h t=>hg.block b t (fun e=>by have:=H0 b e.symm;omega)) (fun _ h _=>h) _ _ Z.o)⟩);have H1:=a6 (fun(wm w':World) (hg:wc.grownBy wm (Value.slice na gs.length nc).ownBlock) (q4:wm.grownBy w' (some N))=>show At w' wr [kd,(pa',p'.length,pc'),(ta,d.length,tc),pos,l0,(a1,m1',c1),(a2,m2',c2),(a3,m3',c3),(oa,ol.length,oc),(),(),false,(),OY,(),OY,false,(),OY,(),OY] 55/\At w' M1 [x0,(x1,y1,z1),(x2,y2,z2),(x3,y3,z3)] 35 from
      ⟨((Q4.o.kept hB.o).grown hg (fun e=>by have:=H0 _ e;omega)).grown q4 (fun e=>by injection e with e;omega),(Q9.o.grown hg (fun e=>by have h1:=H0 _ e;have h2:=K.o.size;omega)).grown q4 (fun e=>by injection e with e;have h2:=K.o.size;omega)⟩)
     have c20:wc.cell? (P0 N 20)=some (.slice ma ys.length mc):=r.o.cell 20 rfl;have c21:wc.cell? (P0 N 21)=some (.slice na gs.length nc):=r.o.cell 21 rfl;have d20:(wc.alloc (Obj.cells #[kd,(pa',p'.length,pc'),(ta,d.length,tc),pos,l0,(a1,m1',c1),(a2,m2',c2),(a3,m3',c3),(oa,ol.length,oc),(),(),false,(),OY,(),OY,false,(),OY,(),OY] 55)).cell? (P0 N 20)=some (.slice ma ys.length mc):=(r.o.alloc _).cell 20 rfl;have d21:(wc.alloc (Obj.cells #[kd,(pa',p'.length,pc'),(ta,d.length,tc),pos,l0,(a1,m1',c1),(a2,m2',c2),(a3,m3',c3),(oa,ol.length,oc),(),(),false,(),OY,(),OY,false,(),OY,(),OY] 55)).cell? (P0 N 21)=some (.slice na gs.length nc):=(r.o.alloc _).cell 21 rfl;have nlc:=r.o.lt;obtain⟨OK,H2⟩:∃OK:Nat ->Prop,OK=fun b=>b < wr.heap.size/\OkB B N (ma,ys.length,mc) (na,gs.length,nc) b:=⟨_,rfl⟩
     have H3:∀b,OK b ->(Value.slice na gs.length nc).ownBlock≠some b:=fun b n e=>by rw [H2]at n;exact n.2.2 (.inr (.inr e))
     have HL:=a6 (fun(w':World) (n:Below wc wc w')=>show w'.ownsRow B 55 21 (na,gs.length,nc) gs.length css/\m8 w' OK gs css/\OpQ w' OK ⟨kd,p',d,pos,nd,ol⟩ [kd,(pa',p'.length,pc'),(ta,d.length,tc),pos,l0,(a1,m1',c1),(a2,m2',c2),(a3,m3',c3),(oa,ol.length,oc),(),(),false,(),OY,(),OY,false,(),OY,(),OY]/\B <= w'.heap.size from by
      have H9:=b6 H8.o n;have G:b_0 wr w' (OkB B N (ma,ys.length,mc) (na,gs.length,nc)) OK:=⟨H9.size,fun b _ t=>H9.block b t,fun b h t=>by rw [H2];exact⟨t,h⟩⟩;exact⟨kQ j2 H9,q0.stay G,HQ.o.stay G,by have:=H9.size;omega⟩)
     have q5:∀k,(Value.slice na gs.length nc).ownBlock=some k ->k < wc.heap.size:=fun k hk=>by have:=H0 k hk;have:=H8.o.size;omega
     have j4:gs.length <= 100000000000:=by
      have h:=H6.o;have h2:gs.length=lg.length+(L.take z).length:=by rw [h,NZ]
      rw [List.length_take]at h2;omega
     have q6:=a6 q5;have q7:=fun(w':World) (h:At w' M1 [x0,(x1,y1,z1),(x2,y2,z2),(x3,y3,z3)] 35)=>At.load (P:=Tryz.prog) h Tryz.underlying35 rfl P3
     simp [go_sem]at q7
     clear j2 q0 hX Q9 I Q7 HT Q6 H0 q5;go_upto_region 10 with fail
     rw [<- loadA_eq, <- loadB_eq];go_region_held3 (fun w'=>At w' wr [kd,(pa',p'.length,pc'),(ta,d.length,tc),pos,l0,(a1,m1',c1),(a2,m2',c2),(a3,m3',c3),(oa,ol.length,oc),(),(),false,(),OY,(),OY,false,(),OY,(),OY] 55/\At w' M1 [x0,(x1,y1,z1),(x2,y2,z2),(x3,y3,z3)] 35) (first | (refine H1.o wz _ HE.o.g ?_;(with_reducible (repeat (first | exact FZ _ _ | refine World.grownBy.set ?_ _ _ | refine a_v ?_ _ | refine a_K ?_));done)) | (refine H1.o w6 _ H4.o ?_;(with_reducible (repeat (first | exact FZ _ _ | refine World.grownBy.set ?_ _ _ | refine a_v ?_ _ | refine a_K ?_));done)) | (refine H1.o w5 _ (cX f.o) ?_;(with_reducible (repeat (first | exact FZ _ _ | refine World.grownBy.set ?_ _ _ | refine a_v ?_ _ | refine a_K ?_));done)) | (refine H1.o wc _ (FZ _ _) ?_;(with_reducible (repeat (first | exact FZ _ _ | refine World.grownBy.set ?_ _ _ | refine a_v ?_ _ | refine a_K ?_));done)) | (trace_state;fail))
      (first
      | (refine bQ rfl 15 _ _ rfl P5 [.agg #[x0,(x1,y1,z1),(x2,y2,z2),(x3,y3,z3)],(ma,ys.length,mc), .agg #[kd,(pa',p'.length,pc'),(ta,d.length,tc),pos,l0,(a1,m1',c1),(a2,m2',c2),(a3,m3',c3),(oa,ol.length,oc),(),(),false,(),OY,(),OY,false,(),OY,(),OY]] ?_ _ (j3.o _ (cX ?_)) ?_
         . go_simp
         . (with_reducible (repeat (first | exact a7 | refine aK ?_ | refine aQ ?_ ?_ _ | refine aV ?_ ?_ _)) <;> (first | exact a8 | (simp <;> omega) | omega))
         rintro e w5 ⟨vx,zs,rfl,A,H5,m⟩;obtain⟨xa,xc,j5⟩:=A.form;subst j5;refine⟨_,rfl, ?_⟩;have f:=a6 (b6 (w0:=wc) P1 m);have q8:=a6 (A.from (M':=wc.heap.size) (L':=wc.heap.size) (Below.size (w:=wc) (B:=wc.heap.size) P1) (Below.size (w:=wc) (B:=wc.heap.size) P1));have h0:=a6 H5;have c21':w5.cell? (P0 N 21)=some (.slice na gs.length nc):=(r.o.kept f.o).cell 21 rfl;have d21':(w5.alloc (Obj.cells #[kd,(pa',p'.length,pc'),(ta,d.length,tc),pos,l0,(a1,m1',c1),(a2,m2',c2),(a3,m3',c3),(oa,ol.length,oc),(),(),false,(),OY,(),OY,false,(),OY,(),OY] 55)).cell? (P0 N 21)=some (.slice na gs.length nc):=((r.o.kept f.o).alloc _).cell 21 rfl;have nl5:=(r.o.kept f.o).lt
         first
          | (refine At.lay (N:= ?_) (cs:= [kd,(pa',p'.length,pc'),(ta,d.length,tc),pos,l0,(a1,m1',c1),(a2,m2',c2),(a3,m3',c3),(oa,ol.length,oc),(),(),false,(),OY,(),OY,false,(),OY,(),OY]) (T:=55) (At.kept ?_ m) ?_
             rotate_left
             . with_reducible (repeat (first | exact At.second _ _ _ _ | exact At.fresh _ _ _ | refine At.drew ?_ | refine At.alloc ?_ _))
             intro x4)
          | skip
         clear m A H5)
      | (refine f_9 (w:=w5.alloc (Obj.cells #[kd,(pa',p'.length,pc'),(ta,d.length,tc),pos,l0,(a1,m1',c1),(a2,m2',c2),(a3,m3',c3),(oa,ol.length,oc),(),(),false,(),OY,(),OY,false,(),OY,(),OY] 55)) rfl _ _ rfl Tryz.underlying42 a_C B (na,gs.length,nc) gs css OK ?_ (HL.o _ P4).1 (HL.o _ P4).2.1 H3 ⟨kd,p',d,pos,nd,ol⟩ [kd,(pa',p'.length,pc'),(ta,d.length,tc),pos,l0,(a1,m1',c1),(a2,m2',c2),(a3,m3',c3),(oa,ol.length,oc),(),(),false,(),OY,(),OY,false,(),OY,(),OY] w5 (w5+1) ?_
          (c_N (At.fresh _ _ _) (HL.o _ P4).2.2.1) (HL.o _ P4).2.2.1 j4 (HL.o _ P4).2.2.2 ?_
         . go_simp
         . go_simp
         rintro v6 wz ⟨na',nc',rfl⟩ u hq hg how;have HE:=a6 (show f_C wr wc wz B N (ma,ys.length,mc) (na,gs.length,nc) (xa,zs.length,xc) (na',(gs ++ [fZ.mk kd p' d pos nd ol]).length,nc') zs (gs ++ [fZ.mk kd p' d pos nd ol])from f_C.marks_log q6.o f.o q8.o P1 hg u (by rw [<- H2];exact hq) how)
         have l:=r.o.grown HE.o.g hS.o.gn;have s16:=l.cell 16 rfl;have s17:=l.cell 17 rfl;have s18:=l.cell 18 rfl;have s19:=l.cell 19 rfl;have s20:=l.cell 20 rfl;have s21:=l.cell 21 rfl
         have sf:∀j,wz.frozen? ⟨N,j,none⟩=false:=fun j=>Lib.frozen_of_heap l _
         have sl:=l.lt;clear u hq hg how l)
      | (refine f_9 (w:=w5) rfl _ _ rfl Tryz.underlying42 a_C B (na,gs.length,nc) gs css OK ?_ (HL.o _ P4).1 (HL.o _ P4).2.1 H3 ⟨kd,p',d,pos,nd,ol⟩ [kd,(pa',p'.length,pc'),(ta,d.length,tc),pos,l0,(a1,m1',c1),(a2,m2',c2),(a3,m3',c3),(oa,ol.length,oc),(),(),false,(),OY,(),OY,false,(),OY,(),OY] wc (wc+1) ?_
          (c_N x4.o (HL.o _ P4).2.2.1) (HL.o _ P4).2.2.1 j4 (HL.o _ P4).2.2.2 ?_
         . go_simp
         . go_simp
         rintro v6 wz ⟨na',nc',rfl⟩ u hq hg how;have HE:=a6 (show f_C wr wc wz B N (ma,ys.length,mc) (na,gs.length,nc) (xa,zs.length,xc) (na',(gs ++ [fZ.mk kd p' d pos nd ol]).length,nc') zs (gs ++ [fZ.mk kd p' d pos nd ol])from f_C.marks_log q6.o f.o q8.o P1 hg u (by rw [<- H2];exact hq) how)
         have l:=r.o.grown HE.o.g hS.o.gn;have s16:=l.cell 16 rfl;have s17:=l.cell 17 rfl;have s18:=l.cell 18 rfl;have s19:=l.cell 19 rfl;have s20:=l.cell 20 rfl;have s21:=l.cell 21 rfl
         have sf:∀j,wz.frozen? ⟨N,j,none⟩=false:=fun j=>Lib.frozen_of_heap l _
         have sl:=l.lt;clear u hq hg how l)
      | (refine f_9 rfl _ _ rfl Tryz.underlying42 a_C B (na,gs.length,nc) gs css OK ?_ (HL.o _ P1).1 (HL.o _ P1).2.1 H3 ⟨kd,p',d,pos,nd,ol⟩ [kd,(pa',p'.length,pc'),(ta,d.length,tc),pos,l0,(a1,m1',c1),(a2,m2',c2),(a3,m3',c3),(oa,ol.length,oc),(),(),false,(),OY,(),OY,false,(),OY,(),OY] wc (wc+1) ?_
          (c_N R7 (HL.o _ P1).2.2.1) (HL.o _ P1).2.2.1 j4 (HL.o _ P1).2.2.2 ?_
         . go_simp
         . go_simp
         rintro v6 w6 ⟨na',nc',rfl⟩ u hq hg how;have H4:=a6 (L2 (a:=wc) (cX P1) hg)
         have c20':w6.cell? (P0 N 20)=some (.slice ma ys.length mc):=(r.o.grown H4.o hS.o.gn).cell 20 rfl;have nl6:=(r.o.grown H4.o hS.o.gn).lt;have x5:=a6 u;have x6:=a6 hq
         have x7:=a6 (show (Value.slice na' (gs ++ [fZ.mk kd p' d pos nd ol]).length nc').ownBlock=(Value.slice na gs.length nc).ownBlock∨ ∀k,(Value.slice na' (gs ++ [fZ.mk kd p' d pos nd ol]).length nc').ownBlock=some k ->wc.heap.size <= k from how.imp id (fun h k hk=>aJ (Below.size (w:=wc) (B:=wc.heap.size) P1) (h k hk)));clear u hq hg how)
      | (refine bQ rfl 15 _ _ rfl P5 [.agg #[x0,(x1,y1,z1),(x2,y2,z2),(x3,y3,z3)],(ma,ys.length,mc), .agg #[kd,(pa',p'.length,pc'),(ta,d.length,tc),pos,l0,(a1,m1',c1),(a2,m2',c2),(a3,m3',c3),(oa,ol.length,oc),(),(),false,(),OY,(),OY,false,(),OY,(),OY]] ?_ _ (j3.o _ (L2 H4.o (cX P1))) ?_
         . go_simp
         rintro e wz ⟨vx,zs,rfl,A,H5,m⟩;obtain⟨xa,xc,j5⟩:=A.form;subst j5;refine⟨_,rfl, ?_⟩;have HE:=a6 (show f_C wr wc wz B N (ma,ys.length,mc) (na,gs.length,nc) (xa,zs.length,xc) (na',(gs ++ [fZ.mk kd p' d pos nd ol]).length,nc') zs (gs ++ [fZ.mk kd p' d pos nd ol])from
          f_C.log_marks H4.o x5.o (by rw [<- H2];exact x6.o) x7.o (b6 (w0:=w6) P1 m) A (Below.size (w:=w6) (B:=w6.heap.size) P1))
         have h0:=a6 H5;have l:=r.o.grown HE.o.g hS.o.gn;have s16:=l.cell 16 rfl;have s17:=l.cell 17 rfl;have s18:=l.cell 18 rfl;have s19:=l.cell 19 rfl;have s20:=l.cell 20 rfl;have s21:=l.cell 21 rfl
         have sf:∀j,wz.frozen? ⟨N,j,none⟩=false:=fun j=>Lib.frozen_of_heap l _
         have sl:=l.lt;clear m A H5 l))
     all_goals
      clear q7 j1;have HD:=a6 (fun(wq:World) (h:wz.grownBy wq (some N))=>HE.o.done hS.o hA.o.lt X1 H8.o Z.o h)
      have x8:=a6 (r.o.grown HE.o.g hS.o.gn);have j6:=a6 (show gs ++ [fZ.mk kd p' d pos nd ol]=lg ++ L.take (z+1)by rw [Q2.o, <- List.append_assoc, <- H6.o]);have q9:=a6 (show pK (iV zs)/\∀q∈iV zs,dX T2 q=true by rw [h0.o];exact k_C _ _ _);have X0:=a6 (show mY T2 (iV zs) ((L.drop (z+1)).map fZ.full)=RS by rw [h0.o];exact Q1.o);clear HE r Z h0 Q1 Q2 HL j3 H1;go_wp2_with fail
      go_roundg (L.length - (z+1))
      case measure=>omega
      case rel=>
       refine⟨z+1,T2,zs,gs ++ [fZ.mk kd p' d pos nd ol],x0,x1,x2,x3,xa,na',y1,y2,y3,z1,z2,z3,xc,nc',by go_num,by omega,a6 ⟨Q0.o,X0.o⟩,k9,a6 ?_,a6 (HD.o _ ?_).1,q9,j6,a6 (J5.o.stay (HD.o _ ?_).2.2),a6 (k3.o.trans (HD.o _ ?_).2.1)⟩
       . rw [show (gs ++ [fZ.mk kd p' d pos nd ol]).length=gs.length+1 by simp]
         exact((((((x8.o.set 16 _).set 17 _).set 18 _).set 19 _).set 20 _).set 21 _)
       all_goals with_reducible (repeat (first | exact FZ _ _ | refine World.grownBy.set ?_ _ _ | refine a_v ?_ _ | refine a_K ?_))
   --<3
   obtain rfl:z=L.length:=P2
   have h6:=H.o;rw [List.drop_length]at h6;have HE:=a6 (show Tz=X/\iV ys=RS from⟨by simpa [oZ]using h6.1,by simpa [mY]using h6.2⟩)
   have j6:=a6 (show gs=lg ++ L by have h:=H6.o;rwa [List.take_length]at h);clear H hw D H6 J5 h6 K3;go_wp2_with fail;go_ret;obtain⟨e1,e2⟩:=HE.o;subst e1;exact⟨rfl,t0,t1,t2,t3,u1,u2,u3,q1,q2,q3,ys,gs,ma,na,mc,nc,hA.o,hS.o,e2,j6.o,k3.o⟩
end Go.Proofs.YtmadpclcmjahoaaGreatDoor
