/- Parts of the proof: CC13. -/
import Derived.Test.YtmadpclcmjahoaaGreatDoorCC12
import Derived.Deep.MidRow
import Derived.MapKept
import Derived.ChangeMaps4
set_option linter.unusedVariables false
set_option linter.unusedSimpArgs false
set_option maxHeartbeats 8000000
set_option maxRecDepth 100000
namespace Go.Proofs.YtmadpclcmjahoaaGreatDoor
open Go.RowKit Go.Redl
abbrev e_o (W:World) (zs:List Int) (e:Ending) (w':World):Prop:= ∃a c,e= .returned (.slice a zs.length c)/\f_I w' (fun b=>W.heap.size <= b) a c zs/\Below W W w'
theorem BQ {w:World} {N:Nat} {cs:List Value} {T:TypeId} {ok:Nat ->Prop} (h:At w N cs T) (n sz:Nat) (hl:cs.length=n * sz) (hn:n <= 100000000) (h1:∀u∈cs,u.oneCell'=true) (hok:ok N):RowQ w ok sz N n n cs:=
 ⟨hl,a8,by unfold maxLen;omega,h1,(fun e=>by cases e),fun _=>⟨N,0,rfl,hok,h.lt,fun j u hj=>by rw [O5];exact h.cell j hj⟩⟩
theorem KJ (zs:List Int):∀u∈zs.map (Value.int .i64),u.oneCell'=true:=by
 intro u hu;obtain⟨z, -,rfl⟩:=OV hu;rfl
theorem q_q (w:World) (v0 v1:Value) (E B:Nat) (h0:v0.oneCell'=true) (h1:v1.oneCell'=true) (hB:w.heap.size < B):RowA (w.alloc (.cells #[v0,v1] E)) B 1 w 2 2 [v0,v1]:=by
 refine⟨rfl,a8,by unfold maxLen;omega,by simp [h0,h1],(fun e=>by cases e),fun _=>⟨w,0,rfl,hB,fun j u hj=> ?_⟩⟩;have h:=At.fresh w [v0,v1] E;rw [O5];exact h.cell j hj
theorem g_R (p l:List Int) (pa:Option Addr) (pc:Nat) (la:Option Addr) (lc:Nat) (W:World) (hp:RowA W W 1 pa p.length pc (p.map (Value.int .i64))) (hl:RowA W W 1 la l.length lc (l.map (Value.int .i64))) (hn:p.length+l.length <= 1000000):
 Calls Tryz.prog 111 #[(pa,p.length,pc),(la,l.length,lc)] W (e_o W (p ++ l)):=by
 have d:=b7 W (Obj.cells #[(pa,p.length,pc),(la,l.length,lc)] 36);have hC:=b_4 W 2 (W+1) [(pa,p.length,pc),(la,l.length,lc)] [p.map (Value.int .i64),l.map (Value.int .i64)] _
  (q_q W (pa,p.length,pc) (la,l.length,lc) 36 _ rfl rfl P2)
  (C7.cons (hp.keep d P2) (C7.cons (hl.keep d P2) (C7.nil _ _))) P6 t_k
 have HC:=a6 (show Calls Tryz.prog 144 #[.slice W 2 2] _ (vX _ 3 1 (p ++ l).length ((p ++ l).map (Value.int .i64)))by
  have h:=hC;rw [show ([p.map (Value.int .i64),l.map (Value.int .i64)].flatten)=(p ++ l).map (Value.int .i64)by simp,O6]at h;exact h)
 have i:=a6 d;clear hC d hp hl;generalize p ++ l=zs at HC⊢
 go_enter Tryz.func111,Tryz.ntmps111
 go_wp2_with fail;refine HC.o.mono ?_;rintro e w1 ⟨v,rfl,f,g⟩;obtain⟨a,c,rfl,hq⟩:=nV f (KJ _);have Hq:=a6 hq;have j:=a6 (i.o.trans (g.mono i.o.size))
 clear f hq g HC;go_wp2_with fail;go_ret;exact⟨_,_,rfl,Hq.o.keep (a8) (fun _ _ _=>rfl) (fun b hb _=>aJ i.o.size hb),j.o⟩
theorem h_X (p:List Int) (pa:Option Addr) (pc:Nat) (v1 v2 v3 v4 v5 v6 v7 v8 v9 v10 v11 v12 v13 v15:Value) (j:Nat) (d:Int) (W:World) (hp:RowA W W 1 pa p.length pc (p.map (Value.int .i64))) (hn:p.length <= 500000) (hj:j <= 100000000) (h0:0 <= d) (h1:d <= 100000000):
 Calls Tryz.prog 109 #[.agg #[(pa,p.length,pc),v1,v2,v3,v4,v5,v6,v7,v8,v9,v10,v11,v12,v13,j,v15],d] W (e_o W (p ++ [(j:Int)+d])):=by
 have f:=g8 W (Obj.cells #[(pa,p.length,pc),v1,v2,v3,v4,v5,v6,v7,v8,v9,v10,v11,v12,v13,j,v15] 98) (Obj.cells #[.int .i64 ((j:Int)+d)] 3);have HU:=a6 (g_R p [(j:Int)+d] pa pc (some (P0 (W+1) 0)) 1 ((W.alloc (Obj.cells #[(pa,p.length,pc),v1,v2,v3,v4,v5,v6,v7,v8,v9,v10,v11,v12,v13,j,v15] 98)).alloc (Obj.cells #[.int .i64 ((j:Int)+d)] 3)) (hp.keep f f.size) (by
  have h:=B6 (W.alloc (Obj.cells #[(pa,p.length,pc),v1,v2,v3,v4,v5,v6,v7,v8,v9,v10,v11,v12,v13,j,v15] 98)) (.int .i64 ((j:Int)+d)) 3 ((W.alloc (Obj.cells #[(pa,p.length,pc),v1,v2,v3,v4,v5,v6,v7,v8,v9,v10,v11,v12,v13,j,v15] 98)).alloc (Obj.cells #[.int .i64 ((j:Int)+d)] 3)).heap.size rfl P6
  simpa using h) P8)
 have l:IntKind.i64.wrap ((j:Int)+d)=(j:Int)+d:=IntWalk.i64_in _ P2;have i:=a6 f;clear f hp;generalize p ++ [(j:Int)+d]=zs at HU⊢
 go_enter Tryz.func109,Tryz.ntmps109
 go_wp2_with fail;refine HU.o.mono ?_;rintro e w1 ⟨a,c,rfl,hq,g⟩;have Hq:=a6 hq;have k:=a6 (i.o.trans (g.mono i.o.size))
 clear hq g HU;go_wp2_with fail;go_ret;exact⟨_,_,rfl,Hq.o.keep (a8) (fun _ _ _=>rfl) (fun b hb _=>aJ i.o.size hb),k.o⟩
abbrev s_M (W:World) (q:aX) (e:Ending) (w':World):Prop:= ∃v,e= .returned v/\bY w' w' q v/\Below W W w'
theorem g_S (ks:List aX) (ak:Option Addr) (ck:Nat) (css:List Value) (v0 v1 v2 v3 v5 v6 v7 v8 v9 v10 v11 v12 v13 v15:Value) (j:Nat) (W:World) (hk:RowA W W 4 ak ks.length ck css) (e:eX W W ks css) (hj:j < ks.length) (hn:ks.length <= 100000000):
 Calls Tryz.prog 110 #[.agg #[v0,v1,v2,v3,(ak,ks.length,ck),v5,v6,v7,v8,v9,v10,v11,v12,v13,j,v15]] W (s_M W (cY ks j)):=by
 rw [A0 hj];have l:(j:Int) < ks.length:=P2
 have g:=b7 W (Obj.cells #[v0,v1,v2,v3,(ak,ks.length,ck),v5,v6,v7,v8,v9,v10,v11,v12,v13,j,v15] 98);have a:=g8 W (Obj.cells #[v0,v1,v2,v3,(ak,ks.length,ck),v5,v6,v7,v8,v9,v10,v11,v12,v13,j,v15] 98) (Obj.cells #[false,(),(),()] 35);obtain⟨kb,ko,a1,c1,a2,c2,a3,c3,rfl,b,d, -,g0,g1,g2,g3⟩:=l_Z hk e j hj;generalize ks[j]=q at d g0 g1 g2 g3⊢;have hX:=At.second W (Obj.cells #[v0,v1,v2,v3,(kb,ko,ks.length,ck),v5,v6,v7,v8,v9,v10,v11,v12,v13,j,v15] 98) [false,(),(),()] 35;obtain⟨w1,c⟩:∃w1,w1=((W.alloc (Obj.cells #[v0,v1,v2,v3,(kb,ko,ks.length,ck),v5,v6,v7,v8,v9,v10,v11,v12,v13,j,v15] 98)).alloc (Obj.cells #[false,(),(),()] 35)):=⟨_,rfl⟩;have hA:At w1 W [v0,v1,v2,v3,(kb,ko,ks.length,ck),v5,v6,v7,v8,v9,v10,v11,v12,v13,j,v15] 98:=by rw [c];exact(At.fresh W _ _).alloc _
 rw [<- c]at hX a;have f0:=(a.cell (p:=(kb,ko+j * 4)) b).trans g0
 have f1:=(a.cell (p:=(kb,ko+j * 4+1)) b).trans g1;have f2:=(a.cell (p:=(kb,ko+j * 4+2)) b).trans g2;have f3:=(a.cell (p:=(kb,ko+j * 4+3)) b).trans g3;obtain⟨⟨x0,x1,x2,x3,x4,x5,x6,x7,x8,x9,x10,x11,x12,x13,x14,x15⟩, -,xl⟩:=hA.f16;obtain⟨⟨y0,y1,y2,y3⟩,yf,yl⟩:=hX.f4;have f:=a6 c;have h:=a6 a;have i:=a6 d
 have k:W.heap.size <= W.heap.size+1:=P2
 clear c a g d hk e hA hX g0 g1 g2 g3 hj;go_enter Tryz.func110,Tryz.ntmps110;go_upto_region 1 with fail;rw [<- f.o];clear f;go_wp2_with fail;refine bodyPost_ret (v:= .agg #[(b8 q),(a1,(dJ q).length,c1),(a2,(iJ q).length,c2),(a3,(aY q).length,c3)]) (by simp [results,Tryz.results110,go_sem,y0,y1,y2,y3]) rfl ?_;have hb:=l7 (N:=W.heap.size+1) h.o k (b8 q) (a1,(dJ q).length,c1) (a2,(iJ q).length,c2) (a3,(aY q).length,c3);exact⟨_,rfl,i.o.keep hb hb.size,hb⟩
theorem h_Y (kind:List UInt8) (W:World):Calls Tryz.prog 112 #[aZ kind] W (r_g W (gX kind)):=by
 cases kind with
 | nil=>
   have HE:Hid (gX []= .mk false [] [] []):=rfl
   go_enter Tryz.func112,Tryz.ntmps112
   go_wp2_with fail;refine bodyPost_ret (v:= .agg #[false,(),(),()]) u_2 rfl ?_;rw [HE.o];exact⟨_,rfl,g_A _ _,g8 W _ _⟩
 | cons x r=>
   have HE:Hid (gX (x::r)= .mk false [(E8,x::r)] [] []):=by show gX _=_;unfold gX;rw [if_neg P6]
   have c:((⟨(x::r).toArray⟩:ByteArray).toList.isEmpty)=false:=QQ
   have a:(!(⟨(x::r).toArray⟩:ByteArray).toList.isEmpty)=true:=QQ
   have b:Hid (cK [(E8,x::r)]= [.string ⟨#[116,121,112,101]⟩, .string ⟨(x::r).toArray⟩]):=rfl;obtain⟨S,hS⟩:∃S,S=(⟨(x::r).toArray⟩:ByteArray):=⟨_,rfl⟩;rw [show aZ (x::r)= .string S by rw [hS]];rw [<- hS]at c a b;clear hS;go_enter Tryz.func112,Tryz.ntmps112;go_wp2_with fail;have d:=fun(o1 o2:Obj)=>a6 (iK W o1 o2 (Obj.cells #[.string ⟨#[116,121,112,101]⟩,S] 138))
   refine bodyPost_ret (v:= .agg #[false, .slice (some (P0 (W.heap.size+1+1) 0)) 1 1,(),()]) u_2 rfl ?_;refine⟨_,rfl, ?_,(d _ _).o⟩;rw [HE.o];unfold NodeQ;refine⟨some ⟨W.heap.size+1+1,0,none⟩,1,none,0,none,0, [],rfl, ?_,RowQ.empty _ _ _,by simp,RowQ.empty _ _ _,by unfold dK;rfl⟩;rw [b.o];exact BQ (At.third W _ _ [.string ⟨#[116,121,112,101]⟩,S] 138) 1 2 rfl P2 t_2 P2
theorem a_C:(Tryz.prog.info? 55).map (fun i=>(i.zero,i.size,i.bytes))=some (some (.agg #[OY,(),(),OY,false,(),(),(),(),(),(),false,(),OY,(),OY,false,(),OY,(),OY]),21,360):=P3
theorem At.load {P:Program} {w:World} {N:Nat} {cs:List Value} {T:TypeId} {d:TypeDesc} (h:At w N cs T) (hu:P.underlying T=some d) (hd:d.isRow=true) (hi:(P.info? T).map (·.size)=some cs.length):(Instr.loadAt T (.pointer N)).run P w= .ok (.agg cs.toArray) w:=
 run_loadAt_mid w N 0 T cs d (fun j v hj=>by rw [O5];exact h.cell j hj) hu hd hi
def yK (L M:Nat) (w:World) (v:Value) (l:List fZ):Prop:= ∃css,w.ownsRow M 55 21 v l.length css/\m8 w (fun b=>L <= b/\v.ownBlock≠some b) l css
theorem yK.nil (L M:Nat) (w:World):yK L M w () []:=⟨[],World.ownsRow_nil _ _ _ _,m8.nil _ _⟩
theorem yK.below {L M:Nat} {w w':World} {v:Value} {l:List fZ} (h:yK L M w v l) (hb:Below w w w'):yK L M w' v l:=by
 obtain⟨css,h1,h2⟩:=h;exact⟨css,kQ h1 hb,h2.stay (d_R hb _)⟩
theorem yK.ops {L M:Nat} {w:World} {v:Value} {l:List fZ} (h:yK L M w v l):p_Q w l v:=by
 obtain⟨css,h1,h2⟩:=h;exact p_Q.of_own h1 h2
theorem yK.form {L M:Nat} {w:World} {v:Value} {l:List fZ} (h:yK L M w v l):∃a c,v= .slice a l.length c:=by
 obtain⟨a,c,css,hv, -, -⟩:=h.ops;exact⟨a,c,hv⟩
theorem yK.lt {L M:Nat} {w:World} {v:Value} {l:List fZ} (h:yK L M w v l):∀b,w.heap.size <= b ->v.ownBlock≠some b:=by
 obtain⟨css,h1,h2⟩:=h;intro b hb e;have:=h1.lt b e;omega
theorem yK.ge {L M:Nat} {w:World} {v:Value} {l:List fZ} (h:yK L M w v l):∀b,v.ownBlock=some b ->M <= b:=by
 obtain⟨css,h1,h2⟩:=h;intro b e;exact(h1.lt b e).1
theorem yK.from {L L' M:Nat} {w:World} {v:Value} {l:List fZ} (h:yK L M w v l) (hL:L' <= L):yK L' M w v l:=by
 obtain⟨css,h1,h2⟩:=h;exact⟨css,h1,h2.stay ⟨a8,fun _ _ _=>rfl,fun b hb _=>⟨aJ hL hb.1,hb.2⟩⟩⟩
theorem yK.set {L M:Nat} {w:World} {v:Value} {l:List fZ} (h:yK L M w v l) {N o:Nat} (hN:N < M) (hL:N < L) (u:Value):yK L M (w.setCell (N,o) u) v l:=by
 obtain⟨css,h1,h2⟩:=h;refine⟨css,ownsRow_setCell_below (a:=(N,o)) h1 hN _,h2.stay ⟨by simp [World.setCell],fun b hb _=>Below.heap_setCell w (N,o) u b (by show b≠N;omega),fun _ hb _=>hb⟩⟩
theorem yK.push {L M:Nat} {w0 w':World} {v v':Value} {l:List fZ} {o:fZ} {c:List Value} {ob:Obj} {css:List Value} (h1:w0.ownsRow M 55 21 v l.length css) (h2:m8 w0 (fun b=>L <= b/\v.ownBlock≠some b) l css)
 (ho:OpQ w0 (fun b=>L <= b/\v.ownBlock≠some b) o c) (hg:(w0.alloc ob).grownBy w' v.ownBlock) (a:w'.ownsRow M 55 21 v' (l.length+1) (css ++ c)) (hw:v'.ownBlock=v.ownBlock∨ ∀k,v'.ownBlock=some k ->(w0.alloc ob).heap.size <= k):yK L M w' v' (l ++ [o]):=by
 have hs:=hg.size;have d:b_0 w0 w' (fun b=>L <= b/\v.ownBlock≠some b) (fun b=>L <= b/\v'.ownBlock≠some b):=by
  refine⟨by simp at hs;omega,fun b hb f=> ?_,fun b hb f=>⟨hb.1, ?_⟩⟩
  . rw [hg.block b P8 (fun e=>hb.2 e.symm),Lib.alloc_old _ _ _ f]
  rcases hw with e | e
  . rw [e];exact hb.2
  intro e2;have:=e b e2;simp at this;omega
 refine⟨css ++ c,by rw [NZ];exact a,m8.append (h2.stay d) (m8.single (ho.stay d))⟩
theorem h_Z {M:Nat} {w0 w':World} {ob:Obj} {v:Value} (hg:(w0.alloc ob).grownBy w' v.ownBlock) (hM:M <= w0.heap.size) (hv:∀k,v.ownBlock=some k ->M <= k):Below M w0 w':=
 ((Below.refl M w0).alloc hM ob).grown hg P8 hv
theorem c_D {P:Program} {ops:Array Oper} {o:Oper} {a:Act} {w0:World} {K:Act ->World ->Prop} {Q:Exit ->Act ->World ->Prop} {E:Prop} {ob:Obj}
 (hg:o.guard=none) (s x:Operand) (ho:o.op= .call { callee:= .builtin .append,args:= #[s,x],argTypes:= #[42,42] })
 (ht:P.underlying 42=some (.slice 55)) (hi:(P.info? 55).map (fun i=>(i.zero,i.size,i.bytes))=some (some (.agg #[OY,(),(),OY,false,(),(),(),(),(),(),false,(),OY,(),OY,false,(),OY,(),OY]),21,360))
 (L M:Nat) (v:Value) (l:List fZ) (hs:a.eval s=v) (hO:yK L M w0 v l) (od:fZ) (c:List Value) (g:ob= .cells c.toArray 55) (hx:a.eval x= .slice w0 1 1)
 (hq:OpQ w0 (fun b=>L <= b/\v.ownBlock≠some b) od c) (hn:l.length <= 100000000) (hM:M <= w0.heap.size)
 (h:∀v' w',yK L M w' v' (l ++ [od]) ->Below M w0 w' ->K (a.put o.dst v') w'):if Region.wanted o (yielded ops a.tmps)=true then Oper.wp P o a (w0.alloc ob) K Q else E:=by
 obtain⟨css,h1,h2⟩:=hO;subst g;have m:=At.fresh w0 c 55
 refine JX hg s x 42 ho M 55 _ 21 360 ht hi rfl P9 v l.length css hs (kQ h1 (b7 _ _)) w0 1 1 (w0+1) c hx ?_ R8 P2 P8 fun v' w' f d n=> ?_
 . refine⟨by rw [hq.len],a8,by unfold maxLen;omega,hq.one,(fun e=>by cases e),fun _=>⟨w0,0,rfl,by omega,fun j u hj=>by rw [O5];exact m.cell j hj⟩⟩
 exact h v' w' (yK.push h1 h2 hq d f n) (h_Z d hM (fun k hk=>(h1.lt k hk).1))
def b_Q (B:Nat) (w:World) (l:List fZ) (v:Value):Prop:= ∃a c css,v= .slice a l.length c/\RowQ w (fun b=>B <= b) 21 a l.length c css/\m8 w (fun b=>B <= b) l css
theorem b_Q.from {B B':Nat} {w:World} {l:List fZ} {v:Value} (h:b_Q B w l v) (hB:B' <= B):b_Q B' w l v:=by
 obtain⟨a,c,css,rfl,h1,h2⟩:=h;exact⟨a,c,css,rfl,h1.keep (a8) (fun _ _ _=>rfl) (fun b hb _=>aJ hB hb),h2.stay ⟨a8,fun _ _ _=>rfl,fun b hb _=>aJ hB hb⟩⟩
theorem b_Q.nil (B:Nat) (w:World):b_Q B w [] ():=⟨none,0, [],rfl,RowQ.empty _ _ _,m8.nil _ _⟩
theorem yK.opsF {B L M:Nat} {w:World} {v:Value} {l:List fZ} (h:yK L M w v l) (hL:B <= L) (hM:B <= M):b_Q B w l v:=by
 obtain⟨css,h1,h2⟩:=h;obtain⟨a,c,hv,hq⟩:=nV h1 (m8.one h2);exact⟨a,c,css,hv,hq.keep (a8) (fun _ _ _=>rfl) (fun b hb _=>aJ hM hb),h2.stay ⟨a8,fun _ _ _=>rfl,fun b hb _=>aJ hL hb.1⟩⟩
theorem e_q {B:Nat} {w:World} {o:fZ} {c:List Value} {T:TypeId} (h:OpQ w (fun b=>B <= b) o c) (hB:B <= w.heap.size):b_Q B (w.alloc (.cells c.toArray T)) [o] (.slice w 1 1):=by
 have hb:=b7 w (.cells c.toArray T);exact⟨_,_,c,rfl,BQ (ok:=fun b=>B <= b) (At.fresh w c T) 1 21 (by rw [h.len]) P2 h.one hB,m8.single (h.stay (d_R hb _))⟩
abbrev e_r (W:World) (l:List fZ) (e:Ending) (w':World):Prop:= ∃v,e= .returned v/\b_Q W w' l v/\Below W W w'
theorem _root_.Go.Redl.RowQ.any {w:World} {ok:Nat ->Prop} {sz n cap:Nat} {a:Option Addr} {cs:List Value} (h:RowQ w ok sz a n cap cs):RowQ w (fun _=>True) sz a n cap cs:=h.keep (a8) (fun _ _ _=>rfl) (fun _ _ _=>trivial)
theorem _root_.Go.Redl.RowQ.imp {w:World} {ok ok':Nat ->Prop} {sz n cap:Nat} {a:Option Addr} {cs:List Value} (h:RowQ w ok sz a n cap cs) (f:∀b,ok b ->ok' b):RowQ w ok' sz a n cap cs:=h.keep (a8) (fun _ _ _=>rfl) (fun b hb _=>f b hb)
theorem _root_.Go.Redl.RowQ.since {w w':World} {ok:Nat ->Prop} {sz n cap:Nat} {a:Option Addr} {cs:List Value} (h:RowQ w ok sz a n cap cs) (hb:Below w w w'):RowQ w' ok sz a n cap cs:=h.keep hb.size (fun b _ c=>hb.block b c) (fun _ h _=>h)
theorem _root_.Go.Redl.NodeQ.since {w w':World} {ok:Nat ->Prop} {n:aX} {cs:List Value} (h:NodeQ w ok n cs) (hb:Below w w w'):NodeQ w' ok n cs:=NodeQ.keep hb.size (fun b _ a=>hb.block b a) (fun _ h _=>h) n cs h
structure b_R (W:World) (p:List Int) (pa:Option Addr) (pc:Nat) (ks:List aX) (ak:Option Addr) (ck:Nat) (css:List Value) (j:Nat):Prop where
 path:RowA W W 1 pa p.length pc (p.map (Value.int .i64))
 pl:p.length <= 500000
 kids:RowA W W 4 ak ks.length ck css
 kids':eX W W ks css
 kl:fY ks <= 100000000
 at_:j <= 100000000
theorem b_R.keep {W w:World} {p:List Int} {pa:Option Addr} {pc:Nat} {ks:List aX} {ak:Option Addr} {ck:Nat} {css:List Value} {j:Nat} (h:b_R W p pa pc ks ak ck css j) (hb:Below W W w):b_R w p pa pc ks ak ck css j:=
 ⟨h.path.keep hb hb.size,h.pl,h.kids.keep hb hb.size,eX.keep hb hb.size _ _ h.kids',h.kl,h.at_⟩
theorem At.s16 {w:World} {N:Nat} {c0 c1 c2 c3 c4 c5 c6 c7 c8 c9 c10 c11 c12 c13 c14 c15:Value} {T:TypeId} (h:At w N [c0,c1,c2,c3,c4,c5,c6,c7,c8,c9,c10,c11,c12,c13,c14,c15] T) (d0 d1 d2 d3 d4 d5 d6 d7 d8 d9 d10 d11 d12 d13 d14 d15:Value):At ((((((((((((((((w.setCell N d0).setCell (P0 N 1) d1).setCell (P0 N 2) d2).setCell (P0 N 3) d3).setCell (P0 N 4) d4).setCell (P0 N 5) d5).setCell (P0 N 6) d6).setCell (P0 N 7) d7).setCell (P0 N 8) d8).setCell (P0 N 9) d9).setCell (P0 N 10) d10).setCell (P0 N 11) d11).setCell (P0 N 12) d12).setCell (P0 N 13) d13).setCell (P0 N 14) d14).setCell (P0 N 15) d15) N [d0,d1,d2,d3,d4,d5,d6,d7,d8,d9,d10,d11,d12,d13,d14,d15] T:=by
 have h0:At (w.setCell N d0) N [d0,c1,c2,c3,c4,c5,c6,c7,c8,c9,c10,c11,c12,c13,c14,c15] T:=h.set 0 d0;have h1:At ((w.setCell N d0).setCell (P0 N 1) d1) N [d0,d1,c2,c3,c4,c5,c6,c7,c8,c9,c10,c11,c12,c13,c14,c15] T:=h0.set 1 d1;have h2:At (((w.setCell N d0).setCell (P0 N 1) d1).setCell (P0 N 2) d2) N [d0,d1,d2,c3,c4,c5,c6,c7,c8,c9,c10,c11,c12,c13,c14,c15] T:=h1.set 2 d2;have h3:At ((((w.setCell N d0).setCell (P0 N 1) d1).setCell (P0 N 2) d2).setCell (P0 N 3) d3) N [d0,d1,d2,d3,c4,c5,c6,c7,c8,c9,c10,c11,c12,c13,c14,c15] T:=h2.set 3 d3;have h4:At (((((w.setCell N d0).setCell (P0 N 1) d1).setCell (P0 N 2) d2).setCell (P0 N 3) d3).setCell (P0 N 4) d4) N [d0,d1,d2,d3,d4,c5,c6,c7,c8,c9,c10,c11,c12,c13,c14,c15] T:=h3.set 4 d4;have h5:At ((((((w.setCell N d0).setCell (P0 N 1) d1).setCell (P0 N 2) d2).setCell (P0 N 3) d3).setCell (P0 N 4) d4).setCell (P0 N 5) d5) N [d0,d1,d2,d3,d4,d5,c6,c7,c8,c9,c10,c11,c12,c13,c14,c15] T:=h4.set 5 d5;have h6:At (((((((w.setCell N d0).setCell (P0 N 1) d1).setCell (P0 N 2) d2).setCell (P0 N 3) d3).setCell (P0 N 4) d4).setCell (P0 N 5) d5).setCell (P0 N 6) d6) N [d0,d1,d2,d3,d4,d5,d6,c7,c8,c9,c10,c11,c12,c13,c14,c15] T:=h5.set 6 d6;have h7:At ((((((((w.setCell N d0).setCell (P0 N 1) d1).setCell (P0 N 2) d2).setCell (P0 N 3) d3).setCell (P0 N 4) d4).setCell (P0 N 5) d5).setCell (P0 N 6) d6).setCell (P0 N 7) d7) N [d0,d1,d2,d3,d4,d5,d6,d7,c8,c9,c10,c11,c12,c13,c14,c15] T:=h6.set 7 d7;have h8:At (((((((((w.setCell N d0).setCell (P0 N 1) d1).setCell (P0 N 2) d2).setCell (P0 N 3) d3).setCell (P0 N 4) d4).setCell (P0 N 5) d5).setCell (P0 N 6) d6).setCell (P0 N 7) d7).setCell (P0 N 8) d8) N [d0,d1,d2,d3,d4,d5,d6,d7,d8,c9,c10,c11,c12,c13,c14,c15] T:=h7.set 8 d8;have h9:At ((((((((((w.setCell N d0).setCell (P0 N 1) d1).setCell (P0 N 2) d2).setCell (P0 N 3) d3).setCell (P0 N 4) d4).setCell (P0 N 5) d5).setCell (P0 N 6) d6).setCell (P0 N 7) d7).setCell (P0 N 8) d8).setCell (P0 N 9) d9) N [d0,d1,d2,d3,d4,d5,d6,d7,d8,d9,c10,c11,c12,c13,c14,c15] T:=h8.set 9 d9;have a:At (((((((((((w.setCell N d0).setCell (P0 N 1) d1).setCell (P0 N 2) d2).setCell (P0 N 3) d3).setCell (P0 N 4) d4).setCell (P0 N 5) d5).setCell (P0 N 6) d6).setCell (P0 N 7) d7).setCell (P0 N 8) d8).setCell (P0 N 9) d9).setCell (P0 N 10) d10) N [d0,d1,d2,d3,d4,d5,d6,d7,d8,d9,d10,c11,c12,c13,c14,c15] T:=h9.set 10 d10;have b:At ((((((((((((w.setCell N d0).setCell (P0 N 1) d1).setCell (P0 N 2) d2).setCell (P0 N 3) d3).setCell (P0 N 4) d4).setCell (P0 N 5) d5).setCell (P0 N 6) d6).setCell (P0 N 7) d7).setCell (P0 N 8) d8).setCell (P0 N 9) d9).setCell (P0 N 10) d10).setCell (P0 N 11) d11) N [d0,d1,d2,d3,d4,d5,d6,d7,d8,d9,d10,d11,c12,c13,c14,c15] T:=a.set 11 d11;have c:At (((((((((((((w.setCell N d0).setCell (P0 N 1) d1).setCell (P0 N 2) d2).setCell (P0 N 3) d3).setCell (P0 N 4) d4).setCell (P0 N 5) d5).setCell (P0 N 6) d6).setCell (P0 N 7) d7).setCell (P0 N 8) d8).setCell (P0 N 9) d9).setCell (P0 N 10) d10).setCell (P0 N 11) d11).setCell (P0 N 12) d12) N [d0,d1,d2,d3,d4,d5,d6,d7,d8,d9,d10,d11,d12,c13,c14,c15] T:=b.set 12 d12;have d:At ((((((((((((((w.setCell N d0).setCell (P0 N 1) d1).setCell (P0 N 2) d2).setCell (P0 N 3) d3).setCell (P0 N 4) d4).setCell (P0 N 5) d5).setCell (P0 N 6) d6).setCell (P0 N 7) d7).setCell (P0 N 8) d8).setCell (P0 N 9) d9).setCell (P0 N 10) d10).setCell (P0 N 11) d11).setCell (P0 N 12) d12).setCell (P0 N 13) d13) N [d0,d1,d2,d3,d4,d5,d6,d7,d8,d9,d10,d11,d12,d13,c14,c15] T:=c.set 13 d13;have e:At (((((((((((((((w.setCell N d0).setCell (P0 N 1) d1).setCell (P0 N 2) d2).setCell (P0 N 3) d3).setCell (P0 N 4) d4).setCell (P0 N 5) d5).setCell (P0 N 6) d6).setCell (P0 N 7) d7).setCell (P0 N 8) d8).setCell (P0 N 9) d9).setCell (P0 N 10) d10).setCell (P0 N 11) d11).setCell (P0 N 12) d12).setCell (P0 N 13) d13).setCell (P0 N 14) d14) N [d0,d1,d2,d3,d4,d5,d6,d7,d8,d9,d10,d11,d12,d13,d14,c15] T:=d.set 14 d14;exact e.set 15 d15
theorem o_h {w:World} {ok:Nat ->Prop} {sz n cap N:Nat} {a:Option Addr} {cs:List Value} (h:RowQ w ok sz a n cap cs) (b:¬ok N) (d0 d1 d2 d3 d4 d5 d6 d7 d8 d9 d10 d11 d12 d13 d14 d15:Value):RowQ ((((((((((((((((w.setCell N d0).setCell (P0 N 1) d1).setCell (P0 N 2) d2).setCell (P0 N 3) d3).setCell (P0 N 4) d4).setCell (P0 N 5) d5).setCell (P0 N 6) d6).setCell (P0 N 7) d7).setCell (P0 N 8) d8).setCell (P0 N 9) d9).setCell (P0 N 10) d10).setCell (P0 N 11) d11).setCell (P0 N 12) d12).setCell (P0 N 13) d13).setCell (P0 N 14) d14).setCell (P0 N 15) d15) ok sz a n cap cs:=
 b9 (b9 (b9 (b9 (b9 (b9 (b9 (b9 (b9 (b9 (b9 (b9 (b9 (b9 (b9 (b9 h b) b) b) b) b) b) b) b) b) b) b) b) b) b) b) b
theorem i_1 (p:List Int) (pa:Option Addr) (pc:Nat) (ks:List aX) (ak:Option Addr) (ck:Nat) (css:List Value) (v1 v2 v3 v5 v6 v7 v8 v9 v10 v11 v12 v13 v15:Value) (j:Nat) (W:World)
 (hJ:b_R W p pa pc ks ak ck css j) (hj:j < ks.length):
 Calls Tryz.prog 55 #[.agg #[(pa,p.length,pc),v1,v2,v3,(ak,ks.length,ck),v5,v6,v7,v8,v9,v10,v11,v12,v13,j,v15]] W (e_r W [⟨2,p ++ [(j:Int)], [],0,cY ks j, []⟩]):=by
 have x:ks.length <= 100000000:=W0
 have k:(cY ks j).wt <= 100000000:=T9
 have m:=fun(w1:World) (hb:Below W W w1)=>h_X p pa pc v1 v2 v3 (ak,ks.length,ck) v5 v6 v7 v8 v9 v10 v11 v12 v13 v15 j 0 w1 (hJ.keep hb).path hJ.pl hJ.at_ P2 P2
 rw [Int.add_zero]at m;have n:=a6 m
 have r:=a6 (fun(w1:World) (hb:Below W W w1)=>g_S ks ak ck css (pa,p.length,pc) v1 v2 v3 v5 v6 v7 v8 v9 v10 v11 v12 v13 v15 j w1 (hJ.keep hb).kids (hJ.keep hb).kids' hj x);generalize cY ks j=q at r k⊢;generalize p ++ [(j:Int)]=zs at n⊢;have HC:=a6 (fun(v:Value) (w1:World) (hv:bY w1 w1 q v)=>b_3 _ q v w1 (a8) k hv);obtain⟨w0,i⟩:∃w0,w0=W.alloc (Obj.cells #[(pa,p.length,pc),v1,v2,v3,(ak,ks.length,ck),v5,v6,v7,v8,v9,v10,v11,v12,v13,j,v15] 98):=⟨_,rfl⟩;have HB:=a6 (show At w0 W [(pa,p.length,pc),v1,v2,v3,(ak,ks.length,ck),v5,v6,v7,v8,v9,v10,v11,v12,v13,j,v15] 98 by rw [i];exact At.fresh _ _ _);have c:=a6 (show Below W W w0 by rw [i];exact b7 _ _);have s:=a6 i;have y:=a6 (fun(w':World) (hb:Below w0 w0 w')=>HB.o.kept hb);have z:=fun(w':World) (h:At w' W [(pa,p.length,pc),v1,v2,v3,(ak,ks.length,ck),v5,v6,v7,v8,v9,v10,v11,v12,v13,j,v15] 98)=>At.load (P:=Tryz.prog) h Tryz.underlying98 rfl P3
 simp [go_sem]at z
 have t:=a6 (fun(w1:World) (hb:Below w0 w0 w1)=>n.o w1 (c.o.trans (hb.mono c.o.size)));have u:=a6 (fun(w1:World) (hb:Below w0 w0 w1)=>r.o w1 (c.o.trans (hb.mono c.o.size)));clear m i hJ hj k n r;go_enter Tryz.func55,Tryz.ntmps55;go_upto_region 1 with fail;rw [<- s.o];clear s;go_region_held3 (fun w'=>At w' W [(pa,p.length,pc),v1,v2,v3,(ak,ks.length,ck),v5,v6,v7,v8,v9,v10,v11,v12,v13,j,v15] 98) (refine y.o _ (by(with_reducible (repeat (first | exact g.o | exact f.o | exact d.o | exact a7 | refine aK ?_ | refine aQ ?_ ?_ _ | refine aV ?_ ?_ _)) <;> (first | exact a8 | exact g.o.size | exact f.o.size | exact d.o.size | (have:=g.o.size;simp [World.setCell];omega) | (have:=f.o.size;simp [World.setCell];omega) | (have:=d.o.size;simp [World.setCell];omega) | (simp <;> omega) | omega))))
  (first
  | (refine bQ rfl 109 _ _ rfl P5 [.agg #[(pa,p.length,pc),v1,v2,v3,(ak,ks.length,ck),v5,v6,v7,v8,v9,v10,v11,v12,v13,j,v15],OY] ?_ _ (t.o _ P1) ?_
     . go_simp
     rintro e w1 ⟨za,zc,rfl,hq,a⟩;refine⟨_,rfl, ?_⟩;have d:=a6 (Below.and (w0:=w0) P1 a);have Hz:=a6 (RowQ.imp hq (fun b hb=>(show W.heap.size <= b from aJ (aJ c.o.size QZ) hb)));clear a hq)
  | (refine bQ rfl 110 _ _ rfl P5 [.agg #[(pa,p.length,pc),v1,v2,v3,(ak,ks.length,ck),v5,v6,v7,v8,v9,v10,v11,v12,v13,j,v15]] ?_ _ (u.o _ P7) ?_
     . go_simp
     rintro e w2 ⟨kv,rfl,w,a⟩;refine⟨_,rfl, ?_⟩;have f:=a6 (Below.and (w0:=w0) P7 a);have A:=a6 a;have B:=a6 w;clear a w)
  | (refine bQ rfl 61 _ _ rfl P5 [kv] ?_ _ (HC.o kv _ B.o) ?_
     . go_simp
     rintro e w3 ⟨cs,rfl,hn,a⟩;obtain⟨l,a1,n1,c1,a2,n2,c2,a3,n3,c3,rfl⟩:=hn.form;refine⟨_,rfl, ?_⟩;have g:=a6 (Below.and (w0:=w0) P4 a);have C:=a6 a;have Hn:=a6 (NodeQ.keep (ok':=fun b=>W.heap.size <= b) (a8) (fun _ _ _=>rfl) (fun b hb _=>aJ (aJ c.o.size PV) hb) _ _ hn);clear a hn))
 all_goals
  go_wp2_with fail;go_ret;refine⟨_,rfl,e_q (o:=⟨2,zs, [],0,q, []⟩) ⟨za,zc,none,0,_,_,_,_,none,0,rfl,(Hz.o.since A.o).since C.o,RowQ.empty _ _ _,Hn.o,RowQ.empty _ _ _⟩ (aJ c.o.size g.o.size),c.o.trans ((g.o.alloc g.o.size _).mono c.o.size)⟩
theorem f_w (p:List Int) (h:p≠ []):decide (p=([]:List Int))=false:=O3 h
def o_i (W:World) (e:Ending) (w':World):Prop:=Below W W w'/\∃a c i b,e= .returned (.tuple #[.agg #[.slice a 0 c, .int .i64 i], .bool b])
theorem i_2 (p d:List Int) (kd pos:Int) (pa ta:Option Addr) (pc tc:Nat) (v4 v5 v6 v7 v8 v9 v10 v11 v12 v13 v14 v15 v16 v17 v18 v19 v20:Value) (W:World) (hk:kd=1∨kd=2∨kd=3∨kd=4∨kd=5)
 (hp:RowA W W 1 pa p.length pc (p.map (Value.int .i64))) (hd:RowA W W 1 ta d.length tc (d.map (Value.int .i64))) (s:p.length <= 1000000) (t:d.length <= 1000000) (i:p≠ []):
 Calls Tryz.prog 126 #[.agg #[(),OY], .agg #[kd,(pa,p.length,pc),(ta,d.length,tc),pos,v4,v5,v6,v7,v8,v9,v10,v11,v12,v13,v14,v15,v16,v17,v18,v19,v20], .int .i64 1] W (o_i W):=by
 obtain⟨w0,c⟩:∃w0,w0=((W.alloc (Obj.cells #[(),OY] 49)).alloc (Obj.cells #[kd,(pa,p.length,pc),(ta,d.length,tc),pos,v4,v5,v6,v7,v8,v9,v10,v11,v12,v13,v14,v15,v16,v17,v18,v19,v20] 55)).alloc (Obj.cells #[(),OY] 49):=⟨_,rfl⟩;have b:Below W W w0:=by rw [c];exact iK _ _ _ _
 have hA:At w0 W [(),OY] 49:=by rw [c];exact((At.fresh W _ _).alloc _).alloc _
 have hB:At w0 (W+1) [kd,(pa,p.length,pc),(ta,d.length,tc),pos,v4,v5,v6,v7,v8,v9,v10,v11,v12,v13,v14,v15,v16,v17,v18,v19,v20] 55:=by rw [c];exact(At.second W _ _ _).alloc _
 have hC:At w0 (W.heap.size+1+1) [(),OY] 49:=by rw [c];exact At.third W _ _ _ _
 have HM:=a6 (q_k p d kd pos pa ta pc tc v4 v5 v6 v7 v8 v9 v10 v11 v12 v13 v14 v15 v16 v17 v18 v19 v20 w0 hk (hp.keep b b.size) (hd.keep b b.size) s t i);have HT:=a6 (fun(w':World) (hb:Below w0 w0 w')=>d_B p [] pa none pc 0 W w' (hp.keep (b.trans (hb.mono b.size)) (a8)) (RowA.empty _ _ _));rw [f_w p i]at HT;have m:=At.load (P:=Tryz.prog) hB Tryz.underlying55 rfl P3
 simp [go_sem]at m
 have y0:=hA.cell 0 rfl;have y1:=hA.cell 1 rfl
 have HA:=a6 hA;have HB:=a6 hB;have HC:=a6 hC
 have j:=a6 b;have n:=a6 c
 clear hA hB hC c b hp hd i hk;unfold o_i;go_enter Tryz.func126,Tryz.ntmps126;go_upto_region 1 with fail;rw [<- n.o];clear n;go_wp2_with fail;refine HM.o.mono ?_;rintro e w1 ⟨a,va,vc,vb,rfl⟩;have hA1:=HA.o.kept a;have k:=HB.o.kept a;have g:=HC.o.kept a
 have k0:=hA1.cell 0 rfl;have k1:=hA1.cell 1 rfl;have l1:=k.cell 1 rfl
 obtain⟨⟨c0,c1⟩,cf,cl⟩:=g.f2;have al:=hA1.lt;have bl:=k.lt
 have o:=a6 (fun(w':World) (hb:Below w1 w1 w')=>HT.o w' (a.trans (hb.mono a.size)));have u:=a6 g;have B:=a6 g.lt;have l:=a6 (j.o.trans (a.mono j.o.size));have C:=a6 j.o.size;clear a HM m hA1 k g y0 y1 HA HB HC HT;cases vb with
 | false=>
   go_wp2_with fail;refine bodyPost_ret (v:= .tuple #[.agg #[(),OY],false]) t_j rfl ?_;exact⟨K1 l.o P2 _ _,none,0,0,false,rfl⟩
 | true=>
   go_upto_region 5 with fail;obtain⟨w2,h⟩:∃w2,w2=w1.alloc (Obj.cells #[Value.slice va 0 vc,Value.int .i64 0] 49):=⟨_,rfl⟩;have f:Below w1 w1 w2:=by rw [h];exact b7 _ _
   have hD:At w2 w1 [.slice va 0 vc,OY] 49:=by rw [h];exact At.fresh _ _ _
   have q:=a6 (o.o w2 f);rw [<- h];have w:w2.cell? W=some (.slice none 0 0):=(f.cell (p:=W) al).trans k0
   have x:w2.cell? (P0 (W+1) 1)=some (.slice pa p.length pc):=(f.cell (p:=(P0 (W+1) 1)) bl).trans l1;have y:=a6 (u.o.kept f);have z:=a6 hD;have r:=a6 (l.o.trans (f.mono l.o.size));clear h f hD o k0 k1 l1 c0 c1 cf cl al bl;go_wp2_with fail;refine q.o.mono ?_;rintro e w3 ⟨rfl,hdr⟩;have hd:=hdr.below w2.heap.size
   obtain⟨⟨c0,c1⟩,cf,cl⟩:=(y.o.kept hd).f2;obtain⟨⟨d0,d1⟩,df,dl⟩:=(z.o.kept hd).f2;have A:=a6 (r.o.trans (hd.mono r.o.size));clear q hdr hd w x;go_wp2_with fail;refine bodyPost_ret (v:= .tuple #[.agg #[.slice va 0 vc,OY],true]) t_j rfl ?_;exact⟨K1 A.o P2 _ _,va,vc,0,true,rfl⟩
def yZ (w:World) (b:Nat) (l:List (Int×Value)):Prop:= ∃es ck,w.heap[b]? =some (.map es ck)/\es.toList.map (fun e=>(e.key,e.val))=l.map (fun p=>(Value.int .i64 p.1,p.2))
theorem yZ.fresh (w:World):yZ (w.alloc (.map #[] 0)) w []:=⟨#[],0,heap_alloc_new w _,rfl⟩
structure b_S (b:Nat) (w w':World):Prop where
 os:w'.os=w.os
 tape:w'.tape=w.tape
 output:w'.output=w.output
 size:w'.heap.size=w.heap.size
 block:∀c,c≠b ->w'.heap[c]? =w.heap[c]?
theorem b_S.below {b B:Nat} {W w w':World} (h:b_S b w w') (hb:Below B W w) (hB:B <= b):Below B W w':=
 ⟨h.os.trans hb.os,h.tape.trans hb.tape,h.output.trans hb.output,by rw [h.size];exact hb.size,fun c hc=>by rw [h.block c P2];exact hb.block c hc⟩
theorem yZ.keys {w:World} {b:Nat} {l:List (Int×Value)} {es:Array MapEntry} (h:es.toList.map (fun e=>(e.key,e.val))=l.map (fun p=>(Value.int .i64 p.1,p.2))):∀x∈es.toList,MapKept.IsKey (.int .i64) x.key:=by
 intro x hx;have:(x.key,x.val)∈es.toList.map (fun e=>(e.key,e.val)):=List.mem_map.2 ⟨x,hx,rfl⟩
 rw [h]at this;obtain⟨p, -,hp⟩:=OV this;injection hp with h1 h2
 rw [<- h1];exact rfl
theorem q_r {P:Program} {w:World} {b T K E:Nat} {l:List (Int×Value)} (h:yZ w b l) (hT:P.underlying T=some (.map K E)) (hK:P.underlying K=some (.int .i64)) (k:Int) (v:Value) (d:∀p∈l,p.1≠k):
 ∃w',(Instr.mapUpdate T (.map (some b)) k v).run P w= .ok () w'/\yZ w' b (l ++ [(k,v)])/\b_S b w w':=by
 obtain⟨es,ck,hb,he⟩:=h;have a:MapKept.IsKey (.int .i64) k:=rfl;have f:=yZ.keys (w:=w) (b:=b) he;rcases MapKept.findNow_spec a es.toList 0 f with⟨h1,h2⟩ | ⟨j,e0,h1,h2,h3⟩
 . refine ⟨{ w with heap:=w.heap.setIfInBounds b (.map (es.push ⟨.int .i64 k,v,ck⟩) (ck+1)) }, ?_,⟨_,_,(MapKept.heap_set hb).1,by simp [he]⟩,⟨rfl,rfl,rfl,by simp,fun c hc=>(MapKept.heap_set hb).2 c hc⟩⟩
   simp [Instr.mapUpdate,run_underlying hT,MapKept.run_getObj_map hb,MapKept.run_checkKey hK a,MapKept.run_findKey hK h1,MapKept.run_setObj_map _ hb,Result.andThen]
 exfalso
 have hm:(e0.key,e0.val)∈es.toList.map (fun e=>(e.key,e.val)):=List.mem_map.2 ⟨e0,List.mem_of_getElem? h2,rfl⟩;rw [he]at hm;obtain⟨p,hp,g⟩:=OV hm;injection g with e1 e2
 rw [h3]at e1;injection e1 with e3 e4
 exact d p hp e4
def a_d (l:List (Int×Value)) (k:Int) (z:Value):Value×Bool:=match l.find? (fun p=>decide (p.1=k))with
 | some p=>(p.2,true)
 | none=>(z,false)
theorem l_4 {P:Program} {w:World} {b T K E:Nat} {l:List (Int×Value)} (h:yZ w b l) (hT:P.underlying T=some (.map K E)) (hK:P.underlying K=some (.int .i64)) (z:Value) (hz:∀w:World,(zeroValue E).run P w= .ok z w) (k:Int)
 (g:(l.map (·.1)).Nodup):
 (Instr.lookup T (.map (some b)) k true).run P w= .ok (.tuple #[(a_d l k z).1,(a_d l k z).2]) w:=by
 obtain⟨es,ck,hb,he⟩:=h;have a:MapKept.IsKey (.int .i64) k:=rfl;have m:=yZ.keys (w:=w) (b:=b) he;rcases MapKept.findNow_spec a es.toList 0 m with⟨h1,h2⟩ | ⟨j,e0,h1,h2,h3⟩
 . have hn:a_d l k z=(z,false):=by
    unfold a_d;rw [List.find?_eq_none.2 ?_];intro p hp;have hm:((Value.int .i64 p.1),p.2)∈l.map (fun p=>(Value.int .i64 p.1,p.2)):=List.mem_map.2 ⟨p,hp,rfl⟩
    rw [<- he]at hm;obtain⟨x,hx,n⟩:=OV hm;injection n with e1 e2
    have:=h2 x hx;rw [e1]at this;simpa using fun e=>this (by rw [e])
   rw [hn];simp [Instr.lookup,run_underlying hT,MapKept.run_getObj_map hb,MapKept.run_checkKey hK a,MapKept.run_findKey hK h1,Result.andThen,hz]
 have hj:(es.toList.map (fun e=>(e.key,e.val)))[j]? =some (e0.key,e0.val):=by rw [List.getElem?_map,h2];rfl
 rw [he,List.getElem?_map]at hj;obtain⟨p,hp,o⟩:=Option.map_eq_some_iff.1 hj;injection o with e1 e2
 rw [h3]at e1;injection e1 with e3 e4
 have hf:l.find? (fun p=>decide (p.1=k))=some p:=by
  obtain⟨c,d⟩:=List.getElem?_eq_some_iff.1 hp;rw [List.find?_eq_some_iff_getElem];refine⟨by simpa using e4,j,c,d,fun i hi=> ?_⟩;have f:=List.pairwise_iff_getElem.1 g i j P8 t_w hi;simp only [List.getElem_map,d,e4]at f;simpa using f
 have hn:a_d l k z=(p.2,true):=by unfold a_d;rw [hf]
 rw [hn,e2];simp [Instr.lookup,run_underlying hT,MapKept.run_getObj_map hb,MapKept.run_checkKey hK a,MapKept.run_findKey hK h1,Result.andThen]
theorem GX {P:Program} {ops:Array Oper} {rest:List Oper} {o:Oper} {a:Act} {w:World} {Q:Exit ->Act ->World ->Prop} (hg:o.guard=none) (T:Nat) (ho:o.op= .makeMap T none)
 (hk:∀w',w'=w.alloc (.map #[] 0) ->wpList P ops Q rest (a.put o.dst (.map (some w.heap.size))) w'):wpList P ops Q (o::rest) a w:=by
 refine wpList_plain hg fun K' b=> ?_
 have c:(execOp a.eval o).run P w= .ok (.value (.map (some w.heap.size))) (w.alloc (.map #[] 0)):=by
  unfold execOp;simp only [ho];rfl
 unfold Oper.wp;rw [c];exact b _ _ (hk _ rfl)
theorem gQ {P:Program} {ops:Array Oper} {rest:List Oper} {o:Oper} {a:Act} {w:World} {Q:Exit ->Act ->World ->Prop} (hg:o.guard=none) (T K E:Nat) (m x:Operand) (k:Int) (ho:o.op= .insert T m (.const k) x)
 (b:Nat) (l:List (Int×Value)) (v:Value) (hm:a.eval m= .map (some b)) (hx:a.eval x=v) (h:yZ w b l) (hT:P.underlying T=some (.map K E)) (hK:P.underlying K=some (.int .i64)) (c:∀p∈l,p.1≠k) (hd:o.dst=none)
 (hk:∀w',yZ w' b (l ++ [(k,v)]) ->b_S b w w' ->wpList P ops Q rest a w'):wpList P ops Q (o::rest) a w:=by
 obtain⟨w',hr,h1,h2⟩:=q_r h hT hK k v c;refine wpList_plain hg fun K' d=> ?_
 have hc:a.eval (.const k)= .int .i64 k:=rfl;have e:(execOp a.eval o).run P w= .ok .skip w':=by
  unfold execOp;simp only [ho,hm,hx,hc,hr,Sem.run_bind,Sem.run_pure,Result.andThen_ok]
 unfold Oper.wp;rw [e];show K' (a.put o.dst undef) w';rw [hd];exact d a w' (hk w' h1 h2)
theorem s_w (W:World):Calls Tryz.prog 175 #[] W (fun e w'=>e= .returned (.map (some W.heap.size))/\yZ w' W [(1, .string ⟨#[112,110]⟩),(2, .string ⟨#[112,110]⟩),(3, .string ⟨#[112,97,111]⟩),(4, .string ⟨#[112,97,119]⟩),(5, .string ⟨#[112,116]⟩),(6, .string ⟨#[112,111,119]⟩),(7, .string ⟨#[112,97,120]⟩),(8, .string ⟨#[112,97,120]⟩),(9, .string ⟨#[115]⟩)]/\Below W W w'):=by
 go_enter Tryz.func175,Tryz.ntmps175
 go_wp2_with (first
  | (refine GX rfl _ rfl ?_
     intro p0 a;have u:=a6 (show yZ p0 W []by rw [a];exact yZ.fresh W)
     have v:=a6 (show Below W W p0 by rw [a];exact b7 W (.map #[] 0));clear a)
  | (refine gQ rfl 204 3 9 _ _ 1 rfl W.heap.size [] (.string ⟨#[112,110]⟩) rfl rfl u.o Tryz.underlying204 Tryz.underlying3 P6 rfl ?_
     intro p1 b c;have w:=a6 b
     have x:=a6 (c.below v.o (a8));clear b c)
  | (refine gQ rfl 204 3 9 _ _ 2 rfl W.heap.size [(1, .string ⟨#[112,110]⟩)] (.string ⟨#[112,110]⟩) rfl rfl w.o Tryz.underlying204 Tryz.underlying3 P6 rfl ?_
     intro p2 d f;have y:=a6 d
     have z:=a6 (f.below x.o (a8));clear d f)
  | (refine gQ rfl 204 3 9 _ _ 3 rfl W.heap.size [(1, .string ⟨#[112,110]⟩),(2, .string ⟨#[112,110]⟩)] (.string ⟨#[112,97,111]⟩) rfl rfl y.o Tryz.underlying204 Tryz.underlying3 P6 rfl ?_
     intro p3 g h;have A:=a6 g
     have B:=a6 (h.below z.o (a8));clear g h)
  | (refine gQ rfl 204 3 9 _ _ 4 rfl W.heap.size [(1, .string ⟨#[112,110]⟩),(2, .string ⟨#[112,110]⟩),(3, .string ⟨#[112,97,111]⟩)] (.string ⟨#[112,97,119]⟩) rfl rfl A.o Tryz.underlying204 Tryz.underlying3 P6 rfl ?_
     intro p4 i j;have C:=a6 i
     have D:=a6 (j.below B.o (a8));clear i j)
  | (refine gQ rfl 204 3 9 _ _ 5 rfl W.heap.size [(1, .string ⟨#[112,110]⟩),(2, .string ⟨#[112,110]⟩),(3, .string ⟨#[112,97,111]⟩),(4, .string ⟨#[112,97,119]⟩)] (.string ⟨#[112,116]⟩) rfl rfl C.o Tryz.underlying204 Tryz.underlying3 P6 rfl ?_
     intro p5 k l;have E:=a6 k
     have F:=a6 (l.below D.o (a8));clear k l)
  | (refine gQ rfl 204 3 9 _ _ 6 rfl W.heap.size [(1, .string ⟨#[112,110]⟩),(2, .string ⟨#[112,110]⟩),(3, .string ⟨#[112,97,111]⟩),(4, .string ⟨#[112,97,119]⟩),(5, .string ⟨#[112,116]⟩)] (.string ⟨#[112,111,119]⟩) rfl rfl E.o Tryz.underlying204 Tryz.underlying3 P6 rfl ?_
     intro p6 m n;have G:=a6 m
     have H:=a6 (n.below F.o (a8));clear m n)
  | (refine gQ rfl 204 3 9 _ _ 7 rfl W.heap.size [(1, .string ⟨#[112,110]⟩),(2, .string ⟨#[112,110]⟩),(3, .string ⟨#[112,97,111]⟩),(4, .string ⟨#[112,97,119]⟩),(5, .string ⟨#[112,116]⟩),(6, .string ⟨#[112,111,119]⟩)] (.string ⟨#[112,97,120]⟩) rfl rfl G.o Tryz.underlying204 Tryz.underlying3 P6 rfl ?_
     intro p7 o p;have I:=a6 o
     have J:=a6 (p.below H.o (a8));clear o p)
  | (refine gQ rfl 204 3 9 _ _ 8 rfl W.heap.size [(1, .string ⟨#[112,110]⟩),(2, .string ⟨#[112,110]⟩),(3, .string ⟨#[112,97,111]⟩),(4, .string ⟨#[112,97,119]⟩),(5, .string ⟨#[112,116]⟩),(6, .string ⟨#[112,111,119]⟩),(7, .string ⟨#[112,97,120]⟩)] (.string ⟨#[112,97,120]⟩) rfl rfl I.o Tryz.underlying204 Tryz.underlying3 P6 rfl ?_
     intro p8 q r;have K:=a6 q
     have L:=a6 (r.below J.o (a8));clear q r)
  | (refine gQ rfl 204 3 9 _ _ 9 rfl W.heap.size [(1, .string ⟨#[112,110]⟩),(2, .string ⟨#[112,110]⟩),(3, .string ⟨#[112,97,111]⟩),(4, .string ⟨#[112,97,119]⟩),(5, .string ⟨#[112,116]⟩),(6, .string ⟨#[112,111,119]⟩),(7, .string ⟨#[112,97,120]⟩),(8, .string ⟨#[112,97,120]⟩)] (.string ⟨#[115]⟩) rfl rfl K.o Tryz.underlying204 Tryz.underlying3 P6 rfl ?_
     intro p9 s t;have M:=a6 s
     have N:=a6 (t.below L.o (a8));clear s t))
 go_ret;exact⟨rfl,M.o,N.o⟩
theorem o_j (W:World):Calls Tryz.prog 190 #[] W (fun e w'=>e= .returned (.map (some W.heap.size))/\yZ w' W [(1, .int .i64 2),(2, .int .i64 1),(3, .int .i64 4),(4, .int .i64 3),(7, .int .i64 8),(8, .int .i64 7),(5, .int .i64 5),(6, .int .i64 6),(9, .int .i64 9)]/\Below W W w'):=by
 go_enter Tryz.func190,Tryz.ntmps190
 go_wp2_with (first
  | (refine GX rfl _ rfl ?_
     intro p0 a;have u:=a6 (show yZ p0 W []by rw [a];exact yZ.fresh W)
     have v:=a6 (show Below W W p0 by rw [a];exact b7 W (.map #[] 0));clear a)
  | (refine gQ rfl 219 3 3 _ _ 1 rfl W.heap.size [] (.int .i64 2) rfl rfl u.o Tryz.underlying219 Tryz.underlying3 P6 rfl ?_
     intro p1 b c;have w:=a6 b
     have x:=a6 (c.below v.o (a8));clear b c)
  | (refine gQ rfl 219 3 3 _ _ 2 rfl W.heap.size [(1, .int .i64 2)] (.int .i64 1) rfl rfl w.o Tryz.underlying219 Tryz.underlying3 P6 rfl ?_
     intro p2 d f;have y:=a6 d
     have z:=a6 (f.below x.o (a8));clear d f)
  | (refine gQ rfl 219 3 3 _ _ 3 rfl W.heap.size [(1, .int .i64 2),(2, .int .i64 1)] (.int .i64 4) rfl rfl y.o Tryz.underlying219 Tryz.underlying3 P6 rfl ?_
     intro p3 g h;have A:=a6 g
     have B:=a6 (h.below z.o (a8));clear g h)
  | (refine gQ rfl 219 3 3 _ _ 4 rfl W.heap.size [(1, .int .i64 2),(2, .int .i64 1),(3, .int .i64 4)] (.int .i64 3) rfl rfl A.o Tryz.underlying219 Tryz.underlying3 P6 rfl ?_
     intro p4 i j;have C:=a6 i
     have D:=a6 (j.below B.o (a8));clear i j)
  | (refine gQ rfl 219 3 3 _ _ 7 rfl W.heap.size [(1, .int .i64 2),(2, .int .i64 1),(3, .int .i64 4),(4, .int .i64 3)] (.int .i64 8) rfl rfl C.o Tryz.underlying219 Tryz.underlying3 P6 rfl ?_
     intro p5 k l;have E:=a6 k
     have F:=a6 (l.below D.o (a8));clear k l)
  | (refine gQ rfl 219 3 3 _ _ 8 rfl W.heap.size [(1, .int .i64 2),(2, .int .i64 1),(3, .int .i64 4),(4, .int .i64 3),(7, .int .i64 8)] (.int .i64 7) rfl rfl E.o Tryz.underlying219 Tryz.underlying3 P6 rfl ?_
     intro p6 m n;have G:=a6 m
     have H:=a6 (n.below F.o (a8));clear m n)
  | (refine gQ rfl 219 3 3 _ _ 5 rfl W.heap.size [(1, .int .i64 2),(2, .int .i64 1),(3, .int .i64 4),(4, .int .i64 3),(7, .int .i64 8),(8, .int .i64 7)] (.int .i64 5) rfl rfl G.o Tryz.underlying219 Tryz.underlying3 P6 rfl ?_
     intro p7 o p;have I:=a6 o
     have J:=a6 (p.below H.o (a8));clear o p)
  | (refine gQ rfl 219 3 3 _ _ 6 rfl W.heap.size [(1, .int .i64 2),(2, .int .i64 1),(3, .int .i64 4),(4, .int .i64 3),(7, .int .i64 8),(8, .int .i64 7),(5, .int .i64 5)] (.int .i64 6) rfl rfl I.o Tryz.underlying219 Tryz.underlying3 P6 rfl ?_
     intro p8 q r;have K:=a6 q
     have L:=a6 (r.below J.o (a8));clear q r)
  | (refine gQ rfl 219 3 3 _ _ 9 rfl W.heap.size [(1, .int .i64 2),(2, .int .i64 1),(3, .int .i64 4),(4, .int .i64 3),(7, .int .i64 8),(8, .int .i64 7),(5, .int .i64 5),(6, .int .i64 6)] (.int .i64 9) rfl rfl K.o Tryz.underlying219 Tryz.underlying3 P6 rfl ?_
     intro p9 s t;have M:=a6 s
     have N:=a6 (t.below L.o (a8));clear s t))
 go_ret;exact⟨rfl,M.o,N.o⟩
end Go.Proofs.YtmadpclcmjahoaaGreatDoor
