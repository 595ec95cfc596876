/- Parts of the proof: 14. -/
import Derived.Test.YtmadpclcmjahoaaGreatDoorFN13
import Derived.Deep.MidRow
import Derived.Test.YtmadpclcmjahoaaGreatDoorFN11
import Derived.Test.YtmadpclcmjahoaaGreatDoorFN1
import Derived.MapKept
import Derived.ChangeMaps4
import Derived.Test.YtmadpclcmjahoaaGreatDoorFN10
import Derived.Lib.ConvBytes
set_option linter.unusedVariables false
set_option linter.unusedSimpArgs false
set_option maxHeartbeats 8000000
set_option maxRecDepth 100000
namespace Go.Proofs.YtmadpclcmjahoaaGreatDoor
open Go.RowKit Go.Redl
theorem e_k:(Tryz.prog.info? 55).map (fun i=>(i.zero,i.size,i.bytes))=some (some (.agg #[.int .i64 0, .slice none 0 0, .slice none 0 0, .int .i64 0, .bool false, .slice none 0 0, .slice none 0 0, .slice none 0 0, .slice none 0 0, .slice none 0 0, .slice none 0 0, .bool false, .slice none 0 0, .int .i64 0, .slice none 0 0, .int .i64 0, .bool false, .slice none 0 0, .int .i64 0, .slice none 0 0, .int .i64 0]),21,360):=by kernel_rfl
theorem At.load {P:Program} {w:World} {N:Nat} {cs:List Value} {T:TypeId} {d:TypeDesc} (h:At w N cs T) (hu:P.underlying T=some d) (hd:d.isRow=true) (hi:(P.info? T).map (·.size)=some cs.length):(Instr.loadAt T (.pointer (some ⟨N,0,none⟩))).run P w= .ok (.agg cs.toArray) w:=
 run_loadAt_mid w N 0 T cs d (fun j v hj=>by rw [Nat.zero_add];exact h.cell j hj) hu hd hi
def sY (L M:Nat) (w:World) (v:Value) (l:List j7):Prop:= ∃css,w.ownsRow M 55 21 v l.length css/\lZ w (fun b=>L <= b/\v.ownBlock≠some b) l css
theorem sY.nil (L M:Nat) (w:World):sY L M w (.slice none 0 0) []:=⟨[],World.ownsRow_nil _ _ _ _,lZ.nil _ _⟩
theorem sY.below {L M:Nat} {w w':World} {v:Value} {l:List j7} (h:sY L M w v l) (hb:Below w.heap.size w w'):sY L M w' v l:=by
 obtain⟨css,h1,h2⟩:=h
 exact⟨css,j4 h1 hb,h2.stay (M4 hb _)⟩
theorem sY.ops {L M:Nat} {w:World} {v:Value} {l:List j7} (h:sY L M w v l):e_M w l v:=by
 obtain⟨css,h1,h2⟩:=h
 exact e_M.of_own h1 h2
theorem sY.form {L M:Nat} {w:World} {v:Value} {l:List j7} (h:sY L M w v l):∃a c,v= .slice a l.length c:=by
 obtain⟨a,c,css,hv, -, -⟩:=h.ops
 exact⟨a,c,hv⟩
theorem sY.lt {L M:Nat} {w:World} {v:Value} {l:List j7} (h:sY L M w v l):∀b,w.heap.size <= b ->v.ownBlock≠some b:=by
 obtain⟨css,h1,h2⟩:=h
 intro b hb e
 have:=h1.lt b e;omega
theorem sY.ge {L M:Nat} {w:World} {v:Value} {l:List j7} (h:sY L M w v l):∀b,v.ownBlock=some b ->M <= b:=by
 obtain⟨css,h1,h2⟩:=h
 intro b e
 exact(h1.lt b e).1
theorem sY.from {L L' M:Nat} {w:World} {v:Value} {l:List j7} (h:sY L M w v l) (hL:L' <= L):sY L' M w v l:=by
 obtain⟨css,h1,h2⟩:=h
 exact⟨css,h1,h2.stay ⟨a8,fun _ _ _=>rfl,fun b hb _=>⟨aJ hL hb.1,hb.2⟩⟩⟩
theorem sY.set {L M:Nat} {w:World} {v:Value} {l:List j7} (h:sY L M w v l) {N o:Nat} (hN:N < M) (hL:N < L) (u:Value):sY L M (w.setCell ⟨N,o,none⟩ u) v l:=by
 obtain⟨css,h1,h2⟩:=h
 refine⟨css,ownsRow_setCell_below (a:=⟨N,o,none⟩) h1 hN _,h2.stay ⟨by simp [World.setCell],fun b hb _=>Below.heap_setCell w ⟨N,o,none⟩ u b (by show b≠N;omega),fun _ hb _=>hb⟩⟩
theorem sY.push {L M:Nat} {w0 w':World} {v v':Value} {l:List j7} {o:j7} {c:List Value} {ob:Obj} {css:List Value} (h1:w0.ownsRow M 55 21 v l.length css) (h2:lZ w0 (fun b=>L <= b/\v.ownBlock≠some b) l css)
 (ho:OpQ w0 (fun b=>L <= b/\v.ownBlock≠some b) o c) (hg:(w0.alloc ob).grownBy w' v.ownBlock) (hown:w'.ownsRow M 55 21 v' (l.length+1) (css ++ c)) (hw:v'.ownBlock=v.ownBlock∨ ∀k,v'.ownBlock=some k ->(w0.alloc ob).heap.size <= k):sY L M w' v' (l ++ [o]):=by
 have hs:=hg.size
 have hst:d_4 w0 w' (fun b=>L <= b/\v.ownBlock≠some b) (fun b=>L <= b/\v'.ownBlock≠some b):=by
  refine⟨by simp at hs;omega,fun b hb hlt=> ?_,fun b hb hlt=>⟨hb.1, ?_⟩⟩
  . rw [hg.block b (by simp;omega) (fun e=>hb.2 e.symm),Lib.alloc_old _ _ _ hlt]
  . rcases hw with e | e
    . rw [e];exact hb.2
    . intro e2;have:=e b e2;simp at this;omega
 refine⟨css ++ c,by rw [List.length_append];exact hown,lZ.append (h2.stay hst) (lZ.single (ho.stay hst))⟩
theorem f_j {M:Nat} {w0 w':World} {ob:Obj} {v:Value} (hg:(w0.alloc ob).grownBy w' v.ownBlock) (hM:M <= w0.heap.size) (hv:∀k,v.ownBlock=some k ->M <= k):Below M w0 w':=
 ((Below.refl M w0).alloc hM ob).grown hg (by simp;omega) hv
theorem b_2 {P:Program} {ops:Array Oper} {o:Oper} {a:Act} {w0:World} {K:Act ->World ->Prop} {Q:Exit ->Act ->World ->Prop} {E:Prop} {ob:Obj}
 (hg:o.guard=none) (s x:Operand) (ho:o.op= .call { callee:= .builtin .append,args:= #[s,x],argTypes:= #[42,42] })
 (ht:P.underlying 42=some (.slice 55)) (hi:(P.info? 55).map (fun i=>(i.zero,i.size,i.bytes))=some (some (.agg #[.int .i64 0, .slice none 0 0, .slice none 0 0, .int .i64 0, .bool false, .slice none 0 0, .slice none 0 0, .slice none 0 0, .slice none 0 0, .slice none 0 0, .slice none 0 0, .bool false, .slice none 0 0, .int .i64 0, .slice none 0 0, .int .i64 0, .bool false, .slice none 0 0, .int .i64 0, .slice none 0 0, .int .i64 0]),21,360))
 (L M:Nat) (v:Value) (l:List j7) (hs:a.eval s=v) (hO:sY L M w0 v l) (od:j7) (c:List Value) (hob:ob= .cells c.toArray 55) (hx:a.eval x= .slice (some ⟨w0.heap.size,0,none⟩) 1 1)
 (hq:OpQ w0 (fun b=>L <= b/\v.ownBlock≠some b) od c) (hn:l.length <= 100000000) (hM:M <= w0.heap.size)
 (h:∀v' w',sY L M w' v' (l ++ [od]) ->Below M w0 w' ->K (a.put o.dst v') w'):if Region.wanted o (yielded ops a.tmps)=true then Oper.wp P o a (w0.alloc ob) K Q else E:=by
 obtain⟨css,h1,h2⟩:=hO
 subst hob
 have hat:=At.fresh w0 c 55
 refine KJ hg s x 42 ho M 55 _ 21 360 ht hi rfl (by decide) v l.length css hs (j4 h1 (aX _ _)) ⟨w0.heap.size,0,none⟩ 1 1 (w0.heap.size+1) c hx ?_ (by unfold maxLen;omega) (by omega) (by simp;omega) fun v' w' hown hgrow hwh=> ?_
 . refine⟨by rw [hq.len],a8,by unfold maxLen;omega,hq.one,(fun e=>by cases e),fun _=>⟨w0.heap.size,0,rfl,by omega,fun j u hj=>by rw [Nat.zero_add];exact hat.cell j hj⟩⟩
 . exact h v' w' (sY.push h1 h2 hq hgrow hown hwh) (f_j hgrow hM (fun k hk=>(h1.lt k hk).1))
def BX (B:Nat) (w:World) (l:List j7) (v:Value):Prop:= ∃a c css,v= .slice a l.length c/\RowQ w (fun b=>B <= b) 21 a l.length c css/\lZ w (fun b=>B <= b) l css
theorem BX.ops {B:Nat} {w:World} {l:List j7} {v:Value} (h:BX B w l v):e_M w l v:=by
 obtain⟨a,c,css,rfl,h1,h2⟩:=h
 exact⟨a,c,css,rfl,h1.row,h2.stay ⟨a8,fun _ _ _=>rfl,fun _ _ _=>trivial⟩⟩
theorem BX.from {B B':Nat} {w:World} {l:List j7} {v:Value} (h:BX B w l v) (hB:B' <= B):BX B' w l v:=by
 obtain⟨a,c,css,rfl,h1,h2⟩:=h
 exact⟨a,c,css,rfl,h1.keep (a8) (fun _ _ _=>rfl) (fun b hb _=>aJ hB hb),h2.stay ⟨a8,fun _ _ _=>rfl,fun b hb _=>aJ hB hb⟩⟩
theorem BX.nil (B:Nat) (w:World):BX B w [] (.slice none 0 0):=⟨none,0, [],rfl,RowQ.empty _ _ _,lZ.nil _ _⟩
theorem sY.opsF {B L M:Nat} {w:World} {v:Value} {l:List j7} (h:sY L M w v l) (hL:B <= L) (hM:B <= M):BX B w l v:=by
 obtain⟨css,h1,h2⟩:=h
 obtain⟨a,c,hv,hq⟩:=oK h1 (lZ.one h2)
 exact⟨a,c,css,hv,hq.keep (a8) (fun _ _ _=>rfl) (fun b hb _=>aJ hM hb),h2.stay ⟨a8,fun _ _ _=>rfl,fun b hb _=>aJ hL hb.1⟩⟩
theorem c_t {B:Nat} {w:World} {o:j7} {c:List Value} {T:TypeId} (h:OpQ w (fun b=>B <= b) o c) (hB:B <= w.heap.size):BX B (w.alloc (.cells c.toArray T)) [o] (.slice (some ⟨w.heap.size,0,none⟩) 1 1):=by
 have hb:=aX w (.cells c.toArray T)
 exact⟨_,_,c,rfl,wZ (ok:=fun b=>B <= b) (At.fresh w c T) 1 21 (by rw [h.len]) (by omega) h.one hB,lZ.single (h.stay (M4 hb _))⟩
abbrev c_u (W:World) (l:List j7) (e:Ending) (w':World):Prop:= ∃v,e= .returned v/\BX W.heap.size w' l v/\Below W.heap.size W w'
theorem _root_.Go.Redl.RowQ.any {w:World} {ok:Nat ->Prop} {sz n cap:Nat} {a:Option Addr} {cs:List Value} (h:RowQ w ok sz a n cap cs):RowQ w (fun _=>True) sz a n cap cs:=h.keep (a8) (fun _ _ _=>rfl) (fun _ _ _=>trivial)
theorem _root_.Go.Redl.RowQ.imp {w:World} {ok ok':Nat ->Prop} {sz n cap:Nat} {a:Option Addr} {cs:List Value} (h:RowQ w ok sz a n cap cs) (f:∀b,ok b ->ok' b):RowQ w ok' sz a n cap cs:=h.keep (a8) (fun _ _ _=>rfl) (fun b hb _=>f b hb)
theorem _root_.Go.Redl.RowQ.since {w w':World} {ok:Nat ->Prop} {sz n cap:Nat} {a:Option Addr} {cs:List Value} (h:RowQ w ok sz a n cap cs) (hb:Below w.heap.size w w'):RowQ w' ok sz a n cap cs:=h.keep hb.size (fun b _ hlt=>hb.block b hlt) (fun _ h _=>h)
theorem _root_.Go.Redl.NodeQ.since {w w':World} {ok:Nat ->Prop} {n:aK} {cs:List Value} (h:NodeQ w ok n cs) (hb:Below w.heap.size w w'):NodeQ w' ok n cs:=NodeQ.keep hb.size (fun b _ hlt=>hb.block b hlt) (fun _ h _=>h) n cs h
structure a_w (W:World) (p:List Int) (pa:Option Addr) (pc:Nat) (ks:List aK) (ak:Option Addr) (ck:Nat) (css:List Value) (j:Nat):Prop where
 path:RowA W W.heap.size 1 pa p.length pc (p.map (Value.int .i64))
 pl:p.length <= 100000
 kids:RowA W W.heap.size 4 ak ks.length ck css
 kids':dQ W W.heap.size ks css
 kl:dX ks <= 100000000
 at_:j <= 100000000
theorem a_w.keep {W w:World} {p:List Int} {pa:Option Addr} {pc:Nat} {ks:List aK} {ak:Option Addr} {ck:Nat} {css:List Value} {j:Nat} (h:a_w W p pa pc ks ak ck css j) (hb:Below W.heap.size W w):a_w w p pa pc ks ak ck css j:=
 ⟨h.path.keep hb hb.size,h.pl,h.kids.keep hb hb.size,dQ.keep hb hb.size _ _ h.kids',h.kl,h.at_⟩
theorem At.s16 {w:World} {N:Nat} {c0 c1 c2 c3 c4 c5 c6 c7 c8 c9 c10 c11 c12 c13 c14 c15:Value} {T:TypeId} (h:At w N [c0,c1,c2,c3,c4,c5,c6,c7,c8,c9,c10,c11,c12,c13,c14,c15] T) (d0 d1 d2 d3 d4 d5 d6 d7 d8 d9 d10 d11 d12 d13 d14 d15:Value):At ((((((((((((((((w.setCell ⟨N,0,none⟩ d0).setCell ⟨N,1,none⟩ d1).setCell ⟨N,2,none⟩ d2).setCell ⟨N,3,none⟩ d3).setCell ⟨N,4,none⟩ d4).setCell ⟨N,5,none⟩ d5).setCell ⟨N,6,none⟩ d6).setCell ⟨N,7,none⟩ d7).setCell ⟨N,8,none⟩ d8).setCell ⟨N,9,none⟩ d9).setCell ⟨N,10,none⟩ d10).setCell ⟨N,11,none⟩ d11).setCell ⟨N,12,none⟩ d12).setCell ⟨N,13,none⟩ d13).setCell ⟨N,14,none⟩ d14).setCell ⟨N,15,none⟩ d15) N [d0,d1,d2,d3,d4,d5,d6,d7,d8,d9,d10,d11,d12,d13,d14,d15] T:=by
 have h0:At (w.setCell ⟨N,0,none⟩ d0) N [d0,c1,c2,c3,c4,c5,c6,c7,c8,c9,c10,c11,c12,c13,c14,c15] T:=h.set 0 d0
 have h1:At ((w.setCell ⟨N,0,none⟩ d0).setCell ⟨N,1,none⟩ d1) N [d0,d1,c2,c3,c4,c5,c6,c7,c8,c9,c10,c11,c12,c13,c14,c15] T:=h0.set 1 d1
 have h2:At (((w.setCell ⟨N,0,none⟩ d0).setCell ⟨N,1,none⟩ d1).setCell ⟨N,2,none⟩ d2) N [d0,d1,d2,c3,c4,c5,c6,c7,c8,c9,c10,c11,c12,c13,c14,c15] T:=h1.set 2 d2
 have h3:At ((((w.setCell ⟨N,0,none⟩ d0).setCell ⟨N,1,none⟩ d1).setCell ⟨N,2,none⟩ d2).setCell ⟨N,3,none⟩ d3) N [d0,d1,d2,d3,c4,c5,c6,c7,c8,c9,c10,c11,c12,c13,c14,c15] T:=h2.set 3 d3
 have h4:At (((((w.setCell ⟨N,0,none⟩ d0).setCell ⟨N,1,none⟩ d1).setCell ⟨N,2,none⟩ d2).setCell ⟨N,3,none⟩ d3).setCell ⟨N,4,none⟩ d4) N [d0,d1,d2,d3,d4,c5,c6,c7,c8,c9,c10,c11,c12,c13,c14,c15] T:=h3.set 4 d4
 have h5:At ((((((w.setCell ⟨N,0,none⟩ d0).setCell ⟨N,1,none⟩ d1).setCell ⟨N,2,none⟩ d2).setCell ⟨N,3,none⟩ d3).setCell ⟨N,4,none⟩ d4).setCell ⟨N,5,none⟩ d5) N [d0,d1,d2,d3,d4,d5,c6,c7,c8,c9,c10,c11,c12,c13,c14,c15] T:=h4.set 5 d5
 have h6:At (((((((w.setCell ⟨N,0,none⟩ d0).setCell ⟨N,1,none⟩ d1).setCell ⟨N,2,none⟩ d2).setCell ⟨N,3,none⟩ d3).setCell ⟨N,4,none⟩ d4).setCell ⟨N,5,none⟩ d5).setCell ⟨N,6,none⟩ d6) N [d0,d1,d2,d3,d4,d5,d6,c7,c8,c9,c10,c11,c12,c13,c14,c15] T:=h5.set 6 d6
 have h7:At ((((((((w.setCell ⟨N,0,none⟩ d0).setCell ⟨N,1,none⟩ d1).setCell ⟨N,2,none⟩ d2).setCell ⟨N,3,none⟩ d3).setCell ⟨N,4,none⟩ d4).setCell ⟨N,5,none⟩ d5).setCell ⟨N,6,none⟩ d6).setCell ⟨N,7,none⟩ d7) N [d0,d1,d2,d3,d4,d5,d6,d7,c8,c9,c10,c11,c12,c13,c14,c15] T:=h6.set 7 d7
 have h8:At (((((((((w.setCell ⟨N,0,none⟩ d0).setCell ⟨N,1,none⟩ d1).setCell ⟨N,2,none⟩ d2).setCell ⟨N,3,none⟩ d3).setCell ⟨N,4,none⟩ d4).setCell ⟨N,5,none⟩ d5).setCell ⟨N,6,none⟩ d6).setCell ⟨N,7,none⟩ d7).setCell ⟨N,8,none⟩ d8) N [d0,d1,d2,d3,d4,d5,d6,d7,d8,c9,c10,c11,c12,c13,c14,c15] T:=h7.set 8 d8
 have h9:At ((((((((((w.setCell ⟨N,0,none⟩ d0).setCell ⟨N,1,none⟩ d1).setCell ⟨N,2,none⟩ d2).setCell ⟨N,3,none⟩ d3).setCell ⟨N,4,none⟩ d4).setCell ⟨N,5,none⟩ d5).setCell ⟨N,6,none⟩ d6).setCell ⟨N,7,none⟩ d7).setCell ⟨N,8,none⟩ d8).setCell ⟨N,9,none⟩ d9) N [d0,d1,d2,d3,d4,d5,d6,d7,d8,d9,c10,c11,c12,c13,c14,c15] T:=h8.set 9 d9
 have h10:At (((((((((((w.setCell ⟨N,0,none⟩ d0).setCell ⟨N,1,none⟩ d1).setCell ⟨N,2,none⟩ d2).setCell ⟨N,3,none⟩ d3).setCell ⟨N,4,none⟩ d4).setCell ⟨N,5,none⟩ d5).setCell ⟨N,6,none⟩ d6).setCell ⟨N,7,none⟩ d7).setCell ⟨N,8,none⟩ d8).setCell ⟨N,9,none⟩ d9).setCell ⟨N,10,none⟩ d10) N [d0,d1,d2,d3,d4,d5,d6,d7,d8,d9,d10,c11,c12,c13,c14,c15] T:=h9.set 10 d10
 have h11:At ((((((((((((w.setCell ⟨N,0,none⟩ d0).setCell ⟨N,1,none⟩ d1).setCell ⟨N,2,none⟩ d2).setCell ⟨N,3,none⟩ d3).setCell ⟨N,4,none⟩ d4).setCell ⟨N,5,none⟩ d5).setCell ⟨N,6,none⟩ d6).setCell ⟨N,7,none⟩ d7).setCell ⟨N,8,none⟩ d8).setCell ⟨N,9,none⟩ d9).setCell ⟨N,10,none⟩ d10).setCell ⟨N,11,none⟩ d11) N [d0,d1,d2,d3,d4,d5,d6,d7,d8,d9,d10,d11,c12,c13,c14,c15] T:=h10.set 11 d11
 have h12:At (((((((((((((w.setCell ⟨N,0,none⟩ d0).setCell ⟨N,1,none⟩ d1).setCell ⟨N,2,none⟩ d2).setCell ⟨N,3,none⟩ d3).setCell ⟨N,4,none⟩ d4).setCell ⟨N,5,none⟩ d5).setCell ⟨N,6,none⟩ d6).setCell ⟨N,7,none⟩ d7).setCell ⟨N,8,none⟩ d8).setCell ⟨N,9,none⟩ d9).setCell ⟨N,10,none⟩ d10).setCell ⟨N,11,none⟩ d11).setCell ⟨N,12,none⟩ d12) N [d0,d1,d2,d3,d4,d5,d6,d7,d8,d9,d10,d11,d12,c13,c14,c15] T:=h11.set 12 d12
 have h13:At ((((((((((((((w.setCell ⟨N,0,none⟩ d0).setCell ⟨N,1,none⟩ d1).setCell ⟨N,2,none⟩ d2).setCell ⟨N,3,none⟩ d3).setCell ⟨N,4,none⟩ d4).setCell ⟨N,5,none⟩ d5).setCell ⟨N,6,none⟩ d6).setCell ⟨N,7,none⟩ d7).setCell ⟨N,8,none⟩ d8).setCell ⟨N,9,none⟩ d9).setCell ⟨N,10,none⟩ d10).setCell ⟨N,11,none⟩ d11).setCell ⟨N,12,none⟩ d12).setCell ⟨N,13,none⟩ d13) N [d0,d1,d2,d3,d4,d5,d6,d7,d8,d9,d10,d11,d12,d13,c14,c15] T:=h12.set 13 d13
 have h14:At (((((((((((((((w.setCell ⟨N,0,none⟩ d0).setCell ⟨N,1,none⟩ d1).setCell ⟨N,2,none⟩ d2).setCell ⟨N,3,none⟩ d3).setCell ⟨N,4,none⟩ d4).setCell ⟨N,5,none⟩ d5).setCell ⟨N,6,none⟩ d6).setCell ⟨N,7,none⟩ d7).setCell ⟨N,8,none⟩ d8).setCell ⟨N,9,none⟩ d9).setCell ⟨N,10,none⟩ d10).setCell ⟨N,11,none⟩ d11).setCell ⟨N,12,none⟩ d12).setCell ⟨N,13,none⟩ d13).setCell ⟨N,14,none⟩ d14) N [d0,d1,d2,d3,d4,d5,d6,d7,d8,d9,d10,d11,d12,d13,d14,c15] T:=h13.set 14 d14
 exact h14.set 15 d15
theorem k_a {w:World} {ok:Nat ->Prop} {sz n cap N:Nat} {a:Option Addr} {cs:List Value} (h:RowQ w ok sz a n cap cs) (hne:¬ok N) (d0 d1 d2 d3 d4 d5 d6 d7 d8 d9 d10 d11 d12 d13 d14 d15:Value):RowQ ((((((((((((((((w.setCell ⟨N,0,none⟩ d0).setCell ⟨N,1,none⟩ d1).setCell ⟨N,2,none⟩ d2).setCell ⟨N,3,none⟩ d3).setCell ⟨N,4,none⟩ d4).setCell ⟨N,5,none⟩ d5).setCell ⟨N,6,none⟩ d6).setCell ⟨N,7,none⟩ d7).setCell ⟨N,8,none⟩ d8).setCell ⟨N,9,none⟩ d9).setCell ⟨N,10,none⟩ d10).setCell ⟨N,11,none⟩ d11).setCell ⟨N,12,none⟩ d12).setCell ⟨N,13,none⟩ d13).setCell ⟨N,14,none⟩ d14).setCell ⟨N,15,none⟩ d15) ok sz a n cap cs:=
 aY (aY (aY (aY (aY (aY (aY (aY (aY (aY (aY (aY (aY (aY (aY (aY h hne) hne) hne) hne) hne) hne) hne) hne) hne) hne) hne) hne) hne) hne) hne) hne
theorem f_k:∀args w,(callFunc 113 args).run Tryz.prog w= .ok (.enter 113 args) w:=by intro args w;kernel_rfl
theorem f_l (p:List Int) (pa:Option Addr) (pc:Nat) (ks:List aK) (ak:Option Addr) (ck:Nat) (css:List Value) (v1 v2 v3 v5 v6 v7 v8 v9 v10 v11 v12 v13 v15:Value) (j:Nat) (W:World)
 (hJ:a_w W p pa pc ks ak ck css j) (hj:j < ks.length):
 Calls Tryz.prog 55 #[.agg #[.slice pa p.length pc,v1,v2,v3, .slice ak ks.length ck,v5,v6,v7,v8,v9,v10,v11,v12,v13, .int .i64 j,v15]] W (c_u W [⟨2,p ++ [(j:Int)], [],0,cX ks j, []⟩]):=by
 have hkl:ks.length <= 100000000:=by have:=fX ks;have:=hJ.kl;omega
 have hqw:(cX ks j).wt <= 100000000:=by rw [u_9 hj];have:=iK (List.getElem_mem hj);have:=hJ.kl;omega
 have hAt:=fun(w1:World) (hb:Below W.heap.size W w1)=>f_h p pa pc v1 v2 v3 (.slice ak ks.length ck) v5 v6 v7 v8 v9 v10 v11 v12 v13 v15 j 0 w1 (hJ.keep hb).path hJ.pl hJ.at_ (by omega) (by omega)
 rw [Int.add_zero]at hAt
 have HAt:=a6 hAt
 have HKd:=a6 (fun(w1:World) (hb:Below W.heap.size W w1)=>e_j ks ak ck css (.slice pa p.length pc) v1 v2 v3 v5 v6 v7 v8 v9 v10 v11 v12 v13 v15 j w1 (hJ.keep hb).kids (hJ.keep hb).kids' hj hkl)
 generalize cX ks j=q at HKd hqw⊢
 generalize p ++ [(j:Int)]=zs at HAt⊢
 have HC:=a6 (fun(v:Value) (w1:World) (hv:bY w1 w1.heap.size q v)=>a_N _ q v w1 (a8) hqw hv)
 obtain⟨w0,hw0⟩:∃w0,w0=W.alloc (Obj.cells #[.slice pa p.length pc,v1,v2,v3, .slice ak ks.length ck,v5,v6,v7,v8,v9,v10,v11,v12,v13, .int .i64 j,v15] 98):=⟨_,rfl⟩
 have HB:=a6 (show At w0 W.heap.size [.slice pa p.length pc,v1,v2,v3, .slice ak ks.length ck,v5,v6,v7,v8,v9,v10,v11,v12,v13, .int .i64 j,v15] 98 by rw [hw0];exact At.fresh _ _ _)
 have Hb0:=a6 (show Below W.heap.size W w0 by rw [hw0];exact aX _ _)
 have Hw0:=a6 hw0
 have HS0:=a6 (fun(w':World) (hb:Below w0.heap.size w0 w')=>HB.o.kept hb)
 have hld:=fun(w':World) (h:At w' W.heap.size [.slice pa p.length pc,v1,v2,v3, .slice ak ks.length ck,v5,v6,v7,v8,v9,v10,v11,v12,v13, .int .i64 j,v15] 98)=>At.load (P:=Tryz.prog) h Tryz.underlying98 rfl (by kernel_rfl)
 simp [go_sem]at hld
 have HAt2:=a6 (fun(w1:World) (hb:Below w0.heap.size w0 w1)=>HAt.o w1 (Hb0.o.trans (hb.mono Hb0.o.size)))
 have HKd2:=a6 (fun(w1:World) (hb:Below w0.heap.size w0 w1)=>HKd.o w1 (Hb0.o.trans (hb.mono Hb0.o.size)))
 clear hAt hw0 hJ hj hqw HAt HKd
 go_enter Tryz.func55,Tryz.ntmps55
 go_upto_region 1 with fail
 rw [<- Hw0.o]
 clear Hw0
 go_region_held3 (fun w'=>At w' W.heap.size [.slice pa p.length pc,v1,v2,v3, .slice ak ks.length ck,v5,v6,v7,v8,v9,v10,v11,v12,v13, .int .i64 j,v15] 98) (refine HS0.o _ (by((repeat (first | with_reducible exact Hb3.o | with_reducible exact Hb2.o | with_reducible exact Hb1.o | with_reducible exact a7 | with_reducible refine Below.drew ?_ | with_reducible refine Below.alloc ?_ ?_ _ | with_reducible refine Below.setCell ?_ ?_ _)) <;> (first | with_reducible exact a8 | with_reducible exact Hb3.o.size | with_reducible exact Hb2.o.size | with_reducible exact Hb1.o.size | (have hsz:=Hb3.o.size;simp [World.setCell];omega) | (have hsz:=Hb2.o.size;simp [World.setCell];omega) | (have hsz:=Hb1.o.size;simp [World.setCell];omega) | (simp;done) | (simp;omega) | omega))))
  (first
  | (refine b9 rfl 109 _ _ rfl BV [.agg #[.slice pa p.length pc,v1,v2,v3, .slice ak ks.length ck,v5,v6,v7,v8,v9,v10,v11,v12,v13, .int .i64 j,v15], .int .i64 0] ?_ _ (HAt2.o _ (by((repeat (first | with_reducible exact a7 | with_reducible refine Below.drew ?_ | with_reducible refine Below.alloc ?_ ?_ _ | with_reducible refine Below.setCell ?_ ?_ _)) <;> (first | with_reducible exact a8 | (simp;done) | (simp;omega) | omega)))) ?_
     . go_simp
     rintro e w1 ⟨za,zc,rfl,hq,hbel⟩
     refine⟨_,rfl, ?_⟩
     have Hb1:=a6 (Below.and (w0:=w0) (by((repeat (first | with_reducible exact a7 | with_reducible refine Below.drew ?_ | with_reducible refine Below.alloc ?_ ?_ _ | with_reducible refine Below.setCell ?_ ?_ _)) <;> (first | with_reducible exact a8 | (simp;done) | (simp;omega) | omega))) hbel)
     have Hz:=a6 (RowQ.imp hq (fun b hb=>(show W.heap.size <= b from aJ (aJ Hb0.o.size (by(first | exact a8 | (simp;done) | (simp;omega) | omega))) hb)))
     clear hbel hq)
  | (refine b9 rfl 110 _ _ rfl c_s [.agg #[.slice pa p.length pc,v1,v2,v3, .slice ak ks.length ck,v5,v6,v7,v8,v9,v10,v11,v12,v13, .int .i64 j,v15]] ?_ _ (HKd2.o _ (by((repeat (first | with_reducible exact Hb1.o | with_reducible exact a7 | with_reducible refine Below.drew ?_ | with_reducible refine Below.alloc ?_ ?_ _ | with_reducible refine Below.setCell ?_ ?_ _)) <;> (first | with_reducible exact a8 | with_reducible exact Hb1.o.size | (have hsz:=Hb1.o.size;simp [World.setCell];omega) | (simp;done) | (simp;omega) | omega)))) ?_
     . go_simp
     rintro e w2 ⟨kv,rfl,hkv,hbel⟩
     refine⟨_,rfl, ?_⟩
     have Hb2:=a6 (Below.and (w0:=w0) (by((repeat (first | with_reducible exact Hb1.o | with_reducible exact a7 | with_reducible refine Below.drew ?_ | with_reducible refine Below.alloc ?_ ?_ _ | with_reducible refine Below.setCell ?_ ?_ _)) <;> (first | with_reducible exact a8 | with_reducible exact Hb1.o.size | (have hsz:=Hb1.o.size;simp [World.setCell];omega) | (simp;done) | (simp;omega) | omega))) hbel)
     have Hs2:=a6 hbel
     have Hkv:=a6 hkv
     clear hbel hkv)
  | (refine b9 rfl 61 _ _ rfl IY [kv] ?_ _ (HC.o kv _ Hkv.o) ?_
     . go_simp
     rintro e w3 ⟨cs,rfl,hn,hbel⟩
     obtain⟨l,a1,n1,c1,a2,n2,c2,a3,n3,c3,rfl⟩:=hn.form
     refine⟨_,rfl, ?_⟩
     have Hb3:=a6 (Below.and (w0:=w0) (by((repeat (first | with_reducible exact Hb2.o | with_reducible exact a7 | with_reducible refine Below.drew ?_ | with_reducible refine Below.alloc ?_ ?_ _ | with_reducible refine Below.setCell ?_ ?_ _)) <;> (first | with_reducible exact a8 | with_reducible exact Hb2.o.size | (have hsz:=Hb2.o.size;simp [World.setCell];omega) | (simp;done) | (simp;omega) | omega))) hbel)
     have Hs3:=a6 hbel
     have Hn:=a6 (NodeQ.keep (ok':=fun b=>W.heap.size <= b) (a8) (fun _ _ _=>rfl) (fun b hb _=>aJ (aJ Hb0.o.size (by(first | exact Hb2.o.size | (have hsz:=Hb2.o.size;simp;omega) | exact a8 | (simp;done) | (simp;omega) | omega))) hb) _ _ hn)
     clear hbel hn))
 all_goals
  go_wp2_with fail
  go_ret
  refine⟨_,rfl,c_t (o:=⟨2,zs, [],0,q, []⟩) ⟨za,zc,none,0,_,_,_,_,none,0,rfl,(Hz.o.since Hs2.o).since Hs3.o,RowQ.empty _ _ _,Hn.o,RowQ.empty _ _ _⟩ (aJ Hb0.o.size Hb3.o.size),Hb0.o.trans ((Hb3.o.alloc Hb3.o.size _).mono Hb0.o.size)⟩
theorem d_a (p:List Int) (h:p≠ []):decide (p=([]:List Int))=false:=decide_eq_false h
def k_b (W:World) (e:Ending) (w':World):Prop:=Below W.heap.size W w'/\∃a c i b,e= .returned (.tuple #[.agg #[.slice a 0 c, .int .i64 i], .bool b])
theorem f_m (p d:List Int) (kd pos:Int) (pa ta:Option Addr) (pc tc:Nat) (v4 v5 v6 v7 v8 v9 v10 v11 v12 v13 v14 v15 v16 v17 v18 v19 v20:Value) (W:World) (hk:kd=1∨kd=2∨kd=3∨kd=4∨kd=5)
 (hp:RowA W W.heap.size 1 pa p.length pc (p.map (Value.int .i64))) (hd:RowA W W.heap.size 1 ta d.length tc (d.map (Value.int .i64))) (hpl:p.length <= 1000000) (hdl:d.length <= 1000000) (hne:p≠ []):
 Calls Tryz.prog 126 #[.agg #[.slice none 0 0, .int .i64 0], .agg #[.int .i64 kd, .slice pa p.length pc, .slice ta d.length tc, .int .i64 pos,v4,v5,v6,v7,v8,v9,v10,v11,v12,v13,v14,v15,v16,v17,v18,v19,v20], .int .i64 1] W (k_b W):=by
 obtain⟨w0,hw0⟩:∃w0,w0=((W.alloc (Obj.cells #[.slice none 0 0, .int .i64 0] 49)).alloc (Obj.cells #[.int .i64 kd, .slice pa p.length pc, .slice ta d.length tc, .int .i64 pos,v4,v5,v6,v7,v8,v9,v10,v11,v12,v13,v14,v15,v16,v17,v18,v19,v20] 55)).alloc (Obj.cells #[.slice none 0 0, .int .i64 0] 49):=⟨_,rfl⟩
 have hb0:Below W.heap.size W w0:=by rw [hw0];exact iX _ _ _ _
 have hA:At w0 W.heap.size [.slice none 0 0, .int .i64 0] 49:=by rw [hw0];exact((At.fresh W _ _).alloc _).alloc _
 have hB:At w0 (W.heap.size+1) [.int .i64 kd, .slice pa p.length pc, .slice ta d.length tc, .int .i64 pos,v4,v5,v6,v7,v8,v9,v10,v11,v12,v13,v14,v15,v16,v17,v18,v19,v20] 55:=by rw [hw0];exact(At.second W _ _ _).alloc _
 have hC:At w0 (W.heap.size+1+1) [.slice none 0 0, .int .i64 0] 49:=by rw [hw0];exact At.third W _ _ _ _
 have HM:=a6 (l_M p d kd pos pa ta pc tc v4 v5 v6 v7 v8 v9 v10 v11 v12 v13 v14 v15 v16 v17 v18 v19 v20 w0 hk (hp.keep hb0 hb0.size) (hd.keep hb0 hb0.size) hpl hdl hne)
 have HT:=a6 (fun(w':World) (hb:Below w0.heap.size w0 w')=>a_i p [] pa none pc 0 W.heap.size w' (hp.keep (hb0.trans (hb.mono hb0.size)) (a8)) (RowA.empty _ _ _))
 rw [d_a p hne]at HT
 have hld:=At.load (P:=Tryz.prog) hB Tryz.underlying55 rfl (by kernel_rfl)
 simp [go_sem]at hld
 have y0:=hA.cell 0 rfl;have y1:=hA.cell 1 rfl
 have HA:=a6 hA;have HB:=a6 hB;have HC:=a6 hC
 have Hb0:=a6 hb0;have Hw0:=a6 hw0
 clear hA hB hC hw0 hb0 hp hd hne hk
 unfold k_b
 go_enter Tryz.func126,Tryz.ntmps126
 go_upto_region 1 with fail
 rw [<- Hw0.o]
 clear Hw0
 go_wp2_with fail
 refine HM.o.mono ?_
 rintro e w1 ⟨hbel,va,vc,vb,rfl⟩
 have hA1:=HA.o.kept hbel;have hB1:=HB.o.kept hbel;have hC1:=HC.o.kept hbel
 have k0:=hA1.cell 0 rfl;have k1:=hA1.cell 1 rfl;have l1:=hB1.cell 1 rfl
 obtain⟨⟨c0,c1⟩,cf,cl⟩:=hC1.f2
 have al:=hA1.lt;have bl:=hB1.lt
 have HT1:=a6 (fun(w':World) (hb:Below w1.heap.size w1 w')=>HT.o w' (hbel.trans (hb.mono hbel.size)))
 have HC1:=a6 hC1
 have HlC:=a6 hC1.lt
 have Hb1:=a6 (Hb0.o.trans (hbel.mono Hb0.o.size))
 have HbW:=a6 Hb0.o.size
 clear hbel HM hld hA1 hB1 hC1 y0 y1 HA HB HC HT
 cases vb with
 | false=>
   go_wp2_with fail
   refine bodyPost_ret (v:= .tuple #[.agg #[.slice none 0 0, .int .i64 0], .bool false]) (by simp [results,Tryz.results126,go_sem,c0,c1,cf,cl]) rfl ?_
   exact⟨F9 Hb1.o (by omega) _ _,none,0,0,false,rfl⟩
 | true=>
   go_upto_region 5 with fail
   obtain⟨w2,hw2⟩:∃w2,w2=w1.alloc (Obj.cells #[Value.slice va 0 vc,Value.int .i64 0] 49):=⟨_,rfl⟩
   have hb2:Below w1.heap.size w1 w2:=by rw [hw2];exact aX _ _
   have hD:At w2 w1.heap.size [.slice va 0 vc, .int .i64 0] 49:=by rw [hw2];exact At.fresh _ _ _
   have HT2:=a6 (HT1.o w2 hb2)
   rw [<- hw2]
   have hA2:w2.cell? ⟨W.heap.size,0,none⟩=some (.slice none 0 0):=(hb2.cell (p:=⟨W.heap.size,0,none⟩) al).trans k0
   have hB2:w2.cell? ⟨W.heap.size+1,1,none⟩=some (.slice pa p.length pc):=(hb2.cell (p:=⟨W.heap.size+1,1,none⟩) bl).trans l1
   have HC2:=a6 (HC1.o.kept hb2)
   have HD2:=a6 hD
   have Hb2:=a6 (Hb1.o.trans (hb2.mono Hb1.o.size))
   clear hw2 hb2 hD HT1 k0 k1 l1 c0 c1 cf cl al bl
   go_wp2_with fail
   refine HT2.o.mono ?_
   rintro e w3 ⟨rfl,hdr⟩
   have hd:=hdr.below w2.heap.size
   obtain⟨⟨c0,c1⟩,cf,cl⟩:=(HC2.o.kept hd).f2
   obtain⟨⟨d0,d1⟩,df,dl⟩:=(HD2.o.kept hd).f2
   have Hb3:=a6 (Hb2.o.trans (hd.mono Hb2.o.size))
   clear HT2 hdr hd hA2 hB2
   go_wp2_with fail
   refine bodyPost_ret (v:= .tuple #[.agg #[.slice va 0 vc, .int .i64 0], .bool true]) (by simp [results,Tryz.results126,go_sem,c0,c1,cf,cl]) rfl ?_
   exact⟨F9 Hb3.o (by omega) _ _,va,vc,0,true,rfl⟩
def tJ (w:World) (b:Nat) (l:List (Int×Value)):Prop:= ∃es ck,w.heap[b]? =some (.map es ck)/\es.toList.map (fun e=>(e.key,e.val))=l.map (fun p=>(Value.int .i64 p.1,p.2))
theorem tJ.fresh (w:World):tJ (w.alloc (.map #[] 0)) w.heap.size []:=⟨#[],0,heap_alloc_new w _,rfl⟩
structure a_x (b:Nat) (w w':World):Prop where
 os:w'.os=w.os
 tape:w'.tape=w.tape
 output:w'.output=w.output
 size:w'.heap.size=w.heap.size
 block:∀c,c≠b ->w'.heap[c]? =w.heap[c]?
theorem a_x.below {b B:Nat} {W w w':World} (h:a_x b w w') (hb:Below B W w) (hB:B <= b):Below B W w':=
 ⟨h.os.trans hb.os,h.tape.trans hb.tape,h.output.trans hb.output,by rw [h.size];exact hb.size,fun c hc=>by rw [h.block c (by omega)];exact hb.block c hc⟩
theorem tJ.keys {w:World} {b:Nat} {l:List (Int×Value)} {es:Array MapEntry} (h:es.toList.map (fun e=>(e.key,e.val))=l.map (fun p=>(Value.int .i64 p.1,p.2))):∀x∈es.toList,MapKept.IsKey (.int .i64) x.key:=by
 intro x hx
 have:(x.key,x.val)∈es.toList.map (fun e=>(e.key,e.val)):=List.mem_map.2 ⟨x,hx,rfl⟩
 rw [h]at this
 obtain⟨p, -,hp⟩:=List.mem_map.1 this
 injection hp with h1 h2
 rw [<- h1]
 exact rfl
theorem l_T {P:Program} {w:World} {b T K E:Nat} {l:List (Int×Value)} (h:tJ w b l) (hT:P.underlying T=some (.map K E)) (hK:P.underlying K=some (.int .i64)) (k:Int) (v:Value) (hne:∀p∈l,p.1≠k):
 ∃w',(Instr.mapUpdate T (.map (some b)) (.int .i64 k) v).run P w= .ok () w'/\tJ w' b (l ++ [(k,v)])/\a_x b w w':=by
 obtain⟨es,ck,hb,he⟩:=h
 have hkey:MapKept.IsKey (.int .i64) (.int .i64 k):=rfl
 have hks:=tJ.keys (w:=w) (b:=b) he
 rcases MapKept.findNow_spec hkey es.toList 0 hks with⟨h1,h2⟩ | ⟨j,e0,h1,h2,h3⟩
 . refine ⟨{ w with heap:=w.heap.setIfInBounds b (.map (es.push ⟨.int .i64 k,v,ck⟩) (ck+1)) }, ?_,⟨_,_,(MapKept.heap_set hb).1,by simp [he]⟩,⟨rfl,rfl,rfl,by simp,fun c hc=>(MapKept.heap_set hb).2 c hc⟩⟩
   simp [Instr.mapUpdate,run_underlying hT,MapKept.run_getObj_map hb,MapKept.run_checkKey hK hkey,MapKept.run_findKey hK h1,MapKept.run_setObj_map _ hb,Result.andThen]
 . exfalso
   have hm:(e0.key,e0.val)∈es.toList.map (fun e=>(e.key,e.val)):=List.mem_map.2 ⟨e0,List.mem_of_getElem? h2,rfl⟩
   rw [he]at hm
   obtain⟨p,hp,hpe⟩:=List.mem_map.1 hm
   injection hpe with e1 e2
   rw [h3]at e1
   injection e1 with e3 e4
   exact hne p hp e4
def JV (l:List (Int×Value)) (k:Int) (z:Value):Value×Bool:=match l.find? (fun p=>decide (p.1=k))with
 | some p=>(p.2,true)
 | none=>(z,false)
theorem h_K {P:Program} {w:World} {b T K E:Nat} {l:List (Int×Value)} (h:tJ w b l) (hT:P.underlying T=some (.map K E)) (hK:P.underlying K=some (.int .i64)) (z:Value) (hz:∀w:World,(zeroValue E).run P w= .ok z w) (k:Int)
 (hnd:(l.map (·.1)).Nodup):
 (Instr.lookup T (.map (some b)) (.int .i64 k) true).run P w= .ok (.tuple #[(JV l k z).1, .bool (JV l k z).2]) w:=by
 obtain⟨es,ck,hb,he⟩:=h
 have hkey:MapKept.IsKey (.int .i64) (.int .i64 k):=rfl
 have hks:=tJ.keys (w:=w) (b:=b) he
 rcases MapKept.findNow_spec hkey es.toList 0 hks with⟨h1,h2⟩ | ⟨j,e0,h1,h2,h3⟩
 . have hn:JV l k z=(z,false):=by
    unfold JV
    rw [List.find?_eq_none.2 ?_]
    intro p hp
    have hm:((Value.int .i64 p.1),p.2)∈l.map (fun p=>(Value.int .i64 p.1,p.2)):=List.mem_map.2 ⟨p,hp,rfl⟩
    rw [<- he]at hm
    obtain⟨x,hx,hxe⟩:=List.mem_map.1 hm
    injection hxe with e1 e2
    have:=h2 x hx
    rw [e1]at this
    simpa using fun e=>this (by rw [e])
   rw [hn]
   simp [Instr.lookup,run_underlying hT,MapKept.run_getObj_map hb,MapKept.run_checkKey hK hkey,MapKept.run_findKey hK h1,Result.andThen,hz]
 . have hj:(es.toList.map (fun e=>(e.key,e.val)))[j]? =some (e0.key,e0.val):=by rw [List.getElem?_map,h2];rfl
   rw [he,List.getElem?_map]at hj
   obtain⟨p,hp,hpe⟩:=Option.map_eq_some_iff.1 hj
   injection hpe with e1 e2
   rw [h3]at e1
   injection e1 with e3 e4
   have hf:l.find? (fun p=>decide (p.1=k))=some p:=by
    obtain⟨hjl,hpj⟩:=List.getElem?_eq_some_iff.1 hp
    rw [List.find?_eq_some_iff_getElem]
    refine⟨by simpa using e4,j,hjl,hpj,fun i hi=> ?_⟩
    have hne:=List.pairwise_iff_getElem.1 hnd i j (by simp;omega) (by simpa using hjl) hi
    simp only [List.getElem_map,hpj,e4]at hne
    simpa using hne
   have hn:JV l k z=(p.2,true):=by unfold JV;rw [hf]
   rw [hn,e2]
   simp [Instr.lookup,run_underlying hT,MapKept.run_getObj_map hb,MapKept.run_checkKey hK hkey,MapKept.run_findKey hK h1,Result.andThen]
theorem CY {P:Program} {ops:Array Oper} {rest:List Oper} {o:Oper} {a:Act} {w:World} {Q:Exit ->Act ->World ->Prop} (hg:o.guard=none) (T:Nat) (ho:o.op= .makeMap T none)
 (hk:∀w',w'=w.alloc (.map #[] 0) ->wpList P ops Q rest (a.put o.dst (.map (some w.heap.size))) w'):wpList P ops Q (o::rest) a w:=by
 refine wpList_plain hg fun K' hK'=> ?_
 have hr2:(execOp a.eval o).run P w= .ok (.value (.map (some w.heap.size))) (w.alloc (.map #[] 0)):=by
  unfold execOp
  simp only [ho]
  rfl
 unfold Oper.wp
 rw [hr2]
 exact hK' _ _ (hk _ rfl)
theorem fK {P:Program} {ops:Array Oper} {rest:List Oper} {o:Oper} {a:Act} {w:World} {Q:Exit ->Act ->World ->Prop} (hg:o.guard=none) (T K E:Nat) (m x:Operand) (k:Int) (ho:o.op= .insert T m (.const (.int .i64 k)) x)
 (b:Nat) (l:List (Int×Value)) (v:Value) (hm:a.eval m= .map (some b)) (hx:a.eval x=v) (h:tJ w b l) (hT:P.underlying T=some (.map K E)) (hK:P.underlying K=some (.int .i64)) (hne:∀p∈l,p.1≠k) (hd:o.dst=none)
 (hk:∀w',tJ w' b (l ++ [(k,v)]) ->a_x b w w' ->wpList P ops Q rest a w'):wpList P ops Q (o::rest) a w:=by
 obtain⟨w',hr,h1,h2⟩:=l_T h hT hK k v hne
 refine wpList_plain hg fun K' hK'=> ?_
 have hc:a.eval (.const (.int .i64 k))= .int .i64 k:=rfl
 have hr2:(execOp a.eval o).run P w= .ok .skip w':=by
  unfold execOp
  simp only [ho,hm,hx,hc,hr,Sem.run_bind,Sem.run_pure,Result.andThen_ok]
 unfold Oper.wp
 rw [hr2]
 show K' (a.put o.dst undef) w'
 rw [hd]
 exact hK' a w' (hk w' h1 h2)
theorem n_J (W:World):Calls Tryz.prog 175 #[] W (fun e w'=>e= .returned (.map (some W.heap.size))/\tJ w' W.heap.size [(1, .string ⟨#[112,110]⟩),(2, .string ⟨#[112,110]⟩),(3, .string ⟨#[112,97,111]⟩),(4, .string ⟨#[112,97,119]⟩),(5, .string ⟨#[112,116]⟩),(6, .string ⟨#[112,111,119]⟩),(7, .string ⟨#[112,97,120]⟩),(8, .string ⟨#[112,97,120]⟩),(9, .string ⟨#[115]⟩)]/\Below W.heap.size W w'):=by
 go_enter Tryz.func175,Tryz.ntmps175
 go_wp2_with (first
  | (refine CY rfl _ rfl ?_
     intro p0 hp0
     have Hm0:=a6 (show tJ p0 W.heap.size []by rw [hp0];exact tJ.fresh W)
     have Hp0:=a6 (show Below W.heap.size W p0 by rw [hp0];exact aX W (.map #[] 0))
     clear hp0)
  | (refine fK rfl 204 3 9 _ _ 1 rfl W.heap.size [] (.string ⟨#[112,110]⟩) rfl rfl Hm0.o Tryz.underlying204 Tryz.underlying3 (by simp) rfl ?_
     intro p1 hm1 ho1
     have Hm1:=a6 hm1
     have Hp1:=a6 (ho1.below Hp0.o (a8))
     clear hm1 ho1)
  | (refine fK rfl 204 3 9 _ _ 2 rfl W.heap.size [(1, .string ⟨#[112,110]⟩)] (.string ⟨#[112,110]⟩) rfl rfl Hm1.o Tryz.underlying204 Tryz.underlying3 (by simp) rfl ?_
     intro p2 hm2 ho2
     have Hm2:=a6 hm2
     have Hp2:=a6 (ho2.below Hp1.o (a8))
     clear hm2 ho2)
  | (refine fK rfl 204 3 9 _ _ 3 rfl W.heap.size [(1, .string ⟨#[112,110]⟩),(2, .string ⟨#[112,110]⟩)] (.string ⟨#[112,97,111]⟩) rfl rfl Hm2.o Tryz.underlying204 Tryz.underlying3 (by simp) rfl ?_
     intro p3 hm3 ho3
     have Hm3:=a6 hm3
     have Hp3:=a6 (ho3.below Hp2.o (a8))
     clear hm3 ho3)
  | (refine fK rfl 204 3 9 _ _ 4 rfl W.heap.size [(1, .string ⟨#[112,110]⟩),(2, .string ⟨#[112,110]⟩),(3, .string ⟨#[112,97,111]⟩)] (.string ⟨#[112,97,119]⟩) rfl rfl Hm3.o Tryz.underlying204 Tryz.underlying3 (by simp) rfl ?_
     intro p4 hm4 ho4
     have Hm4:=a6 hm4
     have Hp4:=a6 (ho4.below Hp3.o (a8))
     clear hm4 ho4)
  | (refine fK rfl 204 3 9 _ _ 5 rfl W.heap.size [(1, .string ⟨#[112,110]⟩),(2, .string ⟨#[112,110]⟩),(3, .string ⟨#[112,97,111]⟩),(4, .string ⟨#[112,97,119]⟩)] (.string ⟨#[112,116]⟩) rfl rfl Hm4.o Tryz.underlying204 Tryz.underlying3 (by simp) rfl ?_
     intro p5 hm5 ho5
     have Hm5:=a6 hm5
     have Hp5:=a6 (ho5.below Hp4.o (a8))
     clear hm5 ho5)
  | (refine fK rfl 204 3 9 _ _ 6 rfl W.heap.size [(1, .string ⟨#[112,110]⟩),(2, .string ⟨#[112,110]⟩),(3, .string ⟨#[112,97,111]⟩),(4, .string ⟨#[112,97,119]⟩),(5, .string ⟨#[112,116]⟩)] (.string ⟨#[112,111,119]⟩) rfl rfl Hm5.o Tryz.underlying204 Tryz.underlying3 (by simp) rfl ?_
     intro p6 hm6 ho6
     have Hm6:=a6 hm6
     have Hp6:=a6 (ho6.below Hp5.o (a8))
     clear hm6 ho6)
  | (refine fK rfl 204 3 9 _ _ 7 rfl W.heap.size [(1, .string ⟨#[112,110]⟩),(2, .string ⟨#[112,110]⟩),(3, .string ⟨#[112,97,111]⟩),(4, .string ⟨#[112,97,119]⟩),(5, .string ⟨#[112,116]⟩),(6, .string ⟨#[112,111,119]⟩)] (.string ⟨#[112,97,120]⟩) rfl rfl Hm6.o Tryz.underlying204 Tryz.underlying3 (by simp) rfl ?_
     intro p7 hm7 ho7
     have Hm7:=a6 hm7
     have Hp7:=a6 (ho7.below Hp6.o (a8))
     clear hm7 ho7)
  | (refine fK rfl 204 3 9 _ _ 8 rfl W.heap.size [(1, .string ⟨#[112,110]⟩),(2, .string ⟨#[112,110]⟩),(3, .string ⟨#[112,97,111]⟩),(4, .string ⟨#[112,97,119]⟩),(5, .string ⟨#[112,116]⟩),(6, .string ⟨#[112,111,119]⟩),(7, .string ⟨#[112,97,120]⟩)] (.string ⟨#[112,97,120]⟩) rfl rfl Hm7.o Tryz.underlying204 Tryz.underlying3 (by simp) rfl ?_
     intro p8 hm8 ho8
     have Hm8:=a6 hm8
     have Hp8:=a6 (ho8.below Hp7.o (a8))
     clear hm8 ho8)
  | (refine fK rfl 204 3 9 _ _ 9 rfl W.heap.size [(1, .string ⟨#[112,110]⟩),(2, .string ⟨#[112,110]⟩),(3, .string ⟨#[112,97,111]⟩),(4, .string ⟨#[112,97,119]⟩),(5, .string ⟨#[112,116]⟩),(6, .string ⟨#[112,111,119]⟩),(7, .string ⟨#[112,97,120]⟩),(8, .string ⟨#[112,97,120]⟩)] (.string ⟨#[115]⟩) rfl rfl Hm8.o Tryz.underlying204 Tryz.underlying3 (by simp) rfl ?_
     intro p9 hm9 ho9
     have Hm9:=a6 hm9
     have Hp9:=a6 (ho9.below Hp8.o (a8))
     clear hm9 ho9))
 go_ret
 exact⟨rfl,Hm9.o,Hp9.o⟩
theorem k_c (W:World):Calls Tryz.prog 190 #[] W (fun e w'=>e= .returned (.map (some W.heap.size))/\tJ w' W.heap.size [(1, .int .i64 2),(2, .int .i64 1),(3, .int .i64 4),(4, .int .i64 3),(7, .int .i64 8),(8, .int .i64 7),(5, .int .i64 5),(6, .int .i64 6),(9, .int .i64 9)]/\Below W.heap.size W w'):=by
 go_enter Tryz.func190,Tryz.ntmps190
 go_wp2_with (first
  | (refine CY rfl _ rfl ?_
     intro p0 hp0
     have Hm0:=a6 (show tJ p0 W.heap.size []by rw [hp0];exact tJ.fresh W)
     have Hp0:=a6 (show Below W.heap.size W p0 by rw [hp0];exact aX W (.map #[] 0))
     clear hp0)
  | (refine fK rfl 219 3 3 _ _ 1 rfl W.heap.size [] (.int .i64 2) rfl rfl Hm0.o Tryz.underlying219 Tryz.underlying3 (by simp) rfl ?_
     intro p1 hm1 ho1
     have Hm1:=a6 hm1
     have Hp1:=a6 (ho1.below Hp0.o (a8))
     clear hm1 ho1)
  | (refine fK rfl 219 3 3 _ _ 2 rfl W.heap.size [(1, .int .i64 2)] (.int .i64 1) rfl rfl Hm1.o Tryz.underlying219 Tryz.underlying3 (by simp) rfl ?_
     intro p2 hm2 ho2
     have Hm2:=a6 hm2
     have Hp2:=a6 (ho2.below Hp1.o (a8))
     clear hm2 ho2)
  | (refine fK rfl 219 3 3 _ _ 3 rfl W.heap.size [(1, .int .i64 2),(2, .int .i64 1)] (.int .i64 4) rfl rfl Hm2.o Tryz.underlying219 Tryz.underlying3 (by simp) rfl ?_
     intro p3 hm3 ho3
     have Hm3:=a6 hm3
     have Hp3:=a6 (ho3.below Hp2.o (a8))
     clear hm3 ho3)
  | (refine fK rfl 219 3 3 _ _ 4 rfl W.heap.size [(1, .int .i64 2),(2, .int .i64 1),(3, .int .i64 4)] (.int .i64 3) rfl rfl Hm3.o Tryz.underlying219 Tryz.underlying3 (by simp) rfl ?_
     intro p4 hm4 ho4
     have Hm4:=a6 hm4
     have Hp4:=a6 (ho4.below Hp3.o (a8))
     clear hm4 ho4)
  | (refine fK rfl 219 3 3 _ _ 7 rfl W.heap.size [(1, .int .i64 2),(2, .int .i64 1),(3, .int .i64 4),(4, .int .i64 3)] (.int .i64 8) rfl rfl Hm4.o Tryz.underlying219 Tryz.underlying3 (by simp) rfl ?_
     intro p5 hm5 ho5
     have Hm5:=a6 hm5
     have Hp5:=a6 (ho5.below Hp4.o (a8))
     clear hm5 ho5)
  | (refine fK rfl 219 3 3 _ _ 8 rfl W.heap.size [(1, .int .i64 2),(2, .int .i64 1),(3, .int .i64 4),(4, .int .i64 3),(7, .int .i64 8)] (.int .i64 7) rfl rfl Hm5.o Tryz.underlying219 Tryz.underlying3 (by simp) rfl ?_
     intro p6 hm6 ho6
     have Hm6:=a6 hm6
     have Hp6:=a6 (ho6.below Hp5.o (a8))
     clear hm6 ho6)
  | (refine fK rfl 219 3 3 _ _ 5 rfl W.heap.size [(1, .int .i64 2),(2, .int .i64 1),(3, .int .i64 4),(4, .int .i64 3),(7, .int .i64 8),(8, .int .i64 7)] (.int .i64 5) rfl rfl Hm6.o Tryz.underlying219 Tryz.underlying3 (by simp) rfl ?_
     intro p7 hm7 ho7
     have Hm7:=a6 hm7
     have Hp7:=a6 (ho7.below Hp6.o (a8))
     clear hm7 ho7)
  | (refine fK rfl 219 3 3 _ _ 6 rfl W.heap.size [(1, .int .i64 2),(2, .int .i64 1),(3, .int .i64 4),(4, .int .i64 3),(7, .int .i64 8),(8, .int .i64 7),(5, .int .i64 5)] (.int .i64 6) rfl rfl Hm7.o Tryz.underlying219 Tryz.underlying3 (by simp) rfl ?_
     intro p8 hm8 ho8
     have Hm8:=a6 hm8
     have Hp8:=a6 (ho8.below Hp7.o (a8))
     clear hm8 ho8)
  | (refine fK rfl 219 3 3 _ _ 9 rfl W.heap.size [(1, .int .i64 2),(2, .int .i64 1),(3, .int .i64 4),(4, .int .i64 3),(7, .int .i64 8),(8, .int .i64 7),(5, .int .i64 5),(6, .int .i64 6)] (.int .i64 9) rfl rfl Hm8.o Tryz.underlying219 Tryz.underlying3 (by simp) rfl ?_
     intro p9 hm9 ho9
     have Hm9:=a6 hm9
     have Hp9:=a6 (ho9.below Hp8.o (a8))
     clear hm9 ho9))
 go_ret
 exact⟨rfl,Hm9.o,Hp9.o⟩
theorem g_K (w:World):bY w w.heap.size bZ (.agg #[.bool false, .slice none 0 0, .slice none 0 0, .slice none 0 0]):=
 ⟨_,rfl,NodeQ.node (ok:=fun _=>True) bZ _ (by
  unfold bZ NodeQ
  exact⟨none,0,none,0,none,0, [],rfl,RowQ.empty _ _ _,RowQ.empty _ _ _,(by simp),RowQ.empty _ _ _,by unfold bX;rfl⟩)⟩
theorem i_u:∀args w,(callFunc 25 args).run Tryz.prog w= .ok (.enter 25 args) w:=by intro args w;kernel_rfl
theorem a_y:∀args w,(callFunc 63 args).run Tryz.prog w= .ok (.enter 63 args) w:=by intro args w;kernel_rfl
theorem k_d:(Tryz.prog.info? 5).map (fun i=>(i.zero,i.size,i.bytes))=some (some (.int .u8 0),1,1):=by kernel_rfl
def onB (L:List (UInt8×Bool)):List UInt8:=(L.filter (·.2)).map (·.1)
theorem k_e {L:List (UInt8×Bool)} {j:Nat} (h:j < L.length):onB (L.take (j+1))=if L[j].2 then onB (L.take j) ++ [L[j].1] else onB (L.take j):=by
 unfold onB
 rw [List.take_succ_eq_append_getElem h,List.filter_append,List.map_append]
 cases hb:L[j].2 <;> simp [hb]
def AQ (p d:List Int) (pos:Int) (nd:aK) (ol:List eK):List (UInt8×Bool):=
 [(112,decide (0 < p.length)),(116,decide (0 < d.length)),(97,pos != 0),(110, !wV nd bZ),(111,decide (0 < ol.length)),(119,false),(120,false),(115,false),(115,false)]
theorem n_2 (p d:List Int) (kd pos:Int) (nd:aK) (ol:List eK) (pa ta oa:Option Addr) (pc tc oc:Nat) (l0:Bool) (a1 a2 a3:Option Addr) (m1 m2 m3 c1 c2 c3:Nat) (W:World) (hbig:nd.wt <= 100000000) (hn:bY W W.heap.size nd (.agg #[.bool l0, .slice a1 m1 c1, .slice a2 m2 c2, .slice a3 m3 c3])) (hne:p≠ []):
 Calls Tryz.prog 176 #[.agg #[.int .i64 kd, .slice pa p.length pc, .slice ta d.length tc, .int .i64 pos, .bool l0, .slice a1 m1 c1, .slice a2 m2 c2, .slice a3 m3 c3, .slice oa ol.length oc, .slice none 0 0, .slice none 0 0, .bool false, .slice none 0 0, .int .i64 0, .slice none 0 0, .int .i64 0, .bool false, .slice none 0 0, .int .i64 0, .slice none 0 0, .int .i64 0]] W (fun e w'=>e= .returned (.string ⟨(onB (AQ p d pos nd ol)).toArray⟩)/\Below W.heap.size W w'):=by
 obtain⟨w0,hw0⟩:∃w0,w0=W.alloc (Obj.cells #[.int .i64 kd, .slice pa p.length pc, .slice ta d.length tc, .int .i64 pos, .bool l0, .slice a1 m1 c1, .slice a2 m2 c2, .slice a3 m3 c3, .slice oa ol.length oc, .slice none 0 0, .slice none 0 0, .bool false, .slice none 0 0, .int .i64 0, .slice none 0 0, .int .i64 0, .bool false, .slice none 0 0, .int .i64 0, .slice none 0 0, .int .i64 0] 55):=⟨_,rfl⟩
 have hb0:Below W.heap.size W w0:=by rw [hw0];exact aX _ _
 have hA:At w0 W.heap.size [.int .i64 kd, .slice pa p.length pc, .slice ta d.length tc, .int .i64 pos, .bool l0, .slice a1 m1 c1, .slice a2 m2 c2, .slice a3 m3 c3, .slice oa ol.length oc, .slice none 0 0, .slice none 0 0, .bool false, .slice none 0 0, .int .i64 0, .slice none 0 0, .int .i64 0, .bool false, .slice none 0 0, .int .i64 0, .slice none 0 0, .int .i64 0] 55:=by rw [hw0];exact At.fresh W _ _
 have HS0:=a6 (fun(w':World) (hb:Below w0.heap.size w0 w')=>(show w'.cell? ⟨W.heap.size,0,none⟩=some (.int .i64 kd)/\w'.cell? ⟨W.heap.size,1,none⟩=some (.slice pa p.length pc)/\w'.cell? ⟨W.heap.size,2,none⟩=some (.slice ta d.length tc)/\w'.cell? ⟨W.heap.size,3,none⟩=some (.int .i64 pos)/\w'.cell? ⟨W.heap.size,4,none⟩=some (.bool l0)/\w'.cell? ⟨W.heap.size,5,none⟩=some (.slice a1 m1 c1)/\w'.cell? ⟨W.heap.size,6,none⟩=some (.slice a2 m2 c2)/\w'.cell? ⟨W.heap.size,7,none⟩=some (.slice a3 m3 c3)/\w'.cell? ⟨W.heap.size,8,none⟩=some (.slice oa ol.length oc)/\w'.cell? ⟨W.heap.size,9,none⟩=some (.slice none 0 0)/\w'.cell? ⟨W.heap.size,10,none⟩=some (.slice none 0 0)/\w'.cell? ⟨W.heap.size,11,none⟩=some (.bool false)/\w'.cell? ⟨W.heap.size,12,none⟩=some (.slice none 0 0)/\w'.cell? ⟨W.heap.size,13,none⟩=some (.int .i64 0)/\w'.cell? ⟨W.heap.size,14,none⟩=some (.slice none 0 0)/\w'.cell? ⟨W.heap.size,15,none⟩=some (.int .i64 0)/\w'.cell? ⟨W.heap.size,16,none⟩=some (.bool false)/\w'.cell? ⟨W.heap.size,17,none⟩=some (.slice none 0 0)/\w'.cell? ⟨W.heap.size,18,none⟩=some (.int .i64 0)/\w'.cell? ⟨W.heap.size,19,none⟩=some (.slice none 0 0)/\w'.cell? ⟨W.heap.size,20,none⟩=some (.int .i64 0)from by have h:=hA.kept hb;exact⟨h.cell 0 rfl,h.cell 1 rfl,h.cell 2 rfl,h.cell 3 rfl,h.cell 4 rfl,h.cell 5 rfl,h.cell 6 rfl,h.cell 7 rfl,h.cell 8 rfl,h.cell 9 rfl,h.cell 10 rfl,h.cell 11 rfl,h.cell 12 rfl,h.cell 13 rfl,h.cell 14 rfl,h.cell 15 rfl,h.cell 16 rfl,h.cell 17 rfl,h.cell 18 rfl,h.cell 19 rfl,h.cell 20 rfl⟩))
 have HN:=a6 (fun(w':World) (hb:Below w0.heap.size w0 w')=>j_r nd.wt nd bZ (.agg #[.bool l0, .slice a1 m1 c1, .slice a2 m2 c2, .slice a3 m3 c3]) (.agg #[.bool false, .slice none 0 0, .slice none 0 0, .slice none 0 0]) w' (a8) (by obtain⟨cs,he,hc⟩:=hn;exact⟨cs,he,dJ.keep (hb0.trans (hb.mono hb0.size)) (hb0.trans (hb.mono hb0.size)).size _ _ hc⟩) (g_K w'))
 have HZ:=a6 (fun(w':World)=>g_C w')
 obtain⟨sn,hsn⟩:∃sn,sn=wV nd bZ:=⟨_,rfl⟩
 rw [<- hsn]at HN
 have HL:Hid (AQ p d pos nd ol= [(112,decide (0 < p.length)),(116,decide (0 < d.length)),(97,pos != 0),(110, !sn),(111,decide (0 < ol.length)),(119,false),(120,false),(115,false),(115,false)]):=a6 (by unfold AQ;rw [hsn])
 have hLne:onB (AQ p d pos nd ol)≠ []:=by
  unfold onB AQ
  have:decide (0 < p.length)=true:=by simpa using List.length_pos_iff.2 hne
  simp [this]
 have HLne:=a6 hLne
 generalize AQ p d pos nd ol=L at HL HLne⊢
 have hLl:L.length=9:=by rw [HL.o];rfl
 have Hb0:=a6 hb0;have Hw0:=a6 hw0
 clear hn hA hb0 hw0 hsn hLne
 go_enter Tryz.func176,Tryz.ntmps176
 go_upto_region 2 with fail
 rw [<- Hw0.o]
 clear Hw0
 go_cut [53,54,55] (fun s n i wx=>n= .int .i64 9/\i= .int .i64 0/\∃b,s= .slice (some ⟨b,0,none⟩) 9 9/\b < wx.heap.size/\(∀ (j:Nat) (h:j < L.length),wx.cell? ⟨b,j * 2,none⟩=some (.int .u8 L[j].1.toNat)/\wx.cell? ⟨b,j * 2+1,none⟩=some (.bool L[j].2))/\Below W.heap.size W wx)
 case first=>
  go_region_held3 (fun w'=>w'.cell? ⟨W.heap.size,0,none⟩=some (.int .i64 kd)/\w'.cell? ⟨W.heap.size,1,none⟩=some (.slice pa p.length pc)/\w'.cell? ⟨W.heap.size,2,none⟩=some (.slice ta d.length tc)/\w'.cell? ⟨W.heap.size,3,none⟩=some (.int .i64 pos)/\w'.cell? ⟨W.heap.size,4,none⟩=some (.bool l0)/\w'.cell? ⟨W.heap.size,5,none⟩=some (.slice a1 m1 c1)/\w'.cell? ⟨W.heap.size,6,none⟩=some (.slice a2 m2 c2)/\w'.cell? ⟨W.heap.size,7,none⟩=some (.slice a3 m3 c3)/\w'.cell? ⟨W.heap.size,8,none⟩=some (.slice oa ol.length oc)/\w'.cell? ⟨W.heap.size,9,none⟩=some (.slice none 0 0)/\w'.cell? ⟨W.heap.size,10,none⟩=some (.slice none 0 0)/\w'.cell? ⟨W.heap.size,11,none⟩=some (.bool false)/\w'.cell? ⟨W.heap.size,12,none⟩=some (.slice none 0 0)/\w'.cell? ⟨W.heap.size,13,none⟩=some (.int .i64 0)/\w'.cell? ⟨W.heap.size,14,none⟩=some (.slice none 0 0)/\w'.cell? ⟨W.heap.size,15,none⟩=some (.int .i64 0)/\w'.cell? ⟨W.heap.size,16,none⟩=some (.bool false)/\w'.cell? ⟨W.heap.size,17,none⟩=some (.slice none 0 0)/\w'.cell? ⟨W.heap.size,18,none⟩=some (.int .i64 0)/\w'.cell? ⟨W.heap.size,19,none⟩=some (.slice none 0 0)/\w'.cell? ⟨W.heap.size,20,none⟩=some (.int .i64 0)) (refine HS0.o _ (by((repeat (first | with_reducible exact Hb3.o | with_reducible exact Hb2.o | with_reducible exact Hb1.o | with_reducible exact a7 | with_reducible refine Below.drew ?_ | with_reducible refine Below.alloc ?_ ?_ _ | with_reducible refine Below.setCell ?_ ?_ _)) <;> (first | with_reducible exact a8 | with_reducible exact Hb3.o.size | with_reducible exact Hb2.o.size | with_reducible exact Hb1.o.size | (have hsz:=Hb3.o.size;simp [World.setCell];omega) | (have hsz:=Hb2.o.size;simp [World.setCell];omega) | (have hsz:=Hb1.o.size;simp [World.setCell];omega) | (simp;done) | (simp;omega) | omega))))
   (first
   | (refine b9 rfl 25 _ _ rfl i_u [.agg #[.bool l0, .slice a1 m1 c1, .slice a2 m2 c2, .slice a3 m3 c3], .agg #[.bool false, .slice none 0 0, .slice none 0 0, .slice none 0 0]] ?_ _ (HN.o _ (by((repeat (first | with_reducible exact a7 | with_reducible refine Below.drew ?_ | with_reducible refine Below.alloc ?_ ?_ _ | with_reducible refine Below.setCell ?_ ?_ _)) <;> (first | with_reducible exact a8 | (simp;done) | (simp;omega) | omega)))) ?_
      . go_simp
      rintro e w1 ⟨rfl,hbel⟩
      refine⟨_,rfl, ?_⟩
      have Hb1:=a6 (Below.and (w0:=w0) (by((repeat (first | with_reducible exact a7 | with_reducible refine Below.drew ?_ | with_reducible refine Below.alloc ?_ ?_ _ | with_reducible refine Below.setCell ?_ ?_ _)) <;> (first | with_reducible exact a8 | (simp;done) | (simp;omega) | omega))) hbel)
      clear hbel)
   | (refine b9 rfl 63 _ _ rfl a_y [IK,IK] ?_ _ (HZ.o w1) ?_
      . go_simp
      rintro e w2 ⟨rfl,hbel⟩
      refine⟨_,rfl, ?_⟩
      have Hb2:=a6 (Below.and (w0:=w0) Hb1.o hbel)
      clear hbel)
   | (refine b9 rfl 63 _ _ rfl a_y [IK,IK] ?_ _ (HZ.o _) ?_
      . go_simp
      rintro e w3 ⟨rfl,hbel⟩
      refine⟨_,rfl, ?_⟩
      have Hb3:=a6 (Below.and (w0:=w0) Hb2.o hbel)
      clear hbel))
  all_goals
   go_wp2_with fail
   go_meet
   case rel=>
    refine⟨rfl,rfl,w3.heap.size,rfl,by simp, ?_,(Hb0.o.trans (Hb3.o.mono Hb0.o.size)).trans ((aX w3 _).mono ?_)⟩
    . have h:=At.fresh w3 [.int .u8 112, .bool (decide (0 < p.length)), .int .u8 116, .bool (decide (0 < d.length)), .int .u8 97, .bool (pos != 0), .int .u8 110, .bool (!sn), .int .u8 111, .bool (decide (0 < ol.length)), .int .u8 119, .bool false, .int .u8 120, .bool false, .int .u8 115, .bool false, .int .u8 115, .bool false] 259
      have hLL:=HL.o
      clear HL
      subst hLL
      intro j hj
      have:j=0∨j=1∨j=2∨j=3∨j=4∨j=5∨j=6∨j=7∨j=8:=by simp at hj;omega
      rcases this with rfl | rfl | rfl | rfl | rfl | rfl | rfl | rfl | rfl
      . exact⟨h.cell 0 rfl,h.cell 1 rfl⟩
      . exact⟨h.cell 2 rfl,h.cell 3 rfl⟩
      . exact⟨h.cell 4 rfl,h.cell 5 rfl⟩
      . exact⟨h.cell 6 rfl,h.cell 7 rfl⟩
      . exact⟨h.cell 8 rfl,h.cell 9 rfl⟩
      . exact⟨h.cell 10 rfl,h.cell 11 rfl⟩
      . exact⟨h.cell 12 rfl,h.cell 13 rfl⟩
      . exact⟨h.cell 14 rfl,h.cell 15 rfl⟩
      . exact⟨h.cell 16 rfl,h.cell 17 rfl⟩
    . exact aJ Hb0.o.size Hb3.o.size
 case rest=>
  obtain⟨rfl,rfl,b,rfl,hb,hcell,hbel⟩:=hcut
  have Hcell:=a6 hcell;have Hbel:=a6 hbel;have Hbw:=a6 hb;have HLl:=a6 hLl
  clear hcell hbel HS0 HN HZ HL hb hLl
  go_wp2_with fail
  go_loopg [55,3,5] 9 (fun g i v _ wr=>∃j:Nat,i= .int .i64 j/\j+g=9/\wr.ownsRow wc.heap.size 5 1 v (onB (L.take j)).length ((onB (L.take j)).map fun c=>Value.int .u8 c.toNat)/\Below wc.heap.size wc wr)
  case atStart=>exact⟨0,rfl,rfl,World.ownsRow_nil _ _ _ _,a7⟩
  case round=>
   obtain⟨j,rfl,hg,hown,hbr⟩:=hrel
   by_cases hlt:j < 9
   . have hlti:(j:Int) < 9:=by omega
     have hjL:j < L.length:=by have:=HLl.o;omega
     obtain⟨h0,h1⟩:=Hcell.o j hjL
     have g0:=(hbr.cell (p:=⟨b,j * 2,none⟩) Hbw.o).trans h0
     have g1:=(hbr.cell (p:=⟨b,j * 2+1,none⟩) Hbw.o).trans h1
     have hT:=k_e hjL
     have hbl:b < wr.heap.size:=Nat.lt_of_lt_of_le Hbw.o hbr.size
     generalize L[j].1=c at g0 hT h0
     generalize L[j].2=bb at g1 hT h1
     have HT:=a6 hT;have Hown:=a6 hown;have Hbr:=a6 hbr
     clear hT hown hbr h0 h1
     cases bb with
     | false=>
       go_wp2_with fail
       go_roundg (9 - (j+1))
       case measure=>omega
       case rel=>
        have h:=HT.o
        rw [if_neg (by decide)]at h
        exact⟨j+1,by go_num,by omega,by rw [h];exact j4 Hown.o (aX _ _),Hbr.o.trans ((aX _ _).mono Hbr.o.size)⟩
     | true=>
       have hol:(onB (L.take j)).length <= 9:=by
        unfold onB
        rw [List.length_map]
        have h2:=HLl.o
        exact aJ (List.length_filter_le _ _) (by rw [List.length_take];omega)
       go_wp2_with ((at_builtin;refine nY rfl _ _ 206 rfl wc.heap.size 5 (.int .u8 0) 1 1 Tryz.underlying206 k_d rfl (by decide) _ _ _ rfl (j4 (j4 Hown.o (aX _ _)) (aX _ _)) _ 1 1 (wr.heap.size+2) [.int .u8 c.toNat] rfl ?hr ?h63 ?hb ?hbase ?_))
       case hr=>
        have hsz:(wr.alloc (Obj.cells #[.int .u8 c.toNat, .bool true] 259)).heap.size=wr.heap.size+1:=by simp
        have h:=BJ (wr.alloc (Obj.cells #[.int .u8 c.toNat, .bool true] 259)) (.int .u8 c.toNat) 5 (wr.heap.size+2) rfl (by rw [hsz];omega)
        rw [hsz]at h
        exact h
       case h63=>unfold maxLen;omega
       case hb=>omega
       case hbase=>have:=Hbr.o.size;simp;omega
       intro v' w2 hown' hgrow
       have Hown2:=a6 hown'
       have Hb2:=a6 (show Below wc.heap.size wr w2 from(((Below.refl wc.heap.size wr).alloc Hbr.o.size _).alloc (aJ Hbr.o.size (by simp)) _).grown hgrow (by have:=Hbr.o.size;simp;omega) (fun k hk=>(Hown.o.lt k hk).1))
       clear hown' hgrow
       go_wp2_with fail
       go_roundg (9 - (j+1))
       case measure=>omega
       case rel=>
        have h:=HT.o
        rw [if_pos trivial]at h
        refine⟨j+1,by go_num,by omega, ?_,Hbr.o.trans Hb2.o⟩
        rw [h,List.length_append,List.map_append]
        exact Hown2.o
   . obtain rfl:j=9:=by omega
     have ht:L.take 9=L:=List.take_of_length_le (by have:=HLl.o;omega)
     rw [ht]at hown
     have hne2:((onB L).map fun c=>Value.int .u8 c.toNat)≠ []:=fun e=>HLne.o (List.map_eq_nil_iff.1 e)
     obtain⟨va,vc,rfl, -⟩:=cK hown (by intro u hu;obtain⟨z, -,rfl⟩:=List.mem_map.1 hu;rfl)
     obtain⟨g1,rfl, -⟩:=A6 hown hne2
     have hcv:=d_W (P:=Tryz.prog) (w:=wr) (src:=206) (dst:=9) Tryz.underlying206 Tryz.underlying5 Tryz.underlying9 g1 0 (onB L).length vc (onB L) rfl (fun k hk=>by
      rw [Nat.zero_add]
      refine pV hown k _ ?_
      rw [List.getElem?_map,List.getElem?_eq_getElem hk,List.getD_eq_getElem?_getD,List.getElem?_eq_getElem hk];rfl)
     have Hbr:=a6 hbr
     have Hbe:=a6 (Hbel.o.trans (hbr.mono Hbel.o.size))
     clear hown hne2 hbr ht
     go_wp2_with fail
     go_ret
     exact⟨rfl,Hbe.o⟩
theorem b_o (s:List UInt8) (w:World):∃cap wb,(convert 9 206 (.string ⟨s.toArray⟩)).run Tryz.prog w= .ok (.slice (some ⟨w.heap.size,0,none⟩) s.length cap) wb/\Below w.heap.size w wb/\w.heap.size < wb.heap.size/\
 ∀j,j < s.length ->wb.cell? ⟨w.heap.size,j,none⟩=some (.int .u8 (s.getD j 0).toNat):=by
 refine⟨_,_,Lib.run_convert_string_bytes w 9 206 5 ⟨s.toArray⟩ Tryz.underlying9 Tryz.underlying206 Tryz.underlying5, ?_, ?_,fun j hj=> ?_⟩
 . exact⟨rfl,rfl,rfl,by rw [Lib.bytesWorld_size];omega,fun k hk=>Lib.bytesWorld_at_old w _ _ k hk⟩
 . rw [Lib.bytesWorld_size];omega
 . have:=Lib.bytesWorld_cell w 5 ⟨s.toArray⟩ j hj
   simpa using this
theorem k_f (L:List UInt8) (c:UInt8) (b cap:Nat) (W:World) (hc:∀j,j < L.length ->W.cell? ⟨b,j,none⟩=some (.int .u8 (L.getD j 0).toNat)) (hn:L.length <= 1000):
 Calls Tryz.prog 233 #[.slice (some ⟨b,0,none⟩) L.length cap, .int .u8 c.toNat] W (fun e w'=>(∃z:Int,e= .returned (.int .i64 z)/\decide (0 <= z)=decide (c∈L))/\w'=W):=by
 have Hc:=a6 hc
 clear hc
 go_enter Tryz.func233,Tryz.ntmps233
 go_wp2_with fail
 go_loopg [8,5] L.length (fun g i _ wr=>∃j:Nat,i= .int .i64 j/\j+g=L.length/\Hid (∀k,k < j ->L.getD k 0≠c)/\wr=W)
 case atStart=>exact⟨0,rfl,by omega,a6 (fun k hk=>by omega),rfl⟩
 case round=>
  obtain⟨j,rfl,hg,Hk,rfl⟩:=hrel
  by_cases hlt:j < L.length
  . have hlti:(j:Int) < L.length:=by omega
    have x0:=Hc.o j hlt
    have hmem:L.getD j 0∈L:=by rw [List.getD_eq_getElem?_getD,List.getElem?_eq_getElem hlt];exact List.getElem_mem hlt
    have hy0:Hid (L.getD j 0=L.getD j 0):=a6 rfl
    generalize hy:L.getD j 0=y at x0 hmem
    have Hy:=a6 hy
    clear hy hy0
    by_cases he:y=c
    . have hb:((c.toNat:Int) == (y.toNat:Int))=true:=by rw [he];simp
      have Hm:=a6 (show c∈L by rw [<- he];exact hmem)
      clear he hmem
      go_wp2_with fail
      go_ret
      exact⟨⟨j,rfl,by rw [decide_eq_true Hm.o];simp⟩,rfl⟩
    . have hb:((c.toNat:Int) == (y.toNat:Int))=false:=by
       rw [beq_eq_false_iff_ne]
       intro e
       exact he (UInt8.toNat_inj.1 (by omega))
      have He:=a6 he
      clear he hmem
      go_wp2_with fail
      go_roundg (L.length - (j+1))
      case measure=>omega
      case rel=>exact⟨j+1,by go_num,by omega,a6 (fun k hk=>by
       rcases Nat.lt_or_ge k j with h | h
       . exact Hk.o k h
       . obtain rfl:k=j:=by omega
         exact fun e=>He.o (Hy.o.symm.trans e)),rfl⟩
  . obtain rfl:j=L.length:=by omega
    have Hm:=a6 (show c ∉ L from fun h=>by
     obtain⟨k,hk,e⟩:=List.mem_iff_getElem.1 h
     exact Hk.o k hk (by rw [List.getD_eq_getElem?_getD,List.getElem?_eq_getElem hk];exact e))
    go_wp2_with fail
    go_ret
    exact⟨⟨-1,rfl,by rw [decide_eq_false Hm.o];rfl⟩,rfl⟩
theorem l_U (L:List UInt8) (c:UInt8) (b cap:Nat) (W:World) (hc:∀j,j < L.length ->W.cell? ⟨b,j,none⟩=some (.int .u8 (L.getD j 0).toNat)) (hn:L.length <= 1000):
 Calls Tryz.prog 177 #[.slice (some ⟨b,0,none⟩) L.length cap, .int .u8 c.toNat] W (fun e w'=>e= .returned (.bool (decide (c∈L)))/\w'=W):=by
 have HI:=a6 (k_f L c b cap W hc hn)
 generalize decide (c∈L)=r at HI⊢
 clear hc
 go_enter Tryz.func177,Tryz.ntmps177
 go_wp2_with fail
 refine HI.o.mono ?_
 rintro e w1 ⟨⟨z,rfl,hz⟩,rfl⟩
 have Hz:=a6 hz
 clear HI hz
 go_wp2_with fail
 go_ret
 exact⟨b7 Hz.o,rfl⟩
end Go.Proofs.YtmadpclcmjahoaaGreatDoor
