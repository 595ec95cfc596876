/- Parts of the proof: CC4. -/
import Derived.Test.YtmadpclcmjahoaaGreatDoorCC3
set_option linter.unusedVariables false
set_option linter.unusedSimpArgs false
set_option maxHeartbeats 8000000
set_option maxRecDepth 100000
namespace Go.Proofs.YtmadpclcmjahoaaGreatDoor
open Go.RowKit Go.Redl
theorem _root_.Go.Redl.RowA.full {w:World} {B sz n cap:Nat} {a:Option Addr} {cs:List Value} (h:RowA w B sz a n cap cs):RowA w B sz a n n cs:=
 ⟨h.len,a8,aJ h.le h.max,h.one,fun e=>by have:=h.nil e;have:=h.le;omega,h.some_⟩
theorem NQ {w w':World} (h:w.grownBy w' none):Below w w w':=⟨h.os,h.tape,h.output,h.size,fun i hi=>h.block i hi P6⟩
theorem f_t {P:Program} (w:World) (t ty e:TypeId) (i:TypeInfo) (z:Value) (size bytes:Nat) (ht:P.underlying t=some (.slice e)) (hi:P.info? e=some i) (hz:i.zero=some z)
 (f:i.size=size) (o:i.bytes=bytes) (p:z.cells.size=size) (hsz:0 < size)
 (a:Option Addr) (n B:Nat) (xs:List Value) (hr:RowA w B size a n n xs)
 (ad:Addr) (m c:Nat) (news:List Value) (hm:0 < m) (hl:news.length=m * size) (g:∀j u,news[j]? =some u ->w.cell? (ad.add j)=some u) (h1:∀u∈news,u.oneCell'=true)
 (l:n+m <= maxLen) (d:(n+m) * bytes <= 140737488355328):
 ∃v' w',(Builtin.append_ #[t,t] ty #[(a,n,n),((some ad),m,c)]).run P w= .ok v' w'/\w'.ownsRow w e size v' (n+m) (xs ++ news)/\Below w w w':=by
 cases a with
 | none=>
   have hn:n=0:=hr.nil rfl;subst hn;have hx:xs= []:=O2 SJ
   subst hx;obtain⟨v',w',h,h2,h3, -⟩:=run_append_own (P:=P) w w t ty e i z size bytes ht hi hz f o p hsz () 0 [] (World.ownsRow_nil _ _ _ _) ad m c news hl g h1 l d (a8);exact⟨v',w',h,h2,NQ h3⟩
 | some b=>
   subst f;subst o;have h:=run_append_grow (P:=P) w t ty e i z ht hi hz b n n xs hr.len hr.cells ad m c news hl g P2 (by unfold maxLen at l;omega) (growslice_fits P2 d)
   have q:=grownCap_ge w (n+m) n e;have r:grownCap w (n+m) n e <= maxLen:=grownCap_le_maxLen w (n+m) n e l;have hlen:(xs ++ news).length=(n+m) * i.size:=by rw [NZ,hr.len,hl,Nat.add_mul]
   refine⟨_,_,h,⟨hlen, .inr ⟨w,_,_,rfl,a8,heap_alloc_new w.drew _,q,r, ?_, ?_⟩⟩,⟨rfl,rfl,rfl,by simp,fun k hk=>heap_alloc_old w.drew _ (show k < w.drew.heap.size from hk)⟩⟩
   . simp only [Array.size_append,List.size_toArray,size_zeroCells,p,hr.len,hl, <- Nat.add_mul]
     congr 1
     omega
   simp only [Array.toList_append,O4];rw [<- List.append_assoc, <- hlen];exact List.take_left
theorem l_B {P:Program} {ops:Array Oper} {o:Oper} {a:Act} {w:World} {K:Act ->World ->Prop} {Q:Exit ->Act ->World ->Prop} {E:Prop}
 (hg:o.guard=none) (s x:Operand) (t:TypeId) (ho:o.op= .call { callee:= .builtin .append,args:= #[s,x],argTypes:= #[t,t] })
 (e:TypeId) (z:Value) (size bytes:Nat) (ht:P.underlying t=some (.slice e)) (hi:(P.info? e).map (fun i=>(i.zero,i.size,i.bytes))=some (some z,size,bytes))
 (j:z.cells.size=size) (hsz:0 < size)
 (av:Option Addr) (n B0:Nat) (xs:List Value) (hs:a.eval s= .slice av n n) (f:RowA w B0 size av n n xs)
 (ad:Addr) (m c B:Nat) (news:List Value) (hx:a.eval x= .slice (some ad) m c) (hr:RowA w B size (some ad) m c news) (hm:0 < m)
 (k:n+m <= maxLen) (b:(n+m) * bytes <= 140737488355328)
 (h:∀v' w',w'.ownsRow w e size v' (n+m) (xs ++ news) ->Below w w w' ->K (a.put o.dst v') w'):if Region.wanted o (yielded ops a.tmps)=true then Oper.wp P o a w K Q else E:=by
 have hw:Region.wanted o (yielded ops a.tmps)=true:=S4
 rw [if_pos hw];obtain⟨i,l,hz,d,p⟩:=info_parts hi;obtain⟨v',w',g,h2,h3⟩:=f_t (P:=P) w t o.type e i z size bytes ht l hz d p j hsz av n B0 xs f ad m c news hm hr.len hr.cells hr.one k b;unfold Oper.wp execOp;simp only [ho,resolve,invoke,builtin,Sem.run_bind,Sem.run_pure,Result.andThen_ok,List.map_toArray,List.map_cons,List.map_nil,hs,hx,g];exact h v' w' h2 h3
structure K0 (ob:Nat) (v v':Value) (w w':World):Prop where
 os:w'.os=w.os
 tape:w'.tape=w.tape
 output:w'.output=w.output
 size:w.heap.size <= w'.heap.size
 block:∀b,b < w.heap.size ->b≠ob ->v.ownBlock≠some b ->w'.heap[b]? =w.heap[b]?
 where_:v'.ownBlock=v.ownBlock∨ ∀k,v'.ownBlock=some k ->w.heap.size <= k
theorem K0.refl (ob:Nat) (v:Value) (w:World):K0 ob v v w w:=⟨rfl,rfl,rfl,a8,fun _ _ _ _=>rfl, .inl rfl⟩
theorem K0.trans {ob:Nat} {v1 v2 v3:Value} {w1 w2 w3:World} (h:K0 ob v1 v2 w1 w2) (k:K0 ob v2 v3 w2 w3):K0 ob v1 v3 w1 w3:=by
 refine⟨k.os.trans h.os,k.tape.trans h.tape,k.output.trans h.output,aJ h.size k.size,fun b hb a hv=> ?_, ?_⟩
 . rw [k.block b (Nat.lt_of_lt_of_le hb h.size) a ?_,h.block b hb a hv]
   rcases h.where_ with e | e
   . rw [e];exact hv
   intro e2;have:=e b e2;omega
 have:=h.size;rcases k.where_ with e | e
 . rw [e];exact h.where_
 exact .inr fun k hk=>by have:=e k hk;omega
theorem K0.then {ob:Nat} {v1 v2:Value} {w1 w2 w3:World} (h:K0 ob v1 v2 w1 w2) (k:Below w2 w2 w3):K0 ob v1 v2 w1 w3:=
 h.trans ⟨k.os,k.tape,k.output,k.size,fun b hb _ _=>k.block b hb, .inl rfl⟩
theorem K0.stay {ob M:Nat} {v v':Value} {w w':World} (h:K0 ob v v' w w') (c:ob < M):b_0 w w' (fun b=>M <= b/\v.ownBlock≠some b) (fun b=>M <= b/\v'.ownBlock≠some b):=by
 refine⟨h.size,fun b hb a=>h.block b a P2 hb.2,fun b hb a=>⟨hb.1, ?_⟩⟩;rcases h.where_ with e | e
 . rw [e];exact hb.2
 intro e2;have:=e b e2;omega
theorem K0.below {ob B:Nat} {v v':Value} {w w':World} (h:K0 ob v v' w w') (hB:B <= ob) (hw:B <= w.heap.size) (hv:∀k,v.ownBlock=some k ->B <= k):Below B w w':=
 ⟨h.os,h.tape,h.output,h.size,fun b hb=>h.block b P2 P2 (fun e=>by have:=hv b e;omega)⟩
theorem tQ.stay {w w':World} {ok ok':Nat ->Prop} {l:List (List Int)} {cs:List Value} (h:tQ w ok l cs) (s:b_0 w w' ok ok'):tQ w' ok' l cs:=h.keep s.size s.block s.let_
end Go.Proofs.YtmadpclcmjahoaaGreatDoor
namespace Go.Redl
open Go.RowKit
theorem RowA.q {w:World} {B sz n cap:Nat} {a:Option Addr} {cs:List Value} (h:RowA w B sz a n cap cs) (hB:B <= w.heap.size):RowQ w (fun b=>b < B) sz a n cap cs:=
 ⟨h.len,h.le,h.max,h.one,h.nil,fun c=>by
  obtain⟨b,off,ha,hb,hc⟩:=h.some_ c;exact⟨b,off,ha,hb,Nat.lt_of_lt_of_le hb hB,hc⟩⟩
mutual
theorem dY.q {w:World} {B:Nat} (hB:B <= w.heap.size):∀ (n:aX) (cs:List Value),dY w B n cs ->NodeQ w (fun b=>b < B) n cs
 | .mk l ps t ks,cs=>by
   intro h;unfold dY at h;unfold NodeQ;obtain⟨ap,cp,at_,ct,ak,ck,css,h1,h2,h3,h4,h5,h6⟩:=h;exact⟨ap,cp,at_,ct,ak,ck,css,h1,h2.q hB,h3.q hB,h4,h5.q hB,eX.q hB ks css h6⟩
theorem eX.q {w:World} {B:Nat} (hB:B <= w.heap.size):∀ (ks:List aX) (css:List Value),eX w B ks css ->dK w (fun b=>b < B) ks css
 | [],css=>by intro h;unfold eX at h;unfold dK;exact h
 | k::ks,css=>by
   intro h;unfold eX at h;unfold dK;obtain⟨c1,c2,h1,h2,h3⟩:=h;exact⟨c1,c2,h1,dY.q hB k c1 h2,eX.q hB ks c2 h3⟩
end
theorem g_A (w:World) (ok:Nat ->Prop):NodeQ w ok (.mk false [] [] []) [false,(),(),()]:=by
 unfold NodeQ;exact⟨none,0,none,0,none,0, [],rfl,RowQ.empty _ _ _,RowQ.empty _ _ _,by simp,RowQ.empty _ _ _,by unfold dK;rfl⟩
end Go.Redl
namespace Go.Proofs.YtmadpclcmjahoaaGreatDoor
open Go.RowKit Go.Redl
abbrev f_I (w:World) (ok:Nat ->Prop) (a:Option Addr) (c:Nat) (p:List Int):Prop:=RowQ w ok 1 a p.length c (p.map (Value.int .i64))
def I6 (o:fZ) (pa:Option Addr) (pc:Nat) (ta:Option Addr) (tc:Nat) (n0 n1 n2 n3:Value) (oa:Option Addr) (oc:Nat):List Value:=
 [o.kind,(pa,o.path.length,pc),(ta,o.dest.length,tc),o.pos,n0,n1,n2,n3,(oa,o.old.length,oc),(),(),
  false,(),OY,(),OY,false,(),OY,(),OY]
def OpQ (w:World) (ok:Nat ->Prop) (o:fZ) (cs:List Value):Prop:=
 ∃pa pc ta tc n0 n1 n2 n3 oa oc,cs=I6 o pa pc ta tc n0 n1 n2 n3 oa oc/\f_I w ok pa pc o.path/\f_I w ok ta tc o.dest/\NodeQ w ok o.node [n0,n1,n2,n3]/\RowQ w ok 2 oa o.old.length oc (cK o.old)
def m8 (w:World) (ok:Nat ->Prop):List fZ ->List Value ->Prop
 | [],css=>css= []
 | o::os,css=>∃c1 c2,css=c1 ++ c2/\OpQ w ok o c1/\m8 w ok os c2
theorem OpQ.stay {w w':World} {ok ok':Nat ->Prop} {o:fZ} {cs:List Value} (h:OpQ w ok o cs) (s:b_0 w w' ok ok'):OpQ w' ok' o cs:=by
 obtain⟨pa,pc,ta,tc,n0,n1,n2,n3,oa,oc,rfl,h1,h2,h3,h4⟩:=h;exact⟨pa,pc,ta,tc,n0,n1,n2,n3,oa,oc,rfl,h1.stay s,h2.stay s,h3.stay s,h4.stay s⟩
theorem m8.stay {w w':World} {ok ok':Nat ->Prop} (s:b_0 w w' ok ok'):∀ {os:List fZ} {css:List Value},m8 w ok os css ->m8 w' ok' os css
 | [],css,h=>by unfold m8 at h⊢;exact h
 | o::os,css,h=>by
   unfold m8 at h⊢;obtain⟨c1,c2,h1,h2,h3⟩:=h;exact⟨c1,c2,h1,h2.stay s,m8.stay s h3⟩
theorem OpQ.len {w:World} {ok:Nat ->Prop} {o:fZ} {cs:List Value} (h:OpQ w ok o cs):cs.length=21:=by
 obtain⟨pa,pc,ta,tc,n0,n1,n2,n3,oa,oc,rfl, -⟩:=h;rfl
theorem OpQ.one {w:World} {ok:Nat ->Prop} {o:fZ} {cs:List Value} (h:OpQ w ok o cs):∀u∈cs,u.oneCell'=true:=by
 obtain⟨pa,pc,ta,tc,n0,n1,n2,n3,oa,oc,rfl, -, -,h3, -⟩:=h;have hn:=(NodeQ.node _ _ h3).one
 simp at hn
 obtain⟨g0,g1,g2,g3⟩:=hn;intro u hu;simp only [I6,List.mem_cons,List.not_mem_nil,or_false]at hu;rcases hu with h | h | h | h | h | h | h | h | h | h | h | h | h | h | h | h | h | h | h | h | h
 all_goals
  subst h
  first | rfl | assumption
theorem m8.len {w:World} {ok:Nat ->Prop}:∀ {os:List fZ} {css:List Value},m8 w ok os css ->css.length=os.length * 21
 | [],css,h=>by unfold m8 at h;subst h;rfl
 | o::os,css,h=>by
   unfold m8 at h;obtain⟨c1,c2,rfl,h2,h3⟩:=h;have a:=h2.len;have b:=m8.len h3
   simp only [NZ,O7];omega
theorem m8.one {w:World} {ok:Nat ->Prop}:∀ {os:List fZ} {css:List Value},m8 w ok os css ->∀u∈css,u.oneCell'=true
 | [],css,h=>by unfold m8 at h;subst h;simp
 | o::os,css,h=>by
   unfold m8 at h;obtain⟨c1,c2,rfl,h2,h3⟩:=h;intro u hu;rcases OQ hu with hu | hu
   . exact h2.one u hu
   exact m8.one h3 u hu
theorem m8.nil (w:World) (ok:Nat ->Prop):m8 w ok [] []:=by unfold m8;rfl
theorem m8.single {w:World} {ok:Nat ->Prop} {o:fZ} {c:List Value} (h:OpQ w ok o c):m8 w ok [o] c:=by
 unfold m8;exact⟨c, [],by simp,h,m8.nil _ _⟩
theorem m8.append {w:World} {ok:Nat ->Prop}:∀ {os os':List fZ} {css css':List Value},m8 w ok os css ->m8 w ok os' css' ->m8 w ok (os ++ os') (css ++ css')
 | [],os',css,css',h,h'=>by unfold m8 at h;subst h;exact h'
 | o::os,os',css,css',h,h'=>by
   unfold m8 at h;obtain⟨c1,c2,rfl,h2,h3⟩:=h;rw [List.cons_append];unfold m8;exact⟨c1,c2 ++ css',by simp,h2,m8.append h3 h'⟩
theorem m8.at_ {w:World} {ok:Nat ->Prop}:∀ {os:List fZ} {css:List Value},m8 w ok os css ->∀ (i:Nat) (hi:i < os.length),∃c,OpQ w ok os[i] c/\∀j,j < 21 ->css[i * 21+j]? =c[j]?
 | [],css,h,i,hi=>absurd hi P6
 | k::ks,css,h,0,hi=>by
   unfold m8 at h;obtain⟨c1,c2,rfl,h2,h3⟩:=h;refine⟨c1,h2,fun j hj=> ?_⟩;rw [Nat.zero_mul,O5,List.getElem?_append_left (by rw [h2.len];exact hj)]
 | k::ks,css,h,i+1,hi=>by
   unfold m8 at h;obtain⟨c1,c2,rfl,h2,h3⟩:=h;obtain⟨c,hc,a⟩:=m8.at_ h3 i R4;refine⟨c,by simpa using hc,fun j hj=> ?_⟩;rw [OX u_0, <- a j hj,h2.len]
   congr 1;omega
def p_Q (w:World) (l:List fZ) (v:Value):Prop:= ∃a c css,v= .slice a l.length c/\RowA w w 21 a l.length c css/\m8 w (fun _=>True) l css
theorem d_R {w w':World} (hb:Below w w w') (ok:Nat ->Prop):b_0 w w' ok ok:=⟨hb.size,fun b _ a=>hb.block b a,fun _ h _=>h⟩
theorem p_Q.of_own {w:World} {base e:Nat} {l:List fZ} {v:Value} {css:List Value} {ok:Nat ->Prop} (h:w.ownsRow base e 21 v l.length css) (hq:m8 w ok l css):p_Q w l v:=by
 obtain⟨a,c,hv,hr⟩:=eK h hq.one;exact⟨a,c,css,hv,hr,hq.stay ⟨a8,fun _ _ _=>rfl,fun _ _ _=>trivial⟩⟩
theorem n_p (m:Nat) (w:World) (hm:m <= 1000000):
 Calls Tryz.prog 197 #[(),m] w (vX w 3 1 0 []):=by
 by_cases h0:m=0
 . subst h0
   go_enter Tryz.func197,Tryz.ntmps197
   go_wp2_with fail;go_ret;exact⟨_,rfl,World.ownsRow_nil _ _ _ _,a7⟩
 have b:0 < m:=P2
 go_enter Tryz.func197,Tryz.ntmps197
 go_wp2_with (at_builtin;refine c_q rfl _ _ 36 3 rfl 3 OY 1 8 Tryz.underlying36 Tryz.underlying3 b_D rfl P9 m b rfl rfl ?h63 ?hb ?_)
 case h63=>omega
 case hb=>omega
 intro g cap w1 a d c hb;have Ho:=a6 a;have Hb:=a6 hb;clear a hb
 unfold maxLen at c;go_wp2_with fail;go_ret;exact⟨_,rfl,Ho.o,Hb.o⟩
theorem b_4 (a:Option Addr) (cap B:Nat) (vals:List Value) (pss:List (List Value)) (w:World) (hr:RowA w B 1 a vals.length cap vals) (hp:C7 w B vals pss)
 (hB:B <= w.heap.size) (hn:pss.flatten.length <= 1000000):
 Calls Tryz.prog 144 #[(a,vals.length,cap)] w (vX w 3 1 pss.flatten.length pss.flatten):=by
 have hm:vals.length <= 9223372036854775807:=PQ
 have Hn:=a6 hp.len
 go_enter Tryz.func144,Tryz.ntmps144
 go_wp2_with fail
 go_loop [3,11] (fun s i=>∃k:Nat,k <= vals.length/\i= .int .i64 k/\s= .int .i64 (tot pss k)) (fun _ i=>vals.length - (intOf i).toNat)
 case atStart=>exact⟨0,Nat.zero_le _,rfl,by rw [h_n];rfl⟩
 case round=>
  obtain⟨k,hk,rfl,rfl⟩:=hrel;have ht:=g_u pss k
  by_cases m:k < vals.length
  . have c:k < pss.length:=by rw [<- Hn.o];exact m
    have hs:=h_o pss k c;have t:=g_u pss (k+1);obtain⟨pa,pc,hv,p⟩:=hp.each k c;obtain⟨b,off,rfl,hb,d⟩:=hr.some_ (by rintro rfl;simp at m);have h:=d k _ hv;clear d;obtain⟨ps,j⟩:∃ps,pss.getD k []=ps:=⟨_,rfl⟩;rw [j]at hs hv h p;have r:(tot pss k:Int)+(ps.length:Int) <= 1000000:=P2
    have Hs:=a6 hs;have Hv:=a6 hv;have Hp:=a6 j
    clear hs hv j;go_wp2_with fail
    go_round
    case rel=>exact⟨k+1,by omega,by go_num,by rw [Hs.o];go_num⟩
    case measure=>simp [intOf];omega
  have:k=vals.length:=P2
  subst this;have H:=a6 (n_p (tot pss vals.length) w P2)
  go_wp2_with fail;refine H.o.mono ?_;rintro e w1 ⟨v,rfl,f,g⟩;have Ho:=a6 f;have Hb:=a6 g
  clear f g H;go_wp2_with fail
  go_loopw [6,27] (fun v i wr=>∃k:Nat,k <= vals.length/\i= .int .i64 k/\wr.ownsRow w 3 1 v (tot pss k) (pss.take k).flatten/\Below w w wr) (fun _ i _=>vals.length - (intOf i).toNat)
  case atStart=>exact⟨0,Nat.zero_le _,rfl,by rw [h_n];simpa using Ho.o,Hb.o⟩
  case round=>
   obtain⟨k,hk,rfl,f,g⟩:=hrel;clear Ho Hb;have ht:=g_u pss k
   have Ho:=a6 f;have Hb:=a6 g
   clear f g;by_cases m:k < vals.length
   . have c:k < pss.length:=by rw [<- Hn.o];exact m
     have hs:=h_o pss k c;have t:=g_u pss (k+1);have u:=hr.keep (Hb.o.mono hB) (a8);have x:=hp.keep (Hb.o.mono hB) (a8);obtain⟨pa,pc,hv,p⟩:=x.each k c;obtain⟨b,off,rfl,hb,d⟩:=u.some_ (by rintro rfl;simp at m);have h:=d k _ hv;clear d;have q:=f_E pss k c
     obtain⟨ps,j⟩:∃ps,pss.getD k []=ps:=⟨_,rfl⟩;rw [j]at hs hv h p q;have r:(tot pss k:Int)+(ps.length:Int) <= 1000000:=P2
     have Hs:=a6 hs;have Hv:=a6 hv;have Hp:=a6 j;have Hf:=a6 q
     clear hs hv j q;go_wp2_with (at_builtin;refine u_9 rfl _ _ 36 rfl w.heap.size 3 OY 1 8 Tryz.underlying36 b_D rfl P9 _ _ _ rfl Ho.o _ ps.length pc B ps rfl p ?h63 ?hb ?hbase ?_)
     case h63=>unfold maxLen;omega
     case hb=>omega
     case hbase=>exact Hb.o.size
     intro v' w2 l n;rw [<- Hs.o, <- Hf.o]at l;have o:=Hb.o.grown n Hb.o.size (fun k hk=>(Ho.o.lt k hk).1)
     have y:=a6 l;have z:=a6 o
     clear l n o;go_wp2_with fail
     go_roundw
     case rel=>exact⟨k+1,by omega,by go_num,y.o,z.o⟩
     case measure=>simp [intOf];omega
   have:k=vals.length:=P2
   subst this;go_wp2_with fail;go_ret;refine⟨_,rfl, ?_,Hb.o⟩;have:=Ho.o;rw [Hn.o,p_G,List.take_of_length_le (a8)]at this;exact this
theorem h_r (n:Nat) (a:Option Addr) (cap cb:Nat) (caps:Array Value) (pred:Nat ->Bool) (W:World) (hn:n <= 100000000) (p:∀args w,(callFunc cb args).run Tryz.prog w= .ok (.enter cb args) w)
 (H:∀ (k:Nat) (W':World),k < n ->Below W W W' ->∃b off c0 c1 c2 c3 c4 c5 c6 c7,a=some ⟨b,off,none⟩/\W'.cell? ⟨b,off+k * 8,none⟩=some c0/\W'.cell? ⟨b,off+k * 8+1,none⟩=some c1/\W'.cell? ⟨b,off+k * 8+2,none⟩=some c2/\W'.cell? ⟨b,off+k * 8+3,none⟩=some c3/\W'.cell? ⟨b,off+k * 8+4,none⟩=some c4/\W'.cell? ⟨b,off+k * 8+5,none⟩=some c5/\W'.cell? ⟨b,off+k * 8+6,none⟩=some c6/\W'.cell? ⟨b,off+k * 8+7,none⟩=some c7/\Calls Tryz.prog cb (#[.agg #[c0,c1,c2,c3,c4,c5,c6,c7]] ++ caps) W' fun e w'=>e= .returned (pred k)/\Below W' W' w'):
 Calls Tryz.prog 94 #[(a,n,cap), .func (.func cb) #[] caps] W fun e w'=>e= .returned (uZ pred n)/\Below W W w':=by
 have HH:=a6 H;clear H;go_enter Tryz.func94,Tryz.ntmps94;go_wp2_with fail
 go_loopg [8] n (fun g i wr=>∃k:Nat,k+g=n/\i= .int .i64 k/\(∀j,j < k ->pred j=false)/\Below W W wr)
 case atStart=>exact⟨0,by omega,rfl,by intro j hj;omega,a7⟩
 case round=>
  obtain⟨k,hg,rfl,hb,f⟩:=hrel;have d:=a6 f;have Hb:=a6 hb
  by_cases m:k < n
  . obtain ⟨b,off,c0,c1,c2,c3,c4,c5,c6,c7,rfl,h0,h1,h2,h3,h4,h5,h6,h7,hC⟩:=HH.o k wr m f
    have o:(k:Int) < n:=P2
    clear hb f HH;cases hp:pred k with
    | true=>
      rw [hp]at hC;have HC:=a6 hC
      have Hr:=a6 (vQ m hp Hb.o);clear hC hp;go_wp2_with fail;refine HC.o.mono ?_;rintro e w1 ⟨rfl,c⟩;have l:=a6 (d.o.trans (c.mono d.o.size))
      clear c HC;go_wp2_with fail;go_ret;exact⟨dV Hr.o.symm,l.o⟩
    | false=>
      rw [hp]at hC;have HC:=a6 hC
      have Hr:=a6 (show ∀j,j < k+1 ->pred j=false from fun j hj=>by
       rcases Nat.lt_or_ge j k with h | h
       . exact Hb.o j h
       obtain rfl:j=k:=P2
       exact hp)
      clear hC hp;go_wp2_with fail;refine HC.o.mono ?_;rintro e w1 ⟨rfl,c⟩;have l:=a6 (d.o.trans (c.mono d.o.size))
      clear c HC;go_wp2_with fail
      go_roundg (gk - 1)
      case measure=>omega
      case rel=>exact⟨k+1,by omega,by go_num,Hr.o,l.o⟩
  obtain rfl:k=n:=P2
  have Hr:=a6 (tK hb);clear hb f HH;go_wp2_with fail;go_ret;exact⟨dV Hr.o.symm,d.o⟩
theorem n_q (n:Nat) (a:Option Addr) (cap cb:Nat) (caps:Array Value) (pred:Nat ->Bool) (W:World) (hn:n <= 100000000) (p:∀args w,(callFunc cb args).run Tryz.prog w= .ok (.enter cb args) w)
 (H:∀ (k:Nat) (W':World),k < n ->Below W W W' ->∃b off c0 c1 c2,a=some ⟨b,off,none⟩/\W'.cell? ⟨b,off+k * 3,none⟩=some c0/\W'.cell? ⟨b,off+k * 3+1,none⟩=some c1/\W'.cell? ⟨b,off+k * 3+2,none⟩=some c2/\Calls Tryz.prog cb (#[.agg #[c0,c1,c2]] ++ caps) W' fun e w'=>e= .returned (pred k)/\Below W' W' w'):
 Calls Tryz.prog 166 #[(a,n,cap), .func (.func cb) #[] caps] W fun e w'=>e= .returned (uZ pred n)/\Below W W w':=by
 have HH:=a6 H;clear H;go_enter Tryz.func166,Tryz.ntmps166;go_wp2_with fail
 go_loopg [8] n (fun g i wr=>∃k:Nat,k+g=n/\i= .int .i64 k/\(∀j,j < k ->pred j=false)/\Below W W wr)
 case atStart=>exact⟨0,by omega,rfl,by intro j hj;omega,a7⟩
 case round=>
  obtain⟨k,hg,rfl,hb,f⟩:=hrel;have d:=a6 f;have Hb:=a6 hb
  by_cases m:k < n
  . obtain ⟨b,off,c0,c1,c2,rfl,h0,h1,h2,hC⟩:=HH.o k wr m f
    have o:(k:Int) < n:=P2
    clear hb f HH;cases hp:pred k with
    | true=>
      rw [hp]at hC;have HC:=a6 hC
      have Hr:=a6 (vQ m hp Hb.o);clear hC hp;go_wp2_with fail;refine HC.o.mono ?_;rintro e w1 ⟨rfl,c⟩;have l:=a6 (d.o.trans (c.mono d.o.size))
      clear c HC;go_wp2_with fail;go_ret;exact⟨dV Hr.o.symm,l.o⟩
    | false=>
      rw [hp]at hC;have HC:=a6 hC
      have Hr:=a6 (show ∀j,j < k+1 ->pred j=false from fun j hj=>by
       rcases Nat.lt_or_ge j k with h | h
       . exact Hb.o j h
       obtain rfl:j=k:=P2
       exact hp)
      clear hC hp;go_wp2_with fail;refine HC.o.mono ?_;rintro e w1 ⟨rfl,c⟩;have l:=a6 (d.o.trans (c.mono d.o.size))
      clear c HC;go_wp2_with fail
      go_roundg (gk - 1)
      case measure=>omega
      case rel=>exact⟨k+1,by omega,by go_num,Hr.o,l.o⟩
  obtain rfl:k=n:=P2
  have Hr:=a6 (tK hb);clear hb f HH;go_wp2_with fail;go_ret;exact⟨dV Hr.o.symm,d.o⟩
theorem p_R (n:Nat) (a:Option Addr) (cap cb:Nat) (caps:Array Value) (pred:Nat ->Bool) (W:World) (hn:n <= 100000000) (p:∀args w,(callFunc cb args).run Tryz.prog w= .ok (.enter cb args) w)
 (H:∀ (k:Nat) (W':World),k < n ->Below W W W' ->∃b off c0 c1,a=some ⟨b,off,none⟩/\W'.cell? ⟨b,off+k * 2,none⟩=some c0/\W'.cell? ⟨b,off+k * 2+1,none⟩=some c1/\Calls Tryz.prog cb (#[.agg #[c0,c1]] ++ caps) W' fun e w'=>e= .returned (pred k)/\Below W' W' w'):
 Calls Tryz.prog 201 #[(a,n,cap), .func (.func cb) #[] caps] W fun e w'=>e= .returned (uZ pred n)/\Below W W w':=by
 have HH:=a6 H;clear H;go_enter Tryz.func201,Tryz.ntmps201;go_wp2_with fail
 go_loopg [8] n (fun g i wr=>∃k:Nat,k+g=n/\i= .int .i64 k/\(∀j,j < k ->pred j=false)/\Below W W wr)
 case atStart=>exact⟨0,by omega,rfl,by intro j hj;omega,a7⟩
 case round=>
  obtain⟨k,hg,rfl,hb,f⟩:=hrel;have d:=a6 f;have Hb:=a6 hb
  by_cases m:k < n
  . obtain ⟨b,off,c0,c1,rfl,h0,h1,hC⟩:=HH.o k wr m f
    have o:(k:Int) < n:=P2
    clear hb f HH;cases hp:pred k with
    | true=>
      rw [hp]at hC;have HC:=a6 hC
      have Hr:=a6 (vQ m hp Hb.o);clear hC hp;go_wp2_with fail;refine HC.o.mono ?_;rintro e w1 ⟨rfl,c⟩;have l:=a6 (d.o.trans (c.mono d.o.size))
      clear c HC;go_wp2_with fail;go_ret;exact⟨dV Hr.o.symm,l.o⟩
    | false=>
      rw [hp]at hC;have HC:=a6 hC
      have Hr:=a6 (show ∀j,j < k+1 ->pred j=false from fun j hj=>by
       rcases Nat.lt_or_ge j k with h | h
       . exact Hb.o j h
       obtain rfl:j=k:=P2
       exact hp)
      clear hC hp;go_wp2_with fail;refine HC.o.mono ?_;rintro e w1 ⟨rfl,c⟩;have l:=a6 (d.o.trans (c.mono d.o.size))
      clear c HC;go_wp2_with fail
      go_roundg (gk - 1)
      case measure=>omega
      case rel=>exact⟨k+1,by omega,by go_num,Hr.o,l.o⟩
  obtain rfl:k=n:=P2
  have Hr:=a6 (tK hb);clear hb f HH;go_wp2_with fail;go_ret;exact⟨dV Hr.o.symm,d.o⟩
theorem h_s (n:Nat) (a:Option Addr) (cap cb:Nat) (caps:Array Value) (pred:Nat ->Bool) (W:World) (hn:n <= 100000000) (p:∀args w,(callFunc cb args).run Tryz.prog w= .ok (.enter cb args) w)
 (H:∀ (k:Nat) (W':World),k < n ->Below W W W' ->∃b off c0 c1 c2 c3,a=some ⟨b,off,none⟩/\W'.cell? ⟨b,off+k * 4,none⟩=some c0/\W'.cell? ⟨b,off+k * 4+1,none⟩=some c1/\W'.cell? ⟨b,off+k * 4+2,none⟩=some c2/\W'.cell? ⟨b,off+k * 4+3,none⟩=some c3/\Calls Tryz.prog cb (#[.agg #[c0,c1,c2,c3]] ++ caps) W' fun e w'=>e= .returned (pred k)/\Below W' W' w'):
 Calls Tryz.prog 160 #[(a,n,cap), .func (.func cb) #[] caps] W fun e w'=>e= .returned (uZ pred n)/\Below W W w':=by
 have HH:=a6 H;clear H;go_enter Tryz.func160,Tryz.ntmps160;go_wp2_with fail
 go_loopg [8] n (fun g i wr=>∃k:Nat,k+g=n/\i= .int .i64 k/\(∀j,j < k ->pred j=false)/\Below W W wr)
 case atStart=>exact⟨0,by omega,rfl,by intro j hj;omega,a7⟩
 case round=>
  obtain⟨k,hg,rfl,hb,f⟩:=hrel;have d:=a6 f;have Hb:=a6 hb
  by_cases m:k < n
  . obtain ⟨b,off,c0,c1,c2,c3,rfl,h0,h1,h2,h3,hC⟩:=HH.o k wr m f
    have o:(k:Int) < n:=P2
    clear hb f HH;cases hp:pred k with
    | true=>
      rw [hp]at hC;have HC:=a6 hC
      have Hr:=a6 (vQ m hp Hb.o);clear hC hp;go_wp2_with fail;refine HC.o.mono ?_;rintro e w1 ⟨rfl,c⟩;have l:=a6 (d.o.trans (c.mono d.o.size))
      clear c HC;go_wp2_with fail;go_ret;exact⟨dV Hr.o.symm,l.o⟩
    | false=>
      rw [hp]at hC;have HC:=a6 hC
      have Hr:=a6 (show ∀j,j < k+1 ->pred j=false from fun j hj=>by
       rcases Nat.lt_or_ge j k with h | h
       . exact Hb.o j h
       obtain rfl:j=k:=P2
       exact hp)
      clear hC hp;go_wp2_with fail;refine HC.o.mono ?_;rintro e w1 ⟨rfl,c⟩;have l:=a6 (d.o.trans (c.mono d.o.size))
      clear c HC;go_wp2_with fail
      go_roundg (gk - 1)
      case measure=>omega
      case rel=>exact⟨k+1,by omega,by go_num,Hr.o,l.o⟩
  obtain rfl:k=n:=P2
  have Hr:=a6 (tK hb);clear hb f HH;go_wp2_with fail;go_ret;exact⟨dV Hr.o.symm,d.o⟩
theorem n_r (n:Nat) (a:Option Addr) (cap cb:Nat) (caps:Array Value) (pred:Nat ->Bool) (W:World) (hn:n <= 100000000) (p:∀args w,(callFunc cb args).run Tryz.prog w= .ok (.enter cb args) w)
 (H:∀ (k:Nat) (W':World),k < n ->Below W W W' ->∃b off c0 c1,a=some ⟨b,off,none⟩/\W'.cell? ⟨b,off+k * 2,none⟩=some c0/\W'.cell? ⟨b,off+k * 2+1,none⟩=some c1/\Calls Tryz.prog cb (#[.agg #[c0,c1]] ++ caps) W' fun e w'=>e= .returned (pred k)/\Below W' W' w'):
 Calls Tryz.prog 173 #[(a,n,cap), .func (.func cb) #[] caps] W fun e w'=>e= .returned (uZ pred n)/\Below W W w':=by
 have HH:=a6 H;clear H;go_enter Tryz.func173,Tryz.ntmps173;go_wp2_with fail
 go_loopg [8] n (fun g i wr=>∃k:Nat,k+g=n/\i= .int .i64 k/\(∀j,j < k ->pred j=false)/\Below W W wr)
 case atStart=>exact⟨0,by omega,rfl,by intro j hj;omega,a7⟩
 case round=>
  obtain⟨k,hg,rfl,hb,f⟩:=hrel;have d:=a6 f;have Hb:=a6 hb
  by_cases m:k < n
  . obtain ⟨b,off,c0,c1,rfl,h0,h1,hC⟩:=HH.o k wr m f
    have o:(k:Int) < n:=P2
    clear hb f HH;cases hp:pred k with
    | true=>
      rw [hp]at hC;have HC:=a6 hC
      have Hr:=a6 (vQ m hp Hb.o);clear hC hp;go_wp2_with fail;refine HC.o.mono ?_;rintro e w1 ⟨rfl,c⟩;have l:=a6 (d.o.trans (c.mono d.o.size))
      clear c HC;go_wp2_with fail;go_ret;exact⟨dV Hr.o.symm,l.o⟩
    | false=>
      rw [hp]at hC;have HC:=a6 hC
      have Hr:=a6 (show ∀j,j < k+1 ->pred j=false from fun j hj=>by
       rcases Nat.lt_or_ge j k with h | h
       . exact Hb.o j h
       obtain rfl:j=k:=P2
       exact hp)
      clear hC hp;go_wp2_with fail;refine HC.o.mono ?_;rintro e w1 ⟨rfl,c⟩;have l:=a6 (d.o.trans (c.mono d.o.size))
      clear c HC;go_wp2_with fail
      go_roundg (gk - 1)
      case measure=>omega
      case rel=>exact⟨k+1,by omega,by go_num,Hr.o,l.o⟩
  obtain rfl:k=n:=P2
  have Hr:=a6 (tK hb);clear hb f HH;go_wp2_with fail;go_ret;exact⟨dV Hr.o.symm,d.o⟩
theorem p_S (v1 v2:Value) (B:Nat) (xs ys:List Int) (w:World) (h1:c_r .i32 w B v1 xs) (h2:c_r .i32 w B v2 ys):
 Calls Tryz.prog 80 #[v1,v2] w fun e w'=>e= .returned (decide (xs=ys))/\pY w w':=by
 obtain⟨⟨a,cap,rfl,hr⟩, -⟩:=h1;obtain⟨⟨a',cap',rfl,j⟩, -⟩:=h2;have hm:xs.length <= 9223372036854775807:=PQ
 have n:ys.length <= 9223372036854775807:=RJ
 by_cases hl:xs.length=ys.length
 . go_enter Tryz.func80,Tryz.ntmps80
   have o:ys.length <= xs.length:=P2
   have m:xs.length <= ys.length:=P2
   have l:(((xs.length:Nat):Int) != (ys.length:Int))=false:=XQ
   have Hl:=a6 hl;clear hl;go_wp2_with fail
   go_loopw [13] (fun i wr=>∃k:Nat,k <= xs.length/\i= .int .i64 k/\EZ xs ys k/\pY w wr) (fun i _=>xs.length - (intOf i).toNat)
   case atStart=>exact⟨0,Nat.zero_le _,rfl,E4 _ _,⟨0,rfl⟩⟩
   case round=>
    obtain⟨k,hk,rfl,hp,q,rfl⟩:=hrel;have Hp:=a6 hp;clear hp
    by_cases f:k < xs.length
    . obtain ⟨b,off,rfl,hb,d⟩:=hr.int_at k f
      obtain⟨b',off',rfl,p,c⟩:=j.int_at k P2;have d:=d k f;have c:=c k P2;have g:k < ys.length:=P2
      rw [gK f]at d;rw [gK g]at c;go_wp2_with fail
      by_cases he:xs[k]=ys[k]
      . have l:(xs[k] != ys[k])=false:=VQ
        have He:=a6 he;clear he
        go_quiet (fail)
        go_wp2_with fail
        go_roundw
        case rel=>exact⟨k+1,by omega,by go_num,E5 Hp.o f g He.o,by first | exact kY _ _ | exact j9 _ _ _⟩
        case measure=>simp [intOf];omega
      have l:(xs[k] != ys[k])=true:=VQ
      have He:=a6 he;clear he
      go_quiet (fail)
      go_wp2_with fail;go_ret;exact⟨bJ t_S,j9 _ _ _⟩
    go_wp2_with fail;go_ret;obtain rfl:k=xs.length:=P2
    exact⟨bJ WK,kY _ _⟩
 have l:(((xs.length:Nat):Int) != (ys.length:Int))=true:=P8
 have Hl:=a6 hl;clear hl
 go_enter Tryz.func80,Tryz.ntmps80
 go_wp2_with fail;go_ret;exact⟨bJ S5,CQ _⟩
theorem d_S {a b:List UInt8} (h:a≠b):((⟨a.toArray⟩:ByteArray).toList == (⟨b.toArray⟩:ByteArray).toList)=false:=by
 rw [ByteArray.toList_mk,ByteArray.toList_mk];simpa using h
theorem j_f (a a':Option Addr) (cap cap' B:Nat) (xs ys:List fQ) (w:World) (hr:RowA w B 2 a xs.length cap (cK xs)) (j:RowA w B 2 a' ys.length cap' (cK ys)):
 Calls Tryz.prog 158 #[(a,xs.length,cap),(a',ys.length,cap')] w fun e w'=>e= .returned (decide (xs=ys))/\pY w w':=by
 have hm:xs.length <= 9223372036854775807:=PQ
 have u:ys.length <= 9223372036854775807:=RJ
 by_cases hl:xs.length=ys.length
 . go_enter Tryz.func158,Tryz.ntmps158
   have v:ys.length <= xs.length:=P2
   have t:xs.length <= ys.length:=P2
   have n:(((xs.length:Nat):Int) != (ys.length:Int))=false:=XQ
   have Hl:=a6 hl;clear hl;go_wp2_with fail
   go_loopw [13] (fun i wr=>∃k:Nat,k <= xs.length/\i= .int .i64 k/\EZ xs ys k/\pY w wr) (fun i _=>xs.length - (intOf i).toNat)
   case atStart=>exact⟨0,Nat.zero_le _,rfl,E4 _ _,⟨0,rfl⟩⟩
   case round=>
    obtain⟨k,hk,rfl,hp,q,rfl⟩:=hrel;have Hp:=a6 hp;clear hp
    by_cases d:k < xs.length
    . obtain ⟨b,off,rfl,hb,l,m⟩:=hr.prop_at k d
      obtain⟨b',off',rfl,x,f,g⟩:=j.prop_at k P2;have c:k < ys.length:=P2
      have Hx:Hid (xs[k]=(xs[k].1,xs[k].2)):=rfl;have Hy:Hid (ys[k]=(ys[k].1,ys[k].2)):=rfl;generalize o:xs[k].1=x1 at l Hx;generalize p:xs[k].2=x2 at m Hx;generalize r:ys[k].1=y1 at f Hy;generalize s:ys[k].2=y2 at g Hy;clear o p r s;go_wp2_with fail
      by_cases he:x1=y1
      . subst he
        by_cases he:x2=y2
        . subst he
          have He:Hid (xs[k]=ys[k]):=Hx.o.trans Hy.o.symm
          go_quiet (fail)
          go_wp2_with fail
          go_roundw
          case rel=>exact⟨k+1,by omega,by go_num,E5 Hp.o d c He.o,by first | exact kY _ _ | exact j9 _ _ _⟩
          case measure=>simp [intOf];omega
        have He:Hid (xs[k]≠ys[k]):=by
         show xs[k]≠ys[k]
         rw [Hx.o,Hy.o];intro e;exact he (Prod.mk.inj e).2
        have h2:=d_S he;generalize (⟨x2.toArray⟩:ByteArray)=X2 at h2 m;generalize (⟨y2.toArray⟩:ByteArray)=Y2 at h2 g;clear he Hx Hy;go_quiet (fail);go_wp2_with fail;go_ret;exact⟨bJ s_V,j9 _ _ _⟩
      have He:Hid (xs[k]≠ys[k]):=by
       show xs[k]≠ys[k]
       rw [Hx.o,Hy.o];intro e;exact he (Prod.mk.inj e).1
      have h2:=d_S he;generalize (⟨x1.toArray⟩:ByteArray)=X1 at h2 l;generalize (⟨y1.toArray⟩:ByteArray)=Y1 at h2 f;clear he Hx Hy;go_quiet (fail);go_wp2_with fail;go_ret;exact⟨bJ s_V,j9 _ _ _⟩
    go_wp2_with fail;go_ret;obtain rfl:k=xs.length:=P2
    exact⟨bJ WK,kY _ _⟩
 have n:(((xs.length:Nat):Int) != (ys.length:Int))=true:=P8
 have Hl:=a6 hl;clear hl
 go_enter Tryz.func158,Tryz.ntmps158
 go_wp2_with fail;go_ret;exact⟨bJ S5,CQ _⟩
theorem n_s (a a':Option Addr) (cap cap' B:Nat) (xs ys:List fQ) (w:World) (hr:RowA w B 2 a xs.length cap (cK xs)) (j:RowA w B 2 a' ys.length cap' (cK ys)):
 Calls Tryz.prog 79 #[(a,xs.length,cap),(a',ys.length,cap')] w fun e w'=>e= .returned (decide (xs=ys))/\pY w w':=by
 have hm:xs.length <= 9223372036854775807:=PQ
 have u:ys.length <= 9223372036854775807:=RJ
 by_cases hl:xs.length=ys.length
 . go_enter Tryz.func79,Tryz.ntmps79
   have v:ys.length <= xs.length:=P2
   have t:xs.length <= ys.length:=P2
   have n:(((xs.length:Nat):Int) != (ys.length:Int))=false:=XQ
   have Hl:=a6 hl;clear hl;go_wp2_with fail
   go_loopw [13] (fun i wr=>∃k:Nat,k <= xs.length/\i= .int .i64 k/\EZ xs ys k/\pY w wr) (fun i _=>xs.length - (intOf i).toNat)
   case atStart=>exact⟨0,Nat.zero_le _,rfl,E4 _ _,⟨0,rfl⟩⟩
   case round=>
    obtain⟨k,hk,rfl,hp,q,rfl⟩:=hrel;have Hp:=a6 hp;clear hp
    by_cases d:k < xs.length
    . obtain ⟨b,off,rfl,hb,l,m⟩:=hr.prop_at k d
      obtain⟨b',off',rfl,x,f,g⟩:=j.prop_at k P2;have c:k < ys.length:=P2
      have Hx:Hid (xs[k]=(xs[k].1,xs[k].2)):=rfl;have Hy:Hid (ys[k]=(ys[k].1,ys[k].2)):=rfl;generalize o:xs[k].1=x1 at l Hx;generalize p:xs[k].2=x2 at m Hx;generalize r:ys[k].1=y1 at f Hy;generalize s:ys[k].2=y2 at g Hy;clear o p r s;go_wp2_with fail
      by_cases he:x1=y1
      . subst he
        by_cases he:x2=y2
        . subst he
          have He:Hid (xs[k]=ys[k]):=Hx.o.trans Hy.o.symm
          go_quiet (fail)
          go_wp2_with fail
          go_roundw
          case rel=>exact⟨k+1,by omega,by go_num,E5 Hp.o d c He.o,by first | exact kY _ _ | exact j9 _ _ _⟩
          case measure=>simp [intOf];omega
        have He:Hid (xs[k]≠ys[k]):=by
         show xs[k]≠ys[k]
         rw [Hx.o,Hy.o];intro e;exact he (Prod.mk.inj e).2
        have h2:=d_S he;generalize (⟨x2.toArray⟩:ByteArray)=X2 at h2 m;generalize (⟨y2.toArray⟩:ByteArray)=Y2 at h2 g;clear he Hx Hy;go_quiet (fail);go_wp2_with fail;go_ret;exact⟨bJ s_V,j9 _ _ _⟩
      have He:Hid (xs[k]≠ys[k]):=by
       show xs[k]≠ys[k]
       rw [Hx.o,Hy.o];intro e;exact he (Prod.mk.inj e).1
      have h2:=d_S he;generalize (⟨x1.toArray⟩:ByteArray)=X1 at h2 l;generalize (⟨y1.toArray⟩:ByteArray)=Y1 at h2 f;clear he Hx Hy;go_quiet (fail);go_wp2_with fail;go_ret;exact⟨bJ s_V,j9 _ _ _⟩
    go_wp2_with fail;go_ret;obtain rfl:k=xs.length:=P2
    exact⟨bJ WK,kY _ _⟩
 have n:(((xs.length:Nat):Int) != (ys.length:Int))=true:=P8
 have Hl:=a6 hl;clear hl
 go_enter Tryz.func79,Tryz.ntmps79
 go_wp2_with fail;go_ret;exact⟨bJ S5,CQ _⟩
def At (w:World) (N:Nat) (cs:List Value) (T:TypeId):Prop:=w.heap[N]? =some (.cells cs.toArray T (0,0))
theorem At.fresh (W:World) (cs:List Value) (T:TypeId):At (W.alloc (.cells cs.toArray T)) W cs T:=heap_alloc_new W _
theorem At.lt {w:World} {N:Nat} {cs:List Value} {T:TypeId} (h:At w N cs T):N < w.heap.size:=(Array.getElem?_eq_some_iff.1 h).1
theorem At.keep {w w':World} {N:Nat} {cs:List Value} {T:TypeId} (h:At w N cs T) (hb:Below (N+1) w w'):At w' N cs T:=by
 unfold At;rw [hb.block N P2];exact h
theorem At.kept {w w':World} {N:Nat} {cs:List Value} {T:TypeId} (h:At w N cs T) (hb:Below w w w'):At w' N cs T:=by
 unfold At;rw [hb.block N h.lt];exact h
theorem At.alloc {w:World} {N:Nat} {cs:List Value} {T:TypeId} (h:At w N cs T) (o:Obj):At (w.alloc o) N cs T:=by
 unfold At;rw [Lib.alloc_old _ _ _ h.lt];exact h
theorem At.cell {w:World} {N:Nat} {cs:List Value} {T:TypeId} (h:At w N cs T) (j:Nat) {v:Value} (hj:cs[j]? =some v):w.cell? (N,j)=some v:=by
 rw [cell_of_row _ _ _ _ _ _ h];simpa using hj
theorem At.set_ne {w:World} {N b o:Nat} {cs:List Value} {T:TypeId} (h:At w N cs T) (a:N≠b) (u:Value):At (w.setCell (b,o) u) N cs T:=by
 unfold At;rw [Below.heap_setCell _ _ _ _ a];exact h
theorem At.set {w:World} {N:Nat} {cs:List Value} {T:TypeId} (h:At w N cs T) (j:Nat) (u:Value):At (w.setCell (N,j) u) N (cs.set j u) T:=by
 have:=Lib.heap_setCell_same (i:=j) h u
 simpa [At]using this
theorem At.grown {w w':World} {N:Nat} {cs:List Value} {T:TypeId} {r:Option Nat} (h:At w N cs T) (hg:w.grownBy w' r) (hr:r≠some N):At w' N cs T:=by
 unfold At;rw [hg.block N h.lt (fun e=>hr e.symm)];exact h
theorem At.f1 {w:World} {N:Nat} {c0:Value} {T:TypeId} (h:At w N [c0] T):(w.cell? N=some c0)/\(∀j,w.frozen? ⟨N,j,none⟩=false)/\N < w.heap.size:=
 ⟨h.cell 0 rfl,fun j=>Lib.frozen_of_heap h _,h.lt⟩
theorem At.f2 {w:World} {N:Nat} {c0 c1:Value} {T:TypeId} (h:At w N [c0,c1] T):(w.cell? N=some c0/\w.cell? (P0 N 1)=some c1)/\(∀j,w.frozen? ⟨N,j,none⟩=false)/\N < w.heap.size:=
 ⟨⟨h.cell 0 rfl,h.cell 1 rfl⟩,fun j=>Lib.frozen_of_heap h _,h.lt⟩
theorem At.f3 {w:World} {N:Nat} {c0 c1 c2:Value} {T:TypeId} (h:At w N [c0,c1,c2] T):(w.cell? N=some c0/\w.cell? (P0 N 1)=some c1/\w.cell? (P0 N 2)=some c2)/\(∀j,w.frozen? ⟨N,j,none⟩=false)/\N < w.heap.size:=
 ⟨⟨h.cell 0 rfl,h.cell 1 rfl,h.cell 2 rfl⟩,fun j=>Lib.frozen_of_heap h _,h.lt⟩
theorem At.f4 {w:World} {N:Nat} {c0 c1 c2 c3:Value} {T:TypeId} (h:At w N [c0,c1,c2,c3] T):(w.cell? N=some c0/\w.cell? (P0 N 1)=some c1/\w.cell? (P0 N 2)=some c2/\w.cell? (P0 N 3)=some c3)/\(∀j,w.frozen? ⟨N,j,none⟩=false)/\N < w.heap.size:=
 ⟨⟨h.cell 0 rfl,h.cell 1 rfl,h.cell 2 rfl,h.cell 3 rfl⟩,fun j=>Lib.frozen_of_heap h _,h.lt⟩
theorem At.f5 {w:World} {N:Nat} {c0 c1 c2 c3 c4:Value} {T:TypeId} (h:At w N [c0,c1,c2,c3,c4] T):(w.cell? N=some c0/\w.cell? (P0 N 1)=some c1/\w.cell? (P0 N 2)=some c2/\w.cell? (P0 N 3)=some c3/\w.cell? (P0 N 4)=some c4)/\(∀j,w.frozen? ⟨N,j,none⟩=false)/\N < w.heap.size:=
 ⟨⟨h.cell 0 rfl,h.cell 1 rfl,h.cell 2 rfl,h.cell 3 rfl,h.cell 4 rfl⟩,fun j=>Lib.frozen_of_heap h _,h.lt⟩
theorem At.f8 {w:World} {N:Nat} {c0 c1 c2 c3 c4 c5 c6 c7:Value} {T:TypeId} (h:At w N [c0,c1,c2,c3,c4,c5,c6,c7] T):(w.cell? N=some c0/\w.cell? (P0 N 1)=some c1/\w.cell? (P0 N 2)=some c2/\w.cell? (P0 N 3)=some c3/\w.cell? (P0 N 4)=some c4/\w.cell? (P0 N 5)=some c5/\w.cell? (P0 N 6)=some c6/\w.cell? (P0 N 7)=some c7)/\(∀j,w.frozen? ⟨N,j,none⟩=false)/\N < w.heap.size:=
 ⟨⟨h.cell 0 rfl,h.cell 1 rfl,h.cell 2 rfl,h.cell 3 rfl,h.cell 4 rfl,h.cell 5 rfl,h.cell 6 rfl,h.cell 7 rfl⟩,fun j=>Lib.frozen_of_heap h _,h.lt⟩
theorem At.f13 {w:World} {N:Nat} {c0 c1 c2 c3 c4 c5 c6 c7 c8 c9 c10 c11 c12:Value} {T:TypeId} (h:At w N [c0,c1,c2,c3,c4,c5,c6,c7,c8,c9,c10,c11,c12] T):(w.cell? N=some c0/\w.cell? (P0 N 1)=some c1/\w.cell? (P0 N 2)=some c2/\w.cell? (P0 N 3)=some c3/\w.cell? (P0 N 4)=some c4/\w.cell? (P0 N 5)=some c5/\w.cell? (P0 N 6)=some c6/\w.cell? (P0 N 7)=some c7/\w.cell? (P0 N 8)=some c8/\w.cell? (P0 N 9)=some c9/\w.cell? (P0 N 10)=some c10/\w.cell? (P0 N 11)=some c11/\w.cell? (P0 N 12)=some c12)/\(∀j,w.frozen? ⟨N,j,none⟩=false)/\N < w.heap.size:=
 ⟨⟨h.cell 0 rfl,h.cell 1 rfl,h.cell 2 rfl,h.cell 3 rfl,h.cell 4 rfl,h.cell 5 rfl,h.cell 6 rfl,h.cell 7 rfl,h.cell 8 rfl,h.cell 9 rfl,h.cell 10 rfl,h.cell 11 rfl,h.cell 12 rfl⟩,fun j=>Lib.frozen_of_heap h _,h.lt⟩
theorem At.f16 {w:World} {N:Nat} {c0 c1 c2 c3 c4 c5 c6 c7 c8 c9 c10 c11 c12 c13 c14 c15:Value} {T:TypeId} (h:At w N [c0,c1,c2,c3,c4,c5,c6,c7,c8,c9,c10,c11,c12,c13,c14,c15] T):(w.cell? N=some c0/\w.cell? (P0 N 1)=some c1/\w.cell? (P0 N 2)=some c2/\w.cell? (P0 N 3)=some c3/\w.cell? (P0 N 4)=some c4/\w.cell? (P0 N 5)=some c5/\w.cell? (P0 N 6)=some c6/\w.cell? (P0 N 7)=some c7/\w.cell? (P0 N 8)=some c8/\w.cell? (P0 N 9)=some c9/\w.cell? (P0 N 10)=some c10/\w.cell? (P0 N 11)=some c11/\w.cell? (P0 N 12)=some c12/\w.cell? (P0 N 13)=some c13/\w.cell? (P0 N 14)=some c14/\w.cell? (P0 N 15)=some c15)/\(∀j,w.frozen? ⟨N,j,none⟩=false)/\N < w.heap.size:=
 ⟨⟨h.cell 0 rfl,h.cell 1 rfl,h.cell 2 rfl,h.cell 3 rfl,h.cell 4 rfl,h.cell 5 rfl,h.cell 6 rfl,h.cell 7 rfl,h.cell 8 rfl,h.cell 9 rfl,h.cell 10 rfl,h.cell 11 rfl,h.cell 12 rfl,h.cell 13 rfl,h.cell 14 rfl,h.cell 15 rfl⟩,fun j=>Lib.frozen_of_heap h _,h.lt⟩
theorem K1 {B:Nat} {W w:World} {N:Nat} (h:Below B W w) (hN:B <= N) (d0 d1:Value):Below B W ((w.setCell ⟨N,0,none⟩ d0).setCell ⟨N,1,none⟩ d1):=
 (h.setCell (p:=⟨N,0,none⟩) hN _).setCell (p:=⟨N,1,none⟩) hN _
theorem d_T {B:Nat} {W w:World} {N:Nat} (h:Below B W w) (hN:B <= N) (d0 d1 d2:Value):Below B W (((w.setCell ⟨N,0,none⟩ d0).setCell ⟨N,1,none⟩ d1).setCell ⟨N,2,none⟩ d2):=
 ((h.setCell (p:=⟨N,0,none⟩) hN _).setCell (p:=⟨N,1,none⟩) hN _).setCell (p:=⟨N,2,none⟩) hN _
theorem At.s8 {w:World} {N:Nat} {c0 c1 c2 c3 c4 c5 c6 c7:Value} {T:TypeId} (h:At w N [c0,c1,c2,c3,c4,c5,c6,c7] T) (d0 d1 d2 d3 d4 d5 d6 d7:Value):At ((((((((w.setCell N d0).setCell (P0 N 1) d1).setCell (P0 N 2) d2).setCell (P0 N 3) d3).setCell (P0 N 4) d4).setCell (P0 N 5) d5).setCell (P0 N 6) d6).setCell (P0 N 7) d7) N [d0,d1,d2,d3,d4,d5,d6,d7] T:=by
 have h0:At (w.setCell N d0) N [d0,c1,c2,c3,c4,c5,c6,c7] T:=h.set 0 d0;have h1:At ((w.setCell N d0).setCell (P0 N 1) d1) N [d0,d1,c2,c3,c4,c5,c6,c7] T:=h0.set 1 d1;have h2:At (((w.setCell N d0).setCell (P0 N 1) d1).setCell (P0 N 2) d2) N [d0,d1,d2,c3,c4,c5,c6,c7] T:=h1.set 2 d2;have h3:At ((((w.setCell N d0).setCell (P0 N 1) d1).setCell (P0 N 2) d2).setCell (P0 N 3) d3) N [d0,d1,d2,d3,c4,c5,c6,c7] T:=h2.set 3 d3;have h4:At (((((w.setCell N d0).setCell (P0 N 1) d1).setCell (P0 N 2) d2).setCell (P0 N 3) d3).setCell (P0 N 4) d4) N [d0,d1,d2,d3,d4,c5,c6,c7] T:=h3.set 4 d4;have h5:At ((((((w.setCell N d0).setCell (P0 N 1) d1).setCell (P0 N 2) d2).setCell (P0 N 3) d3).setCell (P0 N 4) d4).setCell (P0 N 5) d5) N [d0,d1,d2,d3,d4,d5,c6,c7] T:=h4.set 5 d5;have h6:At (((((((w.setCell N d0).setCell (P0 N 1) d1).setCell (P0 N 2) d2).setCell (P0 N 3) d3).setCell (P0 N 4) d4).setCell (P0 N 5) d5).setCell (P0 N 6) d6) N [d0,d1,d2,d3,d4,d5,d6,c7] T:=h5.set 6 d6;exact h6.set 7 d7
theorem At.n8 {w:World} {N M:Nat} {cs:List Value} {T:TypeId} (h:At w M cs T) (a:M≠N) (d0 d1 d2 d3 d4 d5 d6 d7:Value):At ((((((((w.setCell N d0).setCell (P0 N 1) d1).setCell (P0 N 2) d2).setCell (P0 N 3) d3).setCell (P0 N 4) d4).setCell (P0 N 5) d5).setCell (P0 N 6) d6).setCell (P0 N 7) d7) M cs T:=
 (((((((h.set_ne a _).set_ne a _).set_ne a _).set_ne a _).set_ne a _).set_ne a _).set_ne a _).set_ne a _
theorem b_E {B:Nat} {W w:World} {N:Nat} (h:Below B W w) (hN:B <= N) (d0 d1 d2 d3 d4 d5 d6 d7:Value):Below B W ((((((((w.setCell ⟨N,0,none⟩ d0).setCell ⟨N,1,none⟩ d1).setCell ⟨N,2,none⟩ d2).setCell ⟨N,3,none⟩ d3).setCell ⟨N,4,none⟩ d4).setCell ⟨N,5,none⟩ d5).setCell ⟨N,6,none⟩ d6).setCell ⟨N,7,none⟩ d7):=
 (((((((h.setCell (p:=⟨N,0,none⟩) hN _).setCell (p:=⟨N,1,none⟩) hN _).setCell (p:=⟨N,2,none⟩) hN _).setCell (p:=⟨N,3,none⟩) hN _).setCell (p:=⟨N,4,none⟩) hN _).setCell (p:=⟨N,5,none⟩) hN _).setCell (p:=⟨N,6,none⟩) hN _).setCell (p:=⟨N,7,none⟩) hN _
theorem p_T {w:World} {ok:Nat ->Prop} {sz n cap N:Nat} {a:Option Addr} {cs:List Value} (h:RowQ w ok sz a n cap cs) (b:¬ok N) (d0 d1 d2 d3 d4 d5 d6 d7:Value):RowQ ((((((((w.setCell N d0).setCell (P0 N 1) d1).setCell (P0 N 2) d2).setCell (P0 N 3) d3).setCell (P0 N 4) d4).setCell (P0 N 5) d5).setCell (P0 N 6) d6).setCell (P0 N 7) d7) ok sz a n cap cs:=
 b9 (b9 (b9 (b9 (b9 (b9 (b9 (b9 h b) b) b) b) b) b) b) b
theorem k_Q (a b:List UInt8):((⟨a.toArray⟩:ByteArray).toList == (⟨b.toArray⟩:ByteArray).toList)=decide (a=b):=by
 by_cases h:a=b
 . subst h;simp
 rw [d_S h];simp [h]
theorem g_B (a b:List UInt8):(a == b)=decide (a=b):=by by_cases h:a=b <;> simp [h]
theorem b7 (W:World) (o:Obj):Below W W (W.alloc o):=(a7).alloc (a8) o
theorem p_U (K V k:List UInt8) (N:Nat) (W:World) (hN:W.cell? N=some (aZ k)):
 Calls Tryz.prog 174 #[.agg #[aZ K,aZ V], .pointer N] W fun e w'=>e= .returned (decide (K=k))/\Below W W w':=by
 have a:=World.block_lt_of_cell? W _ hN;have Hb:=a6 (b7 W (Obj.cells #[aZ K,aZ V] 138))
 go_enter Tryz.func174,Tryz.ntmps174
 go_wp2_with fail;go_ret;exact⟨bJ (g_B _ _),Hb.o⟩
theorem l_D {ps:List fQ} {k:List UInt8} {j:Nat} (hj:j < ps.length) (h:ps[j].1=k) (hb:∀i (hi:i < j),(ps[i]' P2).1≠k):f_s ps k=some ps[j].2:=by
 unfold f_s;rw [d_Q (q:=fun p=>decide (p.1=k)) hj TX (fun i hi=>by simpa using hb i hi)]
 rfl
theorem l_E {ps:List fQ} {k:List UInt8} (hb:∀i (hi:i < ps.length),ps[i].1≠k):f_s ps k=none:=by
 unfold f_s;rw [c_t (fun i hi=>by simpa using hb i hi)]
 rfl
def n_t (W:World) (ps:List fQ) (k:List UInt8) (e:Ending) (w':World):Prop:=e= .returned (.tuple #[aZ ((f_s ps k).getD []),(f_s ps k).isSome])/\Below W W w'
theorem r_x (ps:List fQ) (a:Option Addr) (cap:Nat) (k:List UInt8) (W:World) (hr:RowA W W 2 a ps.length cap (cK ps)) (hn:ps.length <= 100000000):
 Calls Tryz.prog 108 #[(a,ps.length,cap),aZ k] W (n_t W ps k):=by
 have d:=b7 W (Obj.cells #[aZ k] 9);have m:=At.fresh W [aZ k] 9;have hr0:=hr.keep d d.size;have HI:=a6 (n_r ps.length a cap 174 #[.pointer W] (fun j=>decide ((ps.getD j ([], [])).1=k)) (W.alloc (Obj.cells #[aZ k] 9)) hn P5 (fun j W' hj hb=>by
  obtain⟨b,off,ha, -,h0,h1⟩:=(hr0.keep hb hb.size).prop_at j hj;refine⟨b,off,_,_,ha,h0,h1, ?_⟩;have hg:ps.getD j ([], [])=ps[j]:=t_q
  rw [hg];exact p_U ps[j].1 ps[j].2 k W W' ((m.kept hb).cell 0 rfl)))
 have Hr:=a6 hr0;have f:=a6 d
 have n:∀j (hj:j < ps.length),ps.getD j ([], [])=ps[j]:=fun j hj=>by simp [List.getD,NV hj]
 rcases jV (fun j=>decide ((ps.getD j ([], [])).1=k)) ps.length with⟨j,hj,hp,g,he⟩ | ⟨l,he⟩
 . rw [he]at HI
   have HG:=a6 (l_D (ps:=ps) (k:=k) hj (by have h:=of_decide_eq_true hp;rw [n j hj]at h;exact h) (fun i hi=>by have h:=of_decide_eq_false (g i hi);rw [n i P2]at h;exact h));have p:(j:Int) < ps.length:=P2
   clear he g hp hr hr0 d m;go_enter Tryz.func108,Tryz.ntmps108;go_wp2_with fail;refine HI.o.mono ?_;rintro e w1 ⟨rfl,c⟩;obtain⟨b,off,rfl, -,h0,h1⟩:=(Hr.o.keep c c.size).prop_at j hj;have o:=a6 (f.o.trans (c.mono f.o.size));generalize ps[j]=q at h0 h1 HG;clear c HI;go_wp2_with fail;go_ret2;unfold n_t;rw [HG.o];exact⟨rfl,o.o⟩
 rw [he]at HI;have HG:=a6 (l_E (ps:=ps) (k:=k) (fun i hi=>by have h:=of_decide_eq_false (l i hi);rw [n i hi]at h;exact h));clear he l hr hr0 d m;go_enter Tryz.func108,Tryz.ntmps108;go_wp2_with fail;refine HI.o.mono ?_;rintro e w1 ⟨rfl,c⟩;have o:=a6 (f.o.trans (c.mono f.o.size))
 clear c HI;go_wp2_with fail;go_ret2;unfold n_t;rw [HG.o];exact⟨rfl,o.o⟩
theorem cX {w w1:World} {r:Option Nat} (h:Below w w w1):w.grownBy w1 r:=⟨h.os,h.tape,h.output,h.size,fun i hi _=>h.block i hi⟩
theorem _root_.Go.World.grownBy.then {w w1 w2:World} {r:Option Nat} (h:w.grownBy w1 r) (k:Below w1 w1 w2):w.grownBy w2 r:=h.trans (cX k)
theorem _root_.Go.World.grownBy.set {w w1:World} {b:Nat} (h:w.grownBy w1 (some b)) (o:Nat) (u:Value):w.grownBy (w1.setCell (b,o) u) (some b):=
 h.trans ⟨rfl,rfl,rfl,by simp [World.setCell],fun i _ a=>Below.heap_setCell w1 (b,o) u i (by intro e;exact a (by rw [e]))⟩
theorem _root_.Go.World.grownBy.old {w w1:World} {r:Option Nat} (h:w.grownBy w1 r) {M:Nat} (hM:M <= w.heap.size) (hr:∀k,r=some k ->M <= k):Below M w w1:=
 (Below.refl M w).grown h hM hr
theorem b6 {w0 w w1:World} (h:Below w0 w0 w) (h1:Below w w w1):Below w0 w0 w1:=h.trans (h1.mono h.size)
theorem qJ {w:World} {ok ok':Nat ->Prop} {sz n cap:Nat} {a:Option Addr} {cs:List Value} (h:RowQ w ok sz a n cap cs) (f:∀b,ok b ->ok' b):RowQ w ok' sz a n cap cs:=h.keep (a8) (fun _ _ _=>rfl) (fun b hb _=>f b hb)
theorem G6 {w w':World} {ok:Nat ->Prop} {sz n cap:Nat} {a:Option Addr} {cs:List Value} (h:RowQ w ok sz a n cap cs) (hb:Below w w w'):RowQ w' ok sz a n cap cs:=h.keep hb.size (fun b _ c=>hb.block b c) (fun _ h _=>h)
abbrev PX:=List Int×Option Addr×Nat
def C5 (x:PX):Value:= .slice x.2.1 x.1.length x.2.2
abbrev iV (xs:List PX):List (List Int):=xs.map (·.1)
abbrev N5 (w:World) (ok:Nat ->Prop) (x:PX):Prop:=f_I w ok x.2.1 x.2.2 x.1
structure lV (w:World) (M L:Nat) (v:Value) (xs:List PX):Prop where
 own:w.ownsRow M 36 1 v xs.length (xs.map C5)
 all:∀x∈xs,N5 w (fun b=>L <= b/\v.ownBlock≠some b) x
theorem lV.nil (w:World) (M L:Nat):lV w M L () []:=⟨World.ownsRow_nil _ _ _ _,by simp⟩
theorem lV.open {w:World} {M L:Nat} {v:Value} {xs:List PX} (h:lV w M L v xs):
 v= .slice none 0 0/\xs= []∨ ∃b cap tl,v= .slice (some ⟨b,0,none⟩) xs.length cap/\M <= b/\At w b (xs.map C5 ++ tl) 36/\xs.length+tl.length=cap/\cap <= maxLen:=by
 obtain⟨hl,h2⟩:=h.own;rcases h2 with⟨rfl,h0⟩ | ⟨g,cap,cur,rfl,hb,hg,d,c,e,a⟩
 . exact .inl ⟨rfl,O2 h0⟩
 refine .inr ⟨g,cap,cur.toList.drop xs.length,rfl,hb, ?_, ?_,c⟩
 . rw [Nat.mul_one]at a
   rw [<- a,List.take_append_drop];simpa [At]using hg
 simp;omega
theorem lV.shut {w:World} {M L b cap:Nat} {xs:List PX} {tl:List Value} (hM:M <= b) (hA:At w b (xs.map C5 ++ tl) 36) (hl:xs.length+tl.length=cap) (hm:cap <= maxLen) (hq:∀x∈xs,N5 w (fun k=>L <= k/\k≠b) x):
 lV w M L (b,xs.length,cap) xs:=by
 refine⟨⟨by simp, .inr ⟨b,cap,_,rfl,hM,hA,by omega,hm,by simp;omega, ?_⟩⟩,fun x hx=>qJ (hq x hx) fun k hk=>⟨hk.1, ?_⟩⟩
 . simp
 simp only [Value.ownBlock,ne_eq,Option.some.injEq];exact fun e=>hk.2 e.symm
theorem N5.grown {w w':World} {b L:Nat} {x:PX} (h:N5 w (fun k=>L <= k/\k≠b) x) (hg:w.grownBy w' (some b)):N5 w' (fun k=>L <= k/\k≠b) x:=
 RowQ.keep h hg.size (fun k hk a=>hg.block k a (fun e=>hk.2 (Option.some.inj e))) (fun _ h _=>h)
theorem lV.below {w w':World} {M L:Nat} {v:Value} {xs:List PX} (h:lV w M L v xs) (hb:Below w w w'):lV w' M L v xs:=
 ⟨kQ h.own hb,fun x hx=>G6 (h.all x hx) hb⟩
theorem lV.form {w:World} {M L:Nat} {v:Value} {xs:List PX} (h:lV w M L v xs):∃a c,v= .slice a xs.length c:=by
 rcases h.open with⟨rfl,rfl⟩ | ⟨b,cap,tl,rfl, -⟩
 . exact⟨none,0,rfl⟩
 exact⟨_,_,rfl⟩
theorem lV.ge {w:World} {M L:Nat} {v:Value} {xs:List PX} (h:lV w M L v xs):∀k,v.ownBlock=some k ->M <= k:=fun k hk=>(h.own.lt k hk).1
theorem lV.from {w:World} {M L M' L':Nat} {v:Value} {xs:List PX} (h:lV w M L v xs) (hM:M' <= M) (hL:L' <= L):lV w M' L' v xs:=by
 refine⟨?_,fun x hx=>qJ (h.all x hx) fun k hk=>⟨by omega,hk.2⟩⟩;obtain⟨hl,h2⟩:=h.own;exact⟨hl,h2.imp id fun⟨g,cap,cur,hv,hb,hr⟩=>⟨g,cap,cur,hv,by omega,hr⟩⟩
theorem f_J {w:World} {ok:Nat ->Prop}:∀ {l:List (List Int)} {cs:List Value},tQ w ok l cs ->∃xs:List PX,l=iV xs/\cs=xs.map C5/\∀x∈xs,N5 w ok x
 | [],cs,h=>⟨[],rfl,h,by simp⟩
 | zs::l,cs,h=>by
   obtain⟨a,cap,cs',rfl,h2,h3⟩:=h;obtain⟨xs,rfl,rfl,h4⟩:=f_J h3;refine⟨(zs,a,cap)::xs,rfl,rfl,fun x hx=> ?_⟩;rcases OJ hx with rfl | hx
   . exact h2
   exact h4 x hx
def C8 (W:World) (L:List (List Int)) (e:Ending) (w':World):Prop:=
 ∃v xs,e= .returned v/\lV w' W W v xs/\iV xs=L/\Below W W w'
end Go.Proofs.YtmadpclcmjahoaaGreatDoor
