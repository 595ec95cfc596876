/- Parts of the proof: 4. -/
import Derived.Test.YtmadpclcmjahoaaGreatDoorFN2
import Derived.Test.YtmadpclcmjahoaaGreatDoorFN3
import Derived.Test.YtmadpclcmjahoaaGreatDoorFN1
set_option linter.unusedVariables false
set_option linter.unusedSimpArgs false
set_option maxHeartbeats 8000000
set_option maxRecDepth 100000
namespace Go.Proofs.YtmadpclcmjahoaaGreatDoor
open Go.RowKit Go.Redl
theorem F7:(Tryz.prog.info? 3).map (fun i=>(i.zero,i.size,i.bytes))=some (some (.int .i64 0),1,8):=by kernel_rfl
theorem qV (B n:Nat) (a:Option Addr) (cap:Nat) (cs:List Value) (w:World) (hr:RowA w B 1 a n cap cs) (hB:B <= w.heap.size) (hn:n <= 100000000):
 Calls Tryz.prog 119 #[.slice a n cap] w (rK w 3 1 n cs):=by
 have hel:=fun(w:World)=>Lib.run_eql_slice_nil w (P:=Tryz.prog) 36 3 a n cap 0 0 Tryz.underlying36
 cases ha:a with
 | none=>
   subst ha
   obtain rfl:=hr.nil rfl
   obtain rfl:n=0:=by have:=hr.le;omega
   have hcs:cs= []:=List.eq_nil_of_length_eq_zero (by simpa using hr.len)
   subst hcs
   go_enter Tryz.func119,Tryz.ntmps119
   go_wp2_with fail
   go_ret
   exact⟨_,rfl,World.ownsRow_nil _ _ _ _,a7⟩
 | some ad=>
   subst ha
   go_enter Tryz.func119,Tryz.ntmps119
   go_wp2_with (at_builtin;refine nY rfl _ _ 36 rfl w.heap.size 3 (.int .i64 0) 1 8 Tryz.underlying36 F7 rfl (by decide) _ 0 [] rfl ?hown _ n cap B cs rfl ?hr ?h63 ?hb ?hbase ?_)
   case hown=>exact World.ownsRow_lit w #[] 0 (a8) (Nat.zero_le _) rfl
   case hr=>exact hr.keep ((a7).alloc hB _) (a8)
   case h63=>unfold maxLen;omega
   case hb=>omega
   case hbase=>simp
   intro v' w1 hown hgrow
   have Ho:=a6 hown;have Hg:=a6 hgrow;clear hown hgrow hel hr
   go_wp2_with fail
   go_ret
   refine⟨v',rfl,by simpa using Ho.o,((a7).alloc (a8) _).grown Hg.o (by simp) ?_⟩
   simp [Value.ownBlock]
mutual
def qX (want:aK ->Bool):aK ->List Int ->List (List Int)
 | .mk l ps t ks,p=>(if want (.mk l ps t ks) then [p] else []) ++ qY want ks 0 p
def qY (want:aK ->Bool):List aK ->Nat ->List Int ->List (List Int)
 | [],_,_=> []
 | k::ks,i,p=>qX want k (p ++ [(i:Int)]) ++ qY want ks (i+1) p
end
def oY (w:World) (ok:Nat ->Prop):List (List Int) ->List Value ->Prop
 | [],cs=>cs= []
 | zs::l,cs=>∃a cap cs',cs= .slice a zs.length cap::cs'/\RowQ w ok 1 a zs.length cap (zs.map (Value.int .i64))/\oY w ok l cs'
theorem oY.keep {w w':World} {ok ok':Nat ->Prop} (hs:w.heap.size <= w'.heap.size) (hk:∀b,ok b ->b < w.heap.size ->w'.heap[b]? =w.heap[b]?) (ho:∀b,ok b ->b < w.heap.size ->ok' b):∀ {l:List (List Int)} {cs:List Value},oY w ok l cs ->oY w' ok' l cs
 | [],cs,h=>h
 | zs::l,cs,h=>by
   obtain⟨a,cap,cs',h1,h2,h3⟩:=h
   exact⟨a,cap,cs',h1,h2.keep hs hk ho,oY.keep hs hk ho h3⟩
theorem oY.one {w:World} {ok:Nat ->Prop}:∀ {l:List (List Int)} {cs:List Value},oY w ok l cs ->∀u∈cs,u.oneCell'=true
 | [],cs,h=>by subst h;simp
 | zs::l,cs,h=>by
   obtain⟨a,cap,cs',rfl,h2,h3⟩:=h
   intro u hu
   rcases List.mem_cons.1 hu with rfl | hu
   . rfl
   . exact oY.one h3 u hu
theorem oY.snoc {w:World} {ok:Nat ->Prop} {zs:List Int} {a:Option Addr} {cap:Nat} (hr:RowQ w ok 1 a zs.length cap (zs.map (Value.int .i64))):∀ {l:List (List Int)} {cs:List Value},oY w ok l cs ->oY w ok (l ++ [zs]) (cs ++ [.slice a zs.length cap])
 | [],cs,h=>by subst h;exact⟨a,cap, [],rfl,hr,rfl⟩
 | ys::l,cs,h=>by
   obtain⟨b,c,cs',rfl,h2,h3⟩:=h
   exact⟨b,c,cs' ++ [.slice a zs.length cap],rfl,h2,oY.snoc hr h3⟩
theorem _root_.Go.Redl.RowA.full {w:World} {B sz n cap:Nat} {a:Option Addr} {cs:List Value} (h:RowA w B sz a n cap cs):RowA w B sz a n n cs:=
 ⟨h.len,a8,aJ h.le h.max,h.one,fun e=>by have:=h.nil e;have:=h.le;omega,h.some_⟩
theorem J2 {w w':World} (h:w.grownBy w' none):Below w.heap.size w w':=⟨h.os,h.tape,h.output,h.size,fun i hi=>h.block i hi (by simp)⟩
theorem d_7 {P:Program} (w:World) (t ty e:TypeId) (i:TypeInfo) (z:Value) (size bytes:Nat) (ht:P.underlying t=some (.slice e)) (hi:P.info? e=some i) (hz:i.zero=some z)
 (hsize:i.size=size) (hby:i.bytes=bytes) (hzs:z.cells.size=size) (hsz:0 < size)
 (a:Option Addr) (n B:Nat) (xs:List Value) (hr:RowA w B size a n n xs)
 (ad:Addr) (m c:Nat) (news:List Value) (hm:0 < m) (hl:news.length=m * size) (hnews:∀j u,news[j]? =some u ->w.cell? (ad.add j)=some u) (h1:∀u∈news,u.oneCell'=true)
 (h63:n+m <= maxLen) (hbytes:(n+m) * bytes <= 140737488355328):
 ∃v' w',(Builtin.append_ #[t,t] ty #[.slice a n n, .slice (some ad) m c]).run P w= .ok v' w'/\w'.ownsRow w.heap.size e size v' (n+m) (xs ++ news)/\Below w.heap.size w w':=by
 cases a with
 | none=>
   have hn:n=0:=hr.nil rfl
   subst hn
   have hx:xs= []:=List.eq_nil_of_length_eq_zero (by simpa using hr.len)
   subst hx
   obtain⟨v',w',h,h2,h3, -⟩:=run_append_own (P:=P) w w.heap.size t ty e i z size bytes ht hi hz hsize hby hzs hsz (.slice none 0 0) 0 [] (World.ownsRow_nil _ _ _ _) ad m c news hl hnews h1 h63 hbytes (a8)
   exact⟨v',w',h,h2,J2 h3⟩
 | some b=>
   subst hsize
   subst hby
   have h:=run_append_grow (P:=P) w t ty e i z ht hi hz b n n xs hr.len hr.cells ad m c news hl hnews (by omega) (by unfold maxLen at h63;omega) (growslice_fits (by omega) hbytes)
   have hge:=grownCap_ge w (n+m) n e
   have hcm:grownCap w (n+m) n e <= maxLen:=grownCap_le_maxLen w (n+m) n e h63
   have hlen:(xs ++ news).length=(n+m) * i.size:=by rw [List.length_append,hr.len,hl,Nat.add_mul]
   refine⟨_,_,h,⟨hlen, .inr ⟨w.heap.size,_,_,rfl,a8,heap_alloc_new w.drew _,hge,hcm, ?_, ?_⟩⟩,⟨rfl,rfl,rfl,by simp,fun k hk=>heap_alloc_old w.drew _ (show k < w.drew.heap.size from hk)⟩⟩
   . simp only [Array.size_append,List.size_toArray,size_zeroCells,hzs,hr.len,hl, <- Nat.add_mul]
     congr 1
     omega
   . simp only [Array.toList_append,List.append_assoc]
     rw [<- List.append_assoc, <- hlen]
     exact List.take_left
theorem i_0 {P:Program} {ops:Array Oper} {o:Oper} {a:Act} {w:World} {K:Act ->World ->Prop} {Q:Exit ->Act ->World ->Prop} {E:Prop}
 (hg:o.guard=none) (s x:Operand) (t:TypeId) (ho:o.op= .call { callee:= .builtin .append,args:= #[s,x],argTypes:= #[t,t] })
 (e:TypeId) (z:Value) (size bytes:Nat) (ht:P.underlying t=some (.slice e)) (hi:(P.info? e).map (fun i=>(i.zero,i.size,i.bytes))=some (some z,size,bytes))
 (hzs:z.cells.size=size) (hsz:0 < size)
 (av:Option Addr) (n B0:Nat) (xs:List Value) (hs:a.eval s= .slice av n n) (hown:RowA w B0 size av n n xs)
 (ad:Addr) (m c B:Nat) (news:List Value) (hx:a.eval x= .slice (some ad) m c) (hr:RowA w B size (some ad) m c news) (hm:0 < m)
 (h63:n+m <= maxLen) (hbytes:(n+m) * bytes <= 140737488355328)
 (h:∀v' w',w'.ownsRow w.heap.size e size v' (n+m) (xs ++ news) ->Below w.heap.size w w' ->K (a.put o.dst v') w'):if Region.wanted o (yielded ops a.tmps)=true then Oper.wp P o a w K Q else E:=by
 have hw:Region.wanted o (yielded ops a.tmps)=true:=by simp [Region.wanted,hg]
 rw [if_pos hw]
 obtain⟨i,hi',hz,hsize,hby⟩:=info_parts hi
 obtain⟨v',w',hrun,h2,h3⟩:=d_7 (P:=P) w t o.type e i z size bytes ht hi' hz hsize hby hzs hsz av n B0 xs hown ad m c news hm hr.len hr.cells hr.one h63 hbytes
 unfold Oper.wp execOp
 simp only [ho,resolve,invoke,builtin,Sem.run_bind,Sem.run_pure,Result.andThen_ok,List.map_toArray,List.map_cons,List.map_nil,hs,hx,hrun]
 exact h v' w' h2 h3
structure F8 (ob:Nat) (v v':Value) (w w':World):Prop where
 os:w'.os=w.os
 tape:w'.tape=w.tape
 output:w'.output=w.output
 size:w.heap.size <= w'.heap.size
 block:∀b,b < w.heap.size ->b≠ob ->v.ownBlock≠some b ->w'.heap[b]? =w.heap[b]?
 where_:v'.ownBlock=v.ownBlock∨ ∀k,v'.ownBlock=some k ->w.heap.size <= k
theorem F8.refl (ob:Nat) (v:Value) (w:World):F8 ob v v w w:=⟨rfl,rfl,rfl,a8,fun _ _ _ _=>rfl, .inl rfl⟩
theorem F8.trans {ob:Nat} {v1 v2 v3:Value} {w1 w2 w3:World} (h:F8 ob v1 v2 w1 w2) (k:F8 ob v2 v3 w2 w3):F8 ob v1 v3 w1 w3:=by
 refine⟨k.os.trans h.os,k.tape.trans h.tape,k.output.trans h.output,aJ h.size k.size,fun b hb hne hv=> ?_, ?_⟩
 . rw [k.block b (Nat.lt_of_lt_of_le hb h.size) hne ?_,h.block b hb hne hv]
   rcases h.where_ with e | e
   . rw [e];exact hv
   . intro e2;have:=e b e2;omega
 . have:=h.size
   rcases k.where_ with e | e
   . rw [e];exact h.where_
   . exact .inr fun k hk=>by have:=e k hk;omega
theorem F8.then {ob:Nat} {v1 v2:Value} {w1 w2 w3:World} (h:F8 ob v1 v2 w1 w2) (k:Below w2.heap.size w2 w3):F8 ob v1 v2 w1 w3:=
 h.trans ⟨k.os,k.tape,k.output,k.size,fun b hb _ _=>k.block b hb, .inl rfl⟩
theorem F8.stay {ob M:Nat} {v v':Value} {w w':World} (h:F8 ob v v' w w') (hob:ob < M):d_4 w w' (fun b=>M <= b/\v.ownBlock≠some b) (fun b=>M <= b/\v'.ownBlock≠some b):=by
 refine⟨h.size,fun b hb hlt=>h.block b hlt (by omega) hb.2,fun b hb hlt=>⟨hb.1, ?_⟩⟩
 rcases h.where_ with e | e
 . rw [e];exact hb.2
 . intro e2;have:=e b e2;omega
theorem F8.below {ob B:Nat} {v v':Value} {w w':World} (h:F8 ob v v' w w') (hB:B <= ob) (hw:B <= w.heap.size) (hv:∀k,v.ownBlock=some k ->B <= k):Below B w w':=
 ⟨h.os,h.tape,h.output,h.size,fun b hb=>h.block b (by omega) (by omega) (fun e=>by have:=hv b e;omega)⟩
theorem oY.stay {w w':World} {ok ok':Nat ->Prop} {l:List (List Int)} {cs:List Value} (h:oY w ok l cs) (s:d_4 w w' ok ok'):oY w' ok' l cs:=h.keep s.size s.block s.let_
end Go.Proofs.YtmadpclcmjahoaaGreatDoor
namespace Go.Redl
open Go.RowKit
theorem RowA.q {w:World} {B sz n cap:Nat} {a:Option Addr} {cs:List Value} (h:RowA w B sz a n cap cs) (hB:B <= w.heap.size):RowQ w (fun b=>b < B) sz a n cap cs:=
 ⟨h.len,h.le,h.max,h.one,h.nil,fun hne=>by
  obtain⟨b,off,ha,hb,hc⟩:=h.some_ hne
  exact⟨b,off,ha,hb,Nat.lt_of_lt_of_le hb hB,hc⟩⟩
mutual
theorem dJ.q {w:World} {B:Nat} (hB:B <= w.heap.size):∀ (n:aK) (cs:List Value),dJ w B n cs ->NodeQ w (fun b=>b < B) n cs
 | .mk l ps t ks,cs=>by
   intro h
   unfold dJ at h
   unfold NodeQ
   obtain⟨ap,cp,at_,ct,ak,ck,css,h1,h2,h3,h4,h5,h6⟩:=h
   exact⟨ap,cp,at_,ct,ak,ck,css,h1,h2.q hB,h3.q hB,h4,h5.q hB,dQ.q hB ks css h6⟩
theorem dQ.q {w:World} {B:Nat} (hB:B <= w.heap.size):∀ (ks:List aK) (css:List Value),dQ w B ks css ->bX w (fun b=>b < B) ks css
 | [],css=>by intro h;unfold dQ at h;unfold bX;exact h
 | k::ks,css=>by
   intro h
   unfold dQ at h
   unfold bX
   obtain⟨c1,c2,h1,h2,h3⟩:=h
   exact⟨c1,c2,h1,dJ.q hB k c1 h2,dQ.q hB ks c2 h3⟩
end
theorem b_Y (w:World) (ok:Nat ->Prop):NodeQ w ok (.mk false [] [] []) [.bool false, .slice none 0 0, .slice none 0 0, .slice none 0 0]:=by
 unfold NodeQ
 exact⟨none,0,none,0,none,0, [],rfl,RowQ.empty _ _ _,RowQ.empty _ _ _,by simp,RowQ.empty _ _ _,by unfold bX;rfl⟩
end Go.Redl
namespace Go.Proofs.YtmadpclcmjahoaaGreatDoor
open Go.RowKit Go.Redl
abbrev b_h (w:World) (ok:Nat ->Prop) (a:Option Addr) (c:Nat) (p:List Int):Prop:=RowQ w ok 1 a p.length c (p.map (Value.int .i64))
def BK (o:j7) (pa:Option Addr) (pc:Nat) (ta:Option Addr) (tc:Nat) (n0 n1 n2 n3:Value) (oa:Option Addr) (oc:Nat):List Value:=
 [.int .i64 o.kind, .slice pa o.path.length pc, .slice ta o.dest.length tc, .int .i64 o.pos,n0,n1,n2,n3, .slice oa o.old.length oc, .slice none 0 0, .slice none 0 0,
  .bool false, .slice none 0 0, .int .i64 0, .slice none 0 0, .int .i64 0, .bool false, .slice none 0 0, .int .i64 0, .slice none 0 0, .int .i64 0]
def OpQ (w:World) (ok:Nat ->Prop) (o:j7) (cs:List Value):Prop:=
 ∃pa pc ta tc n0 n1 n2 n3 oa oc,cs=BK o pa pc ta tc n0 n1 n2 n3 oa oc/\b_h w ok pa pc o.path/\b_h w ok ta tc o.dest/\NodeQ w ok o.node [n0,n1,n2,n3]/\RowQ w ok 2 oa o.old.length oc (bK o.old)
def lZ (w:World) (ok:Nat ->Prop):List j7 ->List Value ->Prop
 | [],css=>css= []
 | o::os,css=>∃c1 c2,css=c1 ++ c2/\OpQ w ok o c1/\lZ w ok os c2
theorem OpQ.stay {w w':World} {ok ok':Nat ->Prop} {o:j7} {cs:List Value} (h:OpQ w ok o cs) (s:d_4 w w' ok ok'):OpQ w' ok' o cs:=by
 obtain⟨pa,pc,ta,tc,n0,n1,n2,n3,oa,oc,rfl,h1,h2,h3,h4⟩:=h
 exact⟨pa,pc,ta,tc,n0,n1,n2,n3,oa,oc,rfl,h1.stay s,h2.stay s,h3.stay s,h4.stay s⟩
theorem lZ.stay {w w':World} {ok ok':Nat ->Prop} (s:d_4 w w' ok ok'):∀ {os:List j7} {css:List Value},lZ w ok os css ->lZ w' ok' os css
 | [],css,h=>by unfold lZ at h⊢;exact h
 | o::os,css,h=>by
   unfold lZ at h⊢
   obtain⟨c1,c2,h1,h2,h3⟩:=h
   exact⟨c1,c2,h1,h2.stay s,lZ.stay s h3⟩
theorem OpQ.len {w:World} {ok:Nat ->Prop} {o:j7} {cs:List Value} (h:OpQ w ok o cs):cs.length=21:=by
 obtain⟨pa,pc,ta,tc,n0,n1,n2,n3,oa,oc,rfl, -⟩:=h;rfl
theorem OpQ.one {w:World} {ok:Nat ->Prop} {o:j7} {cs:List Value} (h:OpQ w ok o cs):∀u∈cs,u.oneCell'=true:=by
 obtain⟨pa,pc,ta,tc,n0,n1,n2,n3,oa,oc,rfl, -, -,h3, -⟩:=h
 have hn:=(NodeQ.node _ _ h3).one
 simp at hn
 obtain⟨g0,g1,g2,g3⟩:=hn
 intro u hu
 simp only [BK,List.mem_cons,List.not_mem_nil,or_false]at hu
 rcases hu with h | h | h | h | h | h | h | h | h | h | h | h | h | h | h | h | h | h | h | h | h
 all_goals
  subst h
  first | rfl | assumption
theorem lZ.len {w:World} {ok:Nat ->Prop}:∀ {os:List j7} {css:List Value},lZ w ok os css ->css.length=os.length * 21
 | [],css,h=>by unfold lZ at h;subst h;rfl
 | o::os,css,h=>by
   unfold lZ at h
   obtain⟨c1,c2,rfl,h2,h3⟩:=h
   have a:=h2.len;have b:=lZ.len h3
   simp only [List.length_append,List.length_cons];omega
theorem lZ.one {w:World} {ok:Nat ->Prop}:∀ {os:List j7} {css:List Value},lZ w ok os css ->∀u∈css,u.oneCell'=true
 | [],css,h=>by unfold lZ at h;subst h;simp
 | o::os,css,h=>by
   unfold lZ at h
   obtain⟨c1,c2,rfl,h2,h3⟩:=h
   intro u hu
   rcases List.mem_append.1 hu with hu | hu
   . exact h2.one u hu
   . exact lZ.one h3 u hu
theorem lZ.nil (w:World) (ok:Nat ->Prop):lZ w ok [] []:=by unfold lZ;rfl
theorem lZ.single {w:World} {ok:Nat ->Prop} {o:j7} {c:List Value} (h:OpQ w ok o c):lZ w ok [o] c:=by
 unfold lZ;exact⟨c, [],by simp,h,lZ.nil _ _⟩
theorem lZ.append {w:World} {ok:Nat ->Prop}:∀ {os os':List j7} {css css':List Value},lZ w ok os css ->lZ w ok os' css' ->lZ w ok (os ++ os') (css ++ css')
 | [],os',css,css',h,h'=>by unfold lZ at h;subst h;exact h'
 | o::os,os',css,css',h,h'=>by
   unfold lZ at h
   obtain⟨c1,c2,rfl,h2,h3⟩:=h
   rw [List.cons_append]
   unfold lZ
   exact⟨c1,c2 ++ css',by simp,h2,lZ.append h3 h'⟩
theorem lZ.at_ {w:World} {ok:Nat ->Prop}:∀ {os:List j7} {css:List Value},lZ w ok os css ->∀ (i:Nat) (hi:i < os.length),∃c,OpQ w ok os[i] c/\∀j,j < 21 ->css[i * 21+j]? =c[j]?
 | [],css,h,i,hi=>absurd hi (by simp)
 | k::ks,css,h,0,hi=>by
   unfold lZ at h
   obtain⟨c1,c2,rfl,h2,h3⟩:=h
   refine⟨c1,h2,fun j hj=> ?_⟩
   rw [Nat.zero_mul,Nat.zero_add,List.getElem?_append_left (by rw [h2.len];exact hj)]
 | k::ks,css,h,i+1,hi=>by
   unfold lZ at h
   obtain⟨c1,c2,rfl,h2,h3⟩:=h
   obtain⟨c,hc,hall⟩:=lZ.at_ h3 i (by simpa using hi)
   refine⟨c,by simpa using hc,fun j hj=> ?_⟩
   rw [List.getElem?_append_right (by rw [h2.len];omega), <- hall j hj,h2.len]
   congr 1;omega
def e_M (w:World) (l:List j7) (v:Value):Prop:= ∃a c css,v= .slice a l.length c/\RowA w w.heap.size 21 a l.length c css/\lZ w (fun _=>True) l css
theorem M4 {w w':World} (hb:Below w.heap.size w w') (ok:Nat ->Prop):d_4 w w' ok ok:=⟨hb.size,fun b _ hlt=>hb.block b hlt,fun _ h _=>h⟩
theorem e_M.of_own {w:World} {base e:Nat} {l:List j7} {v:Value} {css:List Value} {ok:Nat ->Prop} (h:w.ownsRow base e 21 v l.length css) (hq:lZ w ok l css):e_M w l v:=by
 obtain⟨a,c,hv,hr⟩:=cK h hq.one
 exact⟨a,c,css,hv,hr,hq.stay ⟨a8,fun _ _ _=>rfl,fun _ _ _=>trivial⟩⟩
theorem e_M.at_ {w:World} {l:List j7} {a:Option Addr} {n c:Nat} (h:e_M w l (.slice a n c)) (i:Nat) (hi:i < l.length):
 ∃ b off pa pc ta tc n0 n1 n2 n3 oa oc,a=some ⟨b,off,none⟩/\b < w.heap.size/\b_h w (fun _=>True) pa pc l[i].path/\b_h w (fun _=>True) ta tc l[i].dest/\NodeQ w (fun _=>True) l[i].node [n0,n1,n2,n3]/\RowQ w (fun _=>True) 2 oa l[i].old.length oc (bK l[i].old)/\
   ∀j u,(BK l[i] pa pc ta tc n0 n1 n2 n3 oa oc)[j]? =some u ->w.cell? ⟨b,off+i * 21+j,none⟩=some u:=by
 obtain⟨a',c',css,hv,hr,hq⟩:=h
 injection hv with e1 e2 e3;subst e1;subst e2;subst e3
 obtain⟨cs,hc,hall⟩:=hq.at_ i hi
 obtain⟨pa,pc,ta,tc,n0,n1,n2,n3,oa,oc,rfl,h1,h2,h3,h4⟩:=hc
 obtain⟨b,off,ha,hb,hcell⟩:=hr.some_ (by
  intro he
  have:=hq.len
  rw [he]at this
  simp at this;omega)
 refine⟨b,off,pa,pc,ta,tc,n0,n1,n2,n3,oa,oc,ha,hb,h1,h2,h3,h4,fun j u hj=> ?_⟩
 have hj21:j < 21:=by
  have:=(List.getElem?_eq_some_iff.1 hj).1
  simpa [BK]using this
 rw [Nat.add_assoc]
 exact hcell _ _ ((hall j hj21).trans hj)
theorem j_e (m:Nat) (w:World) (hm:m <= 1000000):
 Calls Tryz.prog 197 #[.slice none 0 0, .int .i64 m] w (rK w 3 1 0 []):=by
 by_cases h0:m=0
 . subst h0
   go_enter Tryz.func197,Tryz.ntmps197
   go_wp2_with fail
   go_ret
   exact⟨_,rfl,World.ownsRow_nil _ _ _ _,a7⟩
 . have hpos:0 < m:=by omega
   go_enter Tryz.func197,Tryz.ntmps197
   go_wp2_with (at_builtin;refine a_M rfl _ _ 36 3 rfl 3 (.int .i64 0) 1 8 Tryz.underlying36 Tryz.underlying3 F7 rfl (by decide) m hpos rfl rfl ?h63 ?hb ?_)
   case h63=>omega
   case hb=>omega
   intro g cap w1 hown hcap hcm hb
   have Ho:=a6 hown;have Hb:=a6 hb;clear hown hb
   unfold maxLen at hcm
   go_wp2_with fail
   go_ret
   exact⟨_,rfl,Ho.o,Hb.o⟩
theorem M5 (a:Option Addr) (cap B:Nat) (vals:List Value) (pss:List (List Value)) (w:World) (hr:RowA w B 1 a vals.length cap vals) (hp:yJ w B vals pss)
 (hB:B <= w.heap.size) (hn:pss.flatten.length <= 1000000):
 Calls Tryz.prog 144 #[.slice a vals.length cap] w (rK w 3 1 pss.flatten.length pss.flatten):=by
 have hm:vals.length <= 9223372036854775807:=by have h1:=hr.le;have h2:=hr.max;unfold maxLen at h2;omega
 have Hn:=a6 hp.len
 go_enter Tryz.func144,Tryz.ntmps144
 go_wp2_with fail
 go_loop [3,11] (fun s i=>∃k:Nat,k <= vals.length/\i= .int .i64 k/\s= .int .i64 (tot pss k)) (fun _ i=>vals.length - (intOf i).toNat)
 case atStart=>exact⟨0,Nat.zero_le _,rfl,by rw [e_I];rfl⟩
 case round=>
  obtain⟨k,hk,rfl,rfl⟩:=hrel
  have ht:=d_V pss k
  by_cases hlt:k < vals.length
  . have hlt':k < pss.length:=by rw [<- Hn.o];exact hlt
    have hs:=e_J pss k hlt'
    have ht':=d_V pss (k+1)
    obtain⟨pa,pc,hv,hpr⟩:=hp.each k hlt'
    obtain⟨b,off,rfl,hb,hall⟩:=hr.some_ (by rintro rfl;simp at hlt)
    have hcell:=hall k _ hv
    clear hall
    obtain⟨ps,hps⟩:∃ps,pss.getD k []=ps:=⟨_,rfl⟩
    rw [hps]at hs hv hcell hpr
    have hsum:(tot pss k:Int)+(ps.length:Int) <= 1000000:=by omega
    have Hs:=a6 hs;have Hv:=a6 hv;have Hp:=a6 hps
    clear hs hv hps
    go_wp2_with fail
    go_round
    case rel=>exact⟨k+1,by omega,by go_num,by rw [Hs.o];go_num⟩
    case measure=>simp [intOf];omega
  . have:k=vals.length:=by omega
    subst this
    have H:=a6 (j_e (tot pss vals.length) w (by omega))
    go_wp2_with fail
    refine H.o.mono ?_
    rintro e w1 ⟨v,rfl,hown,hbel⟩
    have Ho:=a6 hown;have Hb:=a6 hbel
    clear hown hbel H
    go_wp2_with fail
    go_loopw [6,27] (fun v i wr=>∃k:Nat,k <= vals.length/\i= .int .i64 k/\wr.ownsRow w.heap.size 3 1 v (tot pss k) (pss.take k).flatten/\Below w.heap.size w wr) (fun _ i _=>vals.length - (intOf i).toNat)
    case atStart=>exact⟨0,Nat.zero_le _,rfl,by rw [e_I];simpa using Ho.o,Hb.o⟩
    case round=>
     obtain⟨k,hk,rfl,hown,hbel⟩:=hrel
     clear Ho Hb
     have ht:=d_V pss k
     have Ho:=a6 hown;have Hb:=a6 hbel
     clear hown hbel
     by_cases hlt:k < vals.length
     . have hlt':k < pss.length:=by rw [<- Hn.o];exact hlt
       have hs:=e_J pss k hlt'
       have ht':=d_V pss (k+1)
       have hr2:=hr.keep (Hb.o.mono hB) (a8)
       have hp2:=hp.keep (Hb.o.mono hB) (a8)
       obtain⟨pa,pc,hv,hpr⟩:=hp2.each k hlt'
       obtain⟨b,off,rfl,hb,hall⟩:=hr2.some_ (by rintro rfl;simp at hlt)
       have hcell:=hall k _ hv
       clear hall
       have hfl:=d_h pss k hlt'
       obtain⟨ps,hps⟩:∃ps,pss.getD k []=ps:=⟨_,rfl⟩
       rw [hps]at hs hv hcell hpr hfl
       have hsum:(tot pss k:Int)+(ps.length:Int) <= 1000000:=by omega
       have Hs:=a6 hs;have Hv:=a6 hv;have Hp:=a6 hps;have Hf:=a6 hfl
       clear hs hv hps hfl
       go_wp2_with (at_builtin;refine nY rfl _ _ 36 rfl w.heap.size 3 (.int .i64 0) 1 8 Tryz.underlying36 F7 rfl (by decide) _ _ _ rfl Ho.o _ ps.length pc B ps rfl hpr ?h63 ?hb ?hbase ?_)
       case h63=>unfold maxLen;omega
       case hb=>omega
       case hbase=>exact Hb.o.size
       intro v' w2 hown' hgrow
       rw [<- Hs.o, <- Hf.o]at hown'
       have hbel':=Hb.o.grown hgrow Hb.o.size (fun k hk=>(Ho.o.lt k hk).1)
       have Ho':=a6 hown';have Hb':=a6 hbel'
       clear hown' hgrow hbel'
       go_wp2_with fail
       go_roundw
       case rel=>exact⟨k+1,by omega,by go_num,Ho'.o,Hb'.o⟩
       case measure=>simp [intOf];omega
     . have:k=vals.length:=by omega
       subst this
       go_wp2_with fail
       go_ret
       refine⟨_,rfl, ?_,Hb.o⟩
       have:=Ho.o
       rw [Hn.o,l_d,List.take_of_length_le (a8)]at this
       exact this
theorem e_N (n:Nat) (a:Option Addr) (cap cb:Nat) (caps:Array Value) (pred:Nat ->Bool) (W:World) (hn:n <= 100000000) (hcb:∀args w,(callFunc cb args).run Tryz.prog w= .ok (.enter cb args) w)
 (H:∀ (k:Nat) (W':World),k < n ->Below W.heap.size W W' ->∃b off c0 c1 c2 c3 c4 c5 c6 c7,a=some ⟨b,off,none⟩/\W'.cell? ⟨b,off+k * 8,none⟩=some c0/\W'.cell? ⟨b,off+k * 8+1,none⟩=some c1/\W'.cell? ⟨b,off+k * 8+2,none⟩=some c2/\W'.cell? ⟨b,off+k * 8+3,none⟩=some c3/\W'.cell? ⟨b,off+k * 8+4,none⟩=some c4/\W'.cell? ⟨b,off+k * 8+5,none⟩=some c5/\W'.cell? ⟨b,off+k * 8+6,none⟩=some c6/\W'.cell? ⟨b,off+k * 8+7,none⟩=some c7/\Calls Tryz.prog cb (#[.agg #[c0,c1,c2,c3,c4,c5,c6,c7]] ++ caps) W' fun e w'=>e= .returned (.bool (pred k))/\Below W'.heap.size W' w'):
 Calls Tryz.prog 94 #[.slice a n cap, .func (.func cb) #[] caps] W fun e w'=>e= .returned (.int .i64 (rX pred n))/\Below W.heap.size W w':=by
 have HH:=a6 H
 clear H
 go_enter Tryz.func94,Tryz.ntmps94
 go_wp2_with fail
 go_loopg [8] n (fun g i wr=>∃k:Nat,k+g=n/\i= .int .i64 k/\(∀j,j < k ->pred j=false)/\Below W.heap.size W wr)
 case atStart=>exact⟨0,by omega,rfl,by intro j hj;omega,a7⟩
 case round=>
  obtain⟨k,hg,rfl,hb,hbr⟩:=hrel
  have Hbr:=a6 hbr;have Hb:=a6 hb
  by_cases hlt:k < n
  . obtain ⟨b,off,c0,c1,c2,c3,c4,c5,c6,c7,rfl,h0,h1,h2,h3,h4,h5,h6,h7,hC⟩:=HH.o k wr hlt hbr
    have hlti:(k:Int) < n:=by omega
    clear hb hbr HH
    cases hp:pred k with
    | true=>
      rw [hp]at hC
      have HC:=a6 hC
      have Hr:=a6 (qQ hlt hp Hb.o)
      clear hC hp
      go_wp2_with fail
      refine HC.o.mono ?_
      rintro e w1 ⟨rfl,hbel⟩
      have Hb1:=a6 (Hbr.o.trans (hbel.mono Hbr.o.size))
      clear hbel HC
      go_wp2_with fail
      go_ret
      exact⟨cY Hr.o.symm,Hb1.o⟩
    | false=>
      rw [hp]at hC
      have HC:=a6 hC
      have Hr:=a6 (show ∀j,j < k+1 ->pred j=false from fun j hj=>by
       rcases Nat.lt_or_ge j k with h | h
       . exact Hb.o j h
       . obtain rfl:j=k:=by omega
         exact hp)
      clear hC hp
      go_wp2_with fail
      refine HC.o.mono ?_
      rintro e w1 ⟨rfl,hbel⟩
      have Hb1:=a6 (Hbr.o.trans (hbel.mono Hbr.o.size))
      clear hbel HC
      go_wp2_with fail
      go_roundg (gk - 1)
      case measure=>omega
      case rel=>exact⟨k+1,by omega,by go_num,Hr.o,Hb1.o⟩
  . obtain rfl:k=n:=by omega
    have Hr:=a6 (oX hb)
    clear hb hbr HH
    go_wp2_with fail
    go_ret
    exact⟨cY Hr.o.symm,Hbr.o⟩
theorem j_f (n:Nat) (a:Option Addr) (cap cb:Nat) (caps:Array Value) (pred:Nat ->Bool) (W:World) (hn:n <= 100000000) (hcb:∀args w,(callFunc cb args).run Tryz.prog w= .ok (.enter cb args) w)
 (H:∀ (k:Nat) (W':World),k < n ->Below W.heap.size W W' ->∃b off c0 c1 c2,a=some ⟨b,off,none⟩/\W'.cell? ⟨b,off+k * 3,none⟩=some c0/\W'.cell? ⟨b,off+k * 3+1,none⟩=some c1/\W'.cell? ⟨b,off+k * 3+2,none⟩=some c2/\Calls Tryz.prog cb (#[.agg #[c0,c1,c2]] ++ caps) W' fun e w'=>e= .returned (.bool (pred k))/\Below W'.heap.size W' w'):
 Calls Tryz.prog 166 #[.slice a n cap, .func (.func cb) #[] caps] W fun e w'=>e= .returned (.int .i64 (rX pred n))/\Below W.heap.size W w':=by
 have HH:=a6 H
 clear H
 go_enter Tryz.func166,Tryz.ntmps166
 go_wp2_with fail
 go_loopg [8] n (fun g i wr=>∃k:Nat,k+g=n/\i= .int .i64 k/\(∀j,j < k ->pred j=false)/\Below W.heap.size W wr)
 case atStart=>exact⟨0,by omega,rfl,by intro j hj;omega,a7⟩
 case round=>
  obtain⟨k,hg,rfl,hb,hbr⟩:=hrel
  have Hbr:=a6 hbr;have Hb:=a6 hb
  by_cases hlt:k < n
  . obtain ⟨b,off,c0,c1,c2,rfl,h0,h1,h2,hC⟩:=HH.o k wr hlt hbr
    have hlti:(k:Int) < n:=by omega
    clear hb hbr HH
    cases hp:pred k with
    | true=>
      rw [hp]at hC
      have HC:=a6 hC
      have Hr:=a6 (qQ hlt hp Hb.o)
      clear hC hp
      go_wp2_with fail
      refine HC.o.mono ?_
      rintro e w1 ⟨rfl,hbel⟩
      have Hb1:=a6 (Hbr.o.trans (hbel.mono Hbr.o.size))
      clear hbel HC
      go_wp2_with fail
      go_ret
      exact⟨cY Hr.o.symm,Hb1.o⟩
    | false=>
      rw [hp]at hC
      have HC:=a6 hC
      have Hr:=a6 (show ∀j,j < k+1 ->pred j=false from fun j hj=>by
       rcases Nat.lt_or_ge j k with h | h
       . exact Hb.o j h
       . obtain rfl:j=k:=by omega
         exact hp)
      clear hC hp
      go_wp2_with fail
      refine HC.o.mono ?_
      rintro e w1 ⟨rfl,hbel⟩
      have Hb1:=a6 (Hbr.o.trans (hbel.mono Hbr.o.size))
      clear hbel HC
      go_wp2_with fail
      go_roundg (gk - 1)
      case measure=>omega
      case rel=>exact⟨k+1,by omega,by go_num,Hr.o,Hb1.o⟩
  . obtain rfl:k=n:=by omega
    have Hr:=a6 (oX hb)
    clear hb hbr HH
    go_wp2_with fail
    go_ret
    exact⟨cY Hr.o.symm,Hbr.o⟩
theorem l_i (n:Nat) (a:Option Addr) (cap cb:Nat) (caps:Array Value) (pred:Nat ->Bool) (W:World) (hn:n <= 100000000) (hcb:∀args w,(callFunc cb args).run Tryz.prog w= .ok (.enter cb args) w)
 (H:∀ (k:Nat) (W':World),k < n ->Below W.heap.size W W' ->∃b off c0 c1,a=some ⟨b,off,none⟩/\W'.cell? ⟨b,off+k * 2,none⟩=some c0/\W'.cell? ⟨b,off+k * 2+1,none⟩=some c1/\Calls Tryz.prog cb (#[.agg #[c0,c1]] ++ caps) W' fun e w'=>e= .returned (.bool (pred k))/\Below W'.heap.size W' w'):
 Calls Tryz.prog 201 #[.slice a n cap, .func (.func cb) #[] caps] W fun e w'=>e= .returned (.int .i64 (rX pred n))/\Below W.heap.size W w':=by
 have HH:=a6 H
 clear H
 go_enter Tryz.func201,Tryz.ntmps201
 go_wp2_with fail
 go_loopg [8] n (fun g i wr=>∃k:Nat,k+g=n/\i= .int .i64 k/\(∀j,j < k ->pred j=false)/\Below W.heap.size W wr)
 case atStart=>exact⟨0,by omega,rfl,by intro j hj;omega,a7⟩
 case round=>
  obtain⟨k,hg,rfl,hb,hbr⟩:=hrel
  have Hbr:=a6 hbr;have Hb:=a6 hb
  by_cases hlt:k < n
  . obtain ⟨b,off,c0,c1,rfl,h0,h1,hC⟩:=HH.o k wr hlt hbr
    have hlti:(k:Int) < n:=by omega
    clear hb hbr HH
    cases hp:pred k with
    | true=>
      rw [hp]at hC
      have HC:=a6 hC
      have Hr:=a6 (qQ hlt hp Hb.o)
      clear hC hp
      go_wp2_with fail
      refine HC.o.mono ?_
      rintro e w1 ⟨rfl,hbel⟩
      have Hb1:=a6 (Hbr.o.trans (hbel.mono Hbr.o.size))
      clear hbel HC
      go_wp2_with fail
      go_ret
      exact⟨cY Hr.o.symm,Hb1.o⟩
    | false=>
      rw [hp]at hC
      have HC:=a6 hC
      have Hr:=a6 (show ∀j,j < k+1 ->pred j=false from fun j hj=>by
       rcases Nat.lt_or_ge j k with h | h
       . exact Hb.o j h
       . obtain rfl:j=k:=by omega
         exact hp)
      clear hC hp
      go_wp2_with fail
      refine HC.o.mono ?_
      rintro e w1 ⟨rfl,hbel⟩
      have Hb1:=a6 (Hbr.o.trans (hbel.mono Hbr.o.size))
      clear hbel HC
      go_wp2_with fail
      go_roundg (gk - 1)
      case measure=>omega
      case rel=>exact⟨k+1,by omega,by go_num,Hr.o,Hb1.o⟩
  . obtain rfl:k=n:=by omega
    have Hr:=a6 (oX hb)
    clear hb hbr HH
    go_wp2_with fail
    go_ret
    exact⟨cY Hr.o.symm,Hbr.o⟩
theorem j_g (n:Nat) (a:Option Addr) (cap cb:Nat) (caps:Array Value) (pred:Nat ->Bool) (W:World) (hn:n <= 100000000) (hcb:∀args w,(callFunc cb args).run Tryz.prog w= .ok (.enter cb args) w)
 (H:∀ (k:Nat) (W':World),k < n ->Below W.heap.size W W' ->∃b off c0 c1 c2 c3,a=some ⟨b,off,none⟩/\W'.cell? ⟨b,off+k * 4,none⟩=some c0/\W'.cell? ⟨b,off+k * 4+1,none⟩=some c1/\W'.cell? ⟨b,off+k * 4+2,none⟩=some c2/\W'.cell? ⟨b,off+k * 4+3,none⟩=some c3/\Calls Tryz.prog cb (#[.agg #[c0,c1,c2,c3]] ++ caps) W' fun e w'=>e= .returned (.bool (pred k))/\Below W'.heap.size W' w'):
 Calls Tryz.prog 160 #[.slice a n cap, .func (.func cb) #[] caps] W fun e w'=>e= .returned (.int .i64 (rX pred n))/\Below W.heap.size W w':=by
 have HH:=a6 H
 clear H
 go_enter Tryz.func160,Tryz.ntmps160
 go_wp2_with fail
 go_loopg [8] n (fun g i wr=>∃k:Nat,k+g=n/\i= .int .i64 k/\(∀j,j < k ->pred j=false)/\Below W.heap.size W wr)
 case atStart=>exact⟨0,by omega,rfl,by intro j hj;omega,a7⟩
 case round=>
  obtain⟨k,hg,rfl,hb,hbr⟩:=hrel
  have Hbr:=a6 hbr;have Hb:=a6 hb
  by_cases hlt:k < n
  . obtain ⟨b,off,c0,c1,c2,c3,rfl,h0,h1,h2,h3,hC⟩:=HH.o k wr hlt hbr
    have hlti:(k:Int) < n:=by omega
    clear hb hbr HH
    cases hp:pred k with
    | true=>
      rw [hp]at hC
      have HC:=a6 hC
      have Hr:=a6 (qQ hlt hp Hb.o)
      clear hC hp
      go_wp2_with fail
      refine HC.o.mono ?_
      rintro e w1 ⟨rfl,hbel⟩
      have Hb1:=a6 (Hbr.o.trans (hbel.mono Hbr.o.size))
      clear hbel HC
      go_wp2_with fail
      go_ret
      exact⟨cY Hr.o.symm,Hb1.o⟩
    | false=>
      rw [hp]at hC
      have HC:=a6 hC
      have Hr:=a6 (show ∀j,j < k+1 ->pred j=false from fun j hj=>by
       rcases Nat.lt_or_ge j k with h | h
       . exact Hb.o j h
       . obtain rfl:j=k:=by omega
         exact hp)
      clear hC hp
      go_wp2_with fail
      refine HC.o.mono ?_
      rintro e w1 ⟨rfl,hbel⟩
      have Hb1:=a6 (Hbr.o.trans (hbel.mono Hbr.o.size))
      clear hbel HC
      go_wp2_with fail
      go_roundg (gk - 1)
      case measure=>omega
      case rel=>exact⟨k+1,by omega,by go_num,Hr.o,Hb1.o⟩
  . obtain rfl:k=n:=by omega
    have Hr:=a6 (oX hb)
    clear hb hbr HH
    go_wp2_with fail
    go_ret
    exact⟨cY Hr.o.symm,Hbr.o⟩
theorem j_h (n:Nat) (a:Option Addr) (cap cb:Nat) (caps:Array Value) (pred:Nat ->Bool) (W:World) (hn:n <= 100000000) (hcb:∀args w,(callFunc cb args).run Tryz.prog w= .ok (.enter cb args) w)
 (H:∀ (k:Nat) (W':World),k < n ->Below W.heap.size W W' ->∃b off c0 c1,a=some ⟨b,off,none⟩/\W'.cell? ⟨b,off+k * 2,none⟩=some c0/\W'.cell? ⟨b,off+k * 2+1,none⟩=some c1/\Calls Tryz.prog cb (#[.agg #[c0,c1]] ++ caps) W' fun e w'=>e= .returned (.bool (pred k))/\Below W'.heap.size W' w'):
 Calls Tryz.prog 173 #[.slice a n cap, .func (.func cb) #[] caps] W fun e w'=>e= .returned (.int .i64 (rX pred n))/\Below W.heap.size W w':=by
 have HH:=a6 H
 clear H
 go_enter Tryz.func173,Tryz.ntmps173
 go_wp2_with fail
 go_loopg [8] n (fun g i wr=>∃k:Nat,k+g=n/\i= .int .i64 k/\(∀j,j < k ->pred j=false)/\Below W.heap.size W wr)
 case atStart=>exact⟨0,by omega,rfl,by intro j hj;omega,a7⟩
 case round=>
  obtain⟨k,hg,rfl,hb,hbr⟩:=hrel
  have Hbr:=a6 hbr;have Hb:=a6 hb
  by_cases hlt:k < n
  . obtain ⟨b,off,c0,c1,rfl,h0,h1,hC⟩:=HH.o k wr hlt hbr
    have hlti:(k:Int) < n:=by omega
    clear hb hbr HH
    cases hp:pred k with
    | true=>
      rw [hp]at hC
      have HC:=a6 hC
      have Hr:=a6 (qQ hlt hp Hb.o)
      clear hC hp
      go_wp2_with fail
      refine HC.o.mono ?_
      rintro e w1 ⟨rfl,hbel⟩
      have Hb1:=a6 (Hbr.o.trans (hbel.mono Hbr.o.size))
      clear hbel HC
      go_wp2_with fail
      go_ret
      exact⟨cY Hr.o.symm,Hb1.o⟩
    | false=>
      rw [hp]at hC
      have HC:=a6 hC
      have Hr:=a6 (show ∀j,j < k+1 ->pred j=false from fun j hj=>by
       rcases Nat.lt_or_ge j k with h | h
       . exact Hb.o j h
       . obtain rfl:j=k:=by omega
         exact hp)
      clear hC hp
      go_wp2_with fail
      refine HC.o.mono ?_
      rintro e w1 ⟨rfl,hbel⟩
      have Hb1:=a6 (Hbr.o.trans (hbel.mono Hbr.o.size))
      clear hbel HC
      go_wp2_with fail
      go_roundg (gk - 1)
      case measure=>omega
      case rel=>exact⟨k+1,by omega,by go_num,Hr.o,Hb1.o⟩
  . obtain rfl:k=n:=by omega
    have Hr:=a6 (oX hb)
    clear hb hbr HH
    go_wp2_with fail
    go_ret
    exact⟨cY Hr.o.symm,Hbr.o⟩
theorem g_6 {a b:List UInt8} (h:a≠b):((⟨a.toArray⟩:ByteArray).toList == (⟨b.toArray⟩:ByteArray).toList)=false:=by
 rw [ByteArray.toList_mk,ByteArray.toList_mk]
 simpa using h
theorem g_7 (a a':Option Addr) (cap cap' B:Nat) (xs ys:List eK) (w:World) (hr:RowA w B 2 a xs.length cap (bK xs)) (hr':RowA w B 2 a' ys.length cap' (bK ys)):
 Calls Tryz.prog 158 #[.slice a xs.length cap, .slice a' ys.length cap'] w fun e w'=>e= .returned (.bool (decide (xs=ys)))/\mX w w':=by
 have hm:xs.length <= 9223372036854775807:=by have h1:=hr.le;have h2:=hr.max;unfold maxLen at h2;omega
 have hm':ys.length <= 9223372036854775807:=by have h1:=hr'.le;have h2:=hr'.max;unfold maxLen at h2;omega
 by_cases hl:xs.length=ys.length
 . go_enter Tryz.func158,Tryz.ntmps158
   have hle:ys.length <= xs.length:=by omega
   have hle':xs.length <= ys.length:=by omega
   have hne:(((xs.length:Nat):Int) != (ys.length:Int))=false:=by simp [hl]
   have Hl:=a6 hl;clear hl
   go_wp2_with fail
   go_loopw [13] (fun i wr=>∃k:Nat,k <= xs.length/\i= .int .i64 k/\C3 xs ys k/\mX w wr) (fun i _=>xs.length - (intOf i).toNat)
   case atStart=>exact⟨0,Nat.zero_le _,rfl,D8 _ _,⟨0,rfl⟩⟩
   case round=>
    obtain⟨k,hk,rfl,hp,q,rfl⟩:=hrel
    have Hp:=a6 hp;clear hp
    by_cases hlt:k < xs.length
    . obtain ⟨b,off,rfl,hb,hc0,hc1⟩:=hr.prop_at k hlt
      obtain⟨b',off',rfl,hb',hc0',hc1'⟩:=hr'.prop_at k (by omega)
      have hlt':k < ys.length:=by omega
      have Hx:Hid (xs[k]=(xs[k].1,xs[k].2)):=rfl
      have Hy:Hid (ys[k]=(ys[k].1,ys[k].2)):=rfl
      generalize hX1:xs[k].1=x1 at hc0 Hx
      generalize hX2:xs[k].2=x2 at hc1 Hx
      generalize hY1:ys[k].1=y1 at hc0' Hy
      generalize hY2:ys[k].2=y2 at hc1' Hy
      clear hX1 hX2 hY1 hY2
      go_wp2_with fail
      by_cases he:x1=y1
      . subst he
        by_cases he:x2=y2
        . subst he
          have He:Hid (xs[k]=ys[k]):=Hx.o.trans Hy.o.symm
          go_quiet (fail)
          go_wp2_with fail
          go_roundw
          case rel=>exact⟨k+1,by omega,by go_num,D9 Hp.o hlt hlt' He.o,by first | exact jX _ _ | exact j6 _ _ _⟩
          case measure=>simp [intOf];omega
        . have He:Hid (xs[k]≠ys[k]):=by
           show xs[k]≠ys[k]
           rw [Hx.o,Hy.o]
           intro e
           exact he (Prod.mk.inj e).2
          have h2:=g_6 he
          generalize (⟨x2.toArray⟩:ByteArray)=X2 at h2 hc1
          generalize (⟨y2.toArray⟩:ByteArray)=Y2 at h2 hc1'
          clear he Hx Hy
          go_quiet (fail)
          go_wp2_with fail
          go_ret
          exact⟨b7 (by simp [IX hlt hlt' He.o]),j6 _ _ _⟩
      . have He:Hid (xs[k]≠ys[k]):=by
         show xs[k]≠ys[k]
         rw [Hx.o,Hy.o]
         intro e
         exact he (Prod.mk.inj e).1
        have h2:=g_6 he
        generalize (⟨x1.toArray⟩:ByteArray)=X1 at h2 hc0
        generalize (⟨y1.toArray⟩:ByteArray)=Y1 at h2 hc0'
        clear he Hx Hy
        go_quiet (fail)
        go_wp2_with fail
        go_ret
        exact⟨b7 (by simp [IX hlt hlt' He.o]),j6 _ _ _⟩
    . go_wp2_with fail
      go_ret
      obtain rfl:k=xs.length:=by omega
      exact⟨b7 (by simp [G3 Hp.o Hl.o]),jX _ _⟩
 . have hne:(((xs.length:Nat):Int) != (ys.length:Int))=true:=by simp;omega
   have Hl:=a6 hl;clear hl
   go_enter Tryz.func158,Tryz.ntmps158
   go_wp2_with fail
   go_ret
   exact⟨b7 (by simp [show xs≠ys from fun h=>Hl.o (by rw [h])]),C2 _⟩
def At (w:World) (N:Nat) (cs:List Value) (T:TypeId):Prop:=w.heap[N]? =some (.cells cs.toArray T (0,0))
theorem At.fresh (W:World) (cs:List Value) (T:TypeId):At (W.alloc (.cells cs.toArray T)) W.heap.size cs T:=heap_alloc_new W _
theorem At.lt {w:World} {N:Nat} {cs:List Value} {T:TypeId} (h:At w N cs T):N < w.heap.size:=(Array.getElem?_eq_some_iff.1 h).1
theorem At.keep {w w':World} {N:Nat} {cs:List Value} {T:TypeId} (h:At w N cs T) (hb:Below (N+1) w w'):At w' N cs T:=by
 unfold At;rw [hb.block N (by omega)];exact h
theorem At.kept {w w':World} {N:Nat} {cs:List Value} {T:TypeId} (h:At w N cs T) (hb:Below w.heap.size w w'):At w' N cs T:=by
 unfold At;rw [hb.block N h.lt];exact h
theorem At.alloc {w:World} {N:Nat} {cs:List Value} {T:TypeId} (h:At w N cs T) (o:Obj):At (w.alloc o) N cs T:=by
 unfold At;rw [Lib.alloc_old _ _ _ h.lt];exact h
theorem At.cell {w:World} {N:Nat} {cs:List Value} {T:TypeId} (h:At w N cs T) (j:Nat) {v:Value} (hj:cs[j]? =some v):w.cell? ⟨N,j,none⟩=some v:=by
 rw [cell_of_row _ _ _ _ _ _ h];simpa using hj
theorem At.set_ne {w:World} {N b o:Nat} {cs:List Value} {T:TypeId} (h:At w N cs T) (hne:N≠b) (u:Value):At (w.setCell ⟨b,o,none⟩ u) N cs T:=by
 unfold At;rw [Below.heap_setCell _ _ _ _ hne];exact h
theorem At.set {w:World} {N:Nat} {cs:List Value} {T:TypeId} (h:At w N cs T) (j:Nat) (u:Value):At (w.setCell ⟨N,j,none⟩ u) N (cs.set j u) T:=by
 have:=Lib.heap_setCell_same (i:=j) h u
 simpa [At]using this
theorem At.grown {w w':World} {N:Nat} {cs:List Value} {T:TypeId} {r:Option Nat} (h:At w N cs T) (hg:w.grownBy w' r) (hr:r≠some N):At w' N cs T:=by
 unfold At;rw [hg.block N h.lt (fun e=>hr e.symm)];exact h
theorem At.f1 {w:World} {N:Nat} {c0:Value} {T:TypeId} (h:At w N [c0] T):(w.cell? ⟨N,0,none⟩=some c0)/\(∀j,w.frozen? ⟨N,j,none⟩=false)/\N < w.heap.size:=
 ⟨h.cell 0 rfl,fun j=>Lib.frozen_of_heap h _,h.lt⟩
theorem At.f2 {w:World} {N:Nat} {c0 c1:Value} {T:TypeId} (h:At w N [c0,c1] T):(w.cell? ⟨N,0,none⟩=some c0/\w.cell? ⟨N,1,none⟩=some c1)/\(∀j,w.frozen? ⟨N,j,none⟩=false)/\N < w.heap.size:=
 ⟨⟨h.cell 0 rfl,h.cell 1 rfl⟩,fun j=>Lib.frozen_of_heap h _,h.lt⟩
theorem At.f3 {w:World} {N:Nat} {c0 c1 c2:Value} {T:TypeId} (h:At w N [c0,c1,c2] T):(w.cell? ⟨N,0,none⟩=some c0/\w.cell? ⟨N,1,none⟩=some c1/\w.cell? ⟨N,2,none⟩=some c2)/\(∀j,w.frozen? ⟨N,j,none⟩=false)/\N < w.heap.size:=
 ⟨⟨h.cell 0 rfl,h.cell 1 rfl,h.cell 2 rfl⟩,fun j=>Lib.frozen_of_heap h _,h.lt⟩
theorem At.f4 {w:World} {N:Nat} {c0 c1 c2 c3:Value} {T:TypeId} (h:At w N [c0,c1,c2,c3] T):(w.cell? ⟨N,0,none⟩=some c0/\w.cell? ⟨N,1,none⟩=some c1/\w.cell? ⟨N,2,none⟩=some c2/\w.cell? ⟨N,3,none⟩=some c3)/\(∀j,w.frozen? ⟨N,j,none⟩=false)/\N < w.heap.size:=
 ⟨⟨h.cell 0 rfl,h.cell 1 rfl,h.cell 2 rfl,h.cell 3 rfl⟩,fun j=>Lib.frozen_of_heap h _,h.lt⟩
theorem At.f5 {w:World} {N:Nat} {c0 c1 c2 c3 c4:Value} {T:TypeId} (h:At w N [c0,c1,c2,c3,c4] T):(w.cell? ⟨N,0,none⟩=some c0/\w.cell? ⟨N,1,none⟩=some c1/\w.cell? ⟨N,2,none⟩=some c2/\w.cell? ⟨N,3,none⟩=some c3/\w.cell? ⟨N,4,none⟩=some c4)/\(∀j,w.frozen? ⟨N,j,none⟩=false)/\N < w.heap.size:=
 ⟨⟨h.cell 0 rfl,h.cell 1 rfl,h.cell 2 rfl,h.cell 3 rfl,h.cell 4 rfl⟩,fun j=>Lib.frozen_of_heap h _,h.lt⟩
theorem At.f8 {w:World} {N:Nat} {c0 c1 c2 c3 c4 c5 c6 c7:Value} {T:TypeId} (h:At w N [c0,c1,c2,c3,c4,c5,c6,c7] T):(w.cell? ⟨N,0,none⟩=some c0/\w.cell? ⟨N,1,none⟩=some c1/\w.cell? ⟨N,2,none⟩=some c2/\w.cell? ⟨N,3,none⟩=some c3/\w.cell? ⟨N,4,none⟩=some c4/\w.cell? ⟨N,5,none⟩=some c5/\w.cell? ⟨N,6,none⟩=some c6/\w.cell? ⟨N,7,none⟩=some c7)/\(∀j,w.frozen? ⟨N,j,none⟩=false)/\N < w.heap.size:=
 ⟨⟨h.cell 0 rfl,h.cell 1 rfl,h.cell 2 rfl,h.cell 3 rfl,h.cell 4 rfl,h.cell 5 rfl,h.cell 6 rfl,h.cell 7 rfl⟩,fun j=>Lib.frozen_of_heap h _,h.lt⟩
theorem At.f13 {w:World} {N:Nat} {c0 c1 c2 c3 c4 c5 c6 c7 c8 c9 c10 c11 c12:Value} {T:TypeId} (h:At w N [c0,c1,c2,c3,c4,c5,c6,c7,c8,c9,c10,c11,c12] T):(w.cell? ⟨N,0,none⟩=some c0/\w.cell? ⟨N,1,none⟩=some c1/\w.cell? ⟨N,2,none⟩=some c2/\w.cell? ⟨N,3,none⟩=some c3/\w.cell? ⟨N,4,none⟩=some c4/\w.cell? ⟨N,5,none⟩=some c5/\w.cell? ⟨N,6,none⟩=some c6/\w.cell? ⟨N,7,none⟩=some c7/\w.cell? ⟨N,8,none⟩=some c8/\w.cell? ⟨N,9,none⟩=some c9/\w.cell? ⟨N,10,none⟩=some c10/\w.cell? ⟨N,11,none⟩=some c11/\w.cell? ⟨N,12,none⟩=some c12)/\(∀j,w.frozen? ⟨N,j,none⟩=false)/\N < w.heap.size:=
 ⟨⟨h.cell 0 rfl,h.cell 1 rfl,h.cell 2 rfl,h.cell 3 rfl,h.cell 4 rfl,h.cell 5 rfl,h.cell 6 rfl,h.cell 7 rfl,h.cell 8 rfl,h.cell 9 rfl,h.cell 10 rfl,h.cell 11 rfl,h.cell 12 rfl⟩,fun j=>Lib.frozen_of_heap h _,h.lt⟩
theorem At.f16 {w:World} {N:Nat} {c0 c1 c2 c3 c4 c5 c6 c7 c8 c9 c10 c11 c12 c13 c14 c15:Value} {T:TypeId} (h:At w N [c0,c1,c2,c3,c4,c5,c6,c7,c8,c9,c10,c11,c12,c13,c14,c15] T):(w.cell? ⟨N,0,none⟩=some c0/\w.cell? ⟨N,1,none⟩=some c1/\w.cell? ⟨N,2,none⟩=some c2/\w.cell? ⟨N,3,none⟩=some c3/\w.cell? ⟨N,4,none⟩=some c4/\w.cell? ⟨N,5,none⟩=some c5/\w.cell? ⟨N,6,none⟩=some c6/\w.cell? ⟨N,7,none⟩=some c7/\w.cell? ⟨N,8,none⟩=some c8/\w.cell? ⟨N,9,none⟩=some c9/\w.cell? ⟨N,10,none⟩=some c10/\w.cell? ⟨N,11,none⟩=some c11/\w.cell? ⟨N,12,none⟩=some c12/\w.cell? ⟨N,13,none⟩=some c13/\w.cell? ⟨N,14,none⟩=some c14/\w.cell? ⟨N,15,none⟩=some c15)/\(∀j,w.frozen? ⟨N,j,none⟩=false)/\N < w.heap.size:=
 ⟨⟨h.cell 0 rfl,h.cell 1 rfl,h.cell 2 rfl,h.cell 3 rfl,h.cell 4 rfl,h.cell 5 rfl,h.cell 6 rfl,h.cell 7 rfl,h.cell 8 rfl,h.cell 9 rfl,h.cell 10 rfl,h.cell 11 rfl,h.cell 12 rfl,h.cell 13 rfl,h.cell 14 rfl,h.cell 15 rfl⟩,fun j=>Lib.frozen_of_heap h _,h.lt⟩
theorem F9 {B:Nat} {W w:World} {N:Nat} (h:Below B W w) (hN:B <= N) (d0 d1:Value):Below B W ((w.setCell ⟨N,0,none⟩ d0).setCell ⟨N,1,none⟩ d1):=
 (h.setCell (p:=⟨N,0,none⟩) hN _).setCell (p:=⟨N,1,none⟩) hN _
theorem b_Z {B:Nat} {W w:World} {N:Nat} (h:Below B W w) (hN:B <= N) (d0 d1 d2:Value):Below B W (((w.setCell ⟨N,0,none⟩ d0).setCell ⟨N,1,none⟩ d1).setCell ⟨N,2,none⟩ d2):=
 ((h.setCell (p:=⟨N,0,none⟩) hN _).setCell (p:=⟨N,1,none⟩) hN _).setCell (p:=⟨N,2,none⟩) hN _
theorem At.s8 {w:World} {N:Nat} {c0 c1 c2 c3 c4 c5 c6 c7:Value} {T:TypeId} (h:At w N [c0,c1,c2,c3,c4,c5,c6,c7] T) (d0 d1 d2 d3 d4 d5 d6 d7:Value):At ((((((((w.setCell ⟨N,0,none⟩ d0).setCell ⟨N,1,none⟩ d1).setCell ⟨N,2,none⟩ d2).setCell ⟨N,3,none⟩ d3).setCell ⟨N,4,none⟩ d4).setCell ⟨N,5,none⟩ d5).setCell ⟨N,6,none⟩ d6).setCell ⟨N,7,none⟩ d7) N [d0,d1,d2,d3,d4,d5,d6,d7] T:=by
 have h0:At (w.setCell ⟨N,0,none⟩ d0) N [d0,c1,c2,c3,c4,c5,c6,c7] T:=h.set 0 d0
 have h1:At ((w.setCell ⟨N,0,none⟩ d0).setCell ⟨N,1,none⟩ d1) N [d0,d1,c2,c3,c4,c5,c6,c7] T:=h0.set 1 d1
 have h2:At (((w.setCell ⟨N,0,none⟩ d0).setCell ⟨N,1,none⟩ d1).setCell ⟨N,2,none⟩ d2) N [d0,d1,d2,c3,c4,c5,c6,c7] T:=h1.set 2 d2
 have h3:At ((((w.setCell ⟨N,0,none⟩ d0).setCell ⟨N,1,none⟩ d1).setCell ⟨N,2,none⟩ d2).setCell ⟨N,3,none⟩ d3) N [d0,d1,d2,d3,c4,c5,c6,c7] T:=h2.set 3 d3
 have h4:At (((((w.setCell ⟨N,0,none⟩ d0).setCell ⟨N,1,none⟩ d1).setCell ⟨N,2,none⟩ d2).setCell ⟨N,3,none⟩ d3).setCell ⟨N,4,none⟩ d4) N [d0,d1,d2,d3,d4,c5,c6,c7] T:=h3.set 4 d4
 have h5:At ((((((w.setCell ⟨N,0,none⟩ d0).setCell ⟨N,1,none⟩ d1).setCell ⟨N,2,none⟩ d2).setCell ⟨N,3,none⟩ d3).setCell ⟨N,4,none⟩ d4).setCell ⟨N,5,none⟩ d5) N [d0,d1,d2,d3,d4,d5,c6,c7] T:=h4.set 5 d5
 have h6:At (((((((w.setCell ⟨N,0,none⟩ d0).setCell ⟨N,1,none⟩ d1).setCell ⟨N,2,none⟩ d2).setCell ⟨N,3,none⟩ d3).setCell ⟨N,4,none⟩ d4).setCell ⟨N,5,none⟩ d5).setCell ⟨N,6,none⟩ d6) N [d0,d1,d2,d3,d4,d5,d6,c7] T:=h5.set 6 d6
 exact h6.set 7 d7
theorem At.n8 {w:World} {N M:Nat} {cs:List Value} {T:TypeId} (h:At w M cs T) (hne:M≠N) (d0 d1 d2 d3 d4 d5 d6 d7:Value):At ((((((((w.setCell ⟨N,0,none⟩ d0).setCell ⟨N,1,none⟩ d1).setCell ⟨N,2,none⟩ d2).setCell ⟨N,3,none⟩ d3).setCell ⟨N,4,none⟩ d4).setCell ⟨N,5,none⟩ d5).setCell ⟨N,6,none⟩ d6).setCell ⟨N,7,none⟩ d7) M cs T:=
 (((((((h.set_ne hne _).set_ne hne _).set_ne hne _).set_ne hne _).set_ne hne _).set_ne hne _).set_ne hne _).set_ne hne _
theorem a_h {B:Nat} {W w:World} {N:Nat} (h:Below B W w) (hN:B <= N) (d0 d1 d2 d3 d4 d5 d6 d7:Value):Below B W ((((((((w.setCell ⟨N,0,none⟩ d0).setCell ⟨N,1,none⟩ d1).setCell ⟨N,2,none⟩ d2).setCell ⟨N,3,none⟩ d3).setCell ⟨N,4,none⟩ d4).setCell ⟨N,5,none⟩ d5).setCell ⟨N,6,none⟩ d6).setCell ⟨N,7,none⟩ d7):=
 (((((((h.setCell (p:=⟨N,0,none⟩) hN _).setCell (p:=⟨N,1,none⟩) hN _).setCell (p:=⟨N,2,none⟩) hN _).setCell (p:=⟨N,3,none⟩) hN _).setCell (p:=⟨N,4,none⟩) hN _).setCell (p:=⟨N,5,none⟩) hN _).setCell (p:=⟨N,6,none⟩) hN _).setCell (p:=⟨N,7,none⟩) hN _
theorem l_j {w:World} {ok:Nat ->Prop} {sz n cap N:Nat} {a:Option Addr} {cs:List Value} (h:RowQ w ok sz a n cap cs) (hne:¬ok N) (d0 d1 d2 d3 d4 d5 d6 d7:Value):RowQ ((((((((w.setCell ⟨N,0,none⟩ d0).setCell ⟨N,1,none⟩ d1).setCell ⟨N,2,none⟩ d2).setCell ⟨N,3,none⟩ d3).setCell ⟨N,4,none⟩ d4).setCell ⟨N,5,none⟩ d5).setCell ⟨N,6,none⟩ d6).setCell ⟨N,7,none⟩ d7) ok sz a n cap cs:=
 aY (aY (aY (aY (aY (aY (aY (aY h hne) hne) hne) hne) hne) hne) hne) hne
theorem h_w (a b:List UInt8):((⟨a.toArray⟩:ByteArray).toList == (⟨b.toArray⟩:ByteArray).toList)=decide (a=b):=by
 by_cases h:a=b
 . subst h;simp
 . rw [g_6 h];simp [h]
theorem e_4 (a b:List UInt8):(a == b)=decide (a=b):=by by_cases h:a=b <;> simp [h]
theorem aX (W:World) (o:Obj):Below W.heap.size W (W.alloc o):=(a7).alloc (a8) o
theorem l_k (K V k:List UInt8) (N:Nat) (W:World) (hN:W.cell? ⟨N,0,none⟩=some (aV k)):
 Calls Tryz.prog 174 #[.agg #[aV K,aV V], .pointer (some ⟨N,0,none⟩)] W fun e w'=>e= .returned (.bool (decide (K=k)))/\Below W.heap.size W w':=by
 have hlt:=World.block_lt_of_cell? W _ hN
 have Hb:=a6 (aX W (Obj.cells #[aV K,aV V] 138))
 go_enter Tryz.func174,Tryz.ntmps174
 go_wp2_with fail
 go_ret
 exact⟨b7 (e_4 _ _),Hb.o⟩
theorem i_1:∀args w,(callFunc 174 args).run Tryz.prog w= .ok (.enter 174 args) w:=by intro args w;kernel_rfl
theorem i_2 {ps:List eK} {k:List UInt8} {j:Nat} (hj:j < ps.length) (h:ps[j].1=k) (hb:∀i (hi:i < j),(ps[i]'(by omega)).1≠k):d_6 ps k=some ps[j].2:=by
 unfold d_6
 rw [b_X (q:=fun p=>decide (p.1=k)) hj (by simpa using h) (fun i hi=>by simpa using hb i hi)]
 rfl
theorem i_3 {ps:List eK} {k:List UInt8} (hb:∀i (hi:i < ps.length),ps[i].1≠k):d_6 ps k=none:=by
 unfold d_6
 rw [a_O (fun i hi=>by simpa using hb i hi)]
 rfl
def j_i (W:World) (ps:List eK) (k:List UInt8) (e:Ending) (w':World):Prop:=e= .returned (.tuple #[aV ((d_6 ps k).getD []), .bool (d_6 ps k).isSome])/\Below W.heap.size W w'
theorem m_G (ps:List eK) (a:Option Addr) (cap:Nat) (k:List UInt8) (W:World) (hr:RowA W W.heap.size 2 a ps.length cap (bK ps)) (hn:ps.length <= 100000000):
 Calls Tryz.prog 108 #[.slice a ps.length cap,aV k] W (j_i W ps k):=by
 have hb0:=aX W (Obj.cells #[aV k] 9)
 have hk0:=At.fresh W [aV k] 9
 have hr0:=hr.keep hb0 hb0.size
 have HI:=a6 (j_h ps.length a cap 174 #[.pointer (some ⟨W.heap.size,0,none⟩)] (fun j=>decide ((ps.getD j ([], [])).1=k)) (W.alloc (Obj.cells #[aV k] 9)) hn i_1 (fun j W' hj hb=>by
  obtain⟨b,off,ha, -,h0,h1⟩:=(hr0.keep hb hb.size).prop_at j hj
  refine⟨b,off,_,_,ha,h0,h1, ?_⟩
  have hg:ps.getD j ([], [])=ps[j]:=by simp [List.getD,List.getElem?_eq_getElem hj]
  rw [hg]
  exact l_k ps[j].1 ps[j].2 k W.heap.size W' ((hk0.kept hb).cell 0 rfl)))
 have Hr:=a6 hr0;have Hb0:=a6 hb0
 have hgd:∀j (hj:j < ps.length),ps.getD j ([], [])=ps[j]:=fun j hj=>by simp [List.getD,List.getElem?_eq_getElem hj]
 rcases kQ (fun j=>decide ((ps.getD j ([], [])).1=k)) ps.length with⟨j,hj,hp,hmin,he⟩ | ⟨hall,he⟩
 . rw [he]at HI
   have HG:=a6 (i_2 (ps:=ps) (k:=k) hj (by have h:=of_decide_eq_true hp;rw [hgd j hj]at h;exact h) (fun i hi=>by have h:=of_decide_eq_false (hmin i hi);rw [hgd i (by omega)]at h;exact h))
   have hji:(j:Int) < ps.length:=by omega
   clear he hmin hp hr hr0 hb0 hk0
   go_enter Tryz.func108,Tryz.ntmps108
   go_wp2_with fail
   refine HI.o.mono ?_
   rintro e w1 ⟨rfl,hbel⟩
   obtain⟨b,off,rfl, -,h0,h1⟩:=(Hr.o.keep hbel hbel.size).prop_at j hj
   have Hb1:=a6 (Hb0.o.trans (hbel.mono Hb0.o.size))
   generalize ps[j]=q at h0 h1 HG
   clear hbel HI
   go_wp2_with fail
   go_ret2
   unfold j_i
   rw [HG.o]
   exact⟨rfl,Hb1.o⟩
 . rw [he]at HI
   have HG:=a6 (i_3 (ps:=ps) (k:=k) (fun i hi=>by have h:=of_decide_eq_false (hall i hi);rw [hgd i hi]at h;exact h))
   clear he hall hr hr0 hb0 hk0
   go_enter Tryz.func108,Tryz.ntmps108
   go_wp2_with fail
   refine HI.o.mono ?_
   rintro e w1 ⟨rfl,hbel⟩
   have Hb1:=a6 (Hb0.o.trans (hbel.mono Hb0.o.size))
   clear hbel HI
   go_wp2_with fail
   go_ret2
   unfold j_i
   rw [HG.o]
   exact⟨rfl,Hb1.o⟩
theorem cZ {w w1:World} {r:Option Nat} (h:Below w.heap.size w w1):w.grownBy w1 r:=⟨h.os,h.tape,h.output,h.size,fun i hi _=>h.block i hi⟩
theorem _root_.Go.World.grownBy.then {w w1 w2:World} {r:Option Nat} (h:w.grownBy w1 r) (k:Below w1.heap.size w1 w2):w.grownBy w2 r:=h.trans (cZ k)
theorem _root_.Go.World.grownBy.set {w w1:World} {b:Nat} (h:w.grownBy w1 (some b)) (o:Nat) (u:Value):w.grownBy (w1.setCell ⟨b,o,none⟩ u) (some b):=
 h.trans ⟨rfl,rfl,rfl,by simp [World.setCell],fun i _ hne=>Below.heap_setCell w1 ⟨b,o,none⟩ u i (by intro e;exact hne (by rw [e]))⟩
theorem _root_.Go.World.grownBy.old {w w1:World} {r:Option Nat} (h:w.grownBy w1 r) {M:Nat} (hM:M <= w.heap.size) (hr:∀k,r=some k ->M <= k):Below M w w1:=
 (Below.refl M w).grown h hM hr
theorem b5 {w0 w w1:World} (h:Below w0.heap.size w0 w) (h1:Below w.heap.size w w1):Below w0.heap.size w0 w1:=h.trans (h1.mono h.size)
theorem A8 {w:World} {ok ok':Nat ->Prop} {sz n cap:Nat} {a:Option Addr} {cs:List Value} (h:RowQ w ok sz a n cap cs) (f:∀b,ok b ->ok' b):RowQ w ok' sz a n cap cs:=h.keep (a8) (fun _ _ _=>rfl) (fun b hb _=>f b hb)
theorem G7 {w w':World} {ok:Nat ->Prop} {sz n cap:Nat} {a:Option Addr} {cs:List Value} (h:RowQ w ok sz a n cap cs) (hb:Below w.heap.size w w'):RowQ w' ok sz a n cap cs:=h.keep hb.size (fun b _ hlt=>hb.block b hlt) (fun _ h _=>h)
abbrev PX:=List Int×Option Addr×Nat
def D5 (x:PX):Value:= .slice x.2.1 x.1.length x.2.2
abbrev C5 (xs:List PX):List (List Int):=xs.map (·.1)
abbrev PxQ (w:World) (ok:Nat ->Prop) (x:PX):Prop:=b_h w ok x.2.1 x.2.2 x.1
structure jJ (w:World) (M L:Nat) (v:Value) (xs:List PX):Prop where
 own:w.ownsRow M 36 1 v xs.length (xs.map D5)
 all:∀x∈xs,PxQ w (fun b=>L <= b/\v.ownBlock≠some b) x
theorem jJ.nil (w:World) (M L:Nat):jJ w M L (.slice none 0 0) []:=⟨World.ownsRow_nil _ _ _ _,by simp⟩
theorem jJ.open {w:World} {M L:Nat} {v:Value} {xs:List PX} (h:jJ w M L v xs):
 v= .slice none 0 0/\xs= []∨ ∃b cap tl,v= .slice (some ⟨b,0,none⟩) xs.length cap/\M <= b/\At w b (xs.map D5 ++ tl) 36/\xs.length+tl.length=cap/\cap <= maxLen:=by
 obtain⟨hl,h2⟩:=h.own
 rcases h2 with⟨rfl,h0⟩ | ⟨g,cap,cur,rfl,hb,hg,hnc,hcm,hcs,htake⟩
 . exact .inl ⟨rfl,List.eq_nil_of_length_eq_zero h0⟩
 . refine .inr ⟨g,cap,cur.toList.drop xs.length,rfl,hb, ?_, ?_,hcm⟩
   . rw [Nat.mul_one]at htake
     rw [<- htake,List.take_append_drop]
     simpa [At]using hg
   . simp;omega
theorem jJ.shut {w:World} {M L b cap:Nat} {xs:List PX} {tl:List Value} (hM:M <= b) (hA:At w b (xs.map D5 ++ tl) 36) (hl:xs.length+tl.length=cap) (hm:cap <= maxLen) (hq:∀x∈xs,PxQ w (fun k=>L <= k/\k≠b) x):
 jJ w M L (.slice (some ⟨b,0,none⟩) xs.length cap) xs:=by
 refine⟨⟨by simp, .inr ⟨b,cap,_,rfl,hM,hA,by omega,hm,by simp;omega, ?_⟩⟩,fun x hx=>A8 (hq x hx) fun k hk=>⟨hk.1, ?_⟩⟩
 . simp
 . simp only [Value.ownBlock,ne_eq,Option.some.injEq]
   exact fun e=>hk.2 e.symm
theorem PxQ.grown {w w':World} {b L:Nat} {x:PX} (h:PxQ w (fun k=>L <= k/\k≠b) x) (hg:w.grownBy w' (some b)):PxQ w' (fun k=>L <= k/\k≠b) x:=
 RowQ.keep h hg.size (fun k hk hlt=>hg.block k hlt (fun e=>hk.2 (Option.some.inj e))) (fun _ h _=>h)
theorem jJ.below {w w':World} {M L:Nat} {v:Value} {xs:List PX} (h:jJ w M L v xs) (hb:Below w.heap.size w w'):jJ w' M L v xs:=
 ⟨j4 h.own hb,fun x hx=>G7 (h.all x hx) hb⟩
theorem jJ.form {w:World} {M L:Nat} {v:Value} {xs:List PX} (h:jJ w M L v xs):∃a c,v= .slice a xs.length c:=by
 rcases h.open with⟨rfl,rfl⟩ | ⟨b,cap,tl,rfl, -⟩
 . exact⟨none,0,rfl⟩
 . exact⟨_,_,rfl⟩
theorem jJ.ge {w:World} {M L:Nat} {v:Value} {xs:List PX} (h:jJ w M L v xs):∀k,v.ownBlock=some k ->M <= k:=fun k hk=>(h.own.lt k hk).1
theorem jJ.from {w:World} {M L M' L':Nat} {v:Value} {xs:List PX} (h:jJ w M L v xs) (hM:M' <= M) (hL:L' <= L):jJ w M' L' v xs:=by
 refine⟨?_,fun x hx=>A8 (h.all x hx) fun k hk=>⟨by omega,hk.2⟩⟩
 obtain⟨hl,h2⟩:=h.own
 exact⟨hl,h2.imp id fun⟨g,cap,cur,hv,hb,hr⟩=>⟨g,cap,cur,hv,by omega,hr⟩⟩
theorem d_l {w:World} {ok:Nat ->Prop}:∀ {l:List (List Int)} {cs:List Value},oY w ok l cs ->∃xs:List PX,l=C5 xs/\cs=xs.map D5/\∀x∈xs,PxQ w ok x
 | [],cs,h=>⟨[],rfl,h,by simp⟩
 | zs::l,cs,h=>by
   obtain⟨a,cap,cs',rfl,h2,h3⟩:=h
   obtain⟨xs,rfl,rfl,h4⟩:=d_l h3
   refine⟨(zs,a,cap)::xs,rfl,rfl,fun x hx=> ?_⟩
   rcases List.mem_cons.1 hx with rfl | hx
   . exact h2
   . exact h4 x hx
def LK (W:World) (L:List (List Int)) (e:Ending) (w':World):Prop:=
 ∃v xs,e= .returned v/\jJ w' W.heap.size W.heap.size v xs/\C5 xs=L/\Below W.heap.size W w'
end Go.Proofs.YtmadpclcmjahoaaGreatDoor
