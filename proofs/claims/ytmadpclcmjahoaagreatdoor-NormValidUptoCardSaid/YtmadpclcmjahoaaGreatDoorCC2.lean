/- Parts of the proof: CC2. -/
import Derived.Test.YtmadpclcmjahoaaGreatDoorCC1
import Derived.Lib.BufferMore
import Derived.Lib.Builder
import Derived.Deep.RegionLaw
import Derived.Deep.QuietTactic
import Derived.BigQuiet
import Derived.Deep.LoopGhost
import Derived.Deep.DeepCutAuto
set_option linter.unusedVariables false
set_option linter.unusedSimpArgs false
set_option maxHeartbeats 8000000
set_option maxRecDepth 100000
namespace Go.Proofs.YtmadpclcmjahoaaGreatDoor
open Go.RowKit Go.Redl
def bV (w:World) (N:Nat) (c0 c1 c2 c3:Value):Prop:=w.heap[N]? =some (.cells #[c0,c1,c2,c3] 35 (0,0))
theorem bV.facts {w:World} {N:Nat} {c0 c1 c2 c3:Value} (h:bV w N c0 c1 c2 c3):
 w.cell? N=some c0/\w.cell? (P0 N 1)=some c1/\w.cell? (P0 N 2)=some c2/\w.cell? (P0 N 3)=some c3/\
  (w.frozen? N=false/\w.frozen? (P0 N 1)=false/\w.frozen? (P0 N 2)=false/\w.frozen? (P0 N 3)=false)/\N < w.heap.size:=by
 refine⟨?_, ?_, ?_, ?_,⟨?_, ?_, ?_, ?_⟩,(Array.getElem?_eq_some_iff.1 h).1⟩
 all_goals first
  | exact Lib.frozen_of_heap h _
  | (rw [Lib.cell_of_heap h];rfl)
theorem bV.fresh (W:World) (c0 c1 c2 c3:Value):bV (W.alloc (.cells #[c0,c1,c2,c3] 35)) W c0 c1 c2 c3:=heap_alloc_new W _
theorem bV.keep {w w':World} {N:Nat} {c0 c1 c2 c3:Value} (h:bV w N c0 c1 c2 c3) (hb:Below (N+1) w w'):bV w' N c0 c1 c2 c3:=by
 unfold bV;rw [hb.block N P2];exact h
theorem bV.alloc {w:World} {N:Nat} {c0 c1 c2 c3:Value} (h:bV w N c0 c1 c2 c3) (o:Obj):bV (w.alloc o) N c0 c1 c2 c3:=by
 unfold bV;rw [Lib.alloc_old _ _ _ (Array.getElem?_eq_some_iff.1 h).1];exact h
theorem bV.all {w:World} {N:Nat} {c0 c1 c2 c3:Value} (h:bV w N c0 c1 c2 c3) (d0 d1 d2 d3:Value):bV ((((w.setCell N d0).setCell (P0 N 1) d1).setCell (P0 N 2) d2).setCell (P0 N 3) d3) N d0 d1 d2 d3:=by
 have h0:=Lib.heap_setCell_same (i:=0) h d0;have h1:=Lib.heap_setCell_same (i:=1) h0 d1;have h2:=Lib.heap_setCell_same (i:=2) h1 d2;exact Lib.heap_setCell_same (i:=3) h2 d3
theorem bV.set {w:World} {N b o:Nat} {c0 c1 c2 c3 u:Value} (h:bV w N c0 c1 c2 c3) (a:N≠b):bV (w.setCell (b,o) u) N c0 c1 c2 c3:=by
 unfold bV;rw [Below.heap_setCell _ _ _ _ a];exact h
theorem rZ (w:World) (o:Obj) (c0 c1 c2 c3:Value):bV ((w.alloc o).alloc (.cells #[c0,c1,c2,c3] 35)) (w+1) c0 c1 c2 c3:=by
 have h:=bV.fresh (w.alloc o) c0 c1 c2 c3;have e:(w.alloc o).heap.size=w.heap.size+1:=P6
 rwa [e]at h
theorem bV.s1 {w:World} {M:Nat} {c0 c1 c2 c3:Value} (h:bV w M c0 c1 c2 c3) (u:Value):bV (w.setCell (P0 M 1) u) M c0 u c2 c3:=Lib.heap_setCell_same (i:=1) h _
theorem bV.s2 {w:World} {M:Nat} {c0 c1 c2 c3:Value} (h:bV w M c0 c1 c2 c3) (u:Value):bV (w.setCell (P0 M 2) u) M c0 c1 u c3:=Lib.heap_setCell_same (i:=2) h _
theorem bV.s3 {w:World} {M:Nat} {c0 c1 c2 c3:Value} (h:bV w M c0 c1 c2 c3) (u:Value):bV (w.setCell (P0 M 3) u) M c0 c1 c2 u:=Lib.heap_setCell_same (i:=3) h _
theorem l7 {B:Nat} {W w:World} {N:Nat} (h:Below B W w) (hN:B <= N) (d0 d1 d2 d3:Value):Below B W ((((w.setCell N d0).setCell (P0 N 1) d1).setCell (P0 N 2) d2).setCell (P0 N 3) d3):=
 (((h.setCell (p:=N) hN _).setCell (p:=(P0 N 1)) hN _).setCell (p:=(P0 N 2)) hN _).setCell (p:=(P0 N 3)) hN _
theorem b9 {w:World} {ok:Nat ->Prop} {sz n cap N o:Nat} {a:Option Addr} {cs:List Value} {u:Value} (h:RowQ w ok sz a n cap cs) (c:¬ok N):RowQ (w.setCell (N,o) u) ok sz a n cap cs:=
 h.keep R9 (fun b hb _=>Below.heap_setCell w _ u b (fun e=>c (by rw [<- show b=N from e];exact hb))) (fun _ hb _=>hb)
theorem cQ {w:World} {ok:Nat ->Prop} {N o:Nat} {n:aX} {cs:List Value} {u:Value} (h:NodeQ w ok n cs) (a:¬ok N):NodeQ (w.setCell (N,o) u) ok n cs:=
 NodeQ.keep R9 (fun b hb _=>Below.heap_setCell w _ u b (fun e=>a (by rw [<- show b=N from e];exact hb))) (fun _ hb _=>hb) n cs h
theorem h_q {w:World} {ok:Nat ->Prop} {sz n cap N:Nat} {a:Option Addr} {cs:List Value} (h:RowQ w ok sz a n cap cs) (b:¬ok N) (d0 d1 d2 d3:Value):RowQ ((((w.setCell N d0).setCell (P0 N 1) d1).setCell (P0 N 2) d2).setCell (P0 N 3) d3) ok sz a n cap cs:=
 b9 (b9 (b9 (b9 h b) b) b) b
theorem nV {w:World} {base e sz n:Nat} {v:Value} {cs:List Value} (h:w.ownsRow base e sz v n cs) (h1:∀u∈cs,u.oneCell'=true):∃a cap,v= .slice a n cap/\RowQ w (fun b=>base <= b) sz a n cap cs:=by
 obtain⟨a,cap,hv,hr⟩:=RowQ.of_own h h1;exact⟨a,cap,hv,hr.keep (a8) (fun _ _ _=>rfl) (fun b hb _=>(h.lt b hb).1)⟩
theorem JX {P:Program} {ops:Array Oper} {o:Oper} {a:Act} {w:World} {K:Act ->World ->Prop} {Q:Exit ->Act ->World ->Prop} {E:Prop}
 (hg:o.guard=none) (s x:Operand) (t:TypeId) (ho:o.op= .call { callee:= .builtin .append,args:= #[s,x],argTypes:= #[t,t] })
 (base:Nat) (e:TypeId) (z:Value) (size bytes:Nat) (ht:P.underlying t=some (.slice e)) (hi:(P.info? e).map (fun i=>(i.zero,i.size,i.bytes))=some (some z,size,bytes))
 (l:z.cells.size=size) (hsz:0 < size)
 (v:Value) (n:Nat) (xs:List Value) (hs:a.eval s=v) (g:w.ownsRow base e size v n xs)
 (ad:Addr) (m c B:Nat) (news:List Value) (hx:a.eval x= .slice (some ad) m c) (hr:RowA w B size (some ad) m c news)
 (p:n+m <= maxLen) (b:(n+m) * bytes <= 140737488355328) (d:base <= w.heap.size)
 (h:∀v' w',w'.ownsRow base e size v' (n+m) (xs ++ news) ->w.grownBy w' v.ownBlock ->(v'.ownBlock=v.ownBlock∨ ∀k,v'.ownBlock=some k ->w.heap.size <= k) ->K (a.put o.dst v') w'):if Region.wanted o (yielded ops a.tmps)=true then Oper.wp P o a w K Q else E:=by
 have hw:Region.wanted o (yielded ops a.tmps)=true:=S4
 rw [if_pos hw];obtain⟨i,q,hz,f,r⟩:=info_parts hi;obtain⟨v',w',j,h2,h3,h4⟩:=a_S (P:=P) w base t o.type e i z size bytes ht q hz f r l hsz v n xs g ad m c news hr.len hr.cells hr.one p b d;unfold Oper.wp execOp;simp only [ho,resolve,invoke,builtin,Sem.run_bind,Sem.run_pure,Result.andThen_ok,List.map_toArray,List.map_cons,List.map_nil,hs,hx,j];exact h v' w' h2 h3 h4
theorem CV {w w1:World} {c0 c1:Value} {T:TypeId} (hb:Below (w+1) (w.alloc (.cells #[c0,c1] T)) w1):
 w1.cell? w=some c0/\w1.cell? (P0 w 1)=some c1:=by
 have h:w1.heap[w.heap.size]? =some (.cells #[c0,c1] T (0,0)):=by
  rw [hb.block w P2];exact heap_alloc_new w _
 refine⟨?_, ?_⟩ <;> (rw [cell_of_row _ _ _ _ _ _ h];rfl)
theorem eZ {B:Nat} {w w1 w2:World} (h:Below B w w1) (h2:Below w1 w1 w2) (hB:B <= w.heap.size):Below B w w2:=
 h.trans (h2.mono (aJ hB h.size))
theorem JY {w w1:World} {c0 c1 c2 c3:Value} {T:TypeId} (hb:Below (w+1) (w.alloc (.cells #[c0,c1,c2,c3] T)) w1):
 w1.cell? w=some c0/\w1.cell? (P0 w 1)=some c1/\w1.cell? (P0 w 2)=some c2/\w1.cell? (P0 w 3)=some c3:=by
 have h:w1.heap[w.heap.size]? =some (.cells #[c0,c1,c2,c3] T (0,0)):=by
  rw [hb.block w P2];exact heap_alloc_new w _
 refine⟨?_, ?_, ?_, ?_⟩ <;> (rw [cell_of_row _ _ _ _ _ _ h];rfl)
theorem i8 {w w1:World} {o:Obj} (hb:Below (w.alloc o).heap.size (w.alloc o) w1):Below (w+1) (w.alloc o) w1:=by
 have:(w.alloc o).heap.size=w.heap.size+1:=P6
 rwa [this]at hb
theorem j6 {w w1:World} {o:Obj} (hb:Below (w+1) (w.alloc o) w1):Below w w w1:=
 ((Below.refl w w).alloc (a8) o).trans (hb.mono P2)
theorem d_M {w w1:World} {o o':Obj} (hb:Below (w+1) (w.alloc o) w1):Below (w+1) (w.alloc o) (w1.alloc o'):=
 hb.alloc (by have:=hb.size;simp at this;omega) o'
theorem c_s (w:World) (o:Obj):Below w w (w.alloc o):=(a7).alloc (a8) o
theorem f_F {w:World} {B cap n:Nat} {a:Option Addr} {cs:List Value} {sz:Nat} (h:RowA w B sz a n cap cs):n <= 9223372036854775807:=by
 have h1:=h.le;have h2:=h.max;unfold maxLen at h2;omega
theorem b_1:(Tryz.prog.info? 21).map (fun i=>(i.zero,i.size,i.bytes))=some (some (.int .i32 0),1,4):=P3
theorem p_I (c:Int) (w:World):
 Calls Tryz.prog 172 #[.int .i32 c] w fun e w'=>e= .returned (kZ c)/\w=w':=by
 go_enter Tryz.func172,Tryz.ntmps172
 go_wp2
 all_goals (go_ret;refine⟨bJ ?_,rfl⟩;unfold kZ;simp;try omega)
theorem n_l (c:Int) (w:World):
 Calls Tryz.prog 171 #[.int .i32 c] w fun e w'=>e= .returned (!kZ c)/\w=w':=by
 go_enter Tryz.func171,Tryz.ntmps171
 go_wp2_with (go_at_call 172;refine(p_I _ _).mono ?_;rintro e w' ⟨rfl,rfl⟩)
 go_ret;exact⟨rfl,rfl⟩
theorem d_N (v:Value) (B:Nat) (zs:List Int) (fid:Nat) (caps:Array Value) (p:Int ->Bool) (w:World)
 (hv:c_r .i32 w B v zs) (he:∀args w,(callFunc fid args).run Tryz.prog w= .ok (.enter fid args) w)
 (hf:∀x,x∈zs ->Calls Tryz.prog fid (#[.int .i32 x] ++ caps) w fun e w'=>e= .returned (.bool (p x))/\w=w'):
 Calls Tryz.prog 232 #[v, .func (.func fid) #[] caps] w fun e w'=>e= .returned (idx p zs)/\w=w':=by
 have Hf:=a6 hf;clear hf;obtain⟨⟨a,cap,rfl,hr⟩, -⟩:=hv;have hm:zs.length <= 9223372036854775807:=PQ
 go_enter Tryz.func232,Tryz.ntmps232
 go_wp2_with fail
 go_loop [8] (fun i=>∃k:Nat,k <= zs.length/\i= .int .i64 k/\j_a p zs k) (fun i=>zs.length - (intOf i).toNat)
 case atStart=>exact⟨0,Nat.zero_le _,rfl,l_y p zs⟩
 case round=>
  obtain⟨k,hk,rfl,hp⟩:=hrel;have Hp:=a6 hp;clear hp
  by_cases c:k < zs.length
  . obtain ⟨b,off,rfl,hb,d⟩:=hr.int_at k c
    have d:=d k c;have g:zs[k]∈zs:=NY c;go_wp2_with fail;refine(Hf.o zs[k] g).mono ?_;rintro e w' ⟨rfl,rfl⟩;cases f:p zs[k]
    . go_wp2_with fail
      go_round
      case rel=>exact⟨k+1,by omega,by go_num,l_z Hp.o c f⟩
      case measure=>simp [intOf];omega
    go_wp2_with fail;go_ret;exact⟨dV (r_v Hp.o c f).symm,rfl⟩
  go_wp2_with fail;go_ret;obtain rfl:k=zs.length:=P2
  exact⟨dV (n_j Hp.o).symm,rfl⟩
theorem b_y (v:Value) (B:Nat) (zs:List Int) (fid:Nat) (caps:Array Value) (p:Int ->Bool) (w:World)
 (hv:c_r .i32 w B v zs) (he:∀args w,(callFunc fid args).run Tryz.prog w= .ok (.enter fid args) w)
 (hf:∀x,x∈zs ->Calls Tryz.prog fid (#[.int .i32 x] ++ caps) w fun e w'=>e= .returned (.bool (p x))/\w=w'):
 Calls Tryz.prog 170 #[v, .func (.func fid) #[] caps] w fun e w'=>e= .returned (zs.any p)/\w=w':=by
 have H:=a6 (d_N v B zs fid caps p w hv he hf);clear hf hv;have Hx:=a6 (p_H p zs)
 go_enter Tryz.func170,Tryz.ntmps170
 go_wp2_with fail;refine H.o.mono ?_;rintro e w' ⟨rfl,rfl⟩;go_wp2_with fail;go_ret;exact⟨bJ Hx.o,rfl⟩
def b_2 (zs:List Int):Int:=if zs.any (fun c=> !kZ c) then 4 else 0
theorem p_J (v:Value) (B:Nat) (zs:List Int) (w:World) (hv:c_r .i32 w B v zs):
 Calls Tryz.prog 105 #[v] w fun e w'=>e= .returned (b_2 zs)/\w=w':=by
 have H:=a6 (b_y v B zs 171 #[] (fun c=> !kZ c) w hv PY (fun x _=>n_l x w));clear hv;have Hx:Hid (b_2 zs=if zs.any (fun c=> !kZ c) then 4 else 0):=rfl
 go_enter Tryz.func105,Tryz.ntmps105
 go_wp2_with fail;refine H.o.mono ?_;rintro e w' ⟨rfl,rfl⟩;clear H;cases h:zs.any (fun c=> !kZ c) <;> rw [h]at Hx
 . go_wp2_with fail
   go_ret;exact⟨dV (by rw [Hx.o];rfl),rfl⟩
 go_wp2_with fail;go_ret;exact⟨dV (by rw [Hx.o];rfl),rfl⟩
theorem j_b (v1 v2:Value) (B:Nat) (xs ys:List Int) (w:World) (h1:c_r .i32 w B v1 xs) (h2:c_r .i32 w B v2 ys):
 Calls Tryz.prog 159 #[v1,v2] w fun e w'=>e= .returned (decide (xs=ys))/\pY w w':=by
 obtain⟨⟨a,cap,rfl,hr⟩, -⟩:=h1;obtain⟨⟨a',cap',rfl,j⟩, -⟩:=h2;have hm:xs.length <= 9223372036854775807:=PQ
 have n:ys.length <= 9223372036854775807:=RJ
 by_cases hl:xs.length=ys.length
 . go_enter Tryz.func159,Tryz.ntmps159
   have o:ys.length <= xs.length:=P2
   have m:xs.length <= ys.length:=P2
   have l:(((xs.length:Nat):Int) != (ys.length:Int))=false:=XQ
   have Hl:=a6 hl;clear hl;go_wp2_with fail
   go_loopw [13] (fun i wr=>∃k:Nat,k <= xs.length/\i= .int .i64 k/\EZ xs ys k/\pY w wr) (fun i _=>xs.length - (intOf i).toNat)
   case atStart=>exact⟨0,Nat.zero_le _,rfl,E4 _ _,⟨0,rfl⟩⟩
   case round=>
    obtain⟨k,hk,rfl,hp,q,rfl⟩:=hrel;have Hp:=a6 hp;clear hp
    by_cases f:k < xs.length
    . obtain ⟨b,off,rfl,hb,d⟩:=hr.int_at k f
      obtain⟨b',off',rfl,p,c⟩:=j.int_at k P2;have d:=d k f;have c:=c k P2;have g:k < ys.length:=P2
      rw [gK f]at d;rw [gK g]at c;go_wp2_with fail
      by_cases he:xs[k]=ys[k]
      . have l:(xs[k] != ys[k])=false:=VQ
        have He:=a6 he;clear he
        go_quiet (fail)
        go_wp2_with fail
        go_roundw
        case rel=>exact⟨k+1,by omega,by go_num,E5 Hp.o f g He.o,by first | exact kY _ _ | exact j9 _ _ _⟩
        case measure=>simp [intOf];omega
      have l:(xs[k] != ys[k])=true:=VQ
      have He:=a6 he;clear he
      go_quiet (fail)
      go_wp2_with fail;go_ret;exact⟨bJ t_S,j9 _ _ _⟩
    go_wp2_with fail;go_ret;obtain rfl:k=xs.length:=P2
    exact⟨bJ WK,kY _ _⟩
 have l:(((xs.length:Nat):Int) != (ys.length:Int))=true:=P8
 have Hl:=a6 hl;clear hl
 go_enter Tryz.func159,Tryz.ntmps159
 go_wp2_with fail;go_ret;exact⟨bJ S5,CQ _⟩
theorem j_c:(Tryz.prog.info? 138).map (fun i=>(i.zero,i.size,i.bytes))=some (some (.agg #[.string ⟨#[]⟩, .string ⟨#[]⟩]),2,32):=P3
theorem A5:(Tryz.prog.info? 35).map (fun i=>(i.zero,i.size,i.bytes))=some (some (.agg #[false,(),(),()]),4,80):=P3
theorem L6 (B n:Nat) (a:Option Addr) (cap:Nat) (cs:List Value) (w:World) (hr:RowA w B 2 a n cap cs) (hB:B <= w.heap.size) (hn:n <= 100000000):
 Calls Tryz.prog 113 #[(a,n,cap)] w (vX w 138 2 n cs):=by
 have c:=fun(w:World)=>Lib.run_eql_slice_nil w (P:=Tryz.prog) 31 138 a n cap 0 0 Tryz.underlying31
 cases ha:a with
 | none=>
   subst ha;obtain rfl:=hr.nil rfl;obtain rfl:n=0:=S7
   have d:cs= []:=O2 SJ;subst d;go_enter Tryz.func113,Tryz.ntmps113;go_wp2_with fail;go_ret;exact⟨_,rfl,World.ownsRow_nil _ _ _ _,a7⟩
 | some ad=>
   subst ha;go_enter Tryz.func113,Tryz.ntmps113
   go_wp2_with (at_builtin;refine u_9 rfl _ _ 31 rfl w.heap.size 138 (.agg #[.string ⟨#[]⟩, .string ⟨#[]⟩]) 2 32 Tryz.underlying31 j_c rfl P9 _ 0 [] rfl ?hown _ n cap B cs rfl ?hr ?h63 ?hb ?hbase ?_)
   case hown=>exact World.ownsRow_lit w #[] 0 (a8) (Nat.zero_le _) rfl
   case hr=>exact hr.keep ((a7).alloc hB _) (a8)
   case h63=>unfold maxLen;omega
   case hb=>omega
   case hbase=>simp
   intro v' w1 hown b;have Ho:=a6 hown;have Hg:=a6 b;clear hown b c hr
   go_wp2_with fail;go_ret;refine⟨v',rfl,by simpa using Ho.o,((a7).alloc (a8) _).grown Hg.o P6 ?_⟩
   simp [Value.ownBlock]
theorem j_d (B n:Nat) (a:Option Addr) (cap:Nat) (cs:List Value) (w:World) (hr:RowA w B 4 a n cap cs) (hB:B <= w.heap.size) (hn:n <= 100000000):
 Calls Tryz.prog 115 #[(a,n,cap)] w (vX w 35 4 n cs):=by
 have c:=fun(w:World)=>Lib.run_eql_slice_nil w (P:=Tryz.prog) 33 35 a n cap 0 0 Tryz.underlying33
 cases ha:a with
 | none=>
   subst ha;obtain rfl:=hr.nil rfl;obtain rfl:n=0:=S7
   have d:cs= []:=O2 SJ;subst d;go_enter Tryz.func115,Tryz.ntmps115;go_wp2_with fail;go_ret;exact⟨_,rfl,World.ownsRow_nil _ _ _ _,a7⟩
 | some ad=>
   subst ha;go_enter Tryz.func115,Tryz.ntmps115
   go_wp2_with (at_builtin;refine u_9 rfl _ _ 33 rfl w.heap.size 35 (.agg #[false,(),(),()]) 4 80 Tryz.underlying33 A5 rfl P9 _ 0 [] rfl ?hown _ n cap B cs rfl ?hr ?h63 ?hb ?hbase ?_)
   case hown=>exact World.ownsRow_lit w #[] 0 (a8) (Nat.zero_le _) rfl
   case hr=>exact hr.keep ((a7).alloc hB _) (a8)
   case h63=>unfold maxLen;omega
   case hb=>omega
   case hbase=>simp
   intro v' w1 hown b;have Ho:=a6 hown;have Hg:=a6 b;clear hown b c hr
   go_wp2_with fail;go_ret;refine⟨v',rfl,by simpa using Ho.o,((a7).alloc (a8) _).grown Hg.o P6 ?_⟩
   simp [Value.ownBlock]
theorem d_0 (B n:Nat) (a:Option Addr) (cap:Nat) (cs:List Value) (w:World) (hr:RowA w B 1 a n cap cs) (hB:B <= w.heap.size) (hn:n <= 100000000):
 Calls Tryz.prog 114 #[(a,n,cap)] w (vX w 21 1 n cs):=by
 have c:=fun(w:World)=>Lib.run_eql_slice_nil w (P:=Tryz.prog) 32 21 a n cap 0 0 Tryz.underlying32
 cases ha:a with
 | none=>
   subst ha;obtain rfl:=hr.nil rfl;obtain rfl:n=0:=S7
   have d:cs= []:=O2 SJ;subst d;go_enter Tryz.func114,Tryz.ntmps114;go_wp2_with fail;go_ret;exact⟨_,rfl,World.ownsRow_nil _ _ _ _,a7⟩
 | some ad=>
   subst ha;go_enter Tryz.func114,Tryz.ntmps114
   go_wp2_with (at_builtin;refine u_9 rfl _ _ 32 rfl w.heap.size 21 (.int .i32 0) 1 4 Tryz.underlying32 b_1 rfl P9 _ 0 [] rfl ?hown _ n cap B cs rfl ?hr ?h63 ?hb ?hbase ?_)
   case hown=>exact World.ownsRow_lit w #[] 0 (a8) (Nat.zero_le _) rfl
   case hr=>exact hr.keep ((a7).alloc hB _) (a8)
   case h63=>unfold maxLen;omega
   case hb=>omega
   case hbase=>simp
   intro v' w1 hown b;have Ho:=a6 hown;have Hg:=a6 b;clear hown b c hr
   go_wp2_with fail;go_ret;refine⟨v',rfl,by simpa using Ho.o,((a7).alloc (a8) _).grown Hg.o P6 ?_⟩
   simp [Value.ownBlock]
theorem JZ {w:World} {base e sz n c:Nat} {a:Option Addr} {cs:List Value} (h:w.ownsRow base e sz (a,n,c) n cs) (b:cs≠ []):∃g,a=some ⟨g,0,none⟩/\base <= g:=by
 rcases h.2 with⟨h',h2⟩ | ⟨g,cap,cur,h',hb,hg, -⟩
 . have:=h.1
   rw [h2]at this;exact absurd (O2 (by simpa using this)) b
 injection h' with e1 e2 e3
 exact⟨g,e1,hb⟩
theorem dK.len' {w:World} {ok:Nat ->Prop} {ks:List aX} {css:List Value} (h:dK w ok ks css):css.length=ks.length * 4:=(dK.kids _ _ h).len
theorem n_m {p q r:List Value} {k:Nat} {a b c d u0 u1 u2 u3:Value} (hk:p.length=k) (hq:q=a::b::c::d::r):((((p ++ q).set k u0).set (k+1) u1).set (k+2) u2).set (k+3) u3=(p ++ [u0,u1,u2,u3]) ++ r:=by
 subst hq;subst hk
 simp
theorem G4 {w:World} {base e sz n c g:Nat} {cs:List Value} (h:w.ownsRow base e sz (g,n,c) n cs) (j:Nat) (u:Value) (hu:cs[j]? =some u):w.cell? (g,j)=some u:=by
 have:=World.ownsRow.cells (g:=g) h rfl j u hu;rw [JQ]at this;simpa using this
def r_g (W:World) (n:aX) (e:Ending) (w':World):Prop:= ∃cs,e= .returned (.agg cs.toArray)/\NodeQ w' (fun b=>W.heap.size <= b) n cs/\Below W W w'
def aY:aX ->List aX
 | .mk _ _ _ ks=>ks
def l9:aX ->List Int ->Option aX
 | n, []=>some n
 | n,i::p=>if 0 <= i then (match (aY n)[i.toNat]? with | some k=>l9 k p | none=>none) else none
def d_1 (w:World) (B b off:Nat) (n:aX):Prop:= ∃l a1 n1 c1 a2 n2 c2 a3 n3 c3,dY w B n [.bool l, .slice a1 n1 c1, .slice a2 n2 c2, .slice a3 n3 c3]/\w.cell? (b,off)=some (.bool l)/\w.cell? (b,off+1)=some (.slice a1 n1 c1)/\
 w.cell? (b,off+2)=some (.slice a2 n2 c2)/\w.cell? (b,off+3)=some (.slice a3 n3 c3)
def AtP (w:World) (B:Nat) (R:Option aX) (e:Ending) (w':World):Prop:=
 match R with
 | some m=>(∃b off,e= .returned (.tuple #[.pointer (some ⟨b,off,none⟩),OY])/\d_1 w B b off m)/\w=w'
 | none=>e= .returned (.tuple #[.pointer none, .int .i64 5])/\w=w'
theorem r_w (n:aX) (p:List Int) (a:Option Addr) (cap:Nat) (b off B:Nat) (w:World) (hn:d_1 w B b off n) (hr:RowA w B 1 a p.length cap (p.map (Value.int .i64))):
 Calls Tryz.prog 60 #[.pointer (some (b,off)),(a,p.length,cap)] w (AtP w B (l9 n p)):=by
 have hm:p.length <= 9223372036854775807:=PQ
 obtain⟨R,hR⟩:∃R,R=l9 n p:=⟨_,rfl⟩;rw [<- hR];have HR:=a6 hR;have Hn:=a6 hn
 clear hR hn;go_enter Tryz.func60,Tryz.ntmps60;go_wp2_with fail
 go_loopg [0,10] p.length (fun g q i wr=>∃ (k b' off':Nat) (n':aX),q= .pointer (some (b',off'))/\i= .int .i64 k/\k+g=p.length/\l9 n' (p.drop k)=R/\d_1 w B b' off' n'/\wr=w)
 case atStart=>exact⟨0,b,off,n,rfl,rfl,by omega,HR.o.symm,Hn.o,rfl⟩
 case round=>
  obtain⟨k,b',off',n',rfl,rfl,hg,s,t,rfl⟩:=hrel;have c:=a6 s;have y:=a6 t
  obtain⟨l,a1,n1,c1,a2,n2,c2,a3,n3,c3,r,x0,x1,x2,x3⟩:=t;clear s Hn HR;by_cases h:k < p.length
  . have hd:p.drop k=p[k]::p.drop (k+1):=NX h
    have Hd:=a6 hd;obtain⟨pb,po,rfl,F,d⟩:=hr.int_at k h;have e:=d k h;rw [gK h]at e;clear d;generalize p[k]=i at e Hd;have D:(k:Int) < p.length:=P2
    clear hd;obtain⟨l',ps',t',ks'⟩:=n';have o:=r;unfold dY at o;obtain⟨ap,cp,at_,ct,ak,ck,css,z, -, -, -,hk,m⟩:=o;injection z with e0 e1;injection e1 with e1 e2;injection e2 with e2 e3;injection e3 with e3 e4
    injection e3 with f1 f2 f3
    subst f1;subst f2;subst f3;clear e0 e1 e2 e4 r;by_cases h0:0 <= i
    . obtain ⟨j,rfl⟩:∃j:Nat,i=j:=⟨i.toNat,by omega⟩
      by_cases hj:j < ks'.length
      . obtain ⟨kb,ko,l1,b1,o1,d1,b2,o2,d2,b3,o3,d3,rfl,G,u,g0,g1,g2,g3⟩:=hk.kid_at m j hj
        have v:Hid (l9 ks'[j] (p.drop (k+1))=R):=by
         show _=R
         rw [<- c.o,Hd.o];simp [l9,aY,NV hj]
        have A:=a6 (show d_1 wr B kb (ko+j * 4) ks'[j]from⟨l1,b1,o1,d1,b2,o2,d2,b3,o3,d3,u,g0,g1,g2,g3⟩);have x:decide ((j:Int) < 0)=false:=P6
        have H:(j:Int) < ks'.length:=P2
        have C:decide ((ks'.length:Int) <= j)=false:=P8
        clear u hk m c;go_wp2_with fail
        go_roundg (gk - 1)
        case measure=>omega
        case rel=>exact⟨k+1,kb,ko+j * 4,ks'[j],rfl,rfl,by omega,v.o,A.o,rfl⟩
      have f:Hid (R=none):=by
       show R=none
       rw [<- c.o,Hd.o];simp [l9,aY,List.getElem?_eq_none (Nat.le_of_not_lt hj)]
      have x:decide ((j:Int) < 0)=false:=P6
      have C:decide ((ks'.length:Int) <= j)=true:=P8
      clear hk m c;go_wp2_with fail;go_ret2;rw [f.o];exact⟨rfl,rfl⟩
    have f:Hid (R=none):=by
     show R=none
     rw [<- c.o,Hd.o];simp only [l9];rw [if_neg h0]
    have E:i < 0:=P2
    clear hk m c;go_wp2_with fail;go_ret2;rw [f.o];exact⟨rfl,rfl⟩
  have x:decide ((k:Int) < p.length)=false:=P8
  have f:Hid (R=some n'):=by
   show R=_
   rw [<- c.o,List.drop_eq_nil_of_le P2]
   rfl
  clear r;go_wp2_with fail;go_ret2;rw [f.o];exact⟨⟨b',off',rfl,y.o⟩,rfl⟩
theorem zJ:∀ (p:List Int) (n m:aX),l9 n p=some m ->m.wt <= n.wt
 | [],n,m,h=>by unfold l9 at h;injection h with h;subst h;exact a8
 | i ::p,n,m,h=>by
   unfold l9 at h;split at h
   . split at h
     . rename_i k hk
       have h1:=zJ p k m h;obtain⟨l,ps,t,ks⟩:=n;have hm:k∈ks:=List.mem_of_getElem? hk;have:=jJ hm;simp only [aX.wt];omega
     cases h
   cases h
def s_e (W:World) (R:Option aX) (e:Ending) (w':World):Prop:=
 match R with
 | some m=>∃cs,e= .returned (.tuple #[.agg cs.toArray,OY])/\NodeQ w' (fun b=>W.heap.size <= b) m cs/\Below W W w'
 | none=>e= .returned (.tuple #[.agg #[false,(),(),()], .int .i64 5])/\Below W W w'
def CX (w:World) (b off:Nat) (cs:List Value):Prop:=cs.length=4/\∀j u,cs[j]? =some u ->w.cell? ⟨b,off+j,none⟩=some u
mutual
def lZ (w:World):aX ->Nat ->Nat ->List Value ->Prop
 | .mk l ps t ks,lo,hi,cs=>∃ (mid:Nat) (ap:Option Addr) (cp:Nat) (at_:Option Addr) (ct:Nat) (ak:Option Addr) (ck:Nat) (css:List Value),lo <= mid/\cs= [.bool l, .slice ap ps.length cp, .slice at_ t.length ct, .slice ak ks.length ck]/\
     RowQ w (fun b=>lo <= b/\b < mid/\(Value.slice ak ks.length ck).ownBlock≠some b) 2 ap ps.length cp (cK ps)/\
     RowQ w (fun b=>lo <= b/\b < mid/\(Value.slice ak ks.length ck).ownBlock≠some b) 1 at_ t.length ct (t.map (Value.int .i32))/\(∀z∈t,(Lit.int .i32 z).wf=true)/\
     w.ownsRow lo 35 4 (ak,ks.length,ck) ks.length css/\(∀g,(Value.slice ak ks.length ck).ownBlock=some g ->g < mid)/\gJ w ks mid hi css
def gJ (w:World):List aX ->Nat ->Nat ->List Value ->Prop
 | [],lo,hi,css=>css= []/\lo <= hi
 | k::ks,lo,hi,css=>∃ (m:Nat) (c1 c2:List Value),lo <= m/\css=c1 ++ c2/\lZ w k lo m c1/\gJ w ks m hi c2
end
mutual
theorem lZ.le {w:World}:∀ {n:aX} {lo hi:Nat} {cs:List Value},lZ w n lo hi cs ->lo <= hi
 | .mk l ps t ks,lo,hi,cs,h=>by
   unfold lZ at h;obtain⟨mid,_,_,_,_,_,_,_,h1,_,_,_,_,_,_,h2⟩:=h;exact aJ h1 (gJ.le h2)
theorem gJ.le {w:World}:∀ {ks:List aX} {lo hi:Nat} {css:List Value},gJ w ks lo hi css ->lo <= hi
 | [],lo,hi,css,h=>by unfold gJ at h;exact h.2
 | k::ks,lo,hi,css,h=>by
   unfold gJ at h;obtain⟨m,c1,c2,h0,_,_,h2⟩:=h;exact aJ h0 (gJ.le h2)
end
mutual
theorem lZ.keep {w w':World} (hs:w.heap.size <= w'.heap.size):∀ {n:aX} {lo hi:Nat} {cs:List Value},(∀b,lo <= b ->b < hi ->b < w.heap.size ->w'.heap[b]? =w.heap[b]?) ->lZ w n lo hi cs ->lZ w' n lo hi cs
 | .mk l ps t ks,lo,hi,cs,hk,h=>by
   unfold lZ at h⊢;obtain⟨mid,ap,cp,at_,ct,ak,ck,css,h1,h2,h3,h4,h5,h6,h7,h8⟩:=h;have e:=gJ.le h8;refine⟨mid,ap,cp,at_,ct,ak,ck,css,h1,h2,h3.keep hs (fun b hb a=>hk b hb.1 P2 a) (fun _ h _=>h),h4.keep hs (fun b hb a=>hk b hb.1 P2 a) (fun _ h _=>h),h5,⟨h6.1, ?_⟩,h7,gJ.keep hs (fun b hb c a=>hk b P2 c a) h8⟩;rcases h6.2 with hn | ⟨g,cap,cur,hv,hb,hg,hr⟩
   . exact .inl hn
   refine .inr ⟨g,cap,cur,hv,hb, ?_,hr⟩;have d:g < w.heap.size:=by
    rcases Nat.lt_or_ge g w with h | h
    . exact h
    rw [Array.getElem?_eq_none h]at hg;cases hg
   rw [hk g hb (by have:=h7 g (by rw [hv];rfl);omega) d];exact hg
theorem gJ.keep {w w':World} (hs:w.heap.size <= w'.heap.size):∀ {ks:List aX} {lo hi:Nat} {css:List Value},(∀b,lo <= b ->b < hi ->b < w.heap.size ->w'.heap[b]? =w.heap[b]?) ->gJ w ks lo hi css ->gJ w' ks lo hi css
 | [],lo,hi,css,hk,h=>by unfold gJ at h⊢;exact h
 | k::ks,lo,hi,css,hk,h=>by
   unfold gJ at h⊢;obtain⟨m,c1,c2,h0,h1,h2,h3⟩:=h;have:=gJ.le h3;exact⟨m,c1,c2,h0,h1,lZ.keep hs (fun b hb c a=>hk b hb P2 a) h2,gJ.keep hs (fun b hb c a=>hk b P2 c a) h3⟩
end
mutual
theorem lZ.q {w:World} {ok:Nat ->Prop}:∀ {n:aX} {lo hi:Nat} {cs:List Value},(∀b,lo <= b ->b < hi ->ok b) ->lZ w n lo hi cs ->NodeQ w ok n cs
 | .mk l ps t ks,lo,hi,cs,hk,h=>by
   unfold lZ at h;unfold NodeQ;obtain⟨mid,ap,cp,at_,ct,ak,ck,css,h1,h2,h3,h4,h5,h6,h7,h8⟩:=h;have d:=gJ.le h8;have c:=gJ.q (ok:=ok) (fun b hb a=>hk b P2 a) h8;obtain⟨a',c',hv,hr⟩:=RowQ.of_own h6 (dK.onec c);injection hv with e1 e2 e3
   subst e1;subst e3;refine⟨ap,cp,at_,ct,ak,ck,css,h2,h3.keep (a8) (fun _ _ _=>rfl) (fun b hb _=>hk b hb.1 P2),h4.keep (a8) (fun _ _ _=>rfl) (fun b hb _=>hk b hb.1 P2),h5,hr.keep (a8) (fun _ _ _=>rfl) (fun b hb _=>hk b (h6.lt b hb).1 (by have:=h7 b hb;omega)),c⟩
theorem gJ.q {w:World} {ok:Nat ->Prop}:∀ {ks:List aX} {lo hi:Nat} {css:List Value},(∀b,lo <= b ->b < hi ->ok b) ->gJ w ks lo hi css ->dK w ok ks css
 | [],lo,hi,css,hk,h=>by unfold gJ at h;unfold dK;exact h.1
 | k::ks,lo,hi,css,hk,h=>by
   unfold gJ at h;unfold dK;obtain⟨m,c1,c2,h0,h1,h2,h3⟩:=h;have:=gJ.le h3;exact⟨c1,c2,h1,lZ.q (fun b hb a=>hk b hb P2) h2,gJ.q (fun b hb a=>hk b P2 a) h3⟩
end
theorem gJ.up {w:World}:∀ {ks:List aX} {lo hi a:Nat} {css:List Value},gJ w ks lo hi css ->hi <= a ->gJ w ks lo a css
 | [],lo,hi,a,css,h,he=>by unfold gJ at h⊢;exact⟨h.1,by omega⟩
 | k::ks,lo,hi,a,css,h,he=>by
   unfold gJ at h⊢;obtain⟨m,c1,c2,h0,h1,h2,h3⟩:=h;exact⟨m,c1,c2,h0,h1,h2,gJ.up h3 he⟩
theorem lZ.wide {w:World} {n:aX} {lo hi lo' a:Nat} {cs:List Value} (h:lZ w n lo hi cs) (hl:lo' <= lo) (hh:hi <= a):lZ w n lo' a cs:=by
 obtain⟨l,ps,t,ks⟩:=n;unfold lZ at h⊢;obtain⟨mid,ap,cp,at_,ct,ak,ck,css,h1,h2,h3,h4,h5,h6,h7,h8⟩:=h;refine⟨mid,ap,cp,at_,ct,ak,ck,css,by omega,h2,h3.keep (a8) (fun _ _ _=>rfl) (fun b hb _=>⟨by omega,hb.2⟩),h4.keep (a8) (fun _ _ _=>rfl) (fun b hb _=>⟨by omega,hb.2⟩),h5,⟨h6.1, ?_⟩,h7,h8.up hh⟩;rcases h6.2 with hn | ⟨g,cap,cur,hv,hb,hr⟩
 . exact .inl hn
 exact .inr ⟨g,cap,cur,hv,by omega,hr⟩
theorem gJ.snoc {w:World}:∀ {ks:List aX} {k:aX} {lo m hi:Nat} {css c:List Value},gJ w ks lo m css ->lZ w k m hi c ->gJ w (ks ++ [k]) lo hi (css ++ c)
 | [],k,lo,m,hi,css,c,h,hn=>by
   unfold gJ at h;obtain⟨rfl,hm⟩:=h
   show gJ w [k] lo hi c
   unfold gJ;exact⟨hi,c, [],aJ hm (lZ.le hn),by simp,hn.wide hm (a8),by unfold gJ;exact⟨rfl,a8⟩⟩
 | x::ks,k,lo,m,hi,css,c,h,hn=>by
   unfold gJ at h;obtain⟨m1,c1,c2,h0,rfl,h2,h3⟩:=h
   show gJ w (x::(ks ++ [k])) lo hi (c1 ++ c2 ++ c)
   unfold gJ;exact⟨m1,c1,c2 ++ c,h0,by simp,h2,gJ.snoc h3 hn⟩
theorem lZ.four {w:World} {n:aX} {lo hi:Nat} {cs:List Value} (h:lZ w n lo hi cs):cs.length=4:=by
 obtain⟨l,ps,t,ks⟩:=n;unfold lZ at h;obtain⟨mid,ap,cp,at_,ct,ak,ck,css,h1,rfl, -⟩:=h
 rfl
theorem G5 {w w':World} {ok ok':Nat ->Prop} {sz n cap:Nat} {a:Option Addr} {cs:List Value} (h:RowQ w ok sz a n cap cs) (hs:w.heap.size <= w'.heap.size) (hk:∀b o,ok b ->b < w.heap.size ->w'.cell? ⟨b,o,none⟩=w.cell? ⟨b,o,none⟩) (ho:∀b,ok b ->ok' b):RowQ w' ok' sz a n cap cs:=by
 refine⟨h.len,h.le,h.max,h.one,h.nil,fun e=> ?_⟩;obtain⟨b,off,ha,hb,d,c⟩:=h.some_ e;exact⟨b,off,ha,ho b hb,Nat.lt_of_lt_of_le d hs,fun j u hj=>by rw [hk b _ hb d];exact c j u hj⟩
mutual
theorem d_2 {w w':World} {ok ok':Nat ->Prop} (hs:w.heap.size <= w'.heap.size) (hk:∀b o,ok b ->b < w.heap.size ->w'.cell? ⟨b,o,none⟩=w.cell? ⟨b,o,none⟩) (ho:∀b,ok b ->ok' b):∀ (n:aX) (cs:List Value),NodeQ w ok n cs ->NodeQ w' ok' n cs
 | .mk l ps t ks,cs=>by
   intro h;unfold NodeQ at h⊢;obtain⟨ap,cp,at_,ct,ak,ck,css,h1,h2,h3,h4,h5,h6⟩:=h;exact⟨ap,cp,at_,ct,ak,ck,css,h1,G5 h2 hs hk ho,G5 h3 hs hk ho,h4,G5 h5 hs hk ho,N7 hs hk ho ks css h6⟩
theorem N7 {w w':World} {ok ok':Nat ->Prop} (hs:w.heap.size <= w'.heap.size) (hk:∀b o,ok b ->b < w.heap.size ->w'.cell? ⟨b,o,none⟩=w.cell? ⟨b,o,none⟩) (ho:∀b,ok b ->ok' b):∀ (ks:List aX) (css:List Value),dK w ok ks css ->dK w' ok' ks css
 | [],css=>by intro h;unfold dK at h⊢;exact h
 | k::ks,css=>by
   intro h;unfold dK at h⊢;obtain⟨c1,c2,h1,h2,h3⟩:=h;exact⟨c1,c2,h1,d_2 hs hk ho k c1 h2,N7 hs hk ho ks c2 h3⟩
end
theorem gJ.at_ {w:World}:∀ {ks:List aX} {lo hi:Nat} {css:List Value},gJ w ks lo hi css ->∀ (i:Nat) (h:i < ks.length),∃m1 m2 c,lo <= m1/\m2 <= hi/\lZ w ks[i] m1 m2 c/\(∀j,j < 4 ->css[i * 4+j]? =c[j]?)/\
 ∀ (w':World) (ok:Nat ->Prop) (k':aX) (c':List Value),w.heap.size <= w'.heap.size ->(∀b,lo <= b ->b < hi ->ok b) ->(∀b o,lo <= b ->b < hi ->b < w.heap.size ->¬ (m1 <= b/\b < m2) ->w'.cell? ⟨b,o,none⟩=w.cell? ⟨b,o,none⟩) ->NodeQ w' ok k' c' ->dK w' ok (ks.set i k') (css.take (i * 4) ++ c' ++ css.drop (i * 4+4))
 | [],_,_,_,_,i,h=>by simp at h
 | k ::ks,lo,hi,css,h,i,e=>by
   unfold gJ at h;obtain⟨m,c1,c2,h0,rfl,h2,h3⟩:=h;have hl:=h2.four;have hm:=gJ.le h3
   cases i with
   | zero=>
     refine⟨lo,m,c1,a8,hm,h2,fun j hj=>by rw [List.getElem?_append_left P2];simp,fun w' ok k' c' hs ho hk hn=> ?_⟩;have hq:=N7 (ok':=ok) hs (fun b o hb d=>hk b o P2 hb.2 d P2) (fun b hb=>ho b P2 hb.2) _ _ (gJ.q (ok:=fun b=>m <= b/\b < hi) (fun b hb a=>⟨hb,a⟩) h3)
     show dK w' ok (k'::ks) _
     unfold dK;exact⟨c',c2,by simp [List.drop_append,hl],hn,hq⟩
   | succ i=>
     obtain⟨m1,m2,c,g1,g2,g3,g4,g5⟩:=gJ.at_ h3 i (by simpa using e);refine⟨m1,m2,c,by omega,g2,g3,fun j hj=> ?_,fun w' ok k' c' hs ho hk hn=> ?_⟩
     . rw [OX P2,hl,show (i+1) * 4+j - 4=i * 4+j by omega]
       exact g4 j hj
     have hq:=d_2 (ok':=ok) hs (fun b o hb d=>hk b o hb.1 P2 d P2) (fun b hb=>ho b hb.1 P2) _ _ (lZ.q (ok:=fun b=>lo <= b/\b < m) (fun b hb a=>⟨hb,a⟩) h2);have hr:=g5 w' ok k' c' hs (fun b hb a=>ho b P2 a) (fun b o hb a d hn=>hk b o P2 a d hn) hn
     show dK w' ok (k::ks.set i k') _
     unfold dK;refine⟨c1,c2.take (i * 4) ++ c' ++ c2.drop (i * 4+4), ?_,hq,hr⟩;rw [List.take_append,List.drop_append,hl,List.take_of_length_le (show c1.length <= (i+1) * 4 by omega),List.drop_eq_nil_of_le (show c1.length <= (i+1) * 4+4 by omega),show (i+1) * 4 - 4=i * 4 by omega,show (i+1) * 4+4 - 4=i * 4+4 by omega]
     simp
def jX:aX ->List Int ->aX ->aX
 | _, [],m=>m
 | .mk l ps t ks,i::p,m=> .mk l ps t (ks.set i.toNat (jX (ks.getD i.toNat (.mk false [] [] [])) p m))
def sZ (w:World):List Int ->Nat ->Nat ->Nat×Nat
 | [],b,off=>(b,off)
 | i::p,b,off=>match w.cell? (b,off+3)with
   | some (.slice (some a) _ _)=>sZ w p a.block (a.off+i.toNat * 4)
   | _=>(b,off)
theorem n_n {w:World}:∀ (p:List Int) (n m:aX) (lo hi b off:Nat) (cs:List Value),lZ w n lo hi cs ->CX w b off cs ->¬ (lo <= b/\b < hi) ->l9 n p=some m ->
 ∃lo' g cm,lo <= lo'/\g <= hi/\lZ w m lo' g cm/\CX w (sZ w p b off).1 (sZ w p b off).2 cm/\¬ (lo' <= (sZ w p b off).1/\(sZ w p b off).1 < g)/\(sZ w p b off=(b,off)∨lo <= (sZ w p b off).1/\(sZ w p b off).1 < hi)/\
 ∀ (w':World) (ok:Nat ->Prop) (m':aX) (cm':List Value),w.heap.size <= w'.heap.size ->(∀x,lo <= x ->x < hi ->ok x) ->
   (∀x o,x < w.heap.size ->(lo <= x/\x < hi∨x=b) ->¬ (x=(sZ w p b off).1/\(sZ w p b off).2 <= o/\o < (sZ w p b off).2+4) ->¬ (lo' <= x/\x < g) ->w'.cell? ⟨x,o,none⟩=w.cell? ⟨x,o,none⟩) ->
   NodeQ w' ok m' cm' ->CX w' (sZ w p b off).1 (sZ w p b off).2 cm' ->∃cs',CX w' b off cs'/\NodeQ w' ok (jX n p m') cs'
 | [],n,m,lo,hi,b,off,cs,h,hc,hb,d=>by
   have e:n=m:=by simpa [l9]using d
   subst e;exact⟨lo,hi,cs,a8,a8,h,hc,hb, .inl rfl,fun w' ok m' cm' hs ho hk hn y=>⟨cm',y,hn⟩⟩
 | i :: p, .mk l ps t ks,m,lo,hi,b,off,cs,h,hc,hb,d=>by
   unfold lZ at h;obtain⟨mid,ap,cp,at_,ct,ak,ck,css,h1,rfl,h3,h4,h5,h6,h7,h8⟩:=h;simp only [l9,aY]at d;split at d
   . rename_i h0
     obtain⟨j,rfl⟩:∃j:Nat,i=j:=⟨i.toNat,by omega⟩;rw [O0]at d;by_cases hj:j < ks.length
     . rw [NV hj]at d
       simp only at d;obtain⟨m1,m2,c,g1,g2,g3,g4,g5⟩:=gJ.at_ h8 j hj;have s:=h6.1;have B:∀u∈css,u.oneCell'=true:=dK.onec (gJ.q (ok:=fun _=>True) (fun _ _ _=>trivial) h8);obtain⟨K,rfl,hK⟩:=JZ h6 (by intro e;rw [e]at s;simp at s;omega);have O:K < mid:=h7 K rfl;have H:CX w K (j * 4) c:=by
        refine⟨g3.four,fun q u hq=> ?_⟩;have I:q < 4:=by
         rcases Nat.lt_or_ge q c.length with h | h
         . rw [g3.four]at h;exact h
         rw [List.getElem?_eq_none h]at hq;cases hq
        exact G4 h6 _ _ (by rw [g4 q I];exact hq)
       have hA:sZ w ((j:Int)::p) b off=sZ w p K (j * 4):=by
        have:=hc.2 3 _ rfl
        show (match w.cell? (b,off+3)with | some (.slice (some a) _ _)=>sZ w p a.block (a.off+(j:Int).toNat * 4) | _=>(b,off))=_
        rw [this];simp
       have P:=gJ.le h8;obtain⟨lo',g,cm,k1,k2,k3,k4,k5,k6,k7⟩:=n_n p ks[j] m m1 m2 K (j * 4) c g3 H P2 d;have Q:=k3.le;rw [hA];generalize sZ w p K (j * 4)=A at k4 k5 k6 k7⊢;obtain⟨A1,A2⟩:=A;simp only at k4 k5 k6 k7⊢;have C:lo <= A1/\A1 < hi:=by
        rcases k6 with e | e
        . injection e with e1 e2;omega
        omega
       refine⟨lo',g,cm,by omega,by omega,k3,k4,k5, .inr C,fun w' ok m' cm' hs ho hk hn y=> ?_⟩;obtain⟨c',q1,q2⟩:=k7 w' ok m' cm' hs (fun x hx D=>ho x P2 P2) (fun x o hx R k E=>hk x o hx P2 k E) hn y;have hq:=g5 w' ok _ c' hs (fun x hx D=>ho x P2 P2) (fun x o hx D z k=>hk x o z P2 (fun hh=>by
        rcases k6 with e | e
        . injection e with e1 e2;omega
        omega) (fun hh=>k ⟨by omega,by omega⟩)) q2
       have J:b < w.heap.size:=by
        have:=hc.2 0 _ rfl;have:=World.block_lt_of_cell? w _ this
        simpa using this
       refine⟨[l,(ap,ps.length,cp),(at_,t.length,ct),(K,ks.length,ck)],⟨rfl,fun q u f=> ?_⟩, ?_⟩
       . rw [hk b _ J (.inr rfl) (fun hh=>by omega) (fun hh=>hb ⟨by omega,by omega⟩)]
         exact hc.2 q u f
       have L:ks.getD j (.mk false [] [] [])=ks[j]:=t_q
       have v:∀o,¬ (A1=K/\A2 <= o/\o < A2+4) ->w'.cell? ⟨K,o,none⟩=w.cell? ⟨K,o,none⟩:=fun o k=>by
        have M:K < w.heap.size:=(h6.lt K rfl).2;exact hk K o M (.inl ⟨hK,by omega⟩) (fun hh=>k ⟨hh.1.symm,hh.2⟩) P2
       show NodeQ w' ok (.mk l ps t (ks.set (j:Int).toNat (jX (ks.getD (j:Int).toNat (.mk false [] [] [])) p m'))) _
       rw [O0,L];unfold NodeQ;have r:∀x o,(lo <= x/\x < mid/\(Value.slice K ks.length ck).ownBlock≠some x) ->x < w.heap.size ->w'.cell? ⟨x,o,none⟩=w.cell? ⟨x,o,none⟩:=fun x o hx z=>by
        have S:x≠K:=fun e=>hx.2.2 t_h
        refine hk x o z (.inl ⟨hx.1,by omega⟩) (fun hh=> ?_) P2;rcases k6 with e | e
        . injection e with e1 e2;omega
        omega
       refine⟨ap,cp,at_,ct,some ⟨K,0,none⟩,ck,css.take (j * 4) ++ c' ++ css.drop (j * 4+4),by rw [List.length_set],G5 h3 hs r (fun x hx=>ho x hx.1 P2),G5 h4 hs r (fun x hx=>ho x hx.1 P2),h5, ?_,hq⟩;have F:=q1.1;obtain⟨a',c'',hv,hr⟩:=eK h6 B;injection hv with e1 e2 e3
       subst e3;refine⟨by rw [List.length_set];simp [s,F];omega,by rw [List.length_set];exact hr.le,hr.max,dK.onec hq,(fun e=>by cases e),fun _=>⟨K,0,rfl,ho K hK P2,Nat.lt_of_lt_of_le (h6.lt K rfl).2 hs,fun q u f=> ?_⟩⟩;rw [O5];have T:j * 4+4 <= css.length:=by rw [s];omega
       rcases Nat.lt_or_ge q (j * 4)with G | G
       . rw [O4,List.getElem?_append_left P8,List.getElem?_take_of_lt G]at f
         rw [v q (fun hh=> ?_)]
         . exact G4 h6 _ _ f
         rcases k6 with e | e
         . injection e with e1 e2;omega
         omega
       rcases Nat.lt_or_ge q (j * 4+4)with N | N
       . rw [O4,OX P8,List.getElem?_append_left P8]at f
         have:=q1.2 (q - j * 4) u (by simpa [O8 (show j * 4 <= css.length by omega)]using f);rw [show j * 4+(q - j * 4)=q by omega]at this;exact this
       rw [OX P8,List.getElem?_drop]at f;rw [v q (fun hh=> ?_)]
       . refine G4 h6 _ _ ?_
         rw [<- f];congr 1
         simp [F]
         omega
       rcases k6 with e | e
       . injection e with e1 e2;omega
       omega
     rw [List.getElem?_eq_none P2]at d
     cases d
   cases d
end Go.Proofs.YtmadpclcmjahoaaGreatDoor
