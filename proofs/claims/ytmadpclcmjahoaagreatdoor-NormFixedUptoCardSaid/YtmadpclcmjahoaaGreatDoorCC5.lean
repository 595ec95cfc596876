/- Parts of the proof: CC5. -/
import Derived.Test.YtmadpclcmjahoaaGreatDoorCC4
import Derived.Laws.IdiomCopy
import Derived.Lib.AppendZerosOnto
import Derived.Lib.Overlaps
import Derived.Laws.Externs
import Derived.Deep.AppendSrc
import Derived.Shelf.SlGeneric
import Derived.Ground.SlsfProg
import Derived.Shelf.SlSortCmp.Whole1
set_option linter.unusedVariables false
set_option linter.unusedSimpArgs false
set_option maxHeartbeats 8000000
set_option maxRecDepth 100000
namespace Go.Proofs.YtmadpclcmjahoaaGreatDoor
open Go.RowKit Go.Redl Go.Lib
theorem L7 {P:Program} (w:World) (dT sT ty elem:TypeId) (k b o dLen dCap:Nat) (a:Addr) (sLen sCap:Nat) (cs:List Value)
 (hu:P.underlying dT=some (.slice elem)) (hs:(P.info? elem).map (·.size)=some k) (hn:cs.length=Nat.min sLen dLen * k)
 (c:∀j v,cs[j]? =some v ->w.cell? (a.add j)=some v) (hc:∀j,j < cs.length ->(w.cell? ⟨b,o+j,none⟩).isSome=true) (hf:∀j,j < cs.length ->w.frozen? ⟨b,o+j,none⟩=false) (h1:∀v∈cs,v.oneCell'=true):
 (Builtin.copy_ #[dT,sT] ty #[(b,o,dLen,dCap),((some a),sLen,sCap)]).run P w= .ok (goInt (Nat.min sLen dLen)) (w.setCells b o cs):=by
 have hl:=run_loadCells_list (P:=P) w a cs c;have d:=run_storeCells_cells (P:=P) b o cs 0 w (by simpa using hc) t_l h1
 cases hq:P.info? elem with
 | none=>simp [hq]at hs
 | some i=>
   have hi:i.size=k:=by simpa [hq]using hs
   simp [Builtin.copy_,run_underlying hu,Builtin.lenOf,Builtin.firstCells,sizeOf,typeInfo,hq,hi, <- hn,hl,d]
theorem d_5 {P:Program} {ops:Array Oper} {o:Oper} {a:Act} {w:World} {K:Act ->World ->Prop} {Q:Exit ->Act ->World ->Prop} {E:Prop}
 (hg:o.guard=none) (d x:Operand) (dT sT:TypeId) (b:o.op=Op.call { callee:=Callee.builtin Builtin.copy,args:= #[d,x],argTypes:= #[dT,sT] })
 (v u:Value) (hd:a.eval d=v) (hx:a.eval x=u) {v':Value} {w':World} (hr:(Builtin.copy_ #[dT,sT] o.type #[v,u]).run P w= .ok v' w') (hK:K (a.put o.dst v') w'):
 if Region.wanted o (yielded ops a.tmps)=true then Oper.wp P o a w K Q else E:=by
 have hw:Region.wanted o (yielded ops a.tmps)=true:=S4
 rw [if_pos hw];unfold Oper.wp;simp [execOp,b,resolve,invoke,builtin,hd,hx,hr,Result.andThen];exact hK
theorem F0 (b:Nat) (vs:List Value) (o:Nat) (w:World) (h:∀j,j < vs.length ->(w.cell? ⟨b,o+j,none⟩).isSome=true) (k:Nat) (hk:(w.cell? (b,k)).isSome=true):((w.setCells b o vs).cell? (b,k)).isSome=true:=by
 by_cases a:o <= k/\k < o+vs.length
 . have:=World.cell?_setCells_in b vs o w h (k - o) P2
   rw [show o+(k - o)=k by omega]at this;rw [this];rfl
 rw [World.cell?_setCells_out b vs o w (b,k) (fun _ _=>by show k < o∨o+vs.length <= k;omega)];exact hk
theorem nK (b:Nat):∀ (vs:List Value) (o:Nat) (w:World) (cur:Array Value) (e:TypeId) (f:Nat×Nat),w.heap[b]? =some (.cells cur e f) ->o+vs.length <= cur.size ->
 ∃cur',(w.setCells b o vs).heap[b]? =some (.cells cur' e f)/\cur'.size=cur.size/\cur'.toList=cur.toList.take o ++ vs ++ cur.toList.drop (o+vs.length)
 | [],o,w,cur,e,f,h,hl=>⟨cur,h,rfl,by simp⟩
 | v::vs,o,w,cur,e,f,h,hl=>by
   simp only [O7]at hl;have h1:(w.setCell (b,o) v).heap[b]? =some (.cells (cur.setIfInBounds o v) e f):=by
    simp [World.setCell,Array.getElem?_modify,h]
   obtain⟨cur',g1,g2,g3⟩:=nK b vs (o+1) (w.setCell (b,o) v) (cur.setIfInBounds o v) e f h1 P8;refine⟨cur',g1,by rw [g2];simp, ?_⟩;have ho:o < cur.toList.length:=P8
   rw [g3,Array.toList_setIfInBounds,O1 (by simpa using ho),List.getElem_set_self,List.take_set_of_le (a8),List.drop_set_of_lt P2]
   simp
   omega
theorem iX {b:Nat}:∀ (vs:List Value) (o:Nat) (w:World),w.grownBy (w.setCells b o vs) (some b)
 | [],o,w=>World.grownBy.refl _ _
 | v::vs,o,w=>((World.grownBy.refl w (some b)).set o v).trans (iX vs (o+1) _)
theorem n_u {w:World} {N:Nat} {cs:List Value} {T:TypeId} (h:At w N cs T) (n sz:Nat) (hl:cs.length=n * sz) (hn:n <= 100000000) (h1:∀u∈cs,u.oneCell'=true):RowA w w sz N n n cs:=
 ⟨hl,a8,by unfold maxLen;omega,h1,(fun e=>by cases e),fun _=>⟨N,0,rfl,h.lt,fun j u hj=>by rw [O5];exact h.cell j hj⟩⟩
def r_y (W:World) (M:Nat) (v:Value) (n:Nat) (css:List Value) (e:Ending) (w':World):Prop:=
 ∃v',e= .returned v'/\w'.ownsRow M 35 4 v' n css/\W.grownBy w' v.ownBlock/\(v'.ownBlock=v.ownBlock∨ ∀k,v'.ownBlock=some k ->W.heap.size <= k)
theorem n_w (M:Nat) (v:Value) (n:Nat) (css:List Value) (vb:Nat) (c:List Value) (w:World) (a:w.ownsRow M 35 4 v n css) (hn:n <= 100000000) (hM:M <= w.heap.size) (hv:At w vb c 35) (hc:c.length=4) (h1:∀u∈c,u.oneCell'=true):
 Calls Tryz.prog 183 #[v,n, .slice vb 1 1] w (r_y w M v (n+1) (css ++ c)):=by
 have hr:RowA w w 4 vb 1 1 c:=n_u hv 1 4 (by rw [hc]) P2 h1;have d:=a6 a;have Hr:=a6 hr
 rcases a.2 with⟨rfl,rfl⟩ | ⟨g,cap,cur,rfl,hb,hg,i,f,h,e⟩
 . clear a hr
   go_enter Tryz.func183,Tryz.ntmps183
   go_wp2_with (at_builtin;refine I2 rfl _ _ 33 rfl M 35 _ 4 80 Tryz.underlying33 A5 rfl P9 _ 0 css rfl d.o _ 1 1 w c rfl Hr.o R8 P2 hM ?_;intro v' w' ho b hw;have Ho:=a6 (show w'.ownsRow M 35 4 v' (0+1) (css ++ c)/\_/\_ from⟨ho,b,hw⟩);clear ho b hw)
   go_ret;exact⟨_,rfl,Ho.o.1,Ho.o.2.1,Ho.o.2.2⟩
 unfold maxLen at f;clear a hr hb hg h e;go_enter Tryz.func183,Tryz.ntmps183
 go_wp2_with (at_builtin;refine I2 rfl _ _ 33 rfl M 35 _ 4 80 Tryz.underlying33 A5 rfl P9 _ n css rfl d.o _ 1 1 w c rfl Hr.o R8 P2 hM ?_;intro v' w' ho b hw;have Ho:=a6 (show w'.ownsRow M 35 4 v' (n+1) (css ++ c)/\_/\_ from⟨ho,b,hw⟩);clear ho b hw)
 all_goals go_ret
 all_goals exact⟨_,rfl,Ho.o.1,Ho.o.2.1,Ho.o.2.2⟩
theorem a_y:(Tryz.prog.info? 35).map (·.size)=some 4:=P3
theorem n_x {w:World} {N:Nat} {cs:List Value} {T:TypeId} (h:At w N cs T):w.shape? N=some (T,cs.length):=by
 unfold At at h;simp [World.shape?,h]
theorem r_z (vb g off lb cb:Nat) (c:List Value) (cur:Array Value) (w:World) (hv:At w vb c 35) (hc:c.length=4) (hg:w.heap[g]? =some (.cells cur 35 (0,0))) (a:cur.size≠0) (b:vb≠g):
 (callFunc 236 #[.slice vb 1 1,(g,off,lb,cb)]).run Tryz.prog w= .ok (.value false) w:=by
 rw [run_callFunc_extern Tryz.func236 P3 P3 P3 (e:=Extern.SlicesOverlaps.overlaps #[33,33] #[4]) P3,
  Lib.run_overlaps_apart w 33 4 35 Tryz.underlying33 4 XX vb (g,off) 1 1 lb cb b 35 35 4 cur.size (by rw [n_x hv,hc]) (by simp [World.shape?,hg]) a (Lib.frozen_of_heap hv _) (Lib.frozen_of_heap hv _)]
 rfl
theorem j_g (M g n cap i:Nat) (cur:Array Value) (vb:Nat) (c:List Value) (w:World) (hM:M <= g) (hg:w.heap[g]? =some (.cells cur 35 (0,0))) (B:n+1 <= cap) (C:cap <= maxLen) (E:cur.size=cap * 4) (r:∀u∈cur.toList.take (n * 4),u.oneCell'=true)
 (hi:i < n) (hn:n <= 100000000) (hv:At w vb c 35) (hc:c.length=4) (h1:∀u∈c,u.oneCell'=true) (s:vb≠g):
 Calls Tryz.prog 183 #[(g,n,cap),i, .slice vb 1 1] w fun e w'=>e= .returned (g,(n+1),cap)/\w'=(w.drew.setCells g ((i+1) * 4) ((cur.toList.take (n * 4)).drop (i * 4))).setCells g (i * 4) c:=by
 unfold maxLen at C;have J:¬ ((i:Int)=(n:Int)):=P2
 have t:=fun lb cb=>r_z vb g ((i+1) * 4) lb cb c cur w hv hc hg P2 s
 have d:∀j u,cur[j]? =some u ->w.cell? ⟨g,j,none⟩=some u:=fun j u hj=>by rw [cell_of_row _ _ _ _ _ _ hg];exact hj
 have a:∀j,j < cap * 4 ->(w.cell? ⟨g,j,none⟩).isSome=true:=fun j hj=>by rw [cell_of_row _ _ _ _ _ _ hg,Array.getElem?_eq_getElem P2];rfl
 have q:∀j,w.frozen? ⟨g,j,none⟩=false:=fun j=>Lib.frozen_of_heap hg _
 obtain⟨D,hD⟩:∃D,D=(cur.toList.take (n * 4)).drop (i * 4):=⟨_,rfl⟩;have m:D.length=(n - i) * 4:=t_T
 have o:∀j u,D[j]? =some u ->cur[i * 4+j]? =some u:=fun j u hj=>by
  rw [hD,List.getElem?_drop]at hj;rw [List.getElem?_take]at hj;split at hj
  . simpa using hj
  cases hj
 have v:∀u∈D,u.oneCell'=true:=fun u hu=>r u W9
 rw [<- hD];have f:∀ty dc sc,(Builtin.copy_ #[33,33] ty #[.slice (some (g,(i+1) * 4)) (n - i) dc, .slice (some (g,i * 4)) (n+1 - i) sc]).run Tryz.prog w.drew= .ok (goInt (Nat.min (n+1 - i) (n - i))) (w.drew.setCells g ((i+1) * 4) D):=fun ty dc sc=>
  L7 w.drew _ _ ty 35 4 g ((i+1) * 4) (n - i) dc (g,i * 4) (n+1 - i) sc D Tryz.underlying33 a_y (by rw [m];simp only [Nat.min_def];split <;> omega)
   (fun j u hj=>by rw [Addr.add_lit];exact d _ _ (o j u hj)) (fun j hj=>a _ (by rw [m]at hj;omega)) (fun j hj=>q _) v
 obtain⟨W1,b⟩:∃W1,W1=w.drew.setCells g ((i+1) * 4) D:=⟨_,rfl⟩;have p:∀k,k < cap * 4 ->(W1.cell? ⟨g,k,none⟩).isSome=true:=fun k hk=>by
  rw [b];exact F0 g D _ w.drew (fun j hj=>a ((i+1) * 4+j) (by rw [m]at hj;omega)) _ (a k hk)
 have l:∀ (W:World),(∀x,W.cell? x=W1.cell? x) ->(∀x,W.frozen? x=W1.frozen? x) ->∀ty dc,(Builtin.copy_ #[33,33] ty #[.slice (some (g,i * 4)) (n+1 - i) dc, .slice vb 1 1]).run Tryz.prog W= .ok (goInt (Nat.min 1 (n+1 - i))) (W.setCells g (i * 4) c):=fun W y F ty dc=>
  L7 W _ _ ty 35 4 g (i * 4) (n+1 - i) dc vb 1 1 c Tryz.underlying33 a_y t_r
   (fun j u hj=>by
     rw [Addr.add_lit,y,b,World.cell?_setCells_out g _ _ _ _ (fun h _=>absurd h s),O5];exact hv.cell j hj)
   (fun j hj=>by rw [y];exact p _ (by rw [hc]at hj;omega)) (fun j hj=>by rw [F,b,World.frozen?_setCells];exact q _) h1
 rw [<- b]at f;have K:IntKind.i64.wrap ((i:Int)+1)=(i:Int)+1:=QY
 have L:IntKind.i64.wrap ((n:Int)+1)=(n:Int)+1:=QY
 have N:(0:Int) <= (i:Int)+1:=P2
 have O:i <= n:=P2
 have P:((i:Int)+1).toNat=i+1:=P2
 have I:((n:Int)+1).toNat=n+1:=P2
 have Q:¬ (cap=i+1):=P2
 have R:(i:Int) <= (n:Int)+1:=P2
 have S:¬ (cap=i):=P2
 have z:=a6 f;have A:=a6 l;have G:=a6 b;have H:=a6 t
 clear d a q m o v p f l hv hg E r h1 hD b hM t;go_enter Tryz.func183,Tryz.ntmps183
 go_wp2_with (simp only [H.o])
 go_region_law
  (refine d_5 rfl _ _ 33 33 rfl (.slice (some (g,(i+1) * 4)) (n - i) (cap - (i+1))) (g,i * 4,(n+1 - i),(cap - i)) ?_ ?_ (z.o _ _ _) ?_
   . go_simp
   go_simp)
 have l:=fun ty dc=>A.o W1 (fun _=>rfl) (fun _=>rfl) ty dc
 go_wp2_with fail;go_ret
 first | exact⟨rfl,rfl⟩ | exact⟨rfl,by rw [G.o]⟩
theorem l_F (g n cap i:Nat) (cur:Array Value) (vb:Nat) (c:List Value) (w:World) (hg:w.heap[g]? =some (.cells cur 35 (0,0))) (H6:n <= cap) (Q:cap < n+1) (R:cur.size=cap * 4) (A:∀u∈cur.toList.take (n * 4),u.oneCell'=true)
 (hi:i < n) (hn:n <= 100000000) (hv:At w vb c 35) (hc:c.length=4) (h1:∀u∈c,u.oneCell'=true):
 Calls Tryz.prog 183 #[(g,n,cap),i, .slice vb 1 1] w fun e w'=>∃G T,e= .returned (.slice w (n+1) G)/\n+1 <= G/\G <= maxLen/\T.length=(G - i) * 4/\
  w'=(((w.drew.alloc (.cells (cur.toList.take (i * 4) ++ T).toArray 35)).setCells w (i * 4) c).drew).setCells w ((i+1) * 4) ((cur.toList.take (n * 4)).drop (i * 4)):=by
 obtain⟨i0,B,C,E,q⟩:=info_parts A5;have H7:¬ ((i:Int)=(n:Int)):=P2
 have H8:(cap:Int) < (n:Int)+1:=P2
 have S:g < w.heap.size:=(Array.getElem?_eq_some_iff.1 hg).1;have U:vb < w.heap.size:=At.lt hv;have F:(n:Int)+1 - (i:Int)=((n+1 - i:Nat):Int):=P2
 have r:i+(n+1 - i)=n+1:=P2
 have a:∀j u,cur[j]? =some u ->w.cell? ⟨g,j,none⟩=some u:=fun j u hj=>by rw [cell_of_row _ _ _ _ _ _ hg];exact hj
 have hold:(Builtin.firstCells i0.size i (g,i,cap)).run Tryz.prog w.drew= .ok (cur.toList.take (i * 4)).toArray w.drew:=by
  rw [E];exact run_firstCells_some w.drew 4 i g i cap (cur.toList.take (i * 4)) (by rw [List.length_take,Array.length_toList];omega) (fun j u hj=>by
   rw [Addr.add_lit,O5];rw [List.getElem?_take]at hj;split at hj
   . exact a j u VZ
   cases hj)
 obtain⟨Z,hZ⟩:∃Z,Z=(Value.agg #[false,(),(),()]).cells:=⟨_,rfl⟩;have H:Z.size=4:=by rw [hZ];rfl
 have k:∀ty,(Builtin.append_ #[33,3] ty #[(g,i,cap), .int .i64 ((n:Int)+1 - (i:Int))]).run Tryz.prog w= .ok (.slice w (n+1) (grownCap w (n+1) cap 35))
  (w.drew.alloc (.cells ((cur.toList.take (i * 4)).toArray ++ Builtin.zeroCells Z (n+1 - i) ++ Builtin.zeroCells Z (grownCap w (n+1) cap 35 - (n+1))) 35)):=fun ty=>by
  have h:=Lib.run_append_grow_zeros w 33 3 ty 35 i0 _ .i64 .i64 Tryz.underlying33 Tryz.underlying3 B C g i cap (cur.toList.take (i * 4)) hold (n+1 - i) P2 P2 P2 P2 (by rw [q];omega) (by rw [q,r];exact growslice_fits P2 P2);rw [r, <- hZ]at h;rw [F];exact h
 obtain⟨G,hG⟩:∃G,G=grownCap w (n+1) cap 35:=⟨_,rfl⟩;have V:n+1 <= G:=by rw [hG];exact grownCap_ge w _ _ _
 have m:G <= maxLen:=by rw [hG];exact grownCap_le_maxLen w (n+1) cap 35 R8
 rw [<- hG]at k;obtain⟨T,hT,s⟩:∃T:List Value,(cur.toList.take (i * 4)).toArray ++ Builtin.zeroCells Z (n+1 - i) ++ Builtin.zeroCells Z (G - (n+1))=(cur.toList.take (i * 4) ++ T).toArray/\T.length=(G - i) * 4:=by
  refine⟨(Builtin.zeroCells Z (n+1 - i)).toList ++ (Builtin.zeroCells Z (G - (n+1))).toList, ?_, ?_⟩
  . apply Array.toList_inj.1;simp
  simp [Builtin.zeroCells,H];omega
 rw [hT]at k;obtain⟨ROW,d⟩:∃ROW,ROW=(cur.toList.take (i * 4) ++ T).toArray:=⟨_,rfl⟩;have X:ROW.size=G * 4:=by rw [d];simp [s];omega
 rw [<- d]at k;obtain⟨D,hD⟩:∃D,D=(cur.toList.take (n * 4)).drop (i * 4):=⟨_,rfl⟩;have y:D.length=(n - i) * 4:=t_T
 have o:∀j u,D[j]? =some u ->cur[i * 4+j]? =some u:=fun j u hj=>by
  rw [hD,List.getElem?_drop]at hj;rw [List.getElem?_take]at hj;split at hj
  . simpa using hj
  cases hj
 have I:∀u∈D,u.oneCell'=true:=fun u hu=>A u W9
 obtain⟨W1,b⟩:∃W1,W1=w.drew.alloc (.cells ROW 35):=⟨_,rfl⟩;have hN:∀j,j < G * 4 ->(W1.cell? ⟨w,j,none⟩).isSome=true:=fun j hj=>by
  rw [b,World.cell?_alloc_at (w:=w.drew) ROW _ w j rfl,Array.getElem?_eq_getElem P2];rfl
 have z:∀j,W1.frozen? ⟨w,j,none⟩=false:=fun j=>by rw [b];exact World.frozen?_alloc_at (w:=w.drew) ROW _ w j rfl
 have J:∀j v,w.cell? ⟨g,j,none⟩=some v ->W1.cell? ⟨g,j,none⟩=some v:=fun j v h=>by rw [b,World.cell?_alloc_past (w:=w.drew) _ g j S];exact h
 have K:∀j v,w.cell? ⟨vb,j,none⟩=some v ->W1.cell? ⟨vb,j,none⟩=some v:=fun j v h=>by rw [b,World.cell?_alloc_past (w:=w.drew) _ vb j U];exact h
 have f:∀ty dc,(Builtin.copy_ #[33,33] ty #[.slice (some (w,i * 4)) (n+1 - i) dc, .slice vb 1 1]).run Tryz.prog W1= .ok (goInt (Nat.min 1 (n+1 - i))) (W1.setCells w (i * 4) c):=fun ty dc=>
  L7 W1 _ _ ty 35 4 w (i * 4) (n+1 - i) dc vb 1 1 c Tryz.underlying33 a_y t_r
   (fun j u hj=>by rw [Addr.add_lit,O5];exact K _ u (hv.cell j hj))
   (fun j hj=>hN _ (by rw [hc]at hj;omega)) (fun j hj=>z _) h1
 have H9:¬ (G=i):=P2
 have H5:¬ (G=i+1):=P2
 have h0:¬ (cap=i):=P2
 have Y:g≠w.heap.size:=P2
 obtain⟨W2,l⟩:∃W2,W2=W1.setCells w (i * 4) c:=⟨_,rfl⟩;have p:∀ (W:World),(∀x,W.cell? x=W2.cell? x) ->(∀x,W.frozen? x=W2.frozen? x) ->∀ty dc sc,(Builtin.copy_ #[33,33] ty #[.slice (some (w,(i+1) * 4)) (n - i) dc, .slice (some (g,i * 4)) (n - i) sc]).run Tryz.prog W= .ok (goInt (Nat.min (n - i) (n - i))) (W.setCells w ((i+1) * 4) D):=fun W L H0 ty dc sc=>
  L7 W _ _ ty 35 4 w ((i+1) * 4) (n - i) dc (g,i * 4) (n - i) sc D Tryz.underlying33 a_y (by rw [y];simp only [Nat.min_def];split <;> omega)
   (fun j u hj=>by
     rw [Addr.add_lit,L,l,World.cell?_setCells_out _ _ _ _ _ (fun h _=>absurd h Y)];exact J _ u (a _ _ (o j u hj)))
   (fun j hj=>by rw [L,l];exact F0 _ c _ W1 (fun t ht=>hN (i * 4+t) (by rw [hc]at ht;omega)) _ (hN _ (by rw [y]at hj;omega)))
   (fun j hj=>by rw [H0,l,World.frozen?_setCells];exact z _) I
 rw [<- b]at k;rw [<- l]at f;have h2:IntKind.i64.wrap ((i:Int)+1)=(i:Int)+1:=QY
 have h3:IntKind.i64.wrap ((n:Int)+1)=(n:Int)+1:=QY
 have h4:IntKind.i64.wrap ((n:Int)+1 - (i:Int))=(n:Int)+1 - (i:Int):=QY
 have h5:(0:Int) <= (i:Int)+1:=P2
 have h6:i <= n:=P2
 have h7:((i:Int)+1).toNat=i+1:=P2
 have h8:(i:Int) <= (n:Int):=P2
 have h9:(i:Int) <= (n:Int)+1:=P2
 have H1:=a6 k;have M:=a6 f;have N:=a6 p;have H2:=a6 b;have H3:=a6 l;have O:=a6 d;have P:=a6 m;have H4:=a6 s
 unfold maxLen at m;clear F r hold d hG X a k hT hZ H y o I hN z J K f p b l s hg R A hv h1 C E q B;rw [<- hD];have HD:=a6 hD
 clear hD;go_enter Tryz.func183,Tryz.ntmps183;have f:=M.o
 go_wp2_with (at_builtin;refine Lib.wpList_append_run _ rfl _ _ _ _ rfl _ _ rfl rfl _ _ (H1.o _) ?_)
 go_region_law
  (refine d_5 rfl _ _ 33 33 rfl (.slice (some (w,(i+1) * 4)) (n - i) (G - (i+1))) (g,i * 4,(n - i),(cap - i)) ?_ ?_ (N.o W2.drew (fun _=>rfl) (fun _=>rfl) _ _ _) ?_
   . go_simp
   go_simp)
 go_wp2_with fail;go_ret;refine⟨G,T,rfl,V,P.o,H4.o, ?_⟩;rw [H3.o,H2.o,O.o]
theorem L8 {w:World} {M g n cap:Nat} {cur:Array Value} {T:TypeId} {xs:List Value} (hM:M <= g) (hg:w.heap[g]? =some (.cells cur T (0,0))) (a:n <= cap) (b:cap <= maxLen) (c:cur.size=cap * 4) (ht:cur.toList.take (n * 4)=xs) (hl:xs.length=n * 4):w.ownsRow M T 4 (g,n,cap) n xs:=
 ⟨hl, .inr ⟨g,cap,cur,rfl,hM,hg,a,b,c,ht⟩⟩
theorem l_G {α :Type} (L c D R:List α) (a k:Nat) (hc:c.length=k) (ha:a+k <= L.length):((L.take (a+k) ++ D ++ R).take a ++ c ++ (L.take (a+k) ++ D ++ R).drop (a+k)).take (a+k+D.length)=L.take a ++ (c ++ D):=by
 have h1:(L.take (a+k)).length=a+k:=P8
 have h2:(L.take (a+k) ++ D ++ R).take a=L.take a:=by rw [O4,List.take_append_of_le_length P2,List.take_take,O8 P2]
 have h3:(L.take (a+k) ++ D ++ R).drop (a+k)=D ++ R:=by rw [O4,List.drop_left' h1]
 have h4:(L.take a ++ (c ++ D)).length=a+k+D.length:=P8
 rw [h2,h3,show L.take a ++ c ++ (D ++ R)=(L.take a ++ (c ++ D)) ++ R by simp,List.take_left' h4]
theorem p_V {α :Type} (P T c D S S2:List α) (a k:Nat) (hP:P.length=a) (hc:c.length=k):((((P ++ T).take a ++ c ++ S).take (a+k)) ++ D ++ S2).take (a+k+D.length)=P ++ (c ++ D):=by
 have h1:(P ++ T).take a=P:=List.take_left' hP;have h2:(P ++ c).length=a+k:=P8
 have h4:(P ++ (c ++ D)).length=a+k+D.length:=P8
 rw [h1,List.take_left' h2,show P ++ c ++ D ++ S2=(P ++ (c ++ D)) ++ S2 by simp,List.take_left' h4]
theorem b_5 {w:World} {r:Option Nat}:w.grownBy w.drew r:=cX (a7).drew
theorem r_A (M:Nat) (v:Value) (n i:Nat) (css:List Value) (vb:Nat) (c:List Value) (w:World) (b:w.ownsRow M 35 4 v n css) (l:∀u∈css,u.oneCell'=true) (hi:i <= n) (hn:n <= 100000000) (hM:M <= w.heap.size)
 (hv:At w vb c 35) (hc:c.length=4) (h1:∀u∈c,u.oneCell'=true) (s:v.ownBlock≠some vb):
 Calls Tryz.prog 183 #[v,i, .slice vb 1 1] w (r_y w M v (n+1) (css.take (i * 4) ++ (c ++ css.drop (i * 4)))):=by
 have f:=b.1
 by_cases t:i=n
 . subst t
   rw [List.take_of_length_le P2,List.drop_eq_nil_of_le P2,List.append_nil];exact n_w M v i css vb c w b hn hM hv hc h1
 have m:i < n:=P2
 rcases b.2 with⟨rfl,rfl⟩ | ⟨g,cap,cur,rfl,hb,hg,x,o,p,a⟩
 . omega
 have A:(Value.slice g n cap).ownBlock=some g:=rfl;have hD:(css.drop (i * 4)).length=(n - i) * 4:=by rw [List.length_drop,f, <- Nat.sub_mul]
 have e1:cur.toList.take (i * 4)=css.take (i * 4):=t_Y
 by_cases d:n+1 <= cap
 . refine (j_g M g n cap i cur vb c w hb hg d o p (by rw [a];exact l) m hn hv hc h1 (fun e=>s t_h)).mono ?_
   rintro e w' ⟨rfl,rfl⟩;rw [a];obtain⟨c1,g1,g2,g3⟩:=nK g (css.drop (i * 4)) ((i+1) * 4) w.drew cur _ _ (show w.drew.heap[g]? =_ from hg) (by rw [hD];omega);obtain⟨c2,k1,k2,k3⟩:=nK g c (i * 4) _ c1 _ _ g1 (by rw [hc];omega);refine⟨_,rfl,L8 hb k1 d o P2 ?_ ?_,(show w.grownBy ((w.drew.setCells g ((i+1) * 4) (css.drop (i * 4))).setCells g (i * 4) c) (some g)from(b_5.trans (iX _ _ _)).trans (iX _ _ _)), .inl rfl⟩
   . rw [k3,g3, <- e1,hc]
     have h:=l_G cur.toList c (css.drop (i * 4)) (cur.toList.drop ((i+1) * 4+(css.drop (i * 4)).length)) (i * 4) 4 hc (by rw [Array.length_toList];omega);rw [hD]at h⊢;rw [show i * 4+4+(n - i) * 4=(n+1) * 4 by omega,show i * 4+4=(i+1) * 4 by omega]at h;rw [show i * 4+4=(i+1) * 4 by omega];exact h
   simp only [NZ,hc,hD,List.length_take,f];omega
 refine(l_F g n cap i cur vb c w hg x P2 p (by rw [a];exact l) m hn hv hc h1).mono ?_;rintro e w' ⟨G,T,rfl,hG,y,hT,rfl⟩;rw [a,e1];have j:(css.take (i * 4)).length=i * 4:=s_Y
 obtain⟨c1,g1,g2,g3⟩:=nK w c (i * 4) (w.drew.alloc (.cells (css.take (i * 4) ++ T).toArray 35)) (css.take (i * 4) ++ T).toArray _ _ (heap_alloc_new w.drew _) (by simp [j,hT,hc];omega);have z:c1.size=G * 4:=by rw [g2];simp [j,hT];omega
 obtain⟨c2,k1,k2,k3⟩:=nK w (css.drop (i * 4)) ((i+1) * 4) ((w.drew.alloc (.cells (css.take (i * 4) ++ T).toArray 35)).setCells w (i * 4) c).drew c1 _ _ g1 (by rw [hD,z];omega);refine⟨_,rfl,L8 hM k1 hG y P2 ?_ ?_, ?_, .inr fun k hk=> ?_⟩
 . rw [k3,g3,List.toList_toArray]
   have h:=p_V (css.take (i * 4)) T c (css.drop (i * 4)) ((css.take (i * 4) ++ T).drop (i * 4+c.length)) (c1.toList.drop ((i+1) * 4+(css.drop (i * 4)).length)) (i * 4) 4 j hc;rw [g3,List.toList_toArray]at h;rw [hD]at h⊢;rw [show i * 4+4+(n - i) * 4=(n+1) * 4 by omega,show i * 4+4=(i+1) * 4 by omega]at h;exact h
 . simp only [NZ,hc,hD,List.length_take,f];omega
 . refine cX ?_
   have q:Below w w (w.drew.alloc (.cells (css.take (i * 4) ++ T).toArray 35)):=(a7).drew.alloc (a8) _;have r:=q.grown (iX c (i * 4) _) q.size (fun k e=>by cases e;exact a8);exact(r.drew).grown (iX _ _ _) r.size (fun k e=>by cases e;exact a8)
 simp [Value.ownBlock]at hk;omega
theorem MV {P:Program} {ops:Array Oper} {o:Oper} {a:Act} {w:World} {K:Act ->World ->Prop} {Q:Exit ->Act ->World ->Prop} {E:Prop}
 (hg:o.guard=none) (d x:Operand) (dT sT:TypeId) (b:o.op=Op.call { callee:=Callee.builtin Builtin.append,args:= #[d,x],argTypes:= #[dT,sT] })
 (v u:Value) (hd:a.eval d=v) (hx:a.eval x=u) {v':Value} {w':World} (hr:(Builtin.append_ #[dT,sT] o.type #[v,u]).run P w= .ok v' w') (hK:K (a.put o.dst v') w'):
 if Region.wanted o (yielded ops a.tmps)=true then Oper.wp P o a w K Q else E:=by
 have hw:Region.wanted o (yielded ops a.tmps)=true:=S4
 rw [if_pos hw];unfold Oper.wp;simp [execOp,b,resolve,invoke,builtin,hd,hx,hr,Result.andThen];exact hK
theorem h_t {P:Program} (w:World) (t e ty:TypeId) (z:Value) (Z:List Value) (ht:P.underlying t=some (.slice e)) (hv:∀w,(zeroValue e).run P w= .ok z w) (hZ:(Builtin.zeroCells z.cells 1).toList=Z) (h1:∀u∈Z,u.oneCell'=true) (b o c:Nat)
 (hc:∀j,j < Z.length ->(w.cell? ⟨b,o+j,none⟩).isSome=true) (hf:∀j,j < Z.length ->w.frozen? ⟨b,o+j,none⟩=false):
 (Builtin.clear_ #[t] ty #[.slice (some (b,o)) 1 c]).run P w= .ok (.tuple #[]) (w.setCells b o Z):=by
 have a:=run_storeCells_cells (P:=P) b o Z 0 w (by simpa using hc) t_l h1;simp only [Nat.add_zero]at a;simp [Builtin.clear_,run_underlying ht,hv,hZ,a]
abbrev h_u:List Value:= [false,(),(),()]
theorem l_H:∀w:World,(zeroValue 35).run Tryz.prog w= .ok (.agg #[false,(),(),()]) w:=fun w=>by kernel_rfl
theorem n_z (M g n cap i:Nat) (cur:Array Value) (w:World) (hM:M <= g) (hg:w.heap[g]? =some (.cells cur 35 (0,0))) (K:n <= cap) (E:cap <= maxLen) (F:cur.size=cap * 4) (v:∀u∈cur.toList.take (n * 4),u.oneCell'=true)
 (hi:i+1 <= n) (hn:n <= 100000000):
 Calls Tryz.prog 181 #[(g,n,cap),i, .int .i64 ((i+1:Nat):Int)] w fun e w'=>e= .returned (g,(n - 1),cap)/\w'=(w.drew.setCells g (i * 4) ((cur.toList.take (n * 4)).drop ((i+1) * 4))).setCells g ((n - 1) * 4) h_u:=by
 unfold maxLen at E;obtain⟨i0,x,G,f,H⟩:=info_parts A5;have k:∀j u,cur[j]? =some u ->w.cell? ⟨g,j,none⟩=some u:=fun j u hj=>by rw [cell_of_row _ _ _ _ _ _ hg];exact hj
 have b:∀j,j < cap * 4 ->(w.cell? ⟨g,j,none⟩).isSome=true:=fun j hj=>by rw [cell_of_row _ _ _ _ _ _ hg,Array.getElem?_eq_getElem P2];rfl
 have q:∀j,w.frozen? ⟨g,j,none⟩=false:=fun j=>Lib.frozen_of_heap hg _
 obtain⟨D,hD⟩:∃D,D=(cur.toList.take (n * 4)).drop ((i+1) * 4):=⟨_,rfl⟩;have d:D.length=(n - (i+1)) * 4:=t_T
 have o:∀j u,D[j]? =some u ->cur[(i+1) * 4+j]? =some u:=fun j u hj=>by
  rw [hD,List.getElem?_drop]at hj;rw [List.getElem?_take]at hj;split at hj
  . simpa using hj
  cases hj
 have y:∀u∈D,u.oneCell'=true:=fun u hu=>v u W9
 rw [<- hD];have r:∀ (ty:TypeId) (a:Option Addr) (c:Nat),(n - (i+1)≠0 ->a=some ⟨g,(i+1) * 4,none⟩) ->(a=none ->c=0) ->(Builtin.append_ #[33,33] ty #[(g,i,cap),(a,(n - (i+1)),c)]).run Tryz.prog w.drew= .ok (.slice g (n - 1) cap) (w.drew.setCells g (i * 4) D):=fun ty a c ha L=>by
  have hs:Src Tryz.prog i0.size 33 (a,(n - (i+1)),c) (n - (i+1)) D w.drew:=by
   rw [f];cases a with
   | none=>
     have h0:n - (i+1)=0:=Classical.byContradiction fun h=>by cases ha h
     have s:D= []:=O2 (by rw [d,h0]);rw [h0,s];exact Src.ofNil _ Tryz.underlying33 c
   | some a=>
     refine Src.ofSlice _ Tryz.underlying33 a _ c D d (fun j u hj=> ?_) y;have I:n - (i+1)≠0:=fun h0=>by
      have s:D= []:=O2 (by rw [d,h0]);rw [s]at hj;cases hj
     obtain rfl:=Option.some.inj (ha I);rw [Addr.add_lit];exact k _ _ (o j u hj)
  have h:=run_append_room_src w.drew 33 33 ty 35 i0 Tryz.underlying33 x g 0 i cap _ (n - (i+1)) D hs P2 (fun j hj=>by rw [f,O5];exact b _ (by rw [d]at hj;omega)) (fun j hj=>by rw [f,O5];exact q _);rw [f,O5,show i+(n - (i+1))=n - 1 by omega]at h;exact h
 obtain⟨W1,l⟩:∃W1,W1=w.drew.setCells g (i * 4) D:=⟨_,rfl⟩;have m:∀ty c,(Builtin.clear_ #[33] ty #[.slice (some (g,(n - 1) * 4)) 1 c]).run Tryz.prog W1= .ok (.tuple #[]) (W1.setCells g ((n - 1) * 4) h_u):=fun ty c=>
  h_t W1 33 35 ty _ h_u Tryz.underlying33 l_H P3 VJ g ((n - 1) * 4) c
   (fun j hj=>by rw [l];exact F0 g D _ w.drew (fun t ht=>b (i * 4+t) (by rw [d]at ht;omega)) _ (b ((n - 1) * 4+j) YK)) (fun j hj=>by rw [l,World.frozen?_setCells];exact q _)
 rw [<- l]at r;have h0:(0:Int) <= (i:Int)+1:=P2
 have h1:¬ ((i:Int)=(i:Int)+1):=P2
 have h2:(i:Int) <= (i:Int)+1:=P2
 have h3:(i:Int)+1 <= (n:Int):=P2
 have h4:((n:Int) - 1)=((n - 1:Nat):Int):=P2
 have h5:((n - 1:Nat):Int) <= (n:Int):=P2
 have h6:n - (n - 1)=1:=P2
 have h7:(i:Int) <= (cap:Int):=P2
 have h8:(n:Int) <= (cap:Int):=P2
 have h9:¬ (cap=n - 1):=P2
 have z:=a6 r;have A:=a6 m;have B:=a6 l
 clear k b q d o y r hg F v l hD hM x G f H;by_cases C:cap=i+1
 . obtain rfl:n=i+1:=P2
   subst C;have p:=fun ty=>z.o ty g 0 (fun h=>by omega) (fun h=>by cases h)
   simp only [Nat.sub_self,Nat.add_sub_cancel]at p;go_enter Tryz.func181,Tryz.ntmps181;go_wp2_with fail
   go_region_law
    (refine MV rfl _ _ 33 33 rfl (.slice g i (i+1)) (.slice g 0 0) ?_ ?_ (p _) ?_
     . go_simp
     go_simp)
   have m:=A.o;simp only [Nat.add_sub_cancel]at m;go_wp2_with fail;go_ret;exact⟨rfl,by rw [B.o];rfl⟩
 have J:¬ (cap=i+1):=C
 go_enter Tryz.func181,Tryz.ntmps181
 go_wp2_with fail
 go_region_law
  (refine MV rfl _ _ 33 33 rfl (.slice g i cap) (g,(i+1) * 4,(n - (i+1)),(cap - (i+1))) ?_ ?_ (z.o _ _ _ (fun _=>rfl) (fun h=>by cases h)) ?_
   . go_simp
   go_simp)
 have m:=A.o;go_wp2_with fail;go_ret;exact⟨rfl,by rw [B.o]⟩
theorem p_W {α :Type} (P D R S:List α) (a k:Nat) (hP:P.length=a) (hk:a+D.length=k):(((P ++ D ++ R).take k) ++ S).take k=P ++ D:=by
 have h1:(P ++ D).length=k:=P8
 rw [List.take_left' h1,List.take_left' h1]
theorem r_B (M:Nat) (v:Value) (n i:Nat) (css:List Value) (w:World) (b:w.ownsRow M 35 4 v n css) (f:∀u∈css,u.oneCell'=true) (hi:i < n) (hn:n <= 100000000):
 Calls Tryz.prog 181 #[v,i, .int .i64 ((i+1:Nat):Int)] w (r_y w M v (n - 1) (css.take (i * 4) ++ css.drop ((i+1) * 4))):=by
 have h:=b.1;rcases b.2 with⟨rfl,rfl⟩ | ⟨g,cap,cur,rfl,hb,hg,j,c,k,a⟩
 . omega
 have hD:(css.drop ((i+1) * 4)).length=(n - (i+1)) * 4:=by rw [List.length_drop,h, <- Nat.sub_mul]
 have e1:cur.toList.take (i * 4)=css.take (i * 4):=t_Y
 have d:(css.take (i * 4)).length=i * 4:=s_Y
 refine(n_z M g n cap i cur w hb hg j c k (by rw [a];exact f) hi hn).mono ?_;rintro e w' ⟨rfl,rfl⟩;rw [a];obtain⟨c1,g1,g2,g3⟩:=nK g (css.drop ((i+1) * 4)) (i * 4) w.drew cur _ _ (show w.drew.heap[g]? =_ from hg) (by rw [hD];omega);obtain⟨c2,k1,k2,k3⟩:=nK g h_u ((n - 1) * 4) _ c1 _ _ g1 P8;refine⟨_,rfl,L8 hb k1 P2 c P2 ?_ ?_,(show w.grownBy ((w.drew.setCells g (i * 4) (css.drop ((i+1) * 4))).setCells g ((n - 1) * 4) h_u) (some g)from(b_5.trans (iX _ _ _)).trans (iX _ _ _)), .inl rfl⟩
 . rw [k3,g3,e1,O4]
   exact p_W _ _ _ _ (i * 4) _ d (by rw [hD];omega)
 rw [NZ,d,hD];omega
theorem At.second (W:World) (o:Obj) (cs:List Value) (T:TypeId):At ((W.alloc o).alloc (.cells cs.toArray T)) (W+1) cs T:=by
 have h:=At.fresh (W.alloc o) cs T
 rwa [show (W.alloc o).heap.size=W.heap.size+1 by simp]at h
theorem At.third (W:World) (o o':Obj) (cs:List Value) (T:TypeId):At (((W.alloc o).alloc o').alloc (.cells cs.toArray T)) (W.heap.size+1+1) cs T:=by
 have h:=At.second (W.alloc o) o' cs T
 rwa [show (W.alloc o).heap.size=W.heap.size+1 by simp]at h
theorem At.fourth (W:World) (o o' o'':Obj) (cs:List Value) (T:TypeId):At ((((W.alloc o).alloc o').alloc o'').alloc (.cells cs.toArray T)) (W.heap.size+1+1+1) cs T:=by
 have h:=At.third (W.alloc o) o' o'' cs T
 rwa [show (W.alloc o).heap.size=W.heap.size+1 by simp]at h
theorem g8 (W:World) (o o':Obj):Below W W ((W.alloc o).alloc o'):=((a7).alloc (a8) o).alloc P6 o'
theorem iK (W:World) (o o' o'':Obj):Below W W (((W.alloc o).alloc o').alloc o''):=(g8 W o o').alloc P8 o''
theorem j_h (W:World) (o o' o'' o3:Obj):Below W W ((((W.alloc o).alloc o').alloc o'').alloc o3):=(iK W o o' o'').alloc P8 o3
theorem j_i (n:aX) (v:Value) (W:World) (hn:n.wt <= 100000000) (hv:bY W W n v):Calls Tryz.prog 54 #[v] W fun e w'=>e= .returned (aZ (dZ n))/\Below W W w':=by
 have c:=hv;obtain⟨lf,ps,t,ks⟩:=n;obtain⟨ap,cp,at_,ct,ak,ck,css,rfl,hp, -, -, -⟩:=c.open;have f:ps.length <= 100000000:=by have:=E6 ps;simp only [aX.wt]at hn;omega
 have a:=b7 W (Obj.cells #[lf,(ap,ps.length,cp),(at_,t.length,ct),(ak,ks.length,ck)] 35);have HG:=a6 (r_x ps ap cp E8 _ (hp.keep a a.size) f);have d:=a6 a
 cases lf with
 | true=>
   have HT:Hid (dZ (.mk true ps t ks)= []):=rfl;clear hv c hp a hn HG;go_enter Tryz.func54,Tryz.ntmps54;go_wp2_with fail;go_ret;rw [HT.o];exact⟨rfl,d.o⟩
 | false=>
   have HT:Hid (dZ (.mk false ps t ks)=(f_s ps E8).getD []):=rfl;clear hv c hp a hn;go_enter Tryz.func54,Tryz.ntmps54;go_wp2_with fail;refine HG.o.mono ?_;rintro e w1 ⟨rfl,b⟩;have g:=a6 (d.o.trans (b.mono d.o.size))
   clear b HG;go_wp2_with fail;go_ret;rw [HT.o];exact⟨rfl,g.o⟩
theorem d_U:∀args w,(callFunc 54 args).run Tryz.prog w= .ok (.enter 54 args) w:=PY
theorem j_j {r:bK} {k:List UInt8} {j:Nat} (hj:j < r.kids.length) (h:r.kids[j].1=k) (hb:∀i (hi:i < j),(r.kids[i]' P2).1≠k):lJ r k=r.kids[j].2:=by
 unfold lJ;rw [d_Q (q:=fun p=>decide (p.1=k)) hj TX (fun i hi=>by simpa using hb i hi)]
 rfl
theorem j_k {r:bK} {k:List UInt8} (hb:∀i (hi:i < r.kids.length),r.kids[i].1≠k):lJ r k=r.other:=by
 unfold lJ;rw [c_t (fun i hi=>by simpa using hb i hi)]
 rfl
theorem n_A (K:List UInt8) (d:Int) (t k:List UInt8) (N:Nat) (W:World) (hN:W.cell? N=some (aZ k)):
 Calls Tryz.prog 167 #[.agg #[aZ K,d,aZ t], .pointer N] W fun e w'=>e= .returned (decide (K=k))/\Below W W w':=by
 have a:=World.block_lt_of_cell? W _ hN;have Hb:=a6 (b7 W (Obj.cells #[aZ K,d,aZ t] 140))
 go_enter Tryz.func167,Tryz.ntmps167
 go_wp2_with fail;go_ret;exact⟨bJ (g_B _ _),Hb.o⟩
abbrev p_X (W:World) (a:CZ) (e:Ending) (w':World):Prop:=e= .returned (.agg #[a.1,aZ a.2])/\Below W W w'
theorem k_R (r:bK) (a:Option Addr) (c:Nat) (k:List UInt8) (W:World) (hr:RowA W W 3 a r.kids.length c (fV r.kids)) (hn:r.kids.length <= 100000000):
 Calls Tryz.prog 100 #[.agg (rX r a c).toArray,aZ k] W (p_X W (lJ r k)):=by
 have l:=fun(j:Nat) (hj:j < r.kids.length) h hb=>j_j (r:=r) (k:=k) (j:=j) hj h hb
 have m:=fun hb=>j_k (r:=r) (k:=k) hb
 obtain⟨R,hR⟩:∃R,R=lJ r k:=⟨_,rfl⟩;rw [<- hR];rw [<- hR]at l m;obtain⟨ty,⟨td,tt⟩,⟨od,ot⟩,kids,fill,ft⟩:=r;simp only at hr hn l m;have f:(rX ⟨ty,(td,tt),(od,ot),kids,fill,ft⟩ a c).toArray= #[aZ ty, .int .i64 td,aZ tt, .int .i64 od,aZ ot, .slice a kids.length c, .int .i64 fill,aZ ft]:=rfl
 rw [f];obtain⟨w0,g⟩:∃w0,w0=(((W.alloc (Obj.cells #[aZ ty,td,aZ tt,od,aZ ot,(a,kids.length,c),fill,aZ ft] 27)).alloc (Obj.cells #[aZ k] 9)).alloc (Obj.cells #[OY,aZ []] 24)):=⟨_,rfl⟩;have n:Below W W w0:=by rw [g];exact iK _ _ _ _
 have hA:At w0 W [aZ ty,td,aZ tt,od,aZ ot,(a,kids.length,c),fill,aZ ft] 27:=by rw [g];exact((At.fresh W _ _).alloc _).alloc _
 have hK:At w0 (W+1) [aZ k] 9:=by rw [g];exact(At.second W _ _ _).alloc _
 have hX:At w0 (W.heap.size+1+1) [OY,aZ []] 24:=by rw [g];exact At.third W _ _ _ _
 have hr0:=hr.keep n n.size;have o:∀j (hj:j < kids.length),kids.getD j ([],0, [])=kids[j]:=fun j hj=>by simp [List.getD,NV hj]
 have HI:=a6 (n_q kids.length a c 167 #[.pointer (some (P0 (W+1) 0))] (fun j=>decide ((kids.getD j ([],0, [])).1=k)) w0 hn P5 (fun j W' hj hb=>by
  obtain⟨b,off,ha, -,h0,h1,h2⟩:=(hr0.keep hb hb.size).pair_at j hj;refine⟨b,off,_,_,_,ha,h0,h1,h2, ?_⟩;rw [o j hj];exact n_A kids[j].1 kids[j].2.1 kids[j].2.2 k _ W' ((hK.kept hb).cell 0 rfl)))
 have Hr:=a6 hr0;have p:=a6 n;have HA:=a6 hA;have HX:=a6 hX
 obtain⟨⟨x0,x1,x2,x3,x4,x5,x6,x7⟩, -,xl⟩:=hA.f8;have s:=a6 g;have x:W.heap.size <= W.heap.size+1+1:=P2
 rcases jV (fun j=>decide ((kids.getD j ([],0, [])).1=k)) kids.length with⟨j,hj,hp,t,he⟩ | ⟨u,he⟩
 . rw [he]at HI
   have HG:=a6 (l j hj (by have h:=of_decide_eq_true hp;rw [o j hj]at h;exact h) (fun i hi=>by have h:=of_decide_eq_false (t i hi);rw [o i P2]at h;exact h));have y:(j:Int) < kids.length:=P2
   clear he t hp hr hr0 n hK hA hX l m hR f g;go_enter Tryz.func100,Tryz.ntmps100;go_upto_region 1 with fail;rw [<- s.o];clear s;go_wp2_with fail;refine HI.o.mono ?_;rintro e w1 ⟨rfl,d⟩;obtain⟨b,off,rfl, -,h0,h1,h2⟩:=(Hr.o.keep d d.size).pair_at j hj;have w:=a6 (p.o.trans (d.mono p.o.size));obtain⟨⟨y0,y1,y2,y3,y4,y5,y6,y7⟩, -,yl⟩:=(HA.o.kept d).f8;obtain⟨⟨z0,z1⟩,zf,zl⟩:=(HX.o.kept d).f2;generalize kids[j]=q at h0 h1 h2 HG;obtain⟨q0,q1,q2⟩:=q;clear d HI x0 x1 x2 x3 x4 x5 x6 x7;go_wp2_with fail;refine bodyPost_ret (v:= .agg #[q1,aZ q2]) t_F rfl ?_;rw [HG.o];exact⟨rfl,K1 w.o x _ _⟩
 rw [he]at HI;have HG:=a6 (m (fun i hi=>by have h:=of_decide_eq_false (u i hi);rw [o i hi]at h;exact h));clear he u hr hr0 n hK hA hX l m hR f g;go_enter Tryz.func100,Tryz.ntmps100;go_upto_region 1 with fail;rw [<- s.o];clear s;go_wp2_with fail;refine HI.o.mono ?_;rintro e w1 ⟨rfl,d⟩;have w:=a6 (p.o.trans (d.mono p.o.size))
 obtain⟨⟨y0,y1,y2,y3,y4,y5,y6,y7⟩, -,yl⟩:=(HA.o.kept d).f8;obtain⟨⟨z0,z1⟩,zf,zl⟩:=(HX.o.kept d).f2;clear d HI x0 x1 x2 x3 x4 x5 x6 x7;go_wp2_with fail;refine bodyPost_ret (v:= .agg #[od,aZ ot]) t_F rfl ?_;rw [HG.o];exact⟨rfl,K1 w.o x _ _⟩
theorem k_S (r:bK) (a:Option Addr) (c:Nat) (n:aX) (v:Value) (W:World) (hr:RowA W W 3 a r.kids.length c (fV r.kids)) (hn:r.kids.length <= 100000000) (hv:bY W W n v) (hw:n.wt <= 100000000):
 Calls Tryz.prog 71 #[.agg (rX r a c).toArray,v] W (p_X W (eQ r n)):=by
 have k:=hv;obtain⟨lf,ps,t,ks⟩:=n;obtain⟨ap,cp,at_,ct,ak,ck,css,rfl, -, -, -, -⟩:=k.open;have hl:b8 (.mk lf ps t ks)=lf:=rfl;generalize aX.mk lf ps t ks=n at hv hw hl⊢;have hR:eQ r n=if lf then r.text else lJ r (dZ n):=by unfold eQ;rw [hl]
 rw [hR];have hY:=fun(w1:World) (hr:RowA w1 w1 3 a r.kids.length c (fV r.kids))=>k_R r a c (dZ n) w1 hr hn
 obtain⟨R,l⟩:∃R,R=lJ r (dZ n):=⟨_,rfl⟩;rw [<- l]at hY⊢;obtain⟨ty,⟨td,tt⟩,⟨od,ot⟩,kids,fill,ft⟩:=r;simp only [rX]at hr hn hY⊢;obtain⟨w0,f⟩:∃w0,w0=(((W.alloc (Obj.cells #[aZ ty,td,aZ tt,od,aZ ot,(a,kids.length,c),fill,aZ ft] 27)).alloc (Obj.cells #[lf,(ap,ps.length,cp),(at_,t.length,ct),(ak,ks.length,ck)] 35)).alloc (Obj.cells #[OY,aZ []] 24)):=⟨_,rfl⟩;have d:Below W W w0:=by rw [f];exact iK _ _ _ _
 have hA:At w0 W [aZ ty,td,aZ tt,od,aZ ot,(a,kids.length,c),fill,aZ ft] 27:=t_s
 have hK:At w0 (W+1) [lf,(ap,ps.length,cp),(at_,t.length,ct),(ak,ks.length,ck)] 35:=t_U
 have hX:At w0 (W.heap.size+1+1) [OY,aZ []] 24:=by rw [f];exact At.third W _ _ _ _
 have HT:=a6 (j_i n _ w0.drew hw (hv.keep (d.drew) d.size));have HY:=a6 (fun(w1:World) (hb:Below w0 w0 w1)=>hY w1 (hr.keep (d.trans (hb.mono d.size)) (aJ d.size hb.size)));have m:W.heap.size <= W.heap.size+1+1:=P2
 have h:=a6 f;have i:=a6 d;have HA:=a6 hA;have HK:=a6 hK;have HX:=a6 hX
 obtain⟨⟨x0,x1,x2,x3,x4,x5,x6,x7⟩, -,xl⟩:=hA.f8;obtain⟨⟨y0,y1,y2,y3⟩, -,yl⟩:=hK.f4;obtain⟨⟨z0,z1⟩,zf,zl⟩:=hX.f2;clear f d hA hK hX hv k hr hY hR l hl;cases lf with
 | true=>
   clear HT HY;go_enter Tryz.func71,Tryz.ntmps71;go_upto_region 1 with fail;rw [<- h.o];clear h;go_wp2_with fail;refine bodyPost_ret (v:= .agg #[td,aZ tt]) (by simp [results,Tryz.results71,go_sem,z0,z1]) rfl ?_;exact⟨rfl,K1 i.o m _ _⟩
 | false=>
   go_enter Tryz.func71,Tryz.ntmps71
   go_upto_region 1 with fail;rw [<- h.o];clear h;go_wp2_with fail
   go_region_law (first
    | (refine bQ rfl 54 _ _ rfl d_U [.agg #[false,(ap,ps.length,cp),(at_,t.length,ct),(ak,ks.length,ck)]] ?_ _ HT.o ?_
       . go_simp
       rintro e w1 ⟨rfl,b⟩;refine⟨_,rfl, ?_⟩;have g:Below w0 w0 w1:=((Below.refl w0 w0).drew).trans b;have o:=a6 g;have p:=a6 (HY.o w1 g);obtain⟨⟨p0,p1,p2,p3,p4,p5,p6,p7⟩, -,pl⟩:=(HA.o.kept g).f8;obtain⟨⟨q0,q1,q2,q3⟩, -,ql⟩:=(HK.o.kept g).f4;clear b g)
    | (refine bQ rfl 100 _ _ rfl P5 [.agg #[aZ ty,td,aZ tt,od,aZ ot,(a,kids.length,c),fill,aZ ft],aZ (dZ n)] ?_ _ p.o ?_
       . go_simp
       rintro e w2 ⟨rfl,b⟩;refine⟨_,rfl, ?_⟩;have j:Below w0 w0 w2:=o.o.trans (b.mono o.o.size);have q:=a6 (i.o.trans (j.mono i.o.size));obtain⟨⟨r0,r1⟩,rf,rl⟩:=(HX.o.kept j).f2;clear b j))
   all_goals
    go_wp2_with fail;refine bodyPost_ret (v:= .agg #[R.1,aZ R.2]) (by simp [results,Tryz.results71,go_sem,r0,r1]) rfl ?_;exact⟨rfl,K1 q.o m _ _⟩
theorem n_B {w:World}:∀ (p:List Int) (n m:aX) (lo hi b off:Nat) (cs:List Value),lZ w n lo hi cs ->CX w b off cs ->(∃cur e,w.heap[b]? =some (.cells cur e (0,0))) ->l9 n p=some m ->
 ∃cur e,w.heap[(sZ w p b off).1]? =some (.cells cur e (0,0))
 | [],n,m,lo,hi,b,off,cs,h,hc,hb,a=>hb
 | i :: p, .mk l ps t ks,m,lo,hi,b,off,cs,h,hc,hb,a=>by
   unfold lZ at h;obtain⟨mid,ap,cp,at_,ct,ak,ck,css,h1,rfl,h3,h4,h5,h6,h7,h8⟩:=h;simp only [l9,aY]at a;split at a
   . obtain ⟨j,rfl⟩:∃j:Nat,i=j:=⟨i.toNat,by omega⟩
     rw [O0]at a;by_cases hj:j < ks.length
     . rw [NV hj]at a
       simp only at a;obtain⟨m1,m2,c,g1,g2,g3,g4,g5⟩:=gJ.at_ h8 j hj;have d:=h6.1;obtain⟨K,rfl,hK⟩:=JZ h6 (by intro e;rw [e]at d;simp at d;omega);have f:CX w K (j * 4) c:=by
        refine⟨g3.four,fun q u hq=> ?_⟩;have k:q < 4:=by
         rcases Nat.lt_or_ge q c.length with h | h
         . rw [g3.four]at h;exact h
         rw [List.getElem?_eq_none h]at hq;cases hq
        exact G4 h6 _ _ (by rw [g4 q k];exact hq)
       rw [d_P (hc.2 3 _ rfl),O0,O5];refine n_B p ks[j] m m1 m2 K (j * 4) c g3 f ?_ a;rcases h6.2 with⟨hn, -⟩ | ⟨g,cap,cur,hv, -,hg, -⟩
       . cases hn
       injection hv with e1
       injection e1 with e2
       injection e2 with e3
       subst e3;exact⟨cur,_,hg⟩
     rw [List.getElem?_eq_none P2]at a
     cases a
   cases a
structure k_T (w w':World) (B b off lo hi:Nat):Prop where
 below:Below B w w'
 block:∀x,x < w.heap.size ->x≠b ->¬ (lo <= x/\x < hi) ->w'.heap[x]? =w.heap[x]?
 cell:∀o,¬ (off <= o/\o < off+4) ->w'.cell? ⟨b,o,none⟩=w.cell? ⟨b,o,none⟩
def r_C (B:Nat) (w:World) (b off lo hi:Nat) (R:aX×Int) (e:Ending) (w':World):Prop:=
 e= .returned R.2/\k_T w w' B b off lo hi/\(R.2=0 ->∃cm',CX w' b off cm'/\NodeQ w' (fun x=>lo <= x/\x < hi∨w.heap.size <= x) R.1 cm')
def l_J (g:Nat) (lb:Array Value) (W:World) (m:aX) (R:aX×Int):Prop:=
 ∀ (w:World) (b off lo hi:Nat) (cm:List Value),Below W W w ->W.heap.size <= b ->W.heap.size <= lo ->hi <= w.heap.size ->lZ w m lo hi cm ->CX w b off cm ->¬ (lo <= b/\b < hi) ->(∀j,w.frozen? ⟨b,j,none⟩=false) ->
   Calls Tryz.prog g (#[.pointer (some (b,off))] ++ lb) w (r_C W w b off lo hi R)
def h_v (W:World) (n:aX) (p:List Int) (R:aX ->aX×Int) (e:Ending) (w':World):Prop:=
 Below W W w'/\match l9 n p with
 | none=>e= .returned (.tuple #[.agg #[false,(),(),()], .int .i64 5])
 | some m=>if (R m).2=0 then ∃cs,e= .returned (.tuple #[.agg cs.toArray,OY])/\NodeQ w' (fun b=>W.heap.size <= b) (jX n p (R m).1) cs
   else e= .returned (.tuple #[.agg #[false,(),(),()],(R m).2])
theorem c_u (g:Nat) (lb:Array Value) (J2:∀args w,(callFunc g args).run Tryz.prog w= .ok (.enter g args) w) (n:aX) (p:List Int) (v:Value) (pa:Option Addr) (pc:Nat) (R:aX ->aX×Int) (W:World) (V:n.wt <= 100000000) (hv:bY W W n v) (hp:RowA W W 1 pa p.length pc (p.map (Value.int .i64)))
 (hR:∀m,l9 n p=some m ->l_J g lb W m (R m)):
 Calls Tryz.prog 179 #[v,(pa,p.length,pc), .func (.func g) #[] lb] W (h_v W n p R):=by
 obtain⟨csn,rfl,hc⟩:=hv;obtain⟨l,a1,n1,c1,a2,n2,c2,a3,n3,c3,rfl⟩:=hc.form;obtain⟨w0,s⟩:∃w0,w0=(W.alloc (Obj.cells #[l,(a1,n1,c1),(a2,n2,c2),(a3,n3,c3)] 35)).alloc (Obj.cells #[false,(),(),()] 35):=⟨_,rfl⟩;have hA:bV w0 W l (a1,n1,c1) (a2,n2,c2) (a3,n3,c3):=by rw [s];exact(bV.fresh W l (a1,n1,c1) (a2,n2,c2) (a3,n3,c3)).alloc _
 have hB:bV w0 (W+1) false () () ():=by rw [s];exact rZ W _ false () () ()
 have D:Below W W w0:=by rw [s];exact g8 _ _ _
 have X:w0.heap.size=W.heap.size+2:=by rw [s];simp
 obtain⟨y0,y1,y2,y3, -, -⟩:=hA.facts;have HC:=a6 (p_N n.wt n (.agg #[l,(a1,n1,c1),(a2,n2,c2),(a3,n3,c3)]) w0 (a8) V ⟨_,rfl,dY.keep D D.size _ _ hc⟩);have HB:=a6 hB;have Y:=a6 D;have t:=a6 X;have Z:=a6 s;have HR:=a6 hR;have Hp:=a6 hp
 clear hc hA hB D X s hR hp;go_enter Tryz.func179,Tryz.ntmps179;go_upto_region 1 with fail;rw [<- Z.o];clear Z;go_wp2_with fail;refine HC.o.mono ?_;rintro e w1 ⟨cs,rfl,hI,k⟩;obtain⟨m1,p1,q1,r1,p2,q2,r2,p3,q3,r3,rfl⟩:=hI.form;have L:=a6 (Y.o.trans (k.mono Y.o.size));have H0:=a6 (HB.o.keep (k.mono (by rw [t.o];omega)))
 have HI:=a6 hI;have I:=a6 k
 clear HC hI k y0 y1 y2 y3;go_upto_region 2 with fail
 obtain⟨w2,E⟩:∃w2,w2=w1.alloc (Obj.cells #[m1,(p1,q1,r1),(p2,q2,r2),(p3,q3,r3)] 35):=⟨_,rfl⟩;rw [<- E];have M:bV w2 w1 m1 (p1,q1,r1) (p2,q2,r2) (p3,q3,r3):=by rw [E];exact bV.fresh w1 _ _ _ _
 have y:Below w1 w1 w2:=by rw [E];exact b7 _ _
 have O:lZ w2 n w0 w1 [m1,(p1,q1,r1),(p2,q2,r2),(p3,q3,r3)]:=lZ.keep y.size (fun b _ _ h5=>y.block b h5) HI.o;obtain⟨x0,x1,x2,x3,⟨k0,k1,k2,k3⟩,h6⟩:=M.facts;have H1:CX w2 w1 0 [m1,(p1,q1,r1),(p2,q2,r2),(p3,q3,r3)]:=by
  refine⟨rfl,fun j u hj=> ?_⟩
  match j with
  | 0=>simp at hj;subst hj;exact x0
  | 1=>simp at hj;subst hj;exact x1
  | 2=>simp at hj;subst hj;exact x2
  | 3=>simp at hj;subst hj;exact x3
  | j+4=>simp at hj
 have P:d_1 w2 w2 w1 0 n:=⟨m1,p1,q1,r1,p2,q2,r2,p3,q3,r3,NodeQ.node _ _ (lZ.q (ok:=fun _=>True) (fun _ _ _=>trivial) O),x0,x1,x2,x3⟩;have z:=a6 (L.o.trans (y.mono L.o.size));have H2:=a6 (H0.o.keep (y.mono (by have:=L.o.size;have:=t.o;have:=I.o.size;omega)));have H3:=a6 (Hp.o.keep z.o z.o.size);have F:=a6 (r_w n p pa pc w1 0 w2 w2 P H3.o);have H4:=a6 (show W.heap.size+2 <= w1.heap.size by have:=I.o.size;have:=t.o;omega);have H5:=a6 M;have H6:=a6 O;have H7:=a6 H1;have h7:=a6 P
 clear E M y O H1 P HI HB H0 x0 x1 x2 x3 k0 k1 k2 k3 h6;cases c:l9 n p with
 | none=>
   rw [c]at F;have G:=a6 c
   clear c;go_wp2_with fail;refine F.o.mono ?_;rintro e w3 ⟨rfl,rfl⟩;obtain⟨g0,g1,g2,g3,⟨j0,j1,j2,j3⟩,Q⟩:=H2.o.facts;clear F;go_wp2_with fail;refine bodyPost_ret (v:= .tuple #[.agg #[false,(),(),()], .int .i64 5]) TZ rfl ?_;refine⟨by with_reducible exact l7 z.o (Nat.le_succ _) _ _ _ _, ?_⟩;rw [G.o]
 | some m=>
   have H:=a6 (s_h n m p pa pc w1 0 w2 w2 h7.o H3.o c);have h8:¬ (w0.heap.size <= w1.heap.size/\w1.heap.size < w1.heap.size):=fun h=>by omega
   have S:=n_n p n m w0 w1 w1 0 _ H6.o H7.o h8 c;have T:=n_B p n m w0 w1 w1 0 _ H6.o H7.o ⟨_,_,H5.o⟩ c;generalize sZ w2 p w1 0=A at S T H;obtain⟨A1,A2⟩:=A;simp only at S T H;obtain⟨lo',h9,cm,k1,k2,k3,k4,k5,k6,k7⟩:=S;have hA1:W.heap.size+2 <= A1:=by
    have:=H4.o;have:=t.o
    rcases k6 with e | e
    . injection e with e1 e2;omega
    omega
   have J3:W.heap.size+2 <= lo':=by have:=t.o;omega
   have hsz:=H4.o;have J4:w1.heap.size+1 <= w2.heap.size:=(Array.getElem?_eq_some_iff.1 H5.o).1;obtain⟨cur,e0,J⟩:=T;have B:=a6 (HR.o m c w2 A1 A2 lo' h9 cm z.o P2 P2 P2 k3 k4 k5 (fun j=>Lib.frozen_of_heap J _));have G:=a6 c;have K7:=a6 k7;generalize hr:R m=r at B;have Hr:=a6 hr;obtain⟨r1',r2'⟩:=r;clear c J k1 k2 k3 k4 k5 k6 k7 F HR hr;go_wp2_with fail;refine H.o.mono ?_;rintro e w3 ⟨rfl,rfl⟩;clear H;go_wp2_with fail;refine B.o.mono ?_;rintro e w4 ⟨rfl,d,K⟩;have i:=a6 d;have H8:=a6 K
   have Q:bV w4 (W+1) false () () ():=by
    unfold bV;rw [d.block (W+1) P2 P2 P2];exact H2.o
   obtain⟨g0,g1,g2,g3,⟨j0,j1,j2,j3⟩,J5⟩:=Q.facts;have H9:=a6 (z.o.trans d.below);clear B d K Q;by_cases hz:r2'=0
   . subst hz
     obtain⟨cm',h0,h1⟩:=H8.o rfl;obtain⟨cs',f,U⟩:=K7.o w4 (fun x=>W.heap.size+2 <= x) r1' cm' i.o.below.size (fun x hx J6=>by have:=t.o;omega) (fun x o hx J7 h2 h3=>by
      by_cases h4:x=A1
      . subst h4
        exact i.o.cell o (fun h=>h2 ⟨rfl,h.1,h.2⟩)
      exact World.cell?_of_block (a:=(x,o)) (i.o.block x hx h4 h3)) (NodeQ.keep (a8) (fun _ _ _=>rfl) (fun x hx _=>by omega) _ _ h1) h0
     have J0:=a6 U;obtain⟨l',b1,o1,d1,b2,o2,d2,b3,o3,d3,rfl⟩:=U.form;have x0:=f.2 0 _ rfl;have x1:=f.2 1 _ rfl;have x2:=f.2 2 _ rfl;have x3:=f.2 3 _ rfl
     simp only [O5]at x0 x1 x2 x3;clear U f h0 h1;go_wp2_with fail;refine bodyPost_ret (v:= .tuple #[.agg #[l',(b1,o1,d1),(b2,o2,d2),(b3,o3,d3)],OY]) TZ rfl ?_;refine⟨by with_reducible exact l7 H9.o (Nat.le_succ _) _ _ _ _, ?_⟩;rw [G.o];simp only;rw [Hr.o,if_pos rfl];have C:¬ (W.heap.size+2 <= W.heap.size+1):=P2
     have hq:=cQ (N:=W.heap.size+1) (o:=3) (u:= .slice b3 o3 d3) (cQ (N:=W.heap.size+1) (o:=2) (u:= .slice b2 o2 d2) (cQ (N:=W.heap.size+1) (o:=1) (u:= .slice b1 o1 d1) (cQ (N:=W.heap.size+1) (o:=0) (u:= .bool l') J0.o C) C) C) C;exact⟨_,rfl,NodeQ.keep (a8) (fun _ _ _=>rfl) (fun b hb _=>by omega) _ _ hq⟩
   have C:(r2' != 0)=true:=SQ
   have J1:(r2' == 0)=false:=SQ
   have Hz:=a6 hz;clear hz;go_wp2_with fail;refine bodyPost_ret (v:= .tuple #[.agg #[false,(),(),()],r2']) TZ rfl ?_;refine⟨by with_reducible exact l7 H9.o (Nat.le_succ _) _ _ _ _, ?_⟩;rw [G.o];simp only;rw [Hr.o,if_neg Hz.o]
end Go.Proofs.YtmadpclcmjahoaaGreatDoor
namespace Go.Proofs
open Go.Shelf
def Tryz.sortL_ren:Go.Shelf.Ren:=⟨fun | 6=>198 | 15=>163 | 14=>246 | 28=>214 | 29=>215 | 20=>265 | 21=>266 | 22=>267 | 23=>268 | 24=>269 | 25=>270 | 26=>271 | 27=>272 | 46=>287 | 47=>249 | 48=>250 | 49=>288 | 50=>289 | 57=>296 | n=>n,fun | 22=>47 | 24=>36 | 25=>223 | 3=>3 | 39=>195 | 0=>0 | 53=>242 | 55=>244 | 4=>4 | 46=>234 | 45=>233 | 50=>239 | 5=>5 | 9=>9 | 66=>278 | 70=>275 | 76=>298 | 77=>123 | n=>n,fun | n=>n⟩
theorem Tryz.sortL:Go.Proofs.SlLaysF.n6 Tryz.prog Tryz.sortL_ren:={
 mixed:=P3
 f6:=⟨Tryz.f198.name,by decide,Tryz.func198.trans (congrArg some P3)⟩
 f14:=⟨Tryz.f246.name,by decide,Tryz.func246.trans (congrArg some P3)⟩
 f15:=Tryz.func163.trans (congrArg some P3)
 f20:=⟨Tryz.f265.name,by decide,Tryz.func265.trans (congrArg some P3)⟩
 f21:=⟨Tryz.f266.name,by decide,Tryz.func266.trans (congrArg some P3)⟩
 f22:=⟨Tryz.f267.name,by decide,Tryz.func267.trans (congrArg some P3)⟩
 f23:=⟨Tryz.f268.name,by decide,Tryz.func268.trans (congrArg some P3)⟩
 f24:=⟨Tryz.f269.name,by decide,Tryz.func269.trans (congrArg some P3)⟩
 f25:=⟨Tryz.f270.name,by decide,Tryz.func270.trans (congrArg some P3)⟩
 f26:=⟨Tryz.f271.name,by decide,Tryz.func271.trans (congrArg some P3)⟩
 f27:=⟨Tryz.f272.name,by decide,Tryz.func272.trans (congrArg some P3)⟩
 f28:=Tryz.func214.trans (congrArg some P3)
 f29:=Tryz.func215.trans (congrArg some P3)
 f46:=⟨Tryz.f287.name,by decide,Tryz.func287.trans (congrArg some P3)⟩
 f47:=Tryz.func249.trans (congrArg some P3)
 f48:=Tryz.func250.trans (congrArg some P3)
 f49:=⟨Tryz.f288.name,by decide,Tryz.func288.trans (congrArg some P3)⟩
 f50:=⟨Tryz.f289.name,by decide,Tryz.func289.trans (congrArg some P3)⟩
 f57:=⟨Tryz.f296.name,by decide,Tryz.func296.trans (congrArg some P3)⟩
 t0:=Tryz.underlying0
 a0:=Tryz.isAgg0
 z0:=Tryz.sizeOf0
 v0:=Tryz.zeroValue0
 t3:=Tryz.underlying3
 a3:=Tryz.isAgg3
 z3:=Tryz.sizeOf3
 v3:=Tryz.zeroValue3
 t4:=Tryz.underlying4
 a4:=Tryz.isAgg4
 z4:=Tryz.sizeOf4
 v4:=Tryz.zeroValue4
 t5:=Tryz.underlying5
 a5:=Tryz.isAgg5
 z5:=Tryz.sizeOf5
 v5:=Tryz.zeroValue5
 t9:=Tryz.underlying9
 a9:=Tryz.isAgg9
 z9:=Tryz.sizeOf9
 v9:=Tryz.zeroValue9
 t22:=Tryz.underlying47
 a22:=Tryz.isAgg47
 z22:=Tryz.sizeOf47
 v22:=Tryz.zeroValue47
 a24:=Tryz.isAgg36
 z24:=Tryz.sizeOf36
 t25:=Tryz.underlying223
 a25:=Tryz.isAgg223
 z25:=Tryz.sizeOf223
 v25:=Tryz.zeroValue223
 t39:=Tryz.underlying195
 a39:=Tryz.isAgg195
 z39:=Tryz.sizeOf195
 v39:=Tryz.zeroValue195
 t45:=Tryz.underlying233
 a45:=Tryz.isAgg233
 z45:=Tryz.sizeOf233
 v45:=Tryz.zeroValue233
 t46:=Tryz.underlying234
 a46:=Tryz.isAgg234
 z46:=Tryz.sizeOf234
 v46:=Tryz.zeroValue234
 t50:=Tryz.underlying239
 a50:=Tryz.isAgg239
 z50:=Tryz.sizeOf239
 v50:=Tryz.zeroValue239
 t53:=Tryz.underlying242
 a53:=Tryz.isAgg242
 z53:=Tryz.sizeOf242
 v53:=Tryz.zeroValue242
 t55:=Tryz.underlying244
 a55:=Tryz.isAgg244
 z55:=Tryz.sizeOf244
 v55:=Tryz.zeroValue244
 t66:=Tryz.underlying278
 a66:=Tryz.isAgg278
 z66:=Tryz.sizeOf278
 v66:=Tryz.zeroValue278
 t70:=Tryz.underlying275
 a70:=Tryz.isAgg275
 z70:=Tryz.sizeOf275
 v70:=Tryz.zeroValue275
 t76:=Tryz.underlying298
 a76:=Tryz.isAgg298
 z76:=Tryz.sizeOf298
 v76:=Tryz.zeroValue298
 t77:=Tryz.underlying123
 a77:=Tryz.isAgg123
 z77:=Tryz.sizeOf123
 v77:=Tryz.zeroValue123 }
end Go.Proofs
