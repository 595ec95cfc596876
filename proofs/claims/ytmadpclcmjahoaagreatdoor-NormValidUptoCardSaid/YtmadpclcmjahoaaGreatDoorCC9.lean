/- Parts of the proof: CC9. -/
import Derived.Test.YtmadpclcmjahoaaGreatDoorCC8
set_option linter.unusedVariables false
set_option linter.unusedSimpArgs false
set_option maxHeartbeats 8000000
set_option maxRecDepth 100000
namespace Go.Proofs.YtmadpclcmjahoaaGreatDoor
open Go.RowKit Go.Redl
abbrev PtD:=List Int×Int
structure q_b where
 is:Bool
 an:PtD
 fo:PtD
abbrev d_C:q_b:=⟨false,([],0),([],0)⟩
structure C9 where
 kind:Int
 path:List Int
 dest:List Int
 pos:Int
 node:aX
 old:List fQ
 new:List fQ
 text:List Int
 fr:q_b
 into:q_b
abbrev fZ.full (o:fZ):C9:=⟨o.kind,o.path,o.dest,o.pos,o.node,o.old, [], [],d_C,d_C⟩
def setKids:aX ->List aX ->aX
 | .mk l ps t _,ks=> .mk l ps t ks
def C6 (ks:List aX) (i:Nat) (m:aX):List aX:=ks.take i ++ m::ks.drop i
abbrev jK (p:List Int):Int:=p.getLastD 0
def K4 (n:aX) (p:List Int) (m:aX):aX×Int:=
 if p= [] then (cV,6) else match l9 n p.dropLast with
 | none=>(cV,5)
 | some k=>if b8 k then (cV,7) else if jK p < 0∨ ((aY k).length:Int) < jK p then (cV,8) else (jX n p.dropLast (setKids k (C6 (aY k) (jK p).toNat m)),0)
def F3 (n:aX) (p:List Int):aX×aX×Int:=
 if p= [] then (cV,cV,6) else match l9 n p,l9 n p.dropLast with
 | some m,some k=>(jX n p.dropLast (setKids k ((aY k).eraseIdx (jK p).toNat)),m,0)
 | _,_=>(cV,cV,5)
def n_T (n:aX) (p:List Int) (m:aX):aX×Int:=match l9 n p with
 | none=>(cV,5)
 | some _=>(jX n p m,0)
def FK (n:aX):Nat:=if b8 n then (iJ n).length else (aY n).length
def kX (p:List Int):List Int:=p.dropLast ++ [jK p - 1]
def u_4:aX ->aX ->aX
 | .mk l ps t ks, .mk _ _ t' ks'=> .mk l ps (t ++ t') (ks ++ ks')
def d_D (rest k:aX) (o:C9):aX×Int:=
 if o.path= []∨jK o.path <= 0 then (cV,8) else match l9 rest (kX o.path)with
 | none=>(cV,5)
 | some into=>if b8 into≠b8 k then (cV,7) else if (FK into:Int)≠o.pos then (cV,8) else if dJ k≠o.old then (cV,9) else (jX rest (kX o.path) (u_4 into k),0)
def zZ (n:aX) (o:C9):aX×Int:=
 if o.kind=1 then (if dQ o.node≠0 then (cV,dQ o.node) else K4 n o.path o.node)
 else if (F3 n o.path).2.2≠0 then (cV,(F3 n o.path).2.2)
 else if o.kind=2 then (if rK (F3 n o.path).2.1 o.node then ((F3 n o.path).1,0) else (cV,9))
 else if o.kind=3 then d_D (F3 n o.path).1 (F3 n o.path).2.1 o
 else K4 (F3 n o.path).1 o.dest (F3 n o.path).2.1
def GJ (k:Int):Option (List UInt8):=
 if k=1∨k=2 then some [112,110] else if k=3 then some [112,97,111] else if k=4 then some [112,97,119] else if k=5 then some [112,116]
 else if k=6 then some [112,111,119] else if k=7∨k=8 then some [112,97,120] else if k=9 then some [115] else none
abbrev j_w (s:q_b):Bool:= !s.is && (decide (s.an=([],0)) && decide (s.fo=([],0)))
def j_x (o:C9):List UInt8:=
 (if 0 < o.path.length then [112] else []) ++ (if 0 < o.dest.length then [116] else []) ++ (if o.pos≠0 then [97] else []) ++ (if !rK o.node cV then [110] else []) ++
 (if 0 < o.old.length then [111] else []) ++ (if 0 < o.new.length then [119] else []) ++ (if 0 < o.text.length then [120] else []) ++ (if !j_w o.fr then [115] else []) ++ (if !j_w o.into then [115] else [])
def I7 (o:C9):Int:=match GJ o.kind with
 | none=>1
 | some fs=>if (j_x o).all (fun f=>decide (f∈fs)) then 0 else 1
def nZ (n:aX) (o:C9):aX×Int:=
 if dQ n≠0 then (cV,dQ n) else if b8 n then (cV,7) else if I7 o≠0 then (cV,I7 o) else zZ n o
def F6 (q p:List Int):Bool:=decide (g9 q p+1=q.length) && (decide (g9 q p < p.length) && decide (q.getD (g9 q p) 0 < p.getD (g9 q p) 0))
def cZ (q p:List Int):Nat:=if q= [] then 0 else if q=p then 3 else if kJ q p then 2 else if F6 q p then 1 else 0
def fJ (p:List Int) (k:Nat) (d:Int):List Int:=p.set k (p.getD k 0+d)
def fX (p q:List Int):List Int:=if cZ q p=0 then p else fJ p (q.length - 1) 1
def nJ (p:List Int) (o:C9):Option (List Int):=
 if !(bX p && (bX o.path && (bX o.dest && !D3 o.pos))) then none
 else if o.path= [] then some p
 else if o.kind=1 then some (fX p o.path)
 else if o.kind=2 then (if cZ o.path p=2∨cZ o.path p=3 then none else if cZ o.path p=1 then some (fJ p (o.path.length - 1) (-1)) else some p)
 else if o.kind=3 then (if jK o.path=0 then none else if cZ o.path p=2 then some (fJ (fJ p o.path.length o.pos) (o.path.length - 1) (-1))
  else if cZ o.path p=3∨cZ o.path p=1 then some (fJ p (o.path.length - 1) (-1)) else some p)
 else if o.kind=4 then (if cZ o.path p=2/\o.pos <= p.getD o.path.length 0 then some (fJ (fJ p o.path.length (-o.pos)) (o.path.length - 1) 1) else if cZ o.path p=1 then some (fJ p (o.path.length - 1) 1) else some p)
 else if o.kind=5 then (if cZ o.path p=3∨cZ o.path p=2 then some (o.dest ++ p.drop o.path.length) else some (fX (if cZ o.path p=1 then fJ p (o.path.length - 1) (-1) else p) o.dest))
 else some p
theorem CX.facts {w:World} {b off:Nat} {cm:List Value} (h:CX w b off cm):∃c0 c1 c2 c3,cm= [c0,c1,c2,c3]/\w.cell? (b,off)=some c0/\w.cell? (b,off+1)=some c1/\w.cell? (b,off+2)=some c2/\w.cell? (b,off+3)=some c3:=by
 obtain⟨hl,h⟩:=h
 match cm,hl with
 | [c0,c1,c2,c3],_=>exact⟨c0,c1,c2,c3,rfl,h 0 _ rfl,h 1 _ rfl,h 2 _ rfl,h 3 _ rfl⟩
theorem j_y {w:World} {b off:Nat} {c0 c1 c2 c3 d0 d1 d2 d3:Value} (h0:w.cell? (b,off)=some c0) (h1:w.cell? (b,off+1)=some c1) (h2:w.cell? (b,off+2)=some c2) (h3:w.cell? (b,off+3)=some c3):
 CX (w.setCells b off [d0,d1,d2,d3]) b off [d0,d1,d2,d3]:=by
 refine⟨rfl,fun j u hj=> ?_⟩;have a:j < 4:=by
  rcases Nat.lt_or_ge j 4 with h | h
  . exact h
  rw [List.getElem?_eq_none TX]at hj;cases hj
 have h:=World.cell?_setCells_in b [d0,d1,d2,d3] off w (fun k hk=>by
  match k,hk with
  | 0,_=>rw [Nat.add_zero,h0];rfl
  | 1,_=>rw [h1];rfl
  | 2,_=>rw [h2];rfl
  | 3,_=>rw [h3];rfl) j s_R
 rw [h, <- List.getElem?_eq_getElem];exact hj
theorem l_S {w w1:World} {B b off lo hi:Nat} (hb:Below w w w1) (hB:B <= b) (a:B <= w.heap.size) (c:b < w.heap.size) (vs:List Value) (hl:vs.length=4):k_T w (w1.setCells b off vs) B b off lo hi:=by
 refine⟨(hb.mono a).grown (iX vs off w1) (aJ a hb.size) (fun k e=>by cases e;exact hB),fun x hx d _=> ?_,fun o ho=> ?_⟩
 . rw [(iX vs off w1).block x (Nat.lt_of_lt_of_le hx hb.size) (fun e=>d (Option.some.inj e)),hb.block x hx]
 rw [World.cell?_setCells_out b vs off w1 (b,o) (fun _ _=>by show o < off∨off+vs.length <= o;omega)];exact hb.cell (p:=(b,o)) c
theorem l_T {w:World} {ok:Nat ->Prop} {b off:Nat} {n:aX} {cs vs:List Value} (h:NodeQ w ok n cs) (a:¬ok b):NodeQ (w.setCells b off vs) ok n cs:=
 NodeQ.keep (iX vs off w).size (fun x hx c=>(iX vs off w).block x c (fun e=>a (by rw [<- Option.some.inj e];exact hx))) (fun _ h _=>h) n cs h
theorem r_I (m' m:aX) (M:Nat) (e0:Bool) (a1 a2 a3:Option Addr) (n1 n2 n3 q1 q2 q3:Nat) (W:World) (hM:At W M [e0,(a1,n1,q1),(a2,n2,q2),(a3,n3,q3)] 35) (hv:bY W W m' (.agg #[e0,(a1,n1,q1),(a2,n2,q2),(a3,n3,q3)])) (h:m'.wt <= 100000000):
 l_J 238 #[.pointer M] W m (m',0):=by
 intro w b off lo hi cm c hb q r hI i n d;obtain⟨c0,c1,c2,c3,rfl,x0,x1,x2,x3⟩:=i.facts;have k:bV w M e0 (a1,n1,q1) (a2,n2,q2) (a3,n3,q3):=hM.kept c;obtain⟨y0,y1,y2,y3, -, -⟩:=k.facts;have HC:=a6 (b_3 m'.wt m' _ w (a8) h (hv.keep c c.size));have f:b < w.heap.size:=World.block_lt_of_cell? w _ x0;have f0:=d off;have f1:=d (off+1);have f2:=d (off+2);have f3:=d (off+3)
 have Hx:=a6 (show _/\_/\_/\_ from⟨x0,x1,x2,x3⟩);have Hf:=a6 d;clear hI i n d hM hv k x0 x1 x2 x3 f0 f1 f2 f3;go_enter Tryz.func238,Tryz.ntmps238;go_wp2_with fail;refine HC.o.mono ?_;rintro e w1 ⟨cs,rfl,hq,a⟩;obtain⟨l',p1,o1,d1,p2,o2,d2,p3,o3,d3,rfl⟩:=hq.form;have z0:=(a.cell (p:=(b,off)) f).trans Hx.o.1;have z1:=(a.cell (p:=(b,off+1)) f).trans Hx.o.2.1;have z2:=(a.cell (p:=(b,off+2)) f).trans Hx.o.2.2.1;have z3:=(a.cell (p:=(b,off+3)) f).trans Hx.o.2.2.2
 have g:∀j,w1.frozen? ⟨b,j,none⟩=false:=fun j=>(a.frozen (p:=(b,j)) f).trans (Hf.o j)
 have f0:=g off;have f1:=g (off+1);have f2:=g (off+2);have f3:=g (off+3)
 have l:=a6 a;have Hq:=a6 hq
 have Hz:=a6 (show _/\_/\_/\_ from⟨z0,z1,z2,z3⟩);clear HC a hq g y0 y1 y2 y3;go_wp2_with fail;go_ret;have o:=l.o.size
 show r_C W w b off lo hi (m',0) _ (w1.setCells b off [l',(p1,o1,d1),(p2,o2,d2),(p3,o3,d3)])
 exact⟨rfl,l_S l.o hb c.size f _ rfl,fun _=>⟨_,j_y Hz.o.1 Hz.o.2.1 Hz.o.2.2.1 Hz.o.2.2.2,NodeQ.keep (a8) (fun _ _ _=>rfl) (fun x hx _=> .inr hx) _ _ (l_T Hq.o P2)⟩⟩
theorem a_6 {w:World} {ok:Nat ->Prop}:∀ {ks:List aX} {css:List Value} {i:Nat},dK w ok ks css ->i < ks.length ->dK w ok (ks.eraseIdx i) (css.take (i * 4) ++ css.drop ((i+1) * 4))
 | [],css,i,h,hi=>by simp at hi
 | k::ks,css,0,h,hi=>by
   unfold dK at h;obtain⟨c1,c2,rfl,h1,h2⟩:=h;have hl:c1.length=4:=(NodeQ.node _ _ h1).len
   simpa [List.drop_left' hl]using h2
 | k::ks,css,i+1,h,hi=>by
   unfold dK at h;obtain⟨c1,c2,rfl,h1,h2⟩:=h;have hl:c1.length=4:=(NodeQ.node _ _ h1).len;have h3:=a_6 (i:=i) h2 R4;rw [List.eraseIdx_cons_succ];unfold dK;refine⟨c1,c2.take (i * 4) ++ c2.drop ((i+1) * 4), ?_,h1,h3⟩;rw [List.take_append,List.drop_append,hl,List.take_of_length_le P2,List.drop_eq_nil_of_le P2,show (i+1) * 4 - 4=i * 4 by omega,show (i+1+1) * 4 - 4=(i+1) * 4 by omega]
   simp
theorem b_J {w:World} {ok:Nat ->Prop} {m:aX} {c:List Value} (hm:NodeQ w ok m c):∀ {ks:List aX} {css:List Value} {i:Nat},dK w ok ks css ->i <= ks.length ->dK w ok (C6 ks i m) (css.take (i * 4) ++ (c ++ css.drop (i * 4)))
 | ks,css,0,h,hi=>by
   unfold C6;simp only [Nat.zero_mul,List.take_zero,List.drop_zero,List.nil_append];unfold dK;exact⟨c,css,rfl,hm,h⟩
 | [],css,i+1,h,hi=>by simp at hi
 | k::ks,css,i+1,h,hi=>by
   unfold dK at h;obtain⟨c1,c2,rfl,h1,h2⟩:=h;have hl:c1.length=4:=(NodeQ.node _ _ h1).len;have h3:=b_J hm (i:=i) h2 R4;have e:C6 (k::ks) (i+1) m=k::C6 ks i m:=by simp [C6]
   rw [e];unfold dK;refine⟨c1,c2.take (i * 4) ++ (c ++ c2.drop (i * 4)), ?_,h1,h3⟩;rw [List.take_append,List.drop_append,hl,List.take_of_length_le P2,List.drop_eq_nil_of_le P2,show (i+1) * 4 - 4=i * 4 by omega]
   simp
theorem b_K {B:Nat} {w w2:World} {b off lo hi mid:Nat} {l:Bool} {ps:List fQ} {t:List Int} {ap at_ ak:Option Addr} {cp ct ck:Nat} {ks ks':List aX} {css':List Value} {v':Value}
 (hB:B <= b) (E:B <= lo) (F:hi <= w.heap.size) (C:lo <= mid) (G:mid <= hi) (H:¬ (lo <= b/\b < hi)) (s:b < w.heap.size) (v:B <= w.heap.size)
 (x0:w.cell? (b,off)=some (.bool l)) (x1:w.cell? (b,off+1)=some (.slice ap ps.length cp)) (x2:w.cell? (b,off+2)=some (.slice at_ t.length ct)) (x3:w.cell? (b,off+3)=some (.slice ak ks.length ck))
 (h3:RowQ w (fun x=>lo <= x/\x < mid/\(Value.slice ak ks.length ck).ownBlock≠some x) 2 ap ps.length cp (cK ps)) (h4:RowQ w (fun x=>lo <= x/\x < mid/\(Value.slice ak ks.length ck).ownBlock≠some x) 1 at_ t.length ct (t.map (Value.int .i32))) (h5:∀z∈t,(Lit.int .i32 z).wf=true)
 (m:∀g,(Value.slice ak ks.length ck).ownBlock=some g ->lo <= g/\g < mid)
 (q:w2.ownsRow lo 35 4 v' ks'.length css') (hq:dK w2 (fun x=>lo <= x/\x < hi∨w.heap.size <= x) ks' css') (hg:w.grownBy w2 (Value.slice ak ks.length ck).ownBlock) (y:v'.ownBlock=(Value.slice ak ks.length ck).ownBlock∨ ∀k,v'.ownBlock=some k ->w.heap.size <= k)
 (r:∀x,(lo <= x/\x < hi∨w.heap.size <= x) ->x≠b):
 r_C B w b off lo hi (.mk l ps t ks',0) (.returned OY) (w2.setCell (b,off+3) v'):=by
 have A:(Value.slice ak ks.length ck).ownBlock≠some b:=fun e=>by have:=m b e;omega
 have d:∀x,x < w.heap.size ->(Value.slice ak ks.length ck).ownBlock≠some x ->w2.heap[x]? =w.heap[x]? :=fun x hx h=>hg.block x hx (fun e=>h e.symm)
 have c:∀o,w2.cell? ⟨b,o,none⟩=w.cell? ⟨b,o,none⟩:=fun o=>World.cell?_of_block (a:=(b,o)) (d b s A)
 refine⟨rfl,⟨?_,fun x hx h D=> ?_,fun o ho=> ?_⟩,fun _=> ?_⟩
 . exact((Below.refl B w).grown hg v (fun k hk=>by have:=m k hk;omega)).setCell (p:=(b,off+3)) hB _
 . rw [Below.heap_setCell w2 (b,off+3) v' x (by show x≠b;exact h)]
   refine d x hx (fun e=> ?_);have:=m x e
   omega
 . rw [World.cell?_setCell_other _ _ _ _ (fun e=>by injection e with e1 e2;omega)]
   exact c o
 obtain⟨a',c',rfl,hr⟩:=RowQ.of_own q hq.onec;refine⟨[l,(ap,ps.length,cp),(at_,t.length,ct),(a',ks'.length,c')],⟨rfl,fun j u hj=> ?_⟩, ?_⟩
 . have i:∀o,o≠off+3 ->(w2.setCell (b,off+3) (a',ks'.length,c')).cell? ⟨b,o,none⟩=w.cell? ⟨b,o,none⟩:=fun o ho=>by
    rw [World.cell?_setCell_other _ _ _ _ (fun e=>by injection e with e1 e2;omega)];exact c o
   match j with
   | 0=>simp at hj;subst hj;rw [i _ P2];exact x0
   | 1=>simp at hj;subst hj;rw [i _ P2];exact x1
   | 2=>simp at hj;subst hj;rw [i _ P2];exact x2
   | 3=>
     simp at hj;subst hj
     exact World.cell?_setCell_same _ _ _ ((c (off+3)).trans x3)
   | j+4=>simp at hj
 have f:∀x,x≠b ->(w2.setCell (b,off+3) (a',ks'.length,c')).heap[x]? =w2.heap[x]? :=fun x h=>Below.heap_setCell w2 (b,off+3) _ x (by show x≠b;exact h)
 have hsz:w2.heap.size <= (w2.setCell (b,off+3) (a',ks'.length,c')).heap.size:=R9
 unfold NodeQ;refine⟨ap,cp,at_,ct,a',c',css',rfl, ?_, ?_,h5, ?_, ?_⟩
 . refine h3.keep (aJ hg.size hsz) (fun x hx n=> ?_) (fun x hx _=> .inl ⟨hx.1,by omega⟩)
   rw [f x P2,d x n hx.2.2]
 . refine h4.keep (aJ hg.size hsz) (fun x hx n=> ?_) (fun x hx _=> .inl ⟨hx.1,by omega⟩)
   rw [f x P2,d x n hx.2.2]
 . have hok:∀x,(Value.slice a' ks'.length c').ownBlock=some x ->(lo <= x/\x < hi∨w.heap.size <= x):=fun x hx=>by
    rcases y with e | e
    . rw [e]at hx;have:=m x hx;omega
    exact .inr (e x hx)
   exact hr.keep hsz (fun x hx _=>f x (r x (hok x hx))) (fun x hx _=>hok x hx)
 exact dK.keep hsz (fun x hx _=>f x (r x hx)) (fun _ hx _=>hx) _ _ hq
theorem r_J (m:aX) (i M:Nat) (W:World) (hM:W.cell? M=some (.int .i64 i)) (J:M < W.heap.size) (hi:i < (aY m).length) (hn:(aY m).length <= 100000000):
 l_J 180 #[.pointer M] W m (setKids m ((aY m).eraseIdx i),0):=by
 intro w b off lo d cm f hb A r hI j s C;obtain⟨l,ps,t,ks⟩:=m;simp only [aY]at hi hn;unfold lZ at hI;obtain⟨mid,ap,cp,at_,ct,ak,ck,css,h1,rfl,h3,h4,h5,h6,h7,h8⟩:=hI;have x0:=j.2 0 _ rfl;have x1:=j.2 1 _ rfl;have x2:=j.2 2 _ rfl;have x3:=j.2 3 _ rfl
 simp only [Nat.add_zero]at x0;have v:=gJ.le h8
 have o:∀u∈css,u.oneCell'=true:=dK.onec (gJ.q (ok:=fun _=>True) (fun _ _ _=>trivial) h8);have y:b < w.heap.size:=World.block_lt_of_cell? w _ x0;have K:=f.size;have y0:w.cell? M=some (.int .i64 i):=(f.cell (p:=M) J).trans hM;have D:((i+1:Nat):Int)=((i:Int)+1):=P2
 have hD:=fun(W':World) (h:W'.ownsRow lo 35 4 (ak,ks.length,ck) ks.length css)=>r_B lo (ak,ks.length,ck) ks.length i css W' h o hi hn
 rw [D]at hD;have HD:=a6 hD
 clear hD D;have k:∀g,(Value.slice ak ks.length ck).ownBlock=some g ->lo <= g/\g < mid:=fun g hg=>⟨(h6.lt g hg).1,h7 g hg⟩
 have HP:=a6 (fun(w2:World) v' css' c hq hg n L=>b_K (B:=W.heap.size) (w:=w) (w2:=w2) (b:=b) (off:=off) (lo:=lo) (hi:=d) (mid:=mid) (ks':=ks.eraseIdx i) (css':=css') (v':=v') hb A r h1 v s y K x0 x1 x2 x3 h3 h4 h5 k c hq hg n L);have E:=gJ.q (ok:=fun x=>mid <= x/\x < d) (fun x hx N=>⟨hx,N⟩) h8;have F:=a6 E;have O:=a6 k;have H6:=a6 h6
 have f3:=C (off+3);have G:∀g,(Value.slice ak ks.length ck).ownBlock=some g ->g≠b:=fun g hg e=>by have:=k g hg;omega
 have H:=a6 G;have X:IntKind.i64.wrap ((i:Int)+1)=(i:Int)+1:=QY
 have P:=a6 x3;have Q:=a6 f3
 have R:=a6 s;have S:=a6 (show lo <= mid/\mid <= d/\d <= w.heap.size from⟨h1,v,r⟩)
 clear h1 h3 h4 h5 h6 h7 h8 v o k E G j C s hM f A r x0 x1 x2;go_enter Tryz.func180,Tryz.ntmps180;go_wp2_with fail
 go_region_law (first
  | (refine bQ rfl 181 _ _ rfl P5 [Value.slice ak ks.length ck,i, .int .i64 ((i:Int)+1)] ?_ _ (HD.o _ H6.o) ?_
     . go_simp
     rintro e w2 ⟨v',rfl,c,hg,n⟩;have z:∀u∈css.take (i * 4) ++ css.drop ((i+1) * 4),u.oneCell'=true:=(a_6 F.o hi).onec
     obtain⟨a',c',rfl, -⟩:=eK c z;refine⟨_,rfl, ?_⟩;have I:=a6 c;have Hg:=a6 (b_5.trans hg);have T:=a6 n;have g3:w2.cell? (b,off+3)=some (.slice ak ks.length ck):=(World.cell?_of_block (a:=(b,off+3)) (Hg.o.block b y (fun e=>H.o b e.symm rfl))).trans P.o;have k3:w2.frozen? (b,off+3)=false:=(World.frozen?_of_block (a:=(b,off+3)) (Hg.o.block b y (fun e=>H.o b e.symm rfl))).trans Q.o;clear c hg n))
 all_goals
  go_wp2_with fail;go_ret;have hl:(ks.eraseIdx i).length=ks.length - 1:=by rw [List.length_eraseIdx,if_pos hi]
  have c:=I.o;have hv:=T.o;rw [<- hl]at c hv;have U:=dK.keep (ok':=fun x=>lo <= x/\x < d∨w.heap.size <= x) Hg.o.size (fun x hx V=>Hg.o.block x V (fun e=>by have:=(O.o x e.symm).2;have:=hx.1;omega)) (fun x hx _=> .inl ⟨by have:=S.o;have:=hx.1;omega,hx.2⟩) _ _ F.o
  have h:=HP.o w2 _ _ c (a_6 U hi) Hg.o hv (fun x hx e=>by subst e;rcases hx with hx | hx;exact R.o hx;omega);rw [hl]at h;exact h
theorem q_c {css c:List Value} {k:Nat} (h1:∀u∈css,u.oneCell'=true) (h2:∀u∈c,u.oneCell'=true):∀u∈css.take k ++ (c ++ css.drop k),u.oneCell'=true:=by
 intro u hu;rcases OQ hu with hu | hu
 . exact h1 u (List.mem_of_mem_take hu)
 rcases OQ hu with hu | hu
 . exact h2 u hu
 exact h1 u (List.mem_of_mem_drop hu)
def c_w (i:Int) (m k:aX):aX×Int:=if b8 k then (cV,7) else if i < 0∨ ((aY k).length:Int) < i then (cV,8) else (setKids k (C6 (aY k) i.toNat m),0)
theorem j_z {w:World} {B b off lo hi:Nat} (hB:Below B w w):k_T w w B b off lo hi:=⟨hB,fun _ _ _ _=>rfl,fun _ _=>rfl⟩
theorem d_a {w:World} {B b off lo hi:Nat} (hB:Below B w w) (q:Nat):k_T w (w.drewN q) B b off lo hi:=⟨below_drewN hB q,fun _ _ _ _=>rfl,fun _ _=>rfl⟩
theorem q_d (m' m:aX) (i:Int) (M N:Nat) (W:World) (hM:W.cell? M=some (.int .i64 i)) (f:M < W.heap.size) (he:(c_w i m' m).2≠0):
 l_J 182 #[.pointer M, .pointer N] W m (c_w i m' m):=by
 intro w b off lo o cm a hb g j hI c k n;obtain⟨l,ps,t,ks⟩:=m;unfold lZ at hI;obtain⟨mid,ap,cp,at_,ct,ak,ck,css,h1,rfl,h3,h4,h5,h6,h7,h8⟩:=hI;have x0:=c.2 0 _ rfl;have x3:=c.2 3 _ rfl
 simp only [Nat.add_zero]at x0;have y0:w.cell? M=some (.int .i64 i):=(a.cell (p:=M) f).trans hM
 have HB:=a6 (Below.refl W w);have HE:=a6 he;clear h1 h3 h4 h5 h6 h7 h8 c n k hM a g j he hb;cases l with
 | true=>
   have hr:c_w i m' (.mk true ps t ks)=(cV,7):=rfl;rw [hr];clear hr;go_enter Tryz.func182,Tryz.ntmps182;go_wp2_with fail;go_ret;exact⟨rfl,j_z (HB.o),fun h=>by cases h⟩
 | false=>
   by_cases d:i < 0
   . have hr:c_w i m' (.mk false ps t ks)=(cV,8):=by unfold c_w;rw [if_neg (by simp [b8]),if_pos (.inl d)]
     rw [hr];have hd:decide (i < 0)=true:=by simpa using d
     clear hr;go_enter Tryz.func182,Tryz.ntmps182;go_wp2_with fail
     go_quiet (fail)
     go_wp2_with fail
     all_goals go_ret
     all_goals exact⟨rfl,d_a HB.o _,fun h=>by cases h⟩
   by_cases e:(ks.length:Int) < i
   . have hr:c_w i m' (.mk false ps t ks)=(cV,8):=by unfold c_w;rw [if_neg (by simp [b8]),if_pos (.inr e)]
     rw [hr];have hd:decide (i < 0)=false:=by simpa using d
     have q:decide ((ks.length:Int) < i)=true:=by simpa using e
     clear hr;go_enter Tryz.func182,Tryz.ntmps182;go_wp2_with fail
     go_quiet (fail)
     go_wp2_with fail
     all_goals go_ret
     all_goals exact⟨rfl,d_a HB.o _,fun h=>by cases h⟩
   exfalso
   refine HE.o ?_;unfold c_w;rw [if_neg (by simp [b8]),if_neg (by simp only [aY];omega)]
theorem q_e (m' m:aX) (i M N:Nat) (e0:Bool) (a1 a2 a3:Option Addr) (n1 n2 n3 q1 q2 q3:Nat) (W:World) (hM:W.cell? M=some (.int .i64 i)) (Z:M < W.heap.size) (hN:At W N [e0,(a1,n1,q1),(a2,n2,q2),(a3,n3,q3)] 35) (hv:bY W W m' (.agg #[e0,(a1,n1,q1),(a2,n2,q2),(a3,n3,q3)])) (K:m'.wt <= 100000000)
 (hl:b8 m=false) (hi:i <= (aY m).length) (hn:(aY m).length <= 100000000):
 l_J 182 #[.pointer M, .pointer N] W m (setKids m (C6 (aY m) i m'),0):=by
 intro w b off lo j cm d hb L C hI n D O;obtain⟨l,ps,t,ks⟩:=m;simp only [aY]at hi hn;have:l=false:=hl
 subst this;unfold lZ at hI;obtain⟨mid,ap,cp,at_,ct,ak,ck,css,h1,rfl,h3,h4,h5,h6,h7,h8⟩:=hI;have x0:=n.2 0 _ rfl;have x1:=n.2 1 _ rfl;have x2:=n.2 2 _ rfl;have x3:=n.2 3 _ rfl
 simp only [Nat.add_zero]at x0;have E:=gJ.le h8
 have o:∀u∈css,u.oneCell'=true:=dK.onec (gJ.q (ok:=fun _=>True) (fun _ _ _=>trivial) h8);have r:b < w.heap.size:=World.block_lt_of_cell? w _ x0;have F:=d.size;have P:M < w.heap.size:=P2
 have y0:w.cell? M=some (.int .i64 i):=(d.cell (p:=M) Z).trans hM;have Q:bV w N e0 (a1,n1,q1) (a2,n2,q2) (a3,n3,q3):=hN.kept d;obtain⟨z0,z1,z2,z3, -, -⟩:=Q.facts;have HC:=a6 (fun(w':World) (h:Below w w w')=>b_3 m'.wt m' _ w' (a8) K (hv.keep (d.trans (h.mono F)) (d.trans (h.mono F)).size));have s:∀g,(Value.slice ak ks.length ck).ownBlock=some g ->lo <= g/\g < mid:=fun g hg=>⟨(h6.lt g hg).1,h7 g hg⟩
 have HI:=a6 (fun(w2:World) (h:Below w w w2) (l':Bool) (p1 p2 p3:Option Addr) (o1 o2 o3 d1 d2 d3:Nat)=>r_A lo (ak,ks.length,ck) ks.length i css w2 [l',(p1,o1,d1),(p2,o2,d2),(p3,o3,d3)] (w2.alloc (Obj.cells #[l',(p1,o1,d1),(p2,o2,d2),(p3,o3,d3)] 35)) (kQ (kQ h6 h) (b7 _ _)) o hi hn (by have:=h.size;simp;omega) (At.fresh _ _ _) rfl VJ (fun e=>by have:=(s _ e).2;have:=h.size;omega));have HP:=a6 (fun(w2:World) v' css' c hq hg y H0=>b_K (B:=W.heap.size) (w:=w) (w2:=w2) (b:=b) (off:=off) (lo:=lo) (hi:=j) (mid:=mid) (ks':=C6 ks i m') (css':=css') (v':=v') hb L C h1 E D r F x0 x1 x2 x3 h3 h4 h5 s c hq hg y H0);have R:=gJ.q (ok:=fun x=>mid <= x/\x < j) (fun x hx H1=>⟨hx,H1⟩) h8;have H2:=a6 R;have G:=a6 s
 have f3:=O (off+3);have S:∀g,(Value.slice ak ks.length ck).ownBlock=some g ->g≠b:=fun g hg e=>by have:=s g hg;omega
 have T:=a6 o;have U:=a6 S;have V:=a6 x3;have H3:=a6 f3;have H4:=a6 y0
 have H5:=a6 D;have H:=a6 (show lo <= mid/\mid <= j/\j <= w.heap.size from⟨h1,E,C⟩)
 have hd:decide ((i:Int) < 0)=false:=P6
 have h0:decide ((ks.length:Int) < (i:Int))=false:=P8
 have hlen:(C6 ks i m').length=ks.length+1:=by unfold C6;simp;omega
 have A:=a6 hlen;clear h1 h3 h4 h5 h6 h7 h8 E o s R S n O D hM d L C x1 x2 hN hv Q hlen;go_enter Tryz.func182,Tryz.ntmps182;go_wp2_with fail
 go_quiet (fail)
 go_wp2_with fail
 go_region_law (first
  | (refine bQ rfl 61 _ _ rfl P5 [.agg #[e0,(a1,n1,q1),(a2,n2,q2),(a3,n3,q3)]] ?_ _ (HC.o _ ?_) ?_
     . go_simp
     . exact(below_drewN (a7) _).drew
     rintro e w2 ⟨cs,rfl,hq,X⟩;obtain⟨l',p1,o1,d1,p2,o2,d2,p3,o3,d3,rfl⟩:=hq.form;refine⟨_,rfl, ?_⟩;have f:=((below_drewN (Below.refl w w) nq).drew).trans X;have z:=a6 f;have Hq:=a6 hq
     have g3:w2.cell? (b,off+3)=some (.slice ak ks.length ck):=(f.cell (p:=(b,off+3)) r).trans V.o;have g0:w2.cell? M=some (.int .i64 i):=(f.cell (p:=M) P).trans H4.o;have gb:b < w2.heap.size:=Nat.lt_of_lt_of_le r f.size;have gM:M < w2.heap.size:=Nat.lt_of_lt_of_le P f.size;clear X f hq)
  | (refine bQ rfl 183 _ _ rfl P5 [Value.slice ak ks.length ck,i, .slice w2 1 1] ?_ _ (HI.o w2 z.o l' p1 p2 p3 o1 o2 o3 d1 d2 d3) ?_
     . go_simp
     rintro e w4 ⟨v',rfl,c,hg,y⟩;have I:=q_c (k:=i * 4) T.o (NodeQ.node _ _ Hq.o).one
     obtain⟨a',c',rfl, -⟩:=eK c I;refine⟨_,rfl, ?_⟩;have Y:=a6 c;have Hg:=a6 hg;have H6:=a6 y;have v:=a6 (((cX (z.o.trans ((b7 w2 (Obj.cells #[l',(p1,o1,d1),(p2,o2,d2),(p3,o3,d3)] 35)).mono z.o.size)))).trans hg);have g3':w4.cell? (b,off+3)=some (.slice ak ks.length ck):=(World.cell?_of_block (a:=(b,off+3)) (v.o.block b r (fun e=>U.o b e.symm rfl))).trans V.o;have k3':w4.frozen? (b,off+3)=false:=(World.frozen?_of_block (a:=(b,off+3)) (v.o.block b r (fun e=>U.o b e.symm rfl))).trans H3.o;clear c hg y))
 all_goals
  go_wp2_with fail;go_ret;have c:=Y.o
  have hv:=H6.o;rw [<- A.o]at c hv;have H9:∀x,((lo <= x/\x < j)/\mid <= x∨w.heap.size <= x) ->(Value.slice ak ks.length ck).ownBlock≠some x:=fun x hx e=>by have:=(G.o x e).2;have:=H.o;omega
  have H7:=dK.keep (ok':=fun x=>lo <= x/\x < j∨w.heap.size <= x) v.o.size (fun x hx J=>v.o.block x J (fun e=>by have:=(G.o x e.symm).2;have:=hx.1;omega)) (fun x hx _=> .inl ⟨by have:=H.o;have:=hx.1;omega,hx.2⟩) _ _ H2.o;have H8:=NodeQ.keep (w':=w4) (ok':=fun x=>lo <= x/\x < j∨w.heap.size <= x) (by have:=Hg.o.size;simp at this;omega) (fun x hx J=>(Hg.o.block x P8 (fun e=>by have:=(G.o x e.symm).2;have:=H.o;have h2:w.heap.size <= x:=hx;omega)).trans (Lib.alloc_old _ _ _ J)) (fun x hx _=> .inr hx) _ _ Hq.o;have h:=HP.o w4 _ _ c (b_J H8 H7 hi) v.o (by rcases hv with e | e;exact .inl e;exact .inr fun k hk=>by have:=e k hk;have:=z.o.size;simp at *;omega) (fun x hx e=>by subst e;rcases hx with hx | hx;exact H5.o hx;omega);rw [A.o]at h;exact h
theorem jQ {n m:aX} {i:Int} {p:List Int} (h:l9 n (i::p)=some m):∃j:Nat,i=(j:Int)/\∃hj:j < (aY n).length,l9 (aY n)[j] p=some m:=by
 unfold l9 at h;split at h
 . rename_i h0
   obtain⟨j,rfl⟩:∃j:Nat,i=j:=⟨i.toNat,by omega⟩;rw [O0]at h;by_cases hj:j < (aY n).length
   . rw [NV hj]at h
     exact⟨j,rfl,hj,h⟩
   rw [List.getElem?_eq_none P2]at h
   cases h
 cases h
theorem h_I {n:aX} {j:Nat} {p:List Int} (hj:j < (aY n).length):l9 n ((j:Int)::p)=l9 (aY n)[j] p:=by
 conv=>lhs;unfold l9
 rw [if_pos P2,O0,NV hj]
theorem q_f (l:Bool) (ps:List fQ) (t:List Int) (ks:List aX) (i:Int) (p:List Int) (m:aX):jX (.mk l ps t ks) (i::p) m= .mk l ps t (ks.set i.toNat (jX (ks.getD i.toNat (.mk false [] [] [])) p m)):=by rw [jX]
theorem h_J (n:aX) (i:Int) (p:List Int):l9 n (i::p)=if 0 <= i then (match (aY n)[i.toNat]? with | some k=>l9 k p | none=>none) else none:=by
 conv=>lhs;unfold l9
 rfl
theorem o9 {n m:aX} {j:Nat} {p:List Int} (hj:j < (aY n).length):jX n ((j:Int)::p) m=setKids n ((aY n).set j (jX (aY n)[j] p m)):=by
 obtain⟨l,ps,t,ks⟩:=n;simp only [aY]at hj⊢;rw [q_f,O0];simp [List.getD,NV hj,setKids]
theorem kids_setKids (n:aX) (ks:List aX):aY (setKids n ks)=ks:=XV
theorem mK (n:aX) (ks:List aX):b8 (setKids n ks)=b8 n:=XV
theorem setKids_setKids (n:aX) (a b:List aX):setKids (setKids n a) b=setKids n b:=XV
theorem setKids_self (n:aX):setKids n (aY n)=n:=XV
theorem b_9:∀ (p q:List Int) (n:aX),l9 n (p ++ q)=(l9 n p).bind (fun k=>l9 k q)
 | [],q,n=>by simp [l9]
 | i ::p,q,n=>by
   rw [List.cons_append,h_J n i (p ++ q),h_J n i p];split
   . cases (aY n)[i.toNat]? with
     | none=>rfl
     | some k=>exact b_9 p q k
   rfl
theorem LQ:∀ (p:List Int) (n k k':aX),l9 n p=some k ->l9 (jX n p k') p=some k'
 | [],n,k,k',h=>by simp [jX,l9]
 | i::p,n,k,k',h=>by
   obtain⟨j,rfl,hj,h2⟩:=jQ h;rw [o9 hj];have a:j < (aY (setKids n ((aY n).set j (jX (aY n)[j] p k')))).length:=by rw [kids_setKids];simpa using hj
   rw [h_I a];simp only [kids_setKids,List.getElem_set_self];exact LQ p _ k k' h2
theorem GK:∀ (p:List Int) (n k a b:aX),l9 n p=some k ->jX (jX n p a) p b=jX n p b
 | [],n,k,a,b,h=>by simp [jX]
 | i::p,n,k,a,b,h=>by
   obtain⟨j,rfl,hj,h2⟩:=jQ h;rw [o9 hj,o9 hj];have c:j < (aY (setKids n ((aY n).set j (jX (aY n)[j] p a)))).length:=by rw [kids_setKids];simpa using hj
   rw [o9 c,setKids_setKids];simp only [kids_setKids,List.getElem_set_self,List.set_set];rw [GK p _ k a b h2]
theorem I8:∀ (p q:List Int) (n k m:aX),l9 n p=some k ->jX n (p ++ q) m=jX n p (jX k q m)
 | [],q,n,k,m,h=>by
   have e:n=k:=t_Z
   subst e;simp [jX]
 | i::p,q,n,k,m,h=>by
   obtain⟨j,rfl,hj,h2⟩:=jQ h;rw [List.cons_append,o9 hj,o9 hj,I8 p q _ k m h2]
theorem K5:∀ (p:List Int) (n k:aX),l9 n p=some k ->jX n p k=n
 | [],n,k,h=>by
   have e:n=k:=t_Z
   subst e;simp [jX]
 | i::p,n,k,h=>by
   obtain⟨j,rfl,hj,h2⟩:=jQ h;rw [o9 hj,K5 p _ k h2,List.set_getElem_self,setKids_self]
theorem h_K (p:List Int) (n k k':aX) (h:l9 n p=some k) (hl:b8 k'=b8 k):b8 (jX n p k')=b8 n:=by
 cases p with
 | nil=>
   have e:n=k:=t_Z
   subst e;simpa [jX]using hl
 | cons i p=>
   obtain⟨j,rfl,hj,h2⟩:=jQ h;rw [o9 hj,mK]
theorem f_N:∀ {ks:List aX},a_2 ks=0 ↔ ∀k∈ks,dQ k=0
 | []=>by simp [a_2]
 | k ::ks=>by
   rw [e_a];have:=f_N (ks:=ks)
   constructor
   . intro h
     split at h
     . contradiction
     rename_i h0
     simp only [ne_eq,Decidable.not_not]at h0;intro x hx;rcases OJ hx with rfl | hx
     . exact h0
     exact this.1 h x hx
   intro h;rw [h k P6];simp only [ne_eq,not_true,if_false];exact this.2 fun x hx=>h x t_u
theorem qQ {l:Bool} {ps:List fQ} {t:List Int} {ks:List aX}:dQ (.mk l ps t ks)=0 ↔ I1 l ps t ks.length=0/\∀k∈ks,dQ k=0:=by
 rw [h_H];split
 . rename_i h;simp [h]
 rename_i h
 simp only [ne_eq,Decidable.not_not]at h;rw [f_N];simp [h]
theorem D4 {l:Bool} {ps:List fQ} {t:List Int} {m:Nat}:I1 l ps t m=0 ↔ uQ ps=0/\(l=true ->m=0)/\(l=false ->t= [])/\b_2 t=0:=by
 unfold I1;by_cases h:uQ ps=0
 . simp only [h,ne_eq,not_true,if_false,true_and]
   cases l <;> simp
   . by_cases ht:t= []
     . subst ht;simp
     have:0 < t.length:=by cases t with
      | nil=>exact absurd rfl ht
      | cons=>simp
     simp [ht,this]
   by_cases hm:m=0
   . subst hm;simp
   simp [hm,Nat.pos_of_ne_zero hm]
 simp [h]
theorem BJ:∀ (p:List Int) (n k:aX),dQ n=0 ->l9 n p=some k ->dQ k=0
 | [],n,k,h,ha=>by
   have e:n=k:=t_R
   subst e;exact h
 | i::p,n,k,h,ha=>by
   obtain⟨j,rfl,hj,h2⟩:=jQ ha;obtain⟨l,ps,t,ks⟩:=n;exact BJ p _ k ((qQ.1 h).2 _ (NY hj)) h2
theorem c_x:∀ (p:List Int) (n k k':aX),dQ n=0 ->l9 n p=some k ->dQ k'=0 ->dQ (jX n p k')=0
 | [],n,k,k',h,ha,hk=>by simpa [jX]using hk
 | i::p,n,k,k',h,ha,hk=>by
   obtain⟨j,rfl,hj,h2⟩:=jQ ha;rw [o9 hj];obtain⟨l,ps,t,ks⟩:=n;obtain⟨h3,h4⟩:=qQ.1 h;simp only [aY,setKids]at hj h2⊢;refine qQ.2 ⟨by rw [List.length_set];exact h3,fun x hx=> ?_⟩;rcases List.mem_or_eq_of_mem_set hx with hx | rfl
   . exact h4 x hx
   exact c_x p _ k k' (h4 _ (NY hj)) h2 hk
theorem f_O:∀ (ks:List aX) (j:Nat) (hj:j < ks.length) (m:aX),fY (ks.set j m)+ks[j].wt=fY ks+m.wt
 | k::ks,0,hj,m=>by simp [fY];omega
 | k::ks,j+1,hj,m=>by
   have:=f_O ks j VZ m
   simp [fY]at this⊢;omega
theorem b_a (n:aX) (ks:List aX):(setKids n ks).wt+fY (aY n)=n.wt+fY ks:=by
 obtain⟨l,ps,t,ks0⟩:=n
 simp [aX.wt,setKids,aY];omega
theorem g_L:∀ (p:List Int) (n k k':aX),l9 n p=some k ->(jX n p k').wt+k.wt=n.wt+k'.wt
 | [],n,k,k',ha=>by
   have e:n=k:=t_R
   subst e;simp only [jX];omega
 | i::p,n,k,k',ha=>by
   obtain⟨j,rfl,hj,h2⟩:=jQ ha;have h3:=g_L p _ k k' h2;have h4:=f_O (aY n) j hj (jX (aY n)[j] p k');have h5:=b_a n ((aY n).set j (jX (aY n)[j] p k'));rw [o9 hj];omega
theorem AV (p:List Int) (i:Int):jK (p ++ [i])=i:=by simp [jK]
theorem q8 (p:List Int) (i:Int):(p ++ [i]).dropLast=p:=P6
theorem b_L {n k:aX} {p:List Int} {i:Nat} (h:l9 n p=some k) (hi:i < (aY k).length):l9 n (p ++ [(i:Int)])=some (aY k)[i]:=by
 rw [b_9,h];show l9 k [(i:Int)]=_;rw [h_I hi];rfl
theorem h_L {n k m:aX} {p:List Int} {i:Nat} (h:l9 n p=some k) (hl:b8 k=false) (hi:i <= (aY k).length):K4 n (p ++ [(i:Int)]) m=(jX n p (setKids k (C6 (aY k) i m)),0):=by
 unfold K4;rw [if_neg P6,q8,h];simp only [hl,AV,Bool.false_eq_true,if_false,O0];rw [if_neg P2]
theorem a_7 {n k:aX} {p:List Int} {i:Nat} (h:l9 n p=some k) (hi:i < (aY k).length):F3 n (p ++ [(i:Int)])=(jX n p (setKids k ((aY k).eraseIdx i)),(aY k)[i],0):=by
 unfold F3;rw [if_neg P6,q8,b_L h hi,h];simp only [AV,O0]
set_option linter.unusedSectionVars false
theorem DZ {x:aX} {L:List aX} (h:dQ x=0) (hL:∀k∈L,dQ k=0) (hl:b8 x=true ->L= []):dQ (setKids x L)=0:=by
 obtain⟨l,ps,t,ks⟩:=x;obtain⟨h1,h2⟩:=qQ.1 h;obtain⟨g1,g2,g3,g4⟩:=D4.1 h1;exact qQ.2 ⟨D4.2 ⟨g1,fun e=>by rw [hl e];rfl,g3,g4⟩,hL⟩
theorem sQ {x:aX} (h:dQ x=0):∀k∈aY x,dQ k=0:=by
 obtain⟨l,ps,t,ks⟩:=x;exact(qQ.1 h).2
theorem D5 {x:aX} (h:dQ x=0) (hl:b8 x=true):aY x= []:=by
 obtain⟨l,ps,t,ks⟩:=x;have:=(D4.1 (qQ.1 h).1).2.1 hl;exact O2 this
theorem LV {n k:aX} {p:List Int} {L:List aX} (hn:dQ n=0) (ha:l9 n p=some k) (hk:b8 k=false) (hL:∀x∈L,dQ x=0):dQ (jX n p (setKids k L))=0:=
 c_x p n k _ hn ha (DZ (BJ p n k hn ha) hL (fun h=>by rw [hk]at h;cases h))
theorem a_z {n k:aX} {p:List Int} {L:List aX} (ha:l9 n p=some k):b8 (jX n p (setKids k L))=b8 n:=h_K p n k _ ha (mK _ _)
theorem b_M {n:aX} {o:C9} (h1:dQ n=0) (h2:b8 n=false) (h3:I7 o=0):nZ n o=zZ n o:=by
 unfold nZ;rw [if_neg (by simp [h1]),h2,if_neg P6,if_neg (by simp [h3])]
theorem n_X (p:List Int) (i:Int) (m:aX):I7 (fZ.full ⟨1,p ++ [i], [],0,m, []⟩)=0:=by
 simp [I7,GJ,j_x,j_w]
theorem n_Y (p:List Int) (i:Int) (m:aX):I7 (fZ.full ⟨2,p ++ [i], [],0,m, []⟩)=0:=by
 simp [I7,GJ,j_x,j_w]
theorem f_P:rK cV cV=true:=oQ _
theorem n_Z (p q:List Int) (i j:Int):I7 (fZ.full ⟨5,p ++ [i],q ++ [j],0,cV, []⟩)=0:=by
 simp [I7,GJ,j_x,j_w,f_P]
theorem o_0 (p:List Int) (i x:Int) (ps:List fQ):I7 (fZ.full ⟨3,p ++ [i], [],x,cV,ps⟩)=0:=by
 simp [I7,GJ,j_x,j_w,f_P]
theorem j_A {n:aX} {o:C9} (h:o.kind=1):zZ n o=if dQ o.node≠0 then (cV,dQ o.node) else K4 n o.path o.node:=by
 unfold zZ;rw [if_pos h]
theorem j_B {n rest k:aX} {o:C9} (h:o.kind=2) (hc:F3 n o.path=(rest,k,0)):zZ n o=if rK k o.node then (rest,0) else (cV,9):=by
 unfold zZ;rw [if_neg P2,hc,if_neg P6,if_pos h]
theorem g_M {n rest k:aX} {o:C9} (h:o.kind=3) (hc:F3 n o.path=(rest,k,0)):zZ n o=d_D rest k o:=by
 unfold zZ;rw [if_neg P2,hc,if_neg P6,if_neg P2,if_pos h]
theorem h_M {n rest k:aX} {o:C9} (h:o.kind=5) (hc:F3 n o.path=(rest,k,0)):zZ n o=K4 rest o.dest k:=by
 unfold zZ;rw [if_neg P2,hc,if_neg P6,if_neg P2,if_neg P2]
section
variable {n k : aX} {p : List Int} (hn : dQ n = 0) (hr : b8 n = false) (ha : l9 n p = some k) (hk : b8 k = false)
include hn hr ha hk
theorem d_E {i:Nat} {m:aX} (hm:dQ m=0) (hi:i <= (aY k).length):nZ n (fZ.full ⟨1,p ++ [(i:Int)], [],0,m, []⟩)=(jX n p (setKids k (C6 (aY k) i m)),0):=by
 rw [b_M hn hr (n_X _ _ _),j_A rfl,if_neg (by simp [hm])];exact h_L ha hk hi
theorem d_F {i:Nat} (hi:i < (aY k).length):nZ n (fZ.full ⟨2,p ++ [(i:Int)], [],0,(aY k)[i], []⟩)=(jX n p (setKids k ((aY k).eraseIdx i)),0):=by
 rw [b_M hn hr (n_Y _ _ _),j_B rfl (a_7 ha hi)];simp [oQ]
theorem k_Z {q:List Int} {i j:Nat} {rest k2:aX} {x:aX} {p1 p2:List Int} (hc:F3 n (p1 ++ [(i:Int)])=(rest,x,0)) (h2:l9 rest p2=some k2) (a:b8 k2=false) (hj:j <= (aY k2).length):
 nZ n (fZ.full ⟨5,p1 ++ [(i:Int)],p2 ++ [(j:Int)],0,cV, []⟩)=(jX rest p2 (setKids k2 (C6 (aY k2) j x)),0):=by
 rw [b_M hn hr (n_Z _ _ _ _),h_M rfl hc];exact h_L h2 a hj
theorem l_0 {i:Nat} (hi:i+1 < (aY k).length) (h1:b8 (aY k)[i]=true) (h2:b8 (aY k)[i+1]=true):
 nZ n (fZ.full ⟨3,p ++ [((i+1:Nat):Int)], [],(iJ (aY k)[i]).length,cV,dJ (aY k)[i+1]⟩)=(jX n p (setKids k (((aY k).eraseIdx (i+1)).set i (u_4 (aY k)[i] (aY k)[i+1]))),0):=by
 rw [b_M hn hr (o_0 _ _ _ _),g_M rfl (a_7 ha hi)];unfold d_D kX;simp only [AV,q8];rw [if_neg P6,show (((i+1:Nat):Int) - 1)=(i:Int)by omega];have hl:i < (aY (setKids k ((aY k).eraseIdx (i+1)))).length:=t_1
 have a:=LQ p n k (setKids k ((aY k).eraseIdx (i+1))) ha;have b:=b_L a hl;have c:(aY (setKids k ((aY k).eraseIdx (i+1))))[i]=(aY k)[i]:=by
  simp only [kids_setKids];rw [List.getElem_eraseIdx,dif_pos P2]
 rw [c]at b;rw [b];simp only;rw [h1,h2,if_neg P6];unfold FK;rw [h1];simp only [if_true,ne_eq,not_true,if_false];rw [I8 p [(i:Int)] _ _ _ a,o9 hl,GK p n k _ _ ha];simp [kids_setKids,setKids_setKids,jX]
end
def oZ:aX ->List C9 ->Option aX
 | n, []=>some n
 | n,o::l=>if (nZ n o).2=0 then oZ (nZ n o).1 l else none
theorem xK {n m:aX} {o:C9} {l:List C9} (h:nZ n o=(m,0)):oZ n (o::l)=oZ m l:=by
 conv=>lhs;unfold oZ
 rw [h];simp
theorem LX (n:aX) (o:C9) (l:List C9):oZ n (o::l)=if (nZ n o).2=0 then oZ (nZ n o).1 l else none:=by
 conv=>lhs;unfold oZ
theorem b_N:∀ (a b:List C9) (n:aX),oZ n (a ++ b)=(oZ n a).bind (fun m=>oZ m b)
 | [],b,n=>by simp [oZ]
 | o::a,b,n=>by
   rw [List.cons_append,LX n o (a ++ b),LX n o a];split
   . exact b_N a b _
   rfl
def rQ (ks:List aX) (j:Nat) (x:aX) (t:Nat):List aX:=ks.take j ++ setKids x ((aY x).drop t)::((aY x).take t ++ ks.drop (j+1))
theorem e_c {ks:List aX} {j:Nat} (hj:j < ks.length):rQ ks j ks[j] 0=ks:=by
 unfold rQ;simp only [List.drop_zero,setKids_self,List.take_zero,List.nil_append];rw [<- List.drop_eq_getElem_cons hj,List.take_append_drop]
theorem a_A {ks:List aX} {j:Nat} {x:aX} {t:Nat} (hj:j < ks.length) (ht:t <= (aY x).length):(rQ ks j x t).length=ks.length+t:=by
 unfold rQ;simp [O8 (Nat.le_of_lt hj),O8 ht];omega
theorem c_y {ks:List aX} {j:Nat} {x:aX} {t:Nat} (hj:j < ks.length) (hx:x=ks[j]) (hE:∀k∈ks,dQ k=0):∀y∈rQ ks j x t,dQ y=0:=by
 have a:dQ x=0:=hE x (by rw [hx];exact NY hj);intro y hy;unfold rQ at hy;rcases OQ hy with hy | hy
 . exact hE y (List.mem_of_mem_take hy)
 rcases OJ hy with rfl | hy
 . exact DZ a (fun k hk=>sQ a k (List.mem_of_mem_drop hk)) (fun hl=>by rw [D5 a hl];simp)
 rcases OQ hy with hy | hy
 . exact sQ a y (List.mem_of_mem_take hy)
 exact hE y (List.mem_of_mem_drop hy)
theorem e_d {ks:List aX} {j:Nat} {x:aX} {t:Nat} (hj:j < ks.length):(rQ ks j x t)[j]? =some (setKids x ((aY x).drop t)):=by
 unfold rQ;rw [OX P8]
 simp [O8 (Nat.le_of_lt hj)]
theorem j_C {ks:List aX} {j:Nat} {x:aX} {t:Nat} (hj:j < ks.length) (ht:t < (aY x).length):
 C6 ((rQ ks j x t).set j (setKids x ((aY x).drop (t+1)))) (j+1+t) (aY x)[t]=rQ ks j x (t+1):=by
 have e:(rQ ks j x t).set j (setKids x ((aY x).drop (t+1)))=ks.take j ++ setKids x ((aY x).drop (t+1))::((aY x).take t ++ ks.drop (j+1)):=by
  unfold rQ;rw [List.set_append_right _ _ P8]
  simp [O8 (Nat.le_of_lt hj)]
 rw [e];unfold C6 rQ;have hl:(ks.take j ++ setKids x ((aY x).drop (t+1))::(aY x).take t).length=j+1+t:=P8
 rw [show ks.take j ++ setKids x ((aY x).drop (t+1))::((aY x).take t ++ ks.drop (j+1))=(ks.take j ++ setKids x ((aY x).drop (t+1))::(aY x).take t) ++ ks.drop (j+1)by simp,List.take_left' hl,List.drop_left' hl,O1 ht];simp only [O4,List.cons_append,List.nil_append]
section
variable {n k : aX} {p : List Int} (hn : dQ n = 0) (hr : b8 n = false) (ha : l9 n p = some k) (hk : b8 k = false)
include hn hr ha hk
theorem h_N {j t:Nat} (hj:j < (aY k).length) (ht:t < (aY (aY k)[j]).length):
 nZ (jX n p (setKids k (rQ (aY k) j (aY k)[j] t))) (fZ.full ⟨5,p ++ [(j:Int),0],p ++ [(j:Int)+(1+(t:Int))],0,cV, []⟩)=(jX n p (setKids k (rQ (aY k) j (aY k)[j] (t+1))),0):=by
 have hE:=sQ (BJ p n k hn ha);have c:=LQ p n k (setKids k (rQ (aY k) j (aY k)[j] t)) ha;have a:j < (aY (setKids k (rQ (aY k) j (aY k)[j] t))).length:=by rw [kids_setKids,a_A hj P2];omega
 have hx:(aY (setKids k (rQ (aY k) j (aY k)[j] t)))[j]=setKids (aY k)[j] ((aY (aY k)[j]).drop t):=by
  have:=e_d (x:=(aY k)[j]) (t:=t) hj;simp only [kids_setKids];rw [NV (by rw [kids_setKids]at a;exact a)]at this;exact Option.some.inj this
 have b:=b_L c a;rw [hx]at b;have hc:=a_7 (i:=0) b (by rw [kids_setKids];simp;omega)
 have e1:p ++ [(j:Int),0]=p ++ [(j:Int)] ++ [((0:Nat):Int)]:=P6
 have e2:(j:Int)+(1+(t:Int))=((j+1+t:Nat):Int):=P2
 simp only [kids_setKids,setKids_setKids,List.getElem_drop,Nat.add_zero,List.eraseIdx_zero,List.tail_drop]at hc;rw [I8 p _ _ _ _ c,o9 a,GK p n k _ _ ha]at hc;simp only [kids_setKids,setKids_setKids,jX]at hc;rw [e1,e2];have d:=LQ p n k (setKids k ((rQ (aY k) j (aY k)[j] t).set j (setKids (aY k)[j] ((aY (aY k)[j]).drop (t+1))))) ha
 refine(k_Z (q:= []) (LV hn ha hk (c_y hj rfl hE)) ((a_z ha).trans hr) c ((mK _ _).trans hk) hc d ((mK _ _).trans hk) (by rw [kids_setKids,List.length_set,a_A hj P2];omega)).trans ?_;rw [kids_setKids,setKids_setKids,GK p n k _ _ ha,j_C hj ht]
theorem e_e {j:Nat} (hj:j < (aY k).length):∀ (m t:Nat),t+m=(aY (aY k)[j]).length ->
 oZ (jX n p (setKids k (rQ (aY k) j (aY k)[j] t))) ((List.range' t m).map fun i:Nat=>fZ.full ⟨5,p ++ [(j:Int),0],p ++ [(j:Int)+(1+(i:Int))],0,cV, []⟩)=some (jX n p (setKids k (rQ (aY k) j (aY k)[j] (aY (aY k)[j]).length)))
 | 0,t,h=>by
   obtain rfl:t=(aY (aY k)[j]).length:=P2
   simp [oZ]
 | m+1,t,h=>by
   rw [List.range'_succ,List.map_cons,xK (h_N hn hr ha hk hj P2)];exact e_e hj m (t+1) P2
end
def qV (ks:List aX) (j:Nat) (x:aX) (t:Nat):List aX:=ks.take j ++ setKids x ((ks.drop j).take t)::ks.drop (j+t)
theorem e_f {ks:List aX} {j:Nat} {x:aX} (hx:aY x= []):qV ks j x 0=C6 ks j x:=by
 unfold qV C6;rw [List.take_zero, <- hx,setKids_self,Nat.add_zero]
theorem f_Q {ks:List aX} {j:Nat} {x:aX} {t:Nat} (hx:dQ x=0) (hl:b8 x=false) (hE:∀k∈ks,dQ k=0):∀y∈qV ks j x t,dQ y=0:=by
 intro y hy;unfold qV at hy;rcases OQ hy with hy | hy
 . exact hE y (List.mem_of_mem_take hy)
 rcases OJ hy with rfl | hy
 . exact DZ hx (fun k hk=>hE k (List.mem_of_mem_drop (List.mem_of_mem_take hk))) (fun h=>by rw [hl]at h;cases h)
 exact hE y (List.mem_of_mem_drop hy)
theorem l_U {ks:List aX} {j:Nat} {x:aX} {t:Nat} (hj:j+t <= ks.length):(qV ks j x t).length=ks.length - t+1:=by
 unfold qV;simp;omega
theorem o_1 {ks:List aX} {j:Nat} {x:aX} {t:Nat} (hj:j <= ks.length):(qV ks j x t)[j]? =some (setKids x ((ks.drop j).take t)):=by
 unfold qV;rw [OX P8]
 simp [O8 hj]
theorem j_D {ks:List aX} {j:Nat} {x:aX} {t:Nat} (hj:j+t < ks.length):(qV ks j x t)[j+1]? =some ks[j+t]:=by
 unfold qV;rw [OX P8]
 simp [O8 (show j <= ks.length by omega),show j+1 - j=1 by omega,NV hj]
theorem j_E {ks:List aX} {j:Nat} {x:aX} {t:Nat} (hj:j+t < ks.length):
 ((qV ks j x t).eraseIdx (j+1)).set j (setKids x (C6 ((ks.drop j).take t) t ks[j+t]))=qV ks j x (t+1):=by
 have hl:(ks.take j).length=j:=P8
 unfold qV;rw [List.eraseIdx_append_of_length_le P2,hl,show j+1 - j=1 by omega,List.eraseIdx_cons_succ,List.set_append_right _ _ P2,hl,Nat.sub_self,List.set_cons_zero,List.eraseIdx_zero,List.tail_drop];have e:C6 ((ks.drop j).take t) t ks[j+t]=(ks.drop j).take (t+1):=by
  have hd:t < (ks.drop j).length:=P8
  unfold C6;rw [List.take_take,Nat.min_self,List.drop_eq_nil_of_le (List.length_take_le _ _),O1 hd,List.getElem_drop]
 rw [e,Nat.add_assoc]
section
variable {n k : aX} {p : List Int} (hn : dQ n = 0) (hr : b8 n = false) (ha : l9 n p = some k) (hk : b8 k = false)
include hn hr ha hk
theorem h_O {j t:Nat} {x:aX} (hx:dQ x=0) (hl:b8 x=false) (hj:j+t < (aY k).length):
 nZ (jX n p (setKids k (qV (aY k) j x t))) (fZ.full ⟨5,p ++ [(j:Int)+1],p ++ [(j:Int),(t:Int)],0,cV, []⟩)=(jX n p (setKids k (qV (aY k) j x (t+1))),0):=by
 have hE:=sQ (BJ p n k hn ha);have e:=LQ p n k (setKids k (qV (aY k) j x t)) ha;have f:(qV (aY k) j x t).length=(aY k).length - t+1:=l_U P2;have d:j+1 < (aY (setKids k (qV (aY k) j x t))).length:=by rw [kids_setKids,f];omega
 have hc:=a_7 e d;have hy:(aY (setKids k (qV (aY k) j x t)))[j+1]=(aY k)[j+t]:=by
  have:=j_D (x:=x) hj;simp only [kids_setKids];rw [NV (by rw [kids_setKids]at d;exact d)]at this;exact Option.some.inj this
 rw [hy]at hc;rw [kids_setKids,setKids_setKids,GK p n k _ _ ha]at hc;have a:=LQ p n k (setKids k ((qV (aY k) j x t).eraseIdx (j+1))) ha
 have b:j < (aY (setKids k ((qV (aY k) j x t).eraseIdx (j+1)))).length:=t_1
 have hz:(aY (setKids k ((qV (aY k) j x t).eraseIdx (j+1))))[j]=setKids x (((aY k).drop j).take t):=by
  have:=o_1 (ks:=aY k) (j:=j) (x:=x) (t:=t) P2;simp only [kids_setKids];rw [List.getElem_eraseIdx,dif_pos P2];rw [NV P2]at this;exact Option.some.inj this
 have c:=b_L a b;rw [hz]at c;have e1:p ++ [(j:Int)+1]=p ++ [((j+1:Nat):Int)]:=P6
 have e2:p ++ [(j:Int),(t:Int)]=p ++ [(j:Int)] ++ [(t:Int)]:=P6
 rw [e1,e2];refine(k_Z (q:= []) (LV hn ha hk (f_Q hx hl hE)) ((a_z ha).trans hr) e ((mK _ _).trans hk) hc c ((mK _ _).trans hl) (by rw [kids_setKids];simp;omega)).trans ?_;rw [I8 p _ _ _ _ a,o9 b,GK p n k _ _ ha];simp only [kids_setKids,setKids_setKids,jX];rw [j_E hj]
theorem h_P {j:Nat} {x:aX} (hx:dQ x=0) (hl:b8 x=false):∀ (m t:Nat),j+t+m <= (aY k).length ->
 oZ (jX n p (setKids k (qV (aY k) j x t))) ((List.range' t m).map fun i:Nat=>fZ.full ⟨5,p ++ [(j:Int)+1],p ++ [(j:Int),(i:Int)],0,cV, []⟩)=some (jX n p (setKids k (qV (aY k) j x (t+m))))
 | 0,t,h=>by simp [oZ]
 | m+1,t,h=>by
   rw [List.range'_succ,List.map_cons,xK (h_O hn hr ha hk hx hl P2)];rw [h_P hx hl m (t+1) P2,show t+1+m=t+(m+1)by omega]
end
def a_8 (r:bK) (ks:List aX) (f:vJ):List aX:=
 if f.1=1∨f.1=5 then ks.eraseIdx f.2.1.toNat
 else if f.1=2 then ks.take f.2.1.toNat ++ (aY (cY ks f.2.1.toNat) ++ ks.drop (f.2.1.toNat+1))
 else if f.1=3 then qV ks f.2.1.toNat (gX (eQ r (cY ks f.2.1.toNat)).2) f.2.2.toNat
 else if f.1=4 then (ks.eraseIdx f.2.1.toNat).set (f.2.1.toNat - 1) (u_4 (cY ks (f.2.1.toNat - 1)) (cY ks f.2.1.toNat))
 else [if r.fill=1 then .mk true [] [] [] else gX r.fillT]
theorem K6 {r:bK} {ks:List aX} {f:vJ} (h:f.1=1∨f.1=5):a_8 r ks f=ks.eraseIdx f.2.1.toNat:=by
 unfold a_8;rw [if_pos h]
theorem e_g {r:bK} {ks:List aX} {f:vJ} (h:f.1=2):a_8 r ks f=ks.take f.2.1.toNat ++ (aY (cY ks f.2.1.toNat) ++ ks.drop (f.2.1.toNat+1)):=by
 unfold a_8;rw [if_neg P2,if_pos h]
theorem b_b {r:bK} {ks:List aX} {f:vJ} (h:f.1=3):a_8 r ks f=qV ks f.2.1.toNat (gX (eQ r (cY ks f.2.1.toNat)).2) f.2.2.toNat:=by
 unfold a_8;rw [if_neg P2,if_neg P2,if_pos h]
theorem c_z {r:bK} {ks:List aX} {f:vJ} (h:f.1=4):a_8 r ks f=(ks.eraseIdx f.2.1.toNat).set (f.2.1.toNat - 1) (u_4 (cY ks (f.2.1.toNat - 1)) (cY ks f.2.1.toNat)):=by
 unfold a_8;rw [if_neg P2,if_neg P2,if_neg P2,if_pos h]
theorem e_h {r:bK} {ks:List aX} {f:vJ} (h:f.1=6):a_8 r ks f= [if r.fill=1 then .mk true [] [] [] else gX r.fillT]:=by
 unfold a_8;rw [if_neg P2,if_neg P2,if_neg P2,if_neg P2]
theorem zQ {r:bK} {ks:List aX} {p:List Int} {f:vJ} (h:f.1=1∨f.1=5):nX r ks p f= [⟨2,p ++ [f.2.1], [],0,cY ks f.2.1.toNat, []⟩]:=by
 unfold nX;rw [if_pos h]
theorem a_9 {r:bK} {ks:List aX} {p:List Int} {f:vJ} (h:f.1=2):nX r ks p f=(List.range (aY (cY ks f.2.1.toNat)).length).map (fun i:Nat=>(⟨5,p ++ [f.2.1,0],p ++ [f.2.1+(1+(i:Int))],0,cV, []⟩:fZ)) ++ [⟨2,p ++ [f.2.1], [],0,jY (cY ks f.2.1.toNat), []⟩]:=by
 unfold nX;rw [if_neg P2,if_pos h]
theorem GQ {r:bK} {ks:List aX} {p:List Int} {f:vJ} (h:f.1=3):nX r ks p f=⟨1,p ++ [f.2.1], [],0,gX (eQ r (cY ks f.2.1.toNat)).2, []⟩::(List.range f.2.2.toNat).map (fun i:Nat=>(⟨5,p ++ [f.2.1+1],p ++ [f.2.1,(i:Int)],0,cV, []⟩:fZ)):=by
 unfold nX;rw [if_neg P2,if_neg P2,if_pos h]
theorem K8 {r:bK} {ks:List aX} {p:List Int} {f:vJ} (h:f.1=4):nX r ks p f= [⟨3,p ++ [f.2.1], [],(iJ (cY ks (f.2.1.toNat - 1))).length,cV,dJ (cY ks f.2.1.toNat)⟩]:=by
 unfold nX;rw [if_neg P2,if_neg P2,if_neg P2,if_pos h]
theorem a_a {r:bK} {ks:List aX} {p:List Int} {f:vJ} (h:f.1=6):nX r ks p f= [⟨1,p ++ [f.2.1], [],0,if r.fill=1 then .mk true [] [] [] else gX r.fillT, []⟩]:=by
 unfold nX;rw [if_neg P2,if_neg P2,if_neg P2,if_neg P2]
theorem kid_at {ks:List aX} {j:Nat} (h:j < ks.length):cY ks j=ks[j]:=by simp [NV h]
theorem c_A (r:bK) (ks:List aX) (j:Nat) (hj:j < ks.length) (h:gV r ks 3=j):j+j7 r ks 3 <= ks.length:=by
 unfold j7;rw [if_pos rfl,h];unfold b_C;have:=(List.takeWhile_sublist (fun a=>decide (a=(m9 r ks).getD ((j:Int)).toNat (0, []))) (l:=(m9 r ks).drop (((j:Int)).toNat+1))).length_le
 simp only [List.length_drop,O6,O0]at this;simp only [O0];omega
end Go.Proofs.YtmadpclcmjahoaaGreatDoor
