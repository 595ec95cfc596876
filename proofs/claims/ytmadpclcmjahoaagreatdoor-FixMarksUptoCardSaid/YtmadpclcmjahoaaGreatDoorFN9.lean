/- Parts of the proof: 9. -/
import Derived.Test.YtmadpclcmjahoaaGreatDoorFN1
import Derived.Test.YtmadpclcmjahoaaGreatDoorFN5
import Derived.Test.YtmadpclcmjahoaaGreatDoorFN8
import Derived.Deep.RegionHeld3
set_option linter.unusedVariables false
set_option linter.unusedSimpArgs false
set_option maxHeartbeats 8000000
set_option maxRecDepth 100000
namespace Go.Proofs.YtmadpclcmjahoaaGreatDoor
open Go.RowKit Go.Redl
theorem j_L:∀args w,(callFunc 238 args).run Tryz.prog w= .ok (.enter 238 args) w:=by intro args w;kernel_rfl
theorem j_M:∀args w,(callFunc 182 args).run Tryz.prog w= .ok (.enter 182 args) w:=by intro args w;kernel_rfl
theorem j_N:∀args w,(callFunc 180 args).run Tryz.prog w= .ok (.enter 180 args) w:=by intro args w;kernel_rfl
theorem yZ.facts {w:World} {b off:Nat} {cm:List Value} (h:yZ w b off cm):∃c0 c1 c2 c3,cm= [c0,c1,c2,c3]/\w.cell? ⟨b,off,none⟩=some c0/\w.cell? ⟨b,off+1,none⟩=some c1/\w.cell? ⟨b,off+2,none⟩=some c2/\w.cell? ⟨b,off+3,none⟩=some c3:=by
 obtain⟨hl,h⟩:=h
 match cm,hl with
 | [c0,c1,c2,c3],_=>exact⟨c0,c1,c2,c3,rfl,h 0 _ rfl,h 1 _ rfl,h 2 _ rfl,h 3 _ rfl⟩
theorem g_s {w:World} {b off:Nat} {c0 c1 c2 c3 d0 d1 d2 d3:Value} (h0:w.cell? ⟨b,off,none⟩=some c0) (h1:w.cell? ⟨b,off+1,none⟩=some c1) (h2:w.cell? ⟨b,off+2,none⟩=some c2) (h3:w.cell? ⟨b,off+3,none⟩=some c3):
 yZ (w.setCells b off [d0,d1,d2,d3]) b off [d0,d1,d2,d3]:=by
 refine⟨rfl,fun j u hj=> ?_⟩
 have hj4:j < 4:=by
  rcases Nat.lt_or_ge j 4 with h | h
  . exact h
  . rw [List.getElem?_eq_none (by simpa using h)]at hj;cases hj
 have h:=World.cell?_setCells_in b [d0,d1,d2,d3] off w (fun k hk=>by
  match k,hk with
  | 0,_=>rw [Nat.add_zero,h0];rfl
  | 1,_=>rw [h1];rfl
  | 2,_=>rw [h2];rfl
  | 3,_=>rw [h3];rfl) j (by simpa using hj4)
 rw [h, <- List.getElem?_eq_getElem];exact hj
theorem i_g {w w1:World} {B b off lo hi:Nat} (hb:Below w.heap.size w w1) (hB:B <= b) (hBw:B <= w.heap.size) (hbw:b < w.heap.size) (vs:List Value) (hl:vs.length=4):h_z w (w1.setCells b off vs) B b off lo hi:=by
 refine⟨(hb.mono hBw).grown (gK vs off w1) (aJ hBw hb.size) (fun k e=>by cases e;exact hB),fun x hx hne _=> ?_,fun o ho=> ?_⟩
 . rw [(gK vs off w1).block x (Nat.lt_of_lt_of_le hx hb.size) (fun e=>hne (Option.some.inj e)),hb.block x hx]
 . rw [World.cell?_setCells_out b vs off w1 ⟨b,o,none⟩ (fun _ _=>by show o < off∨off+vs.length <= o;omega)]
   exact hb.cell (p:=⟨b,o,none⟩) hbw
theorem i_h {w:World} {ok:Nat ->Prop} {b off:Nat} {n:aK} {cs vs:List Value} (h:NodeQ w ok n cs) (hne:¬ok b):NodeQ (w.setCells b off vs) ok n cs:=
 NodeQ.keep (gK vs off w).size (fun x hx hlt=>(gK vs off w).block x hlt (fun e=>hne (by rw [<- Option.some.inj e];exact hx))) (fun _ h _=>h) n cs h
theorem m_R (m' m:aK) (M:Nat) (e0:Bool) (a1 a2 a3:Option Addr) (n1 n2 n3 q1 q2 q3:Nat) (W:World) (hM:At W M [.bool e0, .slice a1 n1 q1, .slice a2 n2 q2, .slice a3 n3 q3] 35) (hv:bY W W.heap.size m' (.agg #[.bool e0, .slice a1 n1 q1, .slice a2 n2 q2, .slice a3 n3 q3])) (hbig:m'.wt <= 100000000):
 i_8 238 #[.pointer (some ⟨M,0,none⟩)] W m (m',0):=by
 intro w b off lo hi cm hbel hb hlo hhi hI hc4 hno hfz
 obtain⟨c0,c1,c2,c3,rfl,x0,x1,x2,x3⟩:=hc4.facts
 have hMw:b6 w M (.bool e0) (.slice a1 n1 q1) (.slice a2 n2 q2) (.slice a3 n3 q3):=hM.kept hbel
 obtain⟨y0,y1,y2,y3, -, -⟩:=hMw.facts
 have HC:=a6 (a_N m'.wt m' _ w (a8) hbig (hv.keep hbel hbel.size))
 have hbw:b < w.heap.size:=World.block_lt_of_cell? w _ x0
 have f0:=hfz off;have f1:=hfz (off+1);have f2:=hfz (off+2);have f3:=hfz (off+3)
 have Hx:=a6 (show _/\_/\_/\_ from⟨x0,x1,x2,x3⟩)
 have Hf:=a6 hfz
 clear hI hc4 hno hfz hM hv hMw x0 x1 x2 x3 f0 f1 f2 f3
 go_enter Tryz.func238,Tryz.ntmps238
 go_wp2_with fail
 refine HC.o.mono ?_
 rintro e w1 ⟨cs,rfl,hq,hb1⟩
 obtain⟨l',p1,o1,d1,p2,o2,d2,p3,o3,d3,rfl⟩:=hq.form
 have z0:=(hb1.cell (p:=⟨b,off,none⟩) hbw).trans Hx.o.1;have z1:=(hb1.cell (p:=⟨b,off+1,none⟩) hbw).trans Hx.o.2.1;have z2:=(hb1.cell (p:=⟨b,off+2,none⟩) hbw).trans Hx.o.2.2.1;have z3:=(hb1.cell (p:=⟨b,off+3,none⟩) hbw).trans Hx.o.2.2.2
 have hfr:∀j,w1.frozen? ⟨b,j,none⟩=false:=fun j=>(hb1.frozen (p:=⟨b,j,none⟩) hbw).trans (Hf.o j)
 have f0:=hfr off;have f1:=hfr (off+1);have f2:=hfr (off+2);have f3:=hfr (off+3)
 have Hb1:=a6 hb1;have Hq:=a6 hq
 have Hz:=a6 (show _/\_/\_/\_ from⟨z0,z1,z2,z3⟩)
 clear HC hb1 hq hfr y0 y1 y2 y3
 go_wp2_with fail
 go_ret
 have hbw':=Hb1.o.size
 show m_L W.heap.size w b off lo hi (m',0) _ (w1.setCells b off [.bool l', .slice p1 o1 d1, .slice p2 o2 d2, .slice p3 o3 d3])
 exact⟨rfl,i_g Hb1.o hb hbel.size hbw _ rfl,fun _=>⟨_,g_s Hz.o.1 Hz.o.2.1 Hz.o.2.2.1 Hz.o.2.2.2,NodeQ.keep (a8) (fun _ _ _=>rfl) (fun x hx _=> .inr hx) _ _ (i_h Hq.o (by omega))⟩⟩
theorem J8 {w:World} {ok:Nat ->Prop}:∀ {ks:List aK} {css:List Value} {i:Nat},bX w ok ks css ->i < ks.length ->bX w ok (ks.eraseIdx i) (css.take (i * 4) ++ css.drop ((i+1) * 4))
 | [],css,i,h,hi=>by simp at hi
 | k::ks,css,0,h,hi=>by
   unfold bX at h
   obtain⟨c1,c2,rfl,h1,h2⟩:=h
   have hl:c1.length=4:=(NodeQ.node _ _ h1).len
   simpa [List.drop_left' hl]using h2
 | k::ks,css,i+1,h,hi=>by
   unfold bX at h
   obtain⟨c1,c2,rfl,h1,h2⟩:=h
   have hl:c1.length=4:=(NodeQ.node _ _ h1).len
   have h3:=J8 (i:=i) h2 (by simpa using hi)
   rw [List.eraseIdx_cons_succ]
   unfold bX
   refine⟨c1,c2.take (i * 4) ++ c2.drop ((i+1) * 4), ?_,h1,h3⟩
   rw [List.take_append,List.drop_append,hl,List.take_of_length_le (by omega),List.drop_eq_nil_of_le (by omega),show (i+1) * 4 - 4=i * 4 by omega,show (i+1+1) * 4 - 4=(i+1) * 4 by omega]
   simp
theorem a_p {w:World} {ok:Nat ->Prop} {m:aK} {c:List Value} (hm:NodeQ w ok m c):∀ {ks:List aK} {css:List Value} {i:Nat},bX w ok ks css ->i <= ks.length ->bX w ok (xZ ks i m) (css.take (i * 4) ++ (c ++ css.drop (i * 4)))
 | ks,css,0,h,hi=>by
   unfold xZ
   simp only [Nat.zero_mul,List.take_zero,List.drop_zero,List.nil_append]
   unfold bX
   exact⟨c,css,rfl,hm,h⟩
 | [],css,i+1,h,hi=>by simp at hi
 | k::ks,css,i+1,h,hi=>by
   unfold bX at h
   obtain⟨c1,c2,rfl,h1,h2⟩:=h
   have hl:c1.length=4:=(NodeQ.node _ _ h1).len
   have h3:=a_p hm (i:=i) h2 (by simpa using hi)
   have e:xZ (k::ks) (i+1) m=k::xZ ks i m:=by simp [xZ]
   rw [e]
   unfold bX
   refine⟨c1,c2.take (i * 4) ++ (c ++ c2.drop (i * 4)), ?_,h1,h3⟩
   rw [List.take_append,List.drop_append,hl,List.take_of_length_le (by omega),List.drop_eq_nil_of_le (by omega),show (i+1) * 4 - 4=i * 4 by omega]
   simp
theorem a_q {B:Nat} {w w2:World} {b off lo hi mid:Nat} {l:Bool} {ps:List eK} {t:List Int} {ap at_ ak:Option Addr} {cp ct ck:Nat} {ks ks':List aK} {css':List Value} {v':Value}
 (hB:B <= b) (hBl:B <= lo) (hhi:hi <= w.heap.size) (hmid:lo <= mid) (hmh:mid <= hi) (hno:¬ (lo <= b/\b < hi)) (hbw:b < w.heap.size) (hBw:B <= w.heap.size)
 (x0:w.cell? ⟨b,off,none⟩=some (.bool l)) (x1:w.cell? ⟨b,off+1,none⟩=some (.slice ap ps.length cp)) (x2:w.cell? ⟨b,off+2,none⟩=some (.slice at_ t.length ct)) (x3:w.cell? ⟨b,off+3,none⟩=some (.slice ak ks.length ck))
 (h3:RowQ w (fun x=>lo <= x/\x < mid/\(Value.slice ak ks.length ck).ownBlock≠some x) 2 ap ps.length cp (bK ps)) (h4:RowQ w (fun x=>lo <= x/\x < mid/\(Value.slice ak ks.length ck).ownBlock≠some x) 1 at_ t.length ct (t.map (Value.int .i32))) (h5:∀z∈t,(Lit.int .i32 z).wf=true)
 (hk7:∀g,(Value.slice ak ks.length ck).ownBlock=some g ->lo <= g/\g < mid)
 (hown:w2.ownsRow lo 35 4 v' ks'.length css') (hq:bX w2 (fun x=>lo <= x/\x < hi∨w.heap.size <= x) ks' css') (hg:w.grownBy w2 (Value.slice ak ks.length ck).ownBlock) (hv':v'.ownBlock=(Value.slice ak ks.length ck).ownBlock∨ ∀k,v'.ownBlock=some k ->w.heap.size <= k)
 (hqb:∀x,(lo <= x/\x < hi∨w.heap.size <= x) ->x≠b):
 m_L B w b off lo hi (.mk l ps t ks',0) (.returned (.int .i64 0)) (w2.setCell ⟨b,off+3,none⟩ v'):=by
 have hKb:(Value.slice ak ks.length ck).ownBlock≠some b:=fun e=>by have:=hk7 b e;omega
 have hblk:∀x,x < w.heap.size ->(Value.slice ak ks.length ck).ownBlock≠some x ->w2.heap[x]? =w.heap[x]? :=fun x hx hne=>hg.block x hx (fun e=>hne e.symm)
 have hcellb:∀o,w2.cell? ⟨b,o,none⟩=w.cell? ⟨b,o,none⟩:=fun o=>World.cell?_of_block (a:=⟨b,o,none⟩) (hblk b hbw hKb)
 refine⟨rfl,⟨?_,fun x hx hne hnot=> ?_,fun o ho=> ?_⟩,fun _=> ?_⟩
 . exact((Below.refl B w).grown hg hBw (fun k hk=>by have:=hk7 k hk;omega)).setCell (p:=⟨b,off+3,none⟩) hB _
 . rw [Below.heap_setCell w2 ⟨b,off+3,none⟩ v' x (by show x≠b;exact hne)]
   refine hblk x hx (fun e=> ?_)
   have:=hk7 x e
   omega
 . rw [World.cell?_setCell_other _ _ _ _ (fun e=>by injection e with e1 e2;omega)]
   exact hcellb o
 . obtain ⟨a',c',rfl,hr⟩:=RowQ.of_own hown hq.onec
   refine⟨[.bool l, .slice ap ps.length cp, .slice at_ t.length ct, .slice a' ks'.length c'],⟨rfl,fun j u hj=> ?_⟩, ?_⟩
   . have hoth:∀o,o≠off+3 ->(w2.setCell ⟨b,off+3,none⟩ (.slice a' ks'.length c')).cell? ⟨b,o,none⟩=w.cell? ⟨b,o,none⟩:=fun o ho=>by
      rw [World.cell?_setCell_other _ _ _ _ (fun e=>by injection e with e1 e2;omega)]
      exact hcellb o
     match j with
     | 0=>simp at hj;subst hj;rw [hoth _ (by omega)];exact x0
     | 1=>simp at hj;subst hj;rw [hoth _ (by omega)];exact x1
     | 2=>simp at hj;subst hj;rw [hoth _ (by omega)];exact x2
     | 3=>
       simp at hj;subst hj
       exact World.cell?_setCell_same _ _ _ ((hcellb (off+3)).trans x3)
     | j+4=>simp at hj
   . have hset:∀x,x≠b ->(w2.setCell ⟨b,off+3,none⟩ (.slice a' ks'.length c')).heap[x]? =w2.heap[x]? :=fun x hne=>Below.heap_setCell w2 ⟨b,off+3,none⟩ _ x (by show x≠b;exact hne)
     have hsz:w2.heap.size <= (w2.setCell ⟨b,off+3,none⟩ (.slice a' ks'.length c')).heap.size:=by simp [World.setCell]
     unfold NodeQ
     refine⟨ap,cp,at_,ct,a',c',css',rfl, ?_, ?_,h5, ?_, ?_⟩
     . refine h3.keep (aJ hg.size hsz) (fun x hx hlt=> ?_) (fun x hx _=> .inl ⟨hx.1,by omega⟩)
       rw [hset x (by omega),hblk x hlt hx.2.2]
     . refine h4.keep (aJ hg.size hsz) (fun x hx hlt=> ?_) (fun x hx _=> .inl ⟨hx.1,by omega⟩)
       rw [hset x (by omega),hblk x hlt hx.2.2]
     . have hok:∀x,(Value.slice a' ks'.length c').ownBlock=some x ->(lo <= x/\x < hi∨w.heap.size <= x):=fun x hx=>by
        rcases hv' with e | e
        . rw [e]at hx;have:=hk7 x hx;omega
        . exact .inr (e x hx)
       exact hr.keep hsz (fun x hx _=>hset x (hqb x (hok x hx))) (fun x hx _=>hok x hx)
     . exact bX.keep hsz (fun x hx _=>hset x (hqb x hx)) (fun _ hx _=>hx) _ _ hq
theorem m_S (m:aK) (i M:Nat) (W:World) (hM:W.cell? ⟨M,0,none⟩=some (.int .i64 i)) (hMW:M < W.heap.size) (hi:i < (aQ m).length) (hn:(aQ m).length <= 100000000):
 i_8 180 #[.pointer (some ⟨M,0,none⟩)] W m (setKids m ((aQ m).eraseIdx i),0):=by
 intro w b off lo hi_ cm hbel hb hlo hhi hI hc4 hno hfz
 obtain⟨l,ps,t,ks⟩:=m
 simp only [aQ]at hi hn
 unfold jY at hI
 obtain⟨mid,ap,cp,at_,ct,ak,ck,css,h1,rfl,h3,h4,h5,h6,h7,h8⟩:=hI
 have x0:=hc4.2 0 _ rfl;have x1:=hc4.2 1 _ rfl;have x2:=hc4.2 2 _ rfl;have x3:=hc4.2 3 _ rfl
 simp only [Nat.add_zero]at x0
 have hmh:=eX.le h8
 have hone:∀u∈css,u.oneCell'=true:=bX.onec (eX.q (ok:=fun _=>True) (fun _ _ _=>trivial) h8)
 have hbw:b < w.heap.size:=World.block_lt_of_cell? w _ x0
 have hBw:=hbel.size
 have y0:w.cell? ⟨M,0,none⟩=some (.int .i64 i):=(hbel.cell (p:=⟨M,0,none⟩) hMW).trans hM
 have hib:((i+1:Nat):Int)=((i:Int)+1):=by omega
 have hD:=fun(W':World) (h:W'.ownsRow lo 35 4 (.slice ak ks.length ck) ks.length css)=>m_K lo (.slice ak ks.length ck) ks.length i css W' h hone hi hn
 rw [hib]at hD
 have HD:=a6 hD
 clear hD hib
 have hk7:∀g,(Value.slice ak ks.length ck).ownBlock=some g ->lo <= g/\g < mid:=fun g hg=>⟨(h6.lt g hg).1,h7 g hg⟩
 have HP:=a6 (fun(w2:World) v' css' hown hq hg hv' hqb=>a_q (B:=W.heap.size) (w:=w) (w2:=w2) (b:=b) (off:=off) (lo:=lo) (hi:=hi_) (mid:=mid) (ks':=ks.eraseIdx i) (css':=css') (v':=v') hb hlo hhi h1 hmh hno hbw hBw x0 x1 x2 x3 h3 h4 h5 hk7 hown hq hg hv' hqb)
 have hkq:=eX.q (ok:=fun x=>mid <= x/\x < hi_) (fun x hx hx2=>⟨hx,hx2⟩) h8
 have Hkq:=a6 hkq;have Hk7:=a6 hk7;have H6:=a6 h6
 have f3:=hfz (off+3)
 have hne:∀g,(Value.slice ak ks.length ck).ownBlock=some g ->g≠b:=fun g hg e=>by have:=hk7 g hg;omega
 have Hne:=a6 hne
 have hw1:IntKind.i64.wrap ((i:Int)+1)=(i:Int)+1:=by rw [IntKind.wrap_i64];omega
 have Hx3:=a6 x3;have Hf3:=a6 f3
 have Hno:=a6 hno;have Hle:=a6 (show lo <= mid/\mid <= hi_/\hi_ <= w.heap.size from⟨h1,hmh,hhi⟩)
 clear h1 h3 h4 h5 h6 h7 h8 hmh hone hk7 hkq hne hc4 hfz hno hM hbel hlo hhi x0 x1 x2
 go_enter Tryz.func180,Tryz.ntmps180
 go_wp2_with fail
 go_region_law (first
  | (refine b9 rfl 181 _ _ rfl j_n [Value.slice ak ks.length ck, .int .i64 i, .int .i64 ((i:Int)+1)] ?_ _ (HD.o _ H6.o) ?_
     . go_simp
     rintro e w2 ⟨v',rfl,hown,hg,hv'⟩
     have hone':∀u∈css.take (i * 4) ++ css.drop ((i+1) * 4),u.oneCell'=true:=(J8 Hkq.o hi).onec
     obtain⟨a',c',rfl, -⟩:=cK hown hone'
     refine⟨_,rfl, ?_⟩
     have Hown:=a6 hown
     have Hg:=a6 (M6.trans hg)
     have Hv':=a6 hv'
     have g3:w2.cell? ⟨b,off+3,none⟩=some (.slice ak ks.length ck):=(World.cell?_of_block (a:=⟨b,off+3,none⟩) (Hg.o.block b hbw (fun e=>Hne.o b e.symm rfl))).trans Hx3.o
     have k3:w2.frozen? ⟨b,off+3,none⟩=false:=(World.frozen?_of_block (a:=⟨b,off+3,none⟩) (Hg.o.block b hbw (fun e=>Hne.o b e.symm rfl))).trans Hf3.o
     clear hown hg hv'))
 all_goals
  go_wp2_with fail
  go_ret
  have hl:(ks.eraseIdx i).length=ks.length - 1:=by rw [List.length_eraseIdx,if_pos hi]
  have hown:=Hown.o
  have hv:=Hv'.o
  rw [<- hl]at hown hv
  have hq2:=bX.keep (ok':=fun x=>lo <= x/\x < hi_∨w.heap.size <= x) Hg.o.size (fun x hx hlt=>Hg.o.block x hlt (fun e=>by have:=(Hk7.o x e.symm).2;have:=hx.1;omega)) (fun x hx _=> .inl ⟨by have:=Hle.o;have:=hx.1;omega,hx.2⟩) _ _ Hkq.o
  have h:=HP.o w2 _ _ hown (J8 hq2 hi) Hg.o hv (fun x hx e=>by subst e;rcases hx with hx | hx;exact Hno.o hx;omega)
  rw [hl]at h
  exact h
theorem l_D {css c:List Value} {k:Nat} (h1:∀u∈css,u.oneCell'=true) (h2:∀u∈c,u.oneCell'=true):∀u∈css.take k ++ (c ++ css.drop k),u.oneCell'=true:=by
 intro u hu
 rcases List.mem_append.1 hu with hu | hu
 . exact h1 u (List.mem_of_mem_take hu)
 . rcases List.mem_append.1 hu with hu | hu
   . exact h2 u hu
   . exact h1 u (List.mem_of_mem_drop hu)
def a_S (i:Int) (m k:aK):aK×Int:=if aZ k then (bZ,7) else if i < 0∨ ((aQ k).length:Int) < i then (bZ,8) else (setKids k (xZ (aQ k) i.toNat m),0)
theorem g_t {w:World} {B b off lo hi:Nat} (hB:Below B w w):h_z w w B b off lo hi:=⟨hB,fun _ _ _ _=>rfl,fun _ _=>rfl⟩
theorem b_n {w:World} {B b off lo hi:Nat} (hB:Below B w w) (q:Nat):h_z w (w.drewN q) B b off lo hi:=⟨below_drewN hB q,fun _ _ _ _=>rfl,fun _ _=>rfl⟩
theorem l_E (m' m:aK) (i:Int) (M N:Nat) (W:World) (hM:W.cell? ⟨M,0,none⟩=some (.int .i64 i)) (hMW:M < W.heap.size) (he:(a_S i m' m).2≠0):
 i_8 182 #[.pointer (some ⟨M,0,none⟩), .pointer (some ⟨N,0,none⟩)] W m (a_S i m' m):=by
 intro w b off lo hi_ cm hbel hb hlo hhi hI hc4 hno hfz
 obtain⟨l,ps,t,ks⟩:=m
 unfold jY at hI
 obtain⟨mid,ap,cp,at_,ct,ak,ck,css,h1,rfl,h3,h4,h5,h6,h7,h8⟩:=hI
 have x0:=hc4.2 0 _ rfl;have x3:=hc4.2 3 _ rfl
 simp only [Nat.add_zero]at x0
 have y0:w.cell? ⟨M,0,none⟩=some (.int .i64 i):=(hbel.cell (p:=⟨M,0,none⟩) hMW).trans hM
 have HB:=a6 (Below.refl W.heap.size w)
 have HE:=a6 he
 clear h1 h3 h4 h5 h6 h7 h8 hc4 hfz hno hM hbel hlo hhi he hb
 cases l with
 | true=>
   have hr:a_S i m' (.mk true ps t ks)=(bZ,7):=rfl
   rw [hr]
   clear hr
   go_enter Tryz.func182,Tryz.ntmps182
   go_wp2_with fail
   go_ret
   exact⟨rfl,g_t (HB.o),fun h=>by cases h⟩
 | false=>
   by_cases hlt:i < 0
   . have hr:a_S i m' (.mk false ps t ks)=(bZ,8):=by unfold a_S;rw [if_neg (by simp [aZ]),if_pos (.inl hlt)]
     rw [hr]
     have hd:decide (i < 0)=true:=by simpa using hlt
     clear hr
     go_enter Tryz.func182,Tryz.ntmps182
     go_wp2_with fail
     go_quiet (fail)
     go_wp2_with fail
     all_goals go_ret
     all_goals exact⟨rfl,b_n HB.o _,fun h=>by cases h⟩
   . by_cases hgt:(ks.length:Int) < i
     . have hr:a_S i m' (.mk false ps t ks)=(bZ,8):=by unfold a_S;rw [if_neg (by simp [aZ]),if_pos (.inr hgt)]
       rw [hr]
       have hd:decide (i < 0)=false:=by simpa using hlt
       have hd2:decide ((ks.length:Int) < i)=true:=by simpa using hgt
       clear hr
       go_enter Tryz.func182,Tryz.ntmps182
       go_wp2_with fail
       go_quiet (fail)
       go_wp2_with fail
       all_goals go_ret
       all_goals exact⟨rfl,b_n HB.o _,fun h=>by cases h⟩
     . exfalso
       refine HE.o ?_
       unfold a_S
       rw [if_neg (by simp [aZ]),if_neg (by simp only [aQ];omega)]
theorem l_F (m' m:aK) (i M N:Nat) (e0:Bool) (a1 a2 a3:Option Addr) (n1 n2 n3 q1 q2 q3:Nat) (W:World) (hM:W.cell? ⟨M,0,none⟩=some (.int .i64 i)) (hMW:M < W.heap.size) (hN:At W N [.bool e0, .slice a1 n1 q1, .slice a2 n2 q2, .slice a3 n3 q3] 35) (hv:bY W W.heap.size m' (.agg #[.bool e0, .slice a1 n1 q1, .slice a2 n2 q2, .slice a3 n3 q3])) (hbig:m'.wt <= 100000000)
 (hl:aZ m=false) (hi:i <= (aQ m).length) (hn:(aQ m).length <= 100000000):
 i_8 182 #[.pointer (some ⟨M,0,none⟩), .pointer (some ⟨N,0,none⟩)] W m (setKids m (xZ (aQ m) i m'),0):=by
 intro w b off lo hi_ cm hbel hb hlo hhi hI hc4 hno hfz
 obtain⟨l,ps,t,ks⟩:=m
 simp only [aQ]at hi hn
 have:l=false:=hl
 subst this
 unfold jY at hI
 obtain⟨mid,ap,cp,at_,ct,ak,ck,css,h1,rfl,h3,h4,h5,h6,h7,h8⟩:=hI
 have x0:=hc4.2 0 _ rfl;have x1:=hc4.2 1 _ rfl;have x2:=hc4.2 2 _ rfl;have x3:=hc4.2 3 _ rfl
 simp only [Nat.add_zero]at x0
 have hmh:=eX.le h8
 have hone:∀u∈css,u.oneCell'=true:=bX.onec (eX.q (ok:=fun _=>True) (fun _ _ _=>trivial) h8)
 have hbw:b < w.heap.size:=World.block_lt_of_cell? w _ x0
 have hBw:=hbel.size
 have hMw:M < w.heap.size:=by omega
 have y0:w.cell? ⟨M,0,none⟩=some (.int .i64 i):=(hbel.cell (p:=⟨M,0,none⟩) hMW).trans hM
 have hNw:b6 w N (.bool e0) (.slice a1 n1 q1) (.slice a2 n2 q2) (.slice a3 n3 q3):=hN.kept hbel
 obtain⟨z0,z1,z2,z3, -, -⟩:=hNw.facts
 have HC:=a6 (fun(w':World) (h:Below w.heap.size w w')=>a_N m'.wt m' _ w' (a8) hbig (hv.keep (hbel.trans (h.mono hBw)) (hbel.trans (h.mono hBw)).size))
 have hk7:∀g,(Value.slice ak ks.length ck).ownBlock=some g ->lo <= g/\g < mid:=fun g hg=>⟨(h6.lt g hg).1,h7 g hg⟩
 have HI:=a6 (fun(w2:World) (h:Below w.heap.size w w2) (l':Bool) (p1 p2 p3:Option Addr) (o1 o2 o3 d1 d2 d3:Nat)=>m_J lo (.slice ak ks.length ck) ks.length i css w2.heap.size [.bool l', .slice p1 o1 d1, .slice p2 o2 d2, .slice p3 o3 d3] (w2.alloc (Obj.cells #[.bool l', .slice p1 o1 d1, .slice p2 o2 d2, .slice p3 o3 d3] 35)) (j4 (j4 h6 h) (aX _ _)) hone hi hn (by have:=h.size;simp;omega) (At.fresh _ _ _) rfl (by intro u hu;simp only [List.mem_cons,List.not_mem_nil,or_false]at hu;rcases hu with rfl | rfl | rfl | rfl <;> rfl) (fun e=>by have:=(hk7 _ e).2;have:=h.size;omega))
 have HP:=a6 (fun(w2:World) v' css' hown hq hg hv' hqb=>a_q (B:=W.heap.size) (w:=w) (w2:=w2) (b:=b) (off:=off) (lo:=lo) (hi:=hi_) (mid:=mid) (ks':=xZ ks i m') (css':=css') (v':=v') hb hlo hhi h1 hmh hno hbw hBw x0 x1 x2 x3 h3 h4 h5 hk7 hown hq hg hv' hqb)
 have hkq:=eX.q (ok:=fun x=>mid <= x/\x < hi_) (fun x hx hx2=>⟨hx,hx2⟩) h8
 have Hkq:=a6 hkq;have Hk7:=a6 hk7
 have f3:=hfz (off+3)
 have hne:∀g,(Value.slice ak ks.length ck).ownBlock=some g ->g≠b:=fun g hg e=>by have:=hk7 g hg;omega
 have Hone:=a6 hone
 have Hne:=a6 hne
 have Hx3:=a6 x3;have Hf3:=a6 f3;have Hy0:=a6 y0
 have Hno:=a6 hno;have Hle:=a6 (show lo <= mid/\mid <= hi_/\hi_ <= w.heap.size from⟨h1,hmh,hhi⟩)
 have hd:decide ((i:Int) < 0)=false:=by simp
 have hd2:decide ((ks.length:Int) < (i:Int))=false:=by simp;omega
 have hlen:(xZ ks i m').length=ks.length+1:=by unfold xZ;simp;omega
 have Hlen:=a6 hlen
 clear h1 h3 h4 h5 h6 h7 h8 hmh hone hk7 hkq hne hc4 hfz hno hM hbel hlo hhi x1 x2 hN hv hNw hlen
 go_enter Tryz.func182,Tryz.ntmps182
 go_wp2_with fail
 go_quiet (fail)
 go_wp2_with fail
 go_region_law (first
  | (refine b9 rfl 61 _ _ rfl IY [.agg #[.bool e0, .slice a1 n1 q1, .slice a2 n2 q2, .slice a3 n3 q3]] ?_ _ (HC.o _ ?_) ?_
     . go_simp
     . exact(below_drewN (a7) _).drew
     rintro e w2 ⟨cs,rfl,hq,hb2⟩
     obtain⟨l',p1,o1,d1,p2,o2,d2,p3,o3,d3,rfl⟩:=hq.form
     refine⟨_,rfl, ?_⟩
     have hb2':=((below_drewN (Below.refl w.heap.size w) nq).drew).trans hb2
     have Hb2:=a6 hb2';have Hq:=a6 hq
     have g3:w2.cell? ⟨b,off+3,none⟩=some (.slice ak ks.length ck):=(hb2'.cell (p:=⟨b,off+3,none⟩) hbw).trans Hx3.o
     have g0:w2.cell? ⟨M,0,none⟩=some (.int .i64 i):=(hb2'.cell (p:=⟨M,0,none⟩) hMw).trans Hy0.o
     have gb:b < w2.heap.size:=Nat.lt_of_lt_of_le hbw hb2'.size
     have gM:M < w2.heap.size:=Nat.lt_of_lt_of_le hMw hb2'.size
     clear hb2 hb2' hq)
  | (refine b9 rfl 183 _ _ rfl j_k [Value.slice ak ks.length ck, .int .i64 i, .slice (some ⟨w2.heap.size,0,none⟩) 1 1] ?_ _ (HI.o w2 Hb2.o l' p1 p2 p3 o1 o2 o3 d1 d2 d3) ?_
     . go_simp
     rintro e w4 ⟨v',rfl,hown,hg,hv'⟩
     have hone':=l_D (k:=i * 4) Hone.o (NodeQ.node _ _ Hq.o).one
     obtain⟨a',c',rfl, -⟩:=cK hown hone'
     refine⟨_,rfl, ?_⟩
     have Hown:=a6 hown
     have Hg:=a6 hg
     have Hv':=a6 hv'
     have Hg4:=a6 (((cZ (Hb2.o.trans ((aX w2 (Obj.cells #[.bool l', .slice p1 o1 d1, .slice p2 o2 d2, .slice p3 o3 d3] 35)).mono Hb2.o.size)))).trans hg)
     have g3':w4.cell? ⟨b,off+3,none⟩=some (.slice ak ks.length ck):=(World.cell?_of_block (a:=⟨b,off+3,none⟩) (Hg4.o.block b hbw (fun e=>Hne.o b e.symm rfl))).trans Hx3.o
     have k3':w4.frozen? ⟨b,off+3,none⟩=false:=(World.frozen?_of_block (a:=⟨b,off+3,none⟩) (Hg4.o.block b hbw (fun e=>Hne.o b e.symm rfl))).trans Hf3.o
     clear hown hg hv'))
 all_goals
  go_wp2_with fail
  go_ret
  have hown:=Hown.o
  have hv:=Hv'.o
  rw [<- Hlen.o]at hown hv
  have hne4:∀x,((lo <= x/\x < hi_)/\mid <= x∨w.heap.size <= x) ->(Value.slice ak ks.length ck).ownBlock≠some x:=fun x hx e=>by have:=(Hk7.o x e).2;have:=Hle.o;omega
  have hq2:=bX.keep (ok':=fun x=>lo <= x/\x < hi_∨w.heap.size <= x) Hg4.o.size (fun x hx hlt=>Hg4.o.block x hlt (fun e=>by have:=(Hk7.o x e.symm).2;have:=hx.1;omega)) (fun x hx _=> .inl ⟨by have:=Hle.o;have:=hx.1;omega,hx.2⟩) _ _ Hkq.o
  have hm2:=NodeQ.keep (w':=w4) (ok':=fun x=>lo <= x/\x < hi_∨w.heap.size <= x) (by have:=Hg.o.size;simp at this;omega) (fun x hx hlt=>(Hg.o.block x (by simp;omega) (fun e=>by have:=(Hk7.o x e.symm).2;have:=Hle.o;have hx':w.heap.size <= x:=hx;omega)).trans (Lib.alloc_old _ _ _ hlt)) (fun x hx _=> .inr hx) _ _ Hq.o
  have h:=HP.o w4 _ _ hown (a_p hm2 hq2 hi) Hg4.o (by rcases hv with e | e;exact .inl e;exact .inr fun k hk=>by have:=e k hk;have:=Hb2.o.size;simp at *;omega) (fun x hx e=>by subst e;rcases hx with hx | hx;exact Hno.o hx;omega)
  rw [Hlen.o]at h
  exact h
theorem iV {n m:aK} {i:Int} {p:List Int} (h:kK n (i::p)=some m):∃j:Nat,i=(j:Int)/\∃hj:j < (aQ n).length,kK (aQ n)[j] p=some m:=by
 unfold kK at h
 split at h
 . rename_i h0
   obtain⟨j,rfl⟩:∃j:Nat,i=j:=⟨i.toNat,by omega⟩
   rw [Int.toNat_natCast]at h
   by_cases hj:j < (aQ n).length
   . rw [List.getElem?_eq_getElem hj]at h
     exact⟨j,rfl,hj,h⟩
   . rw [List.getElem?_eq_none (by omega)]at h
     cases h
 . cases h
theorem f_2 {n:aK} {j:Nat} {p:List Int} (hj:j < (aQ n).length):kK n ((j:Int)::p)=kK (aQ n)[j] p:=by
 conv=>lhs;unfold kK
 rw [if_pos (by omega),Int.toNat_natCast,List.getElem?_eq_getElem hj]
theorem l_G (l:Bool) (ps:List eK) (t:List Int) (ks:List aK) (i:Int) (p:List Int) (m:aK):gY (.mk l ps t ks) (i::p) m= .mk l ps t (ks.set i.toNat (gY (ks.getD i.toNat (.mk false [] [] [])) p m)):=by rw [gY]
theorem f_3 (n:aK) (i:Int) (p:List Int):kK n (i::p)=if 0 <= i then (match (aQ n)[i.toNat]? with | some k=>kK k p | none=>none) else none:=by
 conv=>lhs;unfold kK
 rfl
theorem l7 {n m:aK} {j:Nat} {p:List Int} (hj:j < (aQ n).length):gY n ((j:Int)::p) m=setKids n ((aQ n).set j (gY (aQ n)[j] p m)):=by
 obtain⟨l,ps,t,ks⟩:=n
 simp only [aQ]at hj⊢
 rw [l_G,Int.toNat_natCast]
 simp [List.getD,List.getElem?_eq_getElem hj,setKids]
theorem kids_setKids (n:aK) (ks:List aK):aQ (setKids n ks)=ks:=by cases n;rfl
theorem nQ (n:aK) (ks:List aK):aZ (setKids n ks)=aZ n:=by cases n;rfl
theorem setKids_setKids (n:aK) (a b:List aK):setKids (setKids n a) b=setKids n b:=by cases n;rfl
theorem setKids_self (n:aK):setKids n (aQ n)=n:=by cases n;rfl
theorem MK:∀ (p q:List Int) (n:aK),kK n (p ++ q)=(kK n p).bind (fun k=>kK k q)
 | [],q,n=>by simp [kK]
 | i ::p,q,n=>by
   rw [List.cons_append,f_3 n i (p ++ q),f_3 n i p]
   split
   . cases (aQ n)[i.toNat]? with
     | none=>rfl
     | some k=>exact MK p q k
   . rfl
theorem E0:∀ (p:List Int) (n k k':aK),kK n p=some k ->kK (gY n p k') p=some k'
 | [],n,k,k',h=>by simp [gY,kK]
 | i::p,n,k,k',h=>by
   obtain⟨j,rfl,hj,h2⟩:=iV h
   rw [l7 hj]
   have hj2:j < (aQ (setKids n ((aQ n).set j (gY (aQ n)[j] p k')))).length:=by rw [kids_setKids];simpa using hj
   rw [f_2 hj2]
   simp only [kids_setKids,List.getElem_set_self]
   exact E0 p _ k k' h2
theorem CK:∀ (p:List Int) (n k a b:aK),kK n p=some k ->gY (gY n p a) p b=gY n p b
 | [],n,k,a,b,h=>by simp [gY]
 | i::p,n,k,a,b,h=>by
   obtain⟨j,rfl,hj,h2⟩:=iV h
   rw [l7 hj,l7 hj]
   have hj2:j < (aQ (setKids n ((aQ n).set j (gY (aQ n)[j] p a)))).length:=by rw [kids_setKids];simpa using hj
   rw [l7 hj2,setKids_setKids]
   simp only [kids_setKids,List.getElem_set_self,List.set_set]
   rw [CK p _ k a b h2]
theorem E1:∀ (p q:List Int) (n k m:aK),kK n p=some k ->gY n (p ++ q) m=gY n p (gY k q m)
 | [],q,n,k,m,h=>by
   have e:n=k:=by simpa [kK]using h
   subst e
   simp [gY]
 | i::p,q,n,k,m,h=>by
   obtain⟨j,rfl,hj,h2⟩:=iV h
   rw [List.cons_append,l7 hj,l7 hj,E1 p q _ k m h2]
theorem a_T:∀ (p:List Int) (n k:aK),kK n p=some k ->gY n p k=n
 | [],n,k,h=>by
   have e:n=k:=by simpa [kK]using h
   subst e
   simp [gY]
 | i::p,n,k,h=>by
   obtain⟨j,rfl,hj,h2⟩:=iV h
   rw [l7 hj,a_T p _ k h2,List.set_getElem_self,setKids_self]
theorem j_O (p:List Int) (n k k':aK) (h:kK n p=some k) (hl:aZ k'=aZ k):aZ (gY n p k')=aZ n:=by
 cases p with
 | nil=>
   have e:n=k:=by simpa [kK]using h
   subst e
   simpa [gY]using hl
 | cons i p=>
   obtain⟨j,rfl,hj,h2⟩:=iV h
   rw [l7 hj,nQ]
theorem d_p:∀ {ks:List aK},J5 ks=0 ↔ ∀k∈ks,eQ k=0
 | []=>by simp [J5]
 | k ::ks=>by
   rw [c_c]
   have:=d_p (ks:=ks)
   constructor
   . intro h
     split at h
     . contradiction
     . rename_i h0
       simp only [ne_eq,Decidable.not_not]at h0
       intro x hx
       rcases List.mem_cons.1 hx with rfl | hx
       . exact h0
       . exact this.1 h x hx
   . intro h
     rw [h k (by simp)]
     simp only [ne_eq,not_true,if_false]
     exact this.2 fun x hx=>h x (by simp [hx])
theorem mJ {l:Bool} {ps:List eK} {t:List Int} {ks:List aK}:eQ (.mk l ps t ks)=0 ↔ D6 l ps t ks.length=0/\∀k∈ks,eQ k=0:=by
 rw [f_1]
 split
 . rename_i h;simp [h]
 . rename_i h
   simp only [ne_eq,Decidable.not_not]at h
   rw [d_p]
   simp [h]
theorem zJ {l:Bool} {ps:List eK} {t:List Int} {m:Nat}:D6 l ps t m=0 ↔ pY ps=0/\(l=true ->m=0)/\(l=false ->t= [])/\LZ t=0:=by
 unfold D6
 by_cases h:pY ps=0
 . simp only [h,ne_eq,not_true,if_false,true_and]
   cases l <;> simp
   . by_cases ht:t= []
     . subst ht;simp
     . have:0 < t.length:=by cases t with
        | nil=>exact absurd rfl ht
        | cons=>simp
       simp [ht,this]
   . by_cases hm:m=0
     . subst hm;simp
     . simp [hm,Nat.pos_of_ne_zero hm]
 . simp [h]
theorem CQ:∀ (p:List Int) (n k:aK),eQ n=0 ->kK n p=some k ->eQ k=0
 | [],n,k,h,ha=>by
   have e:n=k:=by simpa [kK]using ha
   subst e;exact h
 | i::p,n,k,h,ha=>by
   obtain⟨j,rfl,hj,h2⟩:=iV ha
   obtain⟨l,ps,t,ks⟩:=n
   exact CQ p _ k ((mJ.1 h).2 _ (List.getElem_mem hj)) h2
theorem d_q:∀ (p:List Int) (n k k':aK),eQ n=0 ->kK n p=some k ->eQ k'=0 ->eQ (gY n p k')=0
 | [],n,k,k',h,ha,hk=>by simpa [gY]using hk
 | i::p,n,k,k',h,ha,hk=>by
   obtain⟨j,rfl,hj,h2⟩:=iV ha
   rw [l7 hj]
   obtain⟨l,ps,t,ks⟩:=n
   obtain⟨h3,h4⟩:=mJ.1 h
   simp only [aQ,setKids]at hj h2⊢
   refine mJ.2 ⟨by rw [List.length_set];exact h3,fun x hx=> ?_⟩
   rcases List.mem_or_eq_of_mem_set hx with hx | rfl
   . exact h4 x hx
   . exact d_q p _ k k' (h4 _ (List.getElem_mem hj)) h2 hk
theorem a_U:∀ (ks:List aK) (j:Nat) (hj:j < ks.length) (m:aK),l8 (ks.set j m)+iY ks[j]=l8 ks+iY m
 | k::ks,0,hj,m=>by simp [l8];omega
 | k::ks,j+1,hj,m=>by
   have:=a_U ks j (by simpa using hj) m
   simp [l8]at this⊢;omega
theorem LQ (n:aK) (ks:List aK):iY (setKids n ks)+l8 (aQ n)=iY n+l8 ks:=by
 obtain⟨l,ps,t,ks0⟩:=n
 simp [iY,setKids,aQ];omega
theorem d_r:∀ (p:List Int) (n k k':aK),kK n p=some k ->iY (gY n p k')+iY k=iY n+iY k'
 | [],n,k,k',ha=>by
   have e:n=k:=by simpa [kK]using ha
   subst e
   simp only [gY];omega
 | i::p,n,k,k',ha=>by
   obtain⟨j,rfl,hj,h2⟩:=iV ha
   have h3:=d_r p _ k k' h2
   have h4:=a_U (aQ n) j hj (gY (aQ n)[j] p k')
   have h5:=LQ n ((aQ n).set j (gY (aQ n)[j] p k'))
   rw [l7 hj];omega
theorem d_s:∀ (ks:List aK) (j:Nat) (hj:j < ks.length) (m:aK),dX (ks.set j m)+ks[j].wt=dX ks+m.wt
 | k::ks,0,hj,m=>by simp [dX];omega
 | k::ks,j+1,hj,m=>by
   have:=d_s ks j (by simpa using hj) m
   simp [dX]at this⊢;omega
theorem MQ (n:aK) (ks:List aK):(setKids n ks).wt+dX (aQ n)=n.wt+dX ks:=by
 obtain⟨l,ps,t,ks0⟩:=n
 simp [aK.wt,setKids,aQ];omega
theorem e_c:∀ (p:List Int) (n k k':aK),kK n p=some k ->(gY n p k').wt+k.wt=n.wt+k'.wt
 | [],n,k,k',ha=>by
   have e:n=k:=by simpa [kK]using ha
   subst e
   simp only [gY];omega
 | i::p,n,k,k',ha=>by
   obtain⟨j,rfl,hj,h2⟩:=iV ha
   have h3:=e_c p _ k k' h2
   have h4:=d_s (aQ n) j hj (gY (aQ n)[j] p k')
   have h5:=MQ n ((aQ n).set j (gY (aQ n)[j] p k'))
   rw [l7 hj];omega
theorem vV (p:List Int) (i:Int):iJ (p ++ [i])=i:=by simp [iJ]
theorem m9 (p:List Int) (i:Int):(p ++ [i]).dropLast=p:=by simp
theorem J9 {n k:aK} {p:List Int} {i:Nat} (h:kK n p=some k) (hi:i < (aQ k).length):kK n (p ++ [(i:Int)])=some (aQ k)[i]:=by
 rw [MK,h]
 show kK k [(i:Int)]=_
 rw [f_2 hi]
 rfl
theorem f_4 {n k m:aK} {p:List Int} {i:Nat} (h:kK n p=some k) (hl:aZ k=false) (hi:i <= (aQ k).length):FK n (p ++ [(i:Int)]) m=(gY n p (setKids k (xZ (aQ k) i m)),0):=by
 unfold FK
 rw [if_neg (by simp),m9,h]
 simp only [hl,vV,Bool.false_eq_true,if_false,Int.toNat_natCast]
 rw [if_neg (by omega)]
theorem JJ {n k:aK} {p:List Int} {i:Nat} (h:kK n p=some k) (hi:i < (aQ k).length):B4 n (p ++ [(i:Int)])=(gY n p (setKids k ((aQ k).eraseIdx i)),(aQ k)[i],0):=by
 unfold B4
 rw [if_neg (by simp),m9,J9 h hi,h]
 simp only [vV,Int.toNat_natCast]
set_option linter.unusedSectionVars false
theorem EQ {x:aK} {L:List aK} (h:eQ x=0) (hL:∀k∈L,eQ k=0) (hl:aZ x=true ->L= []):eQ (setKids x L)=0:=by
 obtain⟨l,ps,t,ks⟩:=x
 obtain⟨h1,h2⟩:=mJ.1 h
 obtain⟨g1,g2,g3,g4⟩:=zJ.1 h1
 exact mJ.2 ⟨zJ.2 ⟨g1,fun e=>by rw [hl e];rfl,g3,g4⟩,hL⟩
theorem rZ {x:aK} (h:eQ x=0):∀k∈aQ x,eQ k=0:=by
 obtain⟨l,ps,t,ks⟩:=x
 exact(mJ.1 h).2
theorem FQ {x:aK} (h:eQ x=0) (hl:aZ x=true):aQ x= []:=by
 obtain⟨l,ps,t,ks⟩:=x
 have:=(zJ.1 (mJ.1 h).1).2.1 hl
 exact List.eq_nil_of_length_eq_zero this
theorem CV {n k:aK} {p:List Int} {L:List aK} (hn:eQ n=0) (ha:kK n p=some k) (hk:aZ k=false) (hL:∀x∈L,eQ x=0):eQ (gY n p (setKids k L))=0:=
 d_q p n k _ hn ha (EQ (CQ p n k hn ha) hL (fun h=>by rw [hk]at h;cases h))
theorem KY {n k:aK} {p:List Int} {L:List aK} (ha:kK n p=some k):aZ (gY n p (setKids k L))=aZ n:=j_O p n k _ ha (nQ _ _)
theorem a_r {n:aK} {o:yK} (h1:eQ n=0) (h2:aZ n=false) (h3:DZ o=0):lQ n o=u_7 n o:=by
 unfold lQ
 rw [if_neg (by simp [h1]),h2,if_neg (by simp),if_neg (by simp [h3])]
theorem j_P (p:List Int) (i:Int) (m:aK):DZ (j7.full ⟨1,p ++ [i], [],0,m, []⟩)=0:=by
 simp [DZ,CJ,g_r,g_q]
theorem j_Q (p:List Int) (i:Int) (m:aK):DZ (j7.full ⟨2,p ++ [i], [],0,m, []⟩)=0:=by
 simp [DZ,CJ,g_r,g_q]
theorem d_t:wV bZ bZ=true:=M7 _
theorem j_R (p q:List Int) (i j:Int):DZ (j7.full ⟨5,p ++ [i],q ++ [j],0,bZ, []⟩)=0:=by
 simp [DZ,CJ,g_r,g_q,d_t]
theorem j_S (p:List Int) (i x:Int) (ps:List eK):DZ (j7.full ⟨3,p ++ [i], [],x,bZ,ps⟩)=0:=by
 simp [DZ,CJ,g_r,g_q,d_t]
theorem g_u {n:aK} {o:yK} (h:o.kind=1):u_7 n o=if eQ o.node≠0 then (bZ,eQ o.node) else FK n o.path o.node:=by
 unfold u_7;rw [if_pos h]
theorem g_v {n rest k:aK} {o:yK} (h:o.kind=2) (hc:B4 n o.path=(rest,k,0)):u_7 n o=if wV k o.node then (rest,0) else (bZ,9):=by
 unfold u_7;rw [if_neg (by omega),hc,if_neg (by simp),if_pos h]
theorem e_d {n rest k:aK} {o:yK} (h:o.kind=3) (hc:B4 n o.path=(rest,k,0)):u_7 n o=b_I rest k o:=by
 unfold u_7;rw [if_neg (by omega),hc,if_neg (by simp),if_neg (by omega),if_pos h]
theorem f_5 {n rest k:aK} {o:yK} (h:o.kind=5) (hc:B4 n o.path=(rest,k,0)):u_7 n o=FK rest o.dest k:=by
 unfold u_7;rw [if_neg (by omega),hc,if_neg (by simp),if_neg (by omega),if_neg (by omega)]
section
variable {n k : aK} {p : List Int} (hn : eQ n = 0) (hr : aZ n = false) (ha : kK n p = some k) (hk : aZ k = false)
include hn hr ha hk
theorem b_J {i:Nat} {m:aK} (hm:eQ m=0) (hi:i <= (aQ k).length):lQ n (j7.full ⟨1,p ++ [(i:Int)], [],0,m, []⟩)=(gY n p (setKids k (xZ (aQ k) i m)),0):=by
 rw [a_r hn hr (j_P _ _ _),g_u rfl,if_neg (by simp [hm])]
 exact f_4 ha hk hi
theorem b_K {i:Nat} (hi:i < (aQ k).length):lQ n (j7.full ⟨2,p ++ [(i:Int)], [],0,(aQ k)[i], []⟩)=(gY n p (setKids k ((aQ k).eraseIdx i)),0):=by
 rw [a_r hn hr (j_Q _ _ _),g_v rfl (JJ ha hi)]
 simp [M7]
theorem h_F {q:List Int} {i j:Nat} {rest k2:aK} {x:aK} {p1 p2:List Int} (hc:B4 n (p1 ++ [(i:Int)])=(rest,x,0)) (h2:kK rest p2=some k2) (hl2:aZ k2=false) (hj:j <= (aQ k2).length):
 lQ n (j7.full ⟨5,p1 ++ [(i:Int)],p2 ++ [(j:Int)],0,bZ, []⟩)=(gY rest p2 (setKids k2 (xZ (aQ k2) j x)),0):=by
 rw [a_r hn hr (j_R _ _ _ _),f_5 rfl hc]
 exact f_4 h2 hl2 hj
theorem h_G {i:Nat} (hi:i+1 < (aQ k).length) (h1:aZ (aQ k)[i]=true) (h2:aZ (aQ k)[i+1]=true):
 lQ n (j7.full ⟨3,p ++ [((i+1:Nat):Int)], [],(gJ (aQ k)[i]).length,bZ,cV (aQ k)[i+1]⟩)=(gY n p (setKids k (((aQ k).eraseIdx (i+1)).set i (pQ (aQ k)[i] (aQ k)[i+1]))),0):=by
 rw [a_r hn hr (j_S _ _ _ _),e_d rfl (JJ ha hi)]
 unfold b_I j5
 simp only [vV,m9]
 rw [if_neg (by simp),show (((i+1:Nat):Int) - 1)=(i:Int)by omega]
 have hl:i < (aQ (setKids k ((aQ k).eraseIdx (i+1)))).length:=by rw [kids_setKids,List.length_eraseIdx];split <;> omega
 have hput:=E0 p n k (setKids k ((aQ k).eraseIdx (i+1))) ha
 have hat:=J9 hput hl
 have hge:(aQ (setKids k ((aQ k).eraseIdx (i+1))))[i]=(aQ k)[i]:=by
  simp only [kids_setKids]
  rw [List.getElem_eraseIdx,dif_pos (by omega)]
 rw [hge]at hat
 rw [hat]
 simp only
 rw [h1,h2,if_neg (by simp)]
 unfold BQ
 rw [h1]
 simp only [if_true,ne_eq,not_true,if_false]
 rw [E1 p [(i:Int)] _ _ _ hput,l7 hl,CK p n k _ _ ha]
 simp [kids_setKids,setKids_setKids,gY]
end
def nV:aK ->List yK ->Option aK
 | n, []=>some n
 | n,o::l=>if (lQ n o).2=0 then nV (lQ n o).1 l else none
theorem sJ {n m:aK} {o:yK} {l:List yK} (h:lQ n o=(m,0)):nV n (o::l)=nV m l:=by
 conv=>lhs;unfold nV
 rw [h];simp
theorem GV (n:aK) (o:yK) (l:List yK):nV n (o::l)=if (lQ n o).2=0 then nV (lQ n o).1 l else none:=by
 conv=>lhs;unfold nV
theorem a_s:∀ (a b:List yK) (n:aK),nV n (a ++ b)=(nV n a).bind (fun m=>nV m b)
 | [],b,n=>by simp [nV]
 | o::a,b,n=>by
   rw [List.cons_append,GV n o (a ++ b),GV n o a]
   split
   . exact a_s a b _
   . rfl
def mY (ks:List aK) (j:Nat) (x:aK) (t:Nat):List aK:=ks.take j ++ setKids x ((aQ x).drop t)::((aQ x).take t ++ ks.drop (j+1))
theorem c_e {ks:List aK} {j:Nat} (hj:j < ks.length):mY ks j ks[j] 0=ks:=by
 unfold mY
 simp only [List.drop_zero,setKids_self,List.take_zero,List.nil_append]
 rw [<- List.drop_eq_getElem_cons hj,List.take_append_drop]
theorem KZ {ks:List aK} {j:Nat} {x:aK} {t:Nat} (hj:j < ks.length) (ht:t <= (aQ x).length):(mY ks j x t).length=ks.length+t:=by
 unfold mY
 simp [Nat.min_eq_left (Nat.le_of_lt hj),Nat.min_eq_left ht];omega
theorem a_V {ks:List aK} {j:Nat} {x:aK} {t:Nat} (hj:j < ks.length) (hx:x=ks[j]) (hE:∀k∈ks,eQ k=0):∀y∈mY ks j x t,eQ y=0:=by
 have hxE:eQ x=0:=hE x (by rw [hx];exact List.getElem_mem hj)
 intro y hy
 unfold mY at hy
 rcases List.mem_append.1 hy with hy | hy
 . exact hE y (List.mem_of_mem_take hy)
 . rcases List.mem_cons.1 hy with rfl | hy
   . exact EQ hxE (fun k hk=>rZ hxE k (List.mem_of_mem_drop hk)) (fun hl=>by rw [FQ hxE hl];simp)
   . rcases List.mem_append.1 hy with hy | hy
     . exact rZ hxE y (List.mem_of_mem_take hy)
     . exact hE y (List.mem_of_mem_drop hy)
theorem c_f {ks:List aK} {j:Nat} {x:aK} {t:Nat} (hj:j < ks.length):(mY ks j x t)[j]? =some (setKids x ((aQ x).drop t)):=by
 unfold mY
 rw [List.getElem?_append_right (by simp;omega)]
 simp [Nat.min_eq_left (Nat.le_of_lt hj)]
theorem g_w {ks:List aK} {j:Nat} {x:aK} {t:Nat} (hj:j < ks.length) (ht:t < (aQ x).length):
 xZ ((mY ks j x t).set j (setKids x ((aQ x).drop (t+1)))) (j+1+t) (aQ x)[t]=mY ks j x (t+1):=by
 have e:(mY ks j x t).set j (setKids x ((aQ x).drop (t+1)))=ks.take j ++ setKids x ((aQ x).drop (t+1))::((aQ x).take t ++ ks.drop (j+1)):=by
  unfold mY
  rw [List.set_append_right _ _ (by simp;omega)]
  simp [Nat.min_eq_left (Nat.le_of_lt hj)]
 rw [e]
 unfold xZ mY
 have hl:(ks.take j ++ setKids x ((aQ x).drop (t+1))::(aQ x).take t).length=j+1+t:=by simp;omega
 rw [show ks.take j ++ setKids x ((aQ x).drop (t+1))::((aQ x).take t ++ ks.drop (j+1))=(ks.take j ++ setKids x ((aQ x).drop (t+1))::(aQ x).take t) ++ ks.drop (j+1)by simp,List.take_left' hl,List.drop_left' hl,List.take_succ_eq_append_getElem ht]
 simp only [List.append_assoc,List.cons_append,List.nil_append]
section
variable {n k : aK} {p : List Int} (hn : eQ n = 0) (hr : aZ n = false) (ha : kK n p = some k) (hk : aZ k = false)
include hn hr ha hk
theorem f_6 {j t:Nat} (hj:j < (aQ k).length) (ht:t < (aQ (aQ k)[j]).length):
 lQ (gY n p (setKids k (mY (aQ k) j (aQ k)[j] t))) (j7.full ⟨5,p ++ [(j:Int),0],p ++ [(j:Int)+(1+(t:Int))],0,bZ, []⟩)=(gY n p (setKids k (mY (aQ k) j (aQ k)[j] (t+1))),0):=by
 have hE:=rZ (CQ p n k hn ha)
 have hat:=E0 p n k (setKids k (mY (aQ k) j (aQ k)[j] t)) ha
 have hjl:j < (aQ (setKids k (mY (aQ k) j (aQ k)[j] t))).length:=by rw [kids_setKids,KZ hj (by omega)];omega
 have hx:(aQ (setKids k (mY (aQ k) j (aQ k)[j] t)))[j]=setKids (aQ k)[j] ((aQ (aQ k)[j]).drop t):=by
  have:=c_f (x:=(aQ k)[j]) (t:=t) hj
  simp only [kids_setKids]
  rw [List.getElem?_eq_getElem (by rw [kids_setKids]at hjl;exact hjl)]at this
  exact Option.some.inj this
 have hat2:=J9 hat hjl
 rw [hx]at hat2
 have hc:=JJ (i:=0) hat2 (by rw [kids_setKids];simp;omega)
 have e1:p ++ [(j:Int),0]=p ++ [(j:Int)] ++ [((0:Nat):Int)]:=by simp
 have e2:(j:Int)+(1+(t:Int))=((j+1+t:Nat):Int):=by omega
 simp only [kids_setKids,setKids_setKids,List.getElem_drop,Nat.add_zero,List.eraseIdx_zero,List.tail_drop]at hc
 rw [E1 p _ _ _ _ hat,l7 hjl,CK p n k _ _ ha]at hc
 simp only [kids_setKids,setKids_setKids,gY]at hc
 rw [e1,e2]
 have hat3:=E0 p n k (setKids k ((mY (aQ k) j (aQ k)[j] t).set j (setKids (aQ k)[j] ((aQ (aQ k)[j]).drop (t+1))))) ha
 refine(h_F (q:= []) (CV hn ha hk (a_V hj rfl hE)) ((KY ha).trans hr) hat ((nQ _ _).trans hk) hc hat3 ((nQ _ _).trans hk) (by rw [kids_setKids,List.length_set,KZ hj (by omega)];omega)).trans ?_
 rw [kids_setKids,setKids_setKids,CK p n k _ _ ha,g_w hj ht]
theorem c_g {j:Nat} (hj:j < (aQ k).length):∀ (m t:Nat),t+m=(aQ (aQ k)[j]).length ->
 nV (gY n p (setKids k (mY (aQ k) j (aQ k)[j] t))) ((List.range' t m).map fun i:Nat=>j7.full ⟨5,p ++ [(j:Int),0],p ++ [(j:Int)+(1+(i:Int))],0,bZ, []⟩)=some (gY n p (setKids k (mY (aQ k) j (aQ k)[j] (aQ (aQ k)[j]).length)))
 | 0,t,h=>by
   obtain rfl:t=(aQ (aQ k)[j]).length:=by omega
   simp [nV]
 | m+1,t,h=>by
   rw [List.range'_succ,List.map_cons,sJ (f_6 hn hr ha hk hj (by omega))]
   exact c_g hj m (t+1) (by omega)
end
def kZ (ks:List aK) (j:Nat) (x:aK) (t:Nat):List aK:=ks.take j ++ setKids x ((ks.drop j).take t)::ks.drop (j+t)
theorem c_h {ks:List aK} {j:Nat} {x:aK} (hx:aQ x= []):kZ ks j x 0=xZ ks j x:=by
 unfold kZ xZ
 rw [List.take_zero, <- hx,setKids_self,Nat.add_zero]
theorem d_u {ks:List aK} {j:Nat} {x:aK} {t:Nat} (hx:eQ x=0) (hl:aZ x=false) (hE:∀k∈ks,eQ k=0):∀y∈kZ ks j x t,eQ y=0:=by
 intro y hy
 unfold kZ at hy
 rcases List.mem_append.1 hy with hy | hy
 . exact hE y (List.mem_of_mem_take hy)
 . rcases List.mem_cons.1 hy with rfl | hy
   . exact EQ hx (fun k hk=>hE k (List.mem_of_mem_drop (List.mem_of_mem_take hk))) (fun h=>by rw [hl]at h;cases h)
   . exact hE y (List.mem_of_mem_drop hy)
theorem a_W {ks:List aK} {j:Nat} {x:aK} {t:Nat} (hj:j+t <= ks.length):(kZ ks j x t).length=ks.length - t+1:=by
 unfold kZ
 simp;omega
theorem f_7 {ks:List aK} {j:Nat} {x:aK} {t:Nat} (hj:j <= ks.length):(kZ ks j x t)[j]? =some (setKids x ((ks.drop j).take t)):=by
 unfold kZ
 rw [List.getElem?_append_right (by simp;omega)]
 simp [Nat.min_eq_left hj]
theorem g_x {ks:List aK} {j:Nat} {x:aK} {t:Nat} (hj:j+t < ks.length):(kZ ks j x t)[j+1]? =some ks[j+t]:=by
 unfold kZ
 rw [List.getElem?_append_right (by simp;omega)]
 simp [Nat.min_eq_left (show j <= ks.length by omega),show j+1 - j=1 by omega,List.getElem?_eq_getElem hj]
theorem g_y {ks:List aK} {j:Nat} {x:aK} {t:Nat} (hj:j+t < ks.length):
 ((kZ ks j x t).eraseIdx (j+1)).set j (setKids x (xZ ((ks.drop j).take t) t ks[j+t]))=kZ ks j x (t+1):=by
 have hl:(ks.take j).length=j:=by simp;omega
 unfold kZ
 rw [List.eraseIdx_append_of_length_le (by omega),hl,show j+1 - j=1 by omega,List.eraseIdx_cons_succ,List.set_append_right _ _ (by omega),hl,Nat.sub_self,List.set_cons_zero,List.eraseIdx_zero,List.tail_drop]
 have e:xZ ((ks.drop j).take t) t ks[j+t]=(ks.drop j).take (t+1):=by
  have hd:t < (ks.drop j).length:=by simp;omega
  unfold xZ
  rw [List.take_take,Nat.min_self,List.drop_eq_nil_of_le (List.length_take_le _ _),List.take_succ_eq_append_getElem hd,List.getElem_drop]
 rw [e,Nat.add_assoc]
section
variable {n k : aK} {p : List Int} (hn : eQ n = 0) (hr : aZ n = false) (ha : kK n p = some k) (hk : aZ k = false)
include hn hr ha hk
theorem f_8 {j t:Nat} {x:aK} (hx:eQ x=0) (hl:aZ x=false) (hj:j+t < (aQ k).length):
 lQ (gY n p (setKids k (kZ (aQ k) j x t))) (j7.full ⟨5,p ++ [(j:Int)+1],p ++ [(j:Int),(t:Int)],0,bZ, []⟩)=(gY n p (setKids k (kZ (aQ k) j x (t+1))),0):=by
 have hE:=rZ (CQ p n k hn ha)
 have hat:=E0 p n k (setKids k (kZ (aQ k) j x t)) ha
 have hwl:(kZ (aQ k) j x t).length=(aQ k).length - t+1:=a_W (by omega)
 have hjl:j+1 < (aQ (setKids k (kZ (aQ k) j x t))).length:=by rw [kids_setKids,hwl];omega
 have hc:=JJ hat hjl
 have hy:(aQ (setKids k (kZ (aQ k) j x t)))[j+1]=(aQ k)[j+t]:=by
  have:=g_x (x:=x) hj
  simp only [kids_setKids]
  rw [List.getElem?_eq_getElem (by rw [kids_setKids]at hjl;exact hjl)]at this
  exact Option.some.inj this
 rw [hy]at hc
 rw [kids_setKids,setKids_setKids,CK p n k _ _ ha]at hc
 have hat3:=E0 p n k (setKids k ((kZ (aQ k) j x t).eraseIdx (j+1))) ha
 have hjl2:j < (aQ (setKids k ((kZ (aQ k) j x t).eraseIdx (j+1)))).length:=by rw [kids_setKids,List.length_eraseIdx];split <;> omega
 have hz:(aQ (setKids k ((kZ (aQ k) j x t).eraseIdx (j+1))))[j]=setKids x (((aQ k).drop j).take t):=by
  have:=f_7 (ks:=aQ k) (j:=j) (x:=x) (t:=t) (by omega)
  simp only [kids_setKids]
  rw [List.getElem_eraseIdx,dif_pos (by omega)]
  rw [List.getElem?_eq_getElem (by omega)]at this
  exact Option.some.inj this
 have hat4:=J9 hat3 hjl2
 rw [hz]at hat4
 have e1:p ++ [(j:Int)+1]=p ++ [((j+1:Nat):Int)]:=by simp
 have e2:p ++ [(j:Int),(t:Int)]=p ++ [(j:Int)] ++ [(t:Int)]:=by simp
 rw [e1,e2]
 refine(h_F (q:= []) (CV hn ha hk (d_u hx hl hE)) ((KY ha).trans hr) hat ((nQ _ _).trans hk) hc hat4 ((nQ _ _).trans hl) (by rw [kids_setKids];simp;omega)).trans ?_
 rw [E1 p _ _ _ _ hat3,l7 hjl2,CK p n k _ _ ha]
 simp only [kids_setKids,setKids_setKids,gY]
 rw [g_y hj]
theorem f_9 {j:Nat} {x:aK} (hx:eQ x=0) (hl:aZ x=false):∀ (m t:Nat),j+t+m <= (aQ k).length ->
 nV (gY n p (setKids k (kZ (aQ k) j x t))) ((List.range' t m).map fun i:Nat=>j7.full ⟨5,p ++ [(j:Int)+1],p ++ [(j:Int),(i:Int)],0,bZ, []⟩)=some (gY n p (setKids k (kZ (aQ k) j x (t+m))))
 | 0,t,h=>by simp [nV]
 | m+1,t,h=>by
   rw [List.range'_succ,List.map_cons,sJ (f_8 hn hr ha hk hx hl (by omega))]
   rw [f_9 hx hl m (t+1) (by omega),show t+1+m=t+(m+1)by omega]
end
def MV (r:bJ) (ks:List aK) (f:qJ):List aK:=
 if f.1=1∨f.1=5 then ks.eraseIdx f.2.1.toNat
 else if f.1=2 then ks.take f.2.1.toNat ++ (aQ (cX ks f.2.1.toNat) ++ ks.drop (f.2.1.toNat+1))
 else if f.1=3 then kZ ks f.2.1.toNat (fQ (eY r (cX ks f.2.1.toNat)).2) f.2.2.toNat
 else if f.1=4 then (ks.eraseIdx f.2.1.toNat).set (f.2.1.toNat - 1) (pQ (cX ks (f.2.1.toNat - 1)) (cX ks f.2.1.toNat))
 else [if r.fill=1 then .mk true [] [] [] else fQ r.fillT]
theorem FV {r:bJ} {ks:List aK} {f:qJ} (h:f.1=1∨f.1=5):MV r ks f=ks.eraseIdx f.2.1.toNat:=by
 unfold MV;rw [if_pos h]
theorem c_i {r:bJ} {ks:List aK} {f:qJ} (h:f.1=2):MV r ks f=ks.take f.2.1.toNat ++ (aQ (cX ks f.2.1.toNat) ++ ks.drop (f.2.1.toNat+1)):=by
 unfold MV;rw [if_neg (by omega),if_pos h]
theorem MY {r:bJ} {ks:List aK} {f:qJ} (h:f.1=3):MV r ks f=kZ ks f.2.1.toNat (fQ (eY r (cX ks f.2.1.toNat)).2) f.2.2.toNat:=by
 unfold MV;rw [if_neg (by omega),if_neg (by omega),if_pos h]
theorem a_X {r:bJ} {ks:List aK} {f:qJ} (h:f.1=4):MV r ks f=(ks.eraseIdx f.2.1.toNat).set (f.2.1.toNat - 1) (pQ (cX ks (f.2.1.toNat - 1)) (cX ks f.2.1.toNat)):=by
 unfold MV;rw [if_neg (by omega),if_neg (by omega),if_neg (by omega),if_pos h]
theorem c_j {r:bJ} {ks:List aK} {f:qJ} (h:f.1=6):MV r ks f= [if r.fill=1 then .mk true [] [] [] else fQ r.fillT]:=by
 unfold MV;rw [if_neg (by omega),if_neg (by omega),if_neg (by omega),if_neg (by omega)]
theorem FX {r:bJ} {ks:List aK} {p:List Int} {f:qJ} (h:f.1=1∨f.1=5):lX r ks p f= [⟨2,p ++ [f.2.1], [],0,cX ks f.2.1.toNat, []⟩]:=by
 unfold lX;rw [if_pos h]
theorem c_k {r:bJ} {ks:List aK} {p:List Int} {f:qJ} (h:f.1=2):lX r ks p f=(List.range (aQ (cX ks f.2.1.toNat)).length).map (fun i:Nat=>(⟨5,p ++ [f.2.1,0],p ++ [f.2.1+(1+(i:Int))],0,bZ, []⟩:j7)) ++ [⟨2,p ++ [f.2.1], [],0,G6 (cX ks f.2.1.toNat), []⟩]:=by
 unfold lX;rw [if_neg (by omega),if_pos h]
theorem MZ {r:bJ} {ks:List aK} {p:List Int} {f:qJ} (h:f.1=3):lX r ks p f=⟨1,p ++ [f.2.1], [],0,fQ (eY r (cX ks f.2.1.toNat)).2, []⟩::(List.range f.2.2.toNat).map (fun i:Nat=>(⟨5,p ++ [f.2.1+1],p ++ [f.2.1,(i:Int)],0,bZ, []⟩:j7)):=by
 unfold lX;rw [if_neg (by omega),if_neg (by omega),if_pos h]
theorem a_Y {r:bJ} {ks:List aK} {p:List Int} {f:qJ} (h:f.1=4):lX r ks p f= [⟨3,p ++ [f.2.1], [],(gJ (cX ks (f.2.1.toNat - 1))).length,bZ,cV (cX ks f.2.1.toNat)⟩]:=by
 unfold lX;rw [if_neg (by omega),if_neg (by omega),if_neg (by omega),if_pos h]
theorem c_l {r:bJ} {ks:List aK} {p:List Int} {f:qJ} (h:f.1=6):lX r ks p f= [⟨1,p ++ [f.2.1], [],0,if r.fill=1 then .mk true [] [] [] else fQ r.fillT, []⟩]:=by
 unfold lX;rw [if_neg (by omega),if_neg (by omega),if_neg (by omega),if_neg (by omega)]
theorem kid_at {ks:List aK} {j:Nat} (h:j < ks.length):cX ks j=ks[j]:=by simp [List.getElem?_eq_getElem h]
theorem a_Z (r:bJ) (ks:List aK) (j:Nat) (hj:j < ks.length) (h:i7 r ks 3=j):j+i9 r ks 3 <= ks.length:=by
 unfold i9
 rw [if_pos rfl,h]
 unfold a_P
 have:=(List.takeWhile_sublist (fun a=>decide (a=(kX r ks).getD ((j:Int)).toNat (0, []))) (l:=(kX r ks).drop (((j:Int)).toNat+1))).length_le
 simp only [List.length_drop,List.length_map,Int.toNat_natCast]at this
 simp only [Int.toNat_natCast]
 omega
end Go.Proofs.YtmadpclcmjahoaaGreatDoor
