/- Parts of the proof: 3. -/
import Derived.Test.YtmadpclcmjahoaaGreatDoorFN2
import Derived.Test.YtmadpclcmjahoaaGreatDoorFN1
import Derived.OpenShut
set_option linter.unusedVariables false
set_option linter.unusedSimpArgs false
set_option maxHeartbeats 8000000
set_option maxRecDepth 100000
namespace Go.Proofs.YtmadpclcmjahoaaGreatDoor
open Go.RowKit Go.Redl
def yZ (w:World) (b off:Nat) (cs:List Value):Prop:=cs.length=4/\∀j u,cs[j]? =some u ->w.cell? ⟨b,off+j,none⟩=some u
mutual
def jY (w:World):aK ->Nat ->Nat ->List Value ->Prop
 | .mk l ps t ks,lo,hi,cs=>∃ (mid:Nat) (ap:Option Addr) (cp:Nat) (at_:Option Addr) (ct:Nat) (ak:Option Addr) (ck:Nat) (css:List Value),lo <= mid/\cs= [.bool l, .slice ap ps.length cp, .slice at_ t.length ct, .slice ak ks.length ck]/\
     RowQ w (fun b=>lo <= b/\b < mid/\(Value.slice ak ks.length ck).ownBlock≠some b) 2 ap ps.length cp (bK ps)/\
     RowQ w (fun b=>lo <= b/\b < mid/\(Value.slice ak ks.length ck).ownBlock≠some b) 1 at_ t.length ct (t.map (Value.int .i32))/\(∀z∈t,(Lit.int .i32 z).wf=true)/\
     w.ownsRow lo 35 4 (.slice ak ks.length ck) ks.length css/\(∀g,(Value.slice ak ks.length ck).ownBlock=some g ->g < mid)/\eX w ks mid hi css
def eX (w:World):List aK ->Nat ->Nat ->List Value ->Prop
 | [],lo,hi,css=>css= []/\lo <= hi
 | k::ks,lo,hi,css=>∃ (m:Nat) (c1 c2:List Value),lo <= m/\css=c1 ++ c2/\jY w k lo m c1/\eX w ks m hi c2
end
mutual
theorem jY.le {w:World}:∀ {n:aK} {lo hi:Nat} {cs:List Value},jY w n lo hi cs ->lo <= hi
 | .mk l ps t ks,lo,hi,cs,h=>by
   unfold jY at h
   obtain⟨mid,_,_,_,_,_,_,_,h1,_,_,_,_,_,_,h2⟩:=h
   exact aJ h1 (eX.le h2)
theorem eX.le {w:World}:∀ {ks:List aK} {lo hi:Nat} {css:List Value},eX w ks lo hi css ->lo <= hi
 | [],lo,hi,css,h=>by unfold eX at h;exact h.2
 | k::ks,lo,hi,css,h=>by
   unfold eX at h
   obtain⟨m,c1,c2,h0,_,_,h2⟩:=h
   exact aJ h0 (eX.le h2)
end
mutual
theorem jY.keep {w w':World} (hs:w.heap.size <= w'.heap.size):∀ {n:aK} {lo hi:Nat} {cs:List Value},(∀b,lo <= b ->b < hi ->b < w.heap.size ->w'.heap[b]? =w.heap[b]?) ->jY w n lo hi cs ->jY w' n lo hi cs
 | .mk l ps t ks,lo,hi,cs,hk,h=>by
   unfold jY at h⊢
   obtain⟨mid,ap,cp,at_,ct,ak,ck,css,h1,h2,h3,h4,h5,h6,h7,h8⟩:=h
   have hmh:=eX.le h8
   refine⟨mid,ap,cp,at_,ct,ak,ck,css,h1,h2,h3.keep hs (fun b hb hlt=>hk b hb.1 (by omega) hlt) (fun _ h _=>h),h4.keep hs (fun b hb hlt=>hk b hb.1 (by omega) hlt) (fun _ h _=>h),h5,⟨h6.1, ?_⟩,h7,eX.keep hs (fun b hb hb2 hlt=>hk b (by omega) hb2 hlt) h8⟩
   rcases h6.2 with hn | ⟨g,cap,cur,hv,hb,hg,hr⟩
   . exact .inl hn
   . refine .inr ⟨g,cap,cur,hv,hb, ?_,hr⟩
     have hgl:g < w.heap.size:=by
      rcases Nat.lt_or_ge g w.heap.size with h | h
      . exact h
      . rw [Array.getElem?_eq_none h]at hg;cases hg
     rw [hk g hb (by have:=h7 g (by rw [hv];rfl);omega) hgl]
     exact hg
theorem eX.keep {w w':World} (hs:w.heap.size <= w'.heap.size):∀ {ks:List aK} {lo hi:Nat} {css:List Value},(∀b,lo <= b ->b < hi ->b < w.heap.size ->w'.heap[b]? =w.heap[b]?) ->eX w ks lo hi css ->eX w' ks lo hi css
 | [],lo,hi,css,hk,h=>by unfold eX at h⊢;exact h
 | k::ks,lo,hi,css,hk,h=>by
   unfold eX at h⊢
   obtain⟨m,c1,c2,h0,h1,h2,h3⟩:=h
   have:=eX.le h3
   exact⟨m,c1,c2,h0,h1,jY.keep hs (fun b hb hb2 hlt=>hk b hb (by omega) hlt) h2,eX.keep hs (fun b hb hb2 hlt=>hk b (by omega) hb2 hlt) h3⟩
end
mutual
theorem jY.q {w:World} {ok:Nat ->Prop}:∀ {n:aK} {lo hi:Nat} {cs:List Value},(∀b,lo <= b ->b < hi ->ok b) ->jY w n lo hi cs ->NodeQ w ok n cs
 | .mk l ps t ks,lo,hi,cs,hk,h=>by
   unfold jY at h
   unfold NodeQ
   obtain⟨mid,ap,cp,at_,ct,ak,ck,css,h1,h2,h3,h4,h5,h6,h7,h8⟩:=h
   have hmh:=eX.le h8
   have hq8:=eX.q (ok:=ok) (fun b hb hb2=>hk b (by omega) hb2) h8
   obtain⟨a',c',hv,hr⟩:=RowQ.of_own h6 (bX.onec hq8)
   injection hv with e1 e2 e3
   subst e1;subst e3
   refine⟨ap,cp,at_,ct,ak,ck,css,h2,h3.keep (a8) (fun _ _ _=>rfl) (fun b hb _=>hk b hb.1 (by omega)),h4.keep (a8) (fun _ _ _=>rfl) (fun b hb _=>hk b hb.1 (by omega)),h5,hr.keep (a8) (fun _ _ _=>rfl) (fun b hb _=>hk b (h6.lt b hb).1 (by have:=h7 b hb;omega)),hq8⟩
theorem eX.q {w:World} {ok:Nat ->Prop}:∀ {ks:List aK} {lo hi:Nat} {css:List Value},(∀b,lo <= b ->b < hi ->ok b) ->eX w ks lo hi css ->bX w ok ks css
 | [],lo,hi,css,hk,h=>by unfold eX at h;unfold bX;exact h.1
 | k::ks,lo,hi,css,hk,h=>by
   unfold eX at h
   unfold bX
   obtain⟨m,c1,c2,h0,h1,h2,h3⟩:=h
   have:=eX.le h3
   exact⟨c1,c2,h1,jY.q (fun b hb hb2=>hk b hb (by omega)) h2,eX.q (fun b hb hb2=>hk b (by omega) hb2) h3⟩
end
theorem eX.up {w:World}:∀ {ks:List aK} {lo hi hi':Nat} {css:List Value},eX w ks lo hi css ->hi <= hi' ->eX w ks lo hi' css
 | [],lo,hi,hi',css,h,he=>by unfold eX at h⊢;exact⟨h.1,by omega⟩
 | k::ks,lo,hi,hi',css,h,he=>by
   unfold eX at h⊢
   obtain⟨m,c1,c2,h0,h1,h2,h3⟩:=h
   exact⟨m,c1,c2,h0,h1,h2,eX.up h3 he⟩
theorem jY.wide {w:World} {n:aK} {lo hi lo' hi':Nat} {cs:List Value} (h:jY w n lo hi cs) (hl:lo' <= lo) (hh:hi <= hi'):jY w n lo' hi' cs:=by
 obtain⟨l,ps,t,ks⟩:=n
 unfold jY at h⊢
 obtain⟨mid,ap,cp,at_,ct,ak,ck,css,h1,h2,h3,h4,h5,h6,h7,h8⟩:=h
 refine⟨mid,ap,cp,at_,ct,ak,ck,css,by omega,h2,h3.keep (a8) (fun _ _ _=>rfl) (fun b hb _=>⟨by omega,hb.2⟩),h4.keep (a8) (fun _ _ _=>rfl) (fun b hb _=>⟨by omega,hb.2⟩),h5,⟨h6.1, ?_⟩,h7,h8.up hh⟩
 rcases h6.2 with hn | ⟨g,cap,cur,hv,hb,hr⟩
 . exact .inl hn
 . exact .inr ⟨g,cap,cur,hv,by omega,hr⟩
theorem eX.snoc {w:World}:∀ {ks:List aK} {k:aK} {lo m hi:Nat} {css c:List Value},eX w ks lo m css ->jY w k m hi c ->eX w (ks ++ [k]) lo hi (css ++ c)
 | [],k,lo,m,hi,css,c,h,hn=>by
   unfold eX at h
   obtain⟨rfl,hm⟩:=h
   show eX w [k] lo hi c
   unfold eX
   exact⟨hi,c, [],aJ hm (jY.le hn),by simp,hn.wide hm (a8),by unfold eX;exact⟨rfl,a8⟩⟩
 | x::ks,k,lo,m,hi,css,c,h,hn=>by
   unfold eX at h
   obtain⟨m1,c1,c2,h0,rfl,h2,h3⟩:=h
   show eX w (x::(ks ++ [k])) lo hi (c1 ++ c2 ++ c)
   unfold eX
   exact⟨m1,c1,c2 ++ c,h0,by simp,h2,eX.snoc h3 hn⟩
theorem jY.four {w:World} {n:aK} {lo hi:Nat} {cs:List Value} (h:jY w n lo hi cs):cs.length=4:=by
 obtain⟨l,ps,t,ks⟩:=n
 unfold jY at h
 obtain⟨mid,ap,cp,at_,ct,ak,ck,css,h1,rfl, -⟩:=h
 rfl
theorem C4 {w w':World} {ok ok':Nat ->Prop} {sz n cap:Nat} {a:Option Addr} {cs:List Value} (h:RowQ w ok sz a n cap cs) (hs:w.heap.size <= w'.heap.size) (hk:∀b o,ok b ->b < w.heap.size ->w'.cell? ⟨b,o,none⟩=w.cell? ⟨b,o,none⟩) (ho:∀b,ok b ->ok' b):RowQ w' ok' sz a n cap cs:=by
 refine⟨h.len,h.le,h.max,h.one,h.nil,fun hne=> ?_⟩
 obtain⟨b,off,ha,hb,hlt,hcell⟩:=h.some_ hne
 exact⟨b,off,ha,ho b hb,Nat.lt_of_lt_of_le hlt hs,fun j u hj=>by rw [hk b _ hb hlt];exact hcell j u hj⟩
mutual
theorem b_c {w w':World} {ok ok':Nat ->Prop} (hs:w.heap.size <= w'.heap.size) (hk:∀b o,ok b ->b < w.heap.size ->w'.cell? ⟨b,o,none⟩=w.cell? ⟨b,o,none⟩) (ho:∀b,ok b ->ok' b):∀ (n:aK) (cs:List Value),NodeQ w ok n cs ->NodeQ w' ok' n cs
 | .mk l ps t ks,cs=>by
   intro h
   unfold NodeQ at h⊢
   obtain⟨ap,cp,at_,ct,ak,ck,css,h1,h2,h3,h4,h5,h6⟩:=h
   exact⟨ap,cp,at_,ct,ak,ck,css,h1,C4 h2 hs hk ho,C4 h3 hs hk ho,h4,C4 h5 hs hk ho,IZ hs hk ho ks css h6⟩
theorem IZ {w w':World} {ok ok':Nat ->Prop} (hs:w.heap.size <= w'.heap.size) (hk:∀b o,ok b ->b < w.heap.size ->w'.cell? ⟨b,o,none⟩=w.cell? ⟨b,o,none⟩) (ho:∀b,ok b ->ok' b):∀ (ks:List aK) (css:List Value),bX w ok ks css ->bX w' ok' ks css
 | [],css=>by intro h;unfold bX at h⊢;exact h
 | k::ks,css=>by
   intro h
   unfold bX at h⊢
   obtain⟨c1,c2,h1,h2,h3⟩:=h
   exact⟨c1,c2,h1,b_c hs hk ho k c1 h2,IZ hs hk ho ks c2 h3⟩
end
theorem eX.at_ {w:World}:∀ {ks:List aK} {lo hi:Nat} {css:List Value},eX w ks lo hi css ->∀ (i:Nat) (h:i < ks.length),∃m1 m2 c,lo <= m1/\m2 <= hi/\jY w ks[i] m1 m2 c/\(∀j,j < 4 ->css[i * 4+j]? =c[j]?)/\
 ∀ (w':World) (ok:Nat ->Prop) (k':aK) (c':List Value),w.heap.size <= w'.heap.size ->(∀b,lo <= b ->b < hi ->ok b) ->(∀b o,lo <= b ->b < hi ->b < w.heap.size ->¬ (m1 <= b/\b < m2) ->w'.cell? ⟨b,o,none⟩=w.cell? ⟨b,o,none⟩) ->NodeQ w' ok k' c' ->bX w' ok (ks.set i k') (css.take (i * 4) ++ c' ++ css.drop (i * 4+4))
 | [],_,_,_,_,i,h=>by simp at h
 | k ::ks,lo,hi,css,h,i,hi'=>by
   unfold eX at h
   obtain⟨m,c1,c2,h0,rfl,h2,h3⟩:=h
   have hl:=h2.four
   have hm:=eX.le h3
   cases i with
   | zero=>
     refine⟨lo,m,c1,a8,hm,h2,fun j hj=>by rw [List.getElem?_append_left (by omega)];simp,fun w' ok k' c' hs ho hk hn=> ?_⟩
     have hq:=IZ (ok':=ok) hs (fun b o hb hlt=>hk b o (by omega) hb.2 hlt (by omega)) (fun b hb=>ho b (by omega) hb.2) _ _ (eX.q (ok:=fun b=>m <= b/\b < hi) (fun b hb hb2=>⟨hb,hb2⟩) h3)
     show bX w' ok (k'::ks) _
     unfold bX
     exact⟨c',c2,by simp [List.drop_append,hl],hn,hq⟩
   | succ i=>
     obtain⟨m1,m2,c,g1,g2,g3,g4,g5⟩:=eX.at_ h3 i (by simpa using hi')
     refine⟨m1,m2,c,by omega,g2,g3,fun j hj=> ?_,fun w' ok k' c' hs ho hk hn=> ?_⟩
     . rw [List.getElem?_append_right (by omega),hl,show (i+1) * 4+j - 4=i * 4+j by omega]
       exact g4 j hj
     . have hq:=b_c (ok':=ok) hs (fun b o hb hlt=>hk b o hb.1 (by omega) hlt (by omega)) (fun b hb=>ho b hb.1 (by omega)) _ _ (jY.q (ok:=fun b=>lo <= b/\b < m) (fun b hb hb2=>⟨hb,hb2⟩) h2)
       have hr:=g5 w' ok k' c' hs (fun b hb hb2=>ho b (by omega) hb2) (fun b o hb hb2 hlt hn=>hk b o (by omega) hb2 hlt hn) hn
       show bX w' ok (k::ks.set i k') _
       unfold bX
       refine⟨c1,c2.take (i * 4) ++ c' ++ c2.drop (i * 4+4), ?_,hq,hr⟩
       rw [List.take_append,List.drop_append,hl,List.take_of_length_le (show c1.length <= (i+1) * 4 by omega),List.drop_eq_nil_of_le (show c1.length <= (i+1) * 4+4 by omega),show (i+1) * 4 - 4=i * 4 by omega,show (i+1) * 4+4 - 4=i * 4+4 by omega]
       simp
def gY:aK ->List Int ->aK ->aK
 | _, [],m=>m
 | .mk l ps t ks,i::p,m=> .mk l ps t (ks.set i.toNat (gY (ks.getD i.toNat (.mk false [] [] [])) p m))
def oQ (w:World):List Int ->Nat ->Nat ->Nat×Nat
 | [],b,off=>(b,off)
 | i::p,b,off=>match w.cell? ⟨b,off+3,none⟩with
   | some (.slice (some a) _ _)=>oQ w p a.block (a.off+i.toNat * 4)
   | _=>(b,off)
theorem j_d {w:World}:∀ (p:List Int) (n m:aK) (lo hi b off:Nat) (cs:List Value),jY w n lo hi cs ->yZ w b off cs ->¬ (lo <= b/\b < hi) ->kK n p=some m ->
 ∃lo' hi' cm,lo <= lo'/\hi' <= hi/\jY w m lo' hi' cm/\yZ w (oQ w p b off).1 (oQ w p b off).2 cm/\¬ (lo' <= (oQ w p b off).1/\(oQ w p b off).1 < hi')/\(oQ w p b off=(b,off)∨lo <= (oQ w p b off).1/\(oQ w p b off).1 < hi)/\
 ∀ (w':World) (ok:Nat ->Prop) (m':aK) (cm':List Value),w.heap.size <= w'.heap.size ->(∀x,lo <= x ->x < hi ->ok x) ->
   (∀x o,x < w.heap.size ->(lo <= x/\x < hi∨x=b) ->¬ (x=(oQ w p b off).1/\(oQ w p b off).2 <= o/\o < (oQ w p b off).2+4) ->¬ (lo' <= x/\x < hi') ->w'.cell? ⟨x,o,none⟩=w.cell? ⟨x,o,none⟩) ->
   NodeQ w' ok m' cm' ->yZ w' (oQ w p b off).1 (oQ w p b off).2 cm' ->∃cs',yZ w' b off cs'/\NodeQ w' ok (gY n p m') cs'
 | [],n,m,lo,hi,b,off,cs,h,hc,hb,hat=>by
   have e:n=m:=by simpa [kK]using hat
   subst e
   exact⟨lo,hi,cs,a8,a8,h,hc,hb, .inl rfl,fun w' ok m' cm' hs ho hk hn hc'=>⟨cm',hc',hn⟩⟩
 | i :: p, .mk l ps t ks,m,lo,hi,b,off,cs,h,hc,hb,hat=>by
   unfold jY at h
   obtain⟨mid,ap,cp,at_,ct,ak,ck,css,h1,rfl,h3,h4,h5,h6,h7,h8⟩:=h
   simp only [kK,aQ]at hat
   split at hat
   . rename_i h0
     obtain⟨j,rfl⟩:∃j:Nat,i=j:=⟨i.toNat,by omega⟩
     rw [Int.toNat_natCast]at hat
     by_cases hj:j < ks.length
     . rw [List.getElem?_eq_getElem hj]at hat
       simp only at hat
       obtain⟨m1,m2,c,g1,g2,g3,g4,g5⟩:=eX.at_ h8 j hj
       have hcl:=h6.1
       have hone:∀u∈css,u.oneCell'=true:=bX.onec (eX.q (ok:=fun _=>True) (fun _ _ _=>trivial) h8)
       obtain⟨K,rfl,hK⟩:=A6 h6 (by intro e;rw [e]at hcl;simp at hcl;omega)
       have hKm:K < mid:=h7 K rfl
       have hcK:yZ w K (j * 4) c:=by
        refine⟨g3.four,fun q u hq=> ?_⟩
        have hq4:q < 4:=by
         rcases Nat.lt_or_ge q c.length with h | h
         . rw [g3.four]at h;exact h
         . rw [List.getElem?_eq_none h]at hq;cases hq
        exact pV h6 _ _ (by rw [g4 q hq4];exact hq)
       have hA:oQ w ((j:Int)::p) b off=oQ w p K (j * 4):=by
        have:=hc.2 3 _ rfl
        show (match w.cell? ⟨b,off+3,none⟩with | some (.slice (some a) _ _)=>oQ w p a.block (a.off+(j:Int).toNat * 4) | _=>(b,off))=_
        rw [this]
        simp
       have hmh:=eX.le h8
       obtain⟨lo',hi',cm,k1,k2,k3,k4,k5,k6,k7⟩:=j_d p ks[j] m m1 m2 K (j * 4) c g3 hcK (by omega) hat
       have hlh:=k3.le
       rw [hA]
       generalize oQ w p K (j * 4)=A at k4 k5 k6 k7⊢
       obtain⟨A1,A2⟩:=A
       simp only at k4 k5 k6 k7⊢
       have hAin:lo <= A1/\A1 < hi:=by
        rcases k6 with e | e
        . injection e with e1 e2;omega
        . omega
       refine⟨lo',hi',cm,by omega,by omega,k3,k4,k5, .inr hAin,fun w' ok m' cm' hs ho hk hn hc'=> ?_⟩
       obtain⟨c',q1,q2⟩:=k7 w' ok m' cm' hs (fun x hx hx2=>ho x (by omega) (by omega)) (fun x o hx hin hno hno2=>hk x o hx (by omega) hno hno2) hn hc'
       have hq:=g5 w' ok _ c' hs (fun x hx hx2=>ho x (by omega) (by omega)) (fun x o hx hx2 hlt hno=>hk x o hlt (by omega) (fun hh=>by
        rcases k6 with e | e
        . injection e with e1 e2;omega
        . omega) (fun hh=>hno ⟨by omega,by omega⟩)) q2
       have hbl:b < w.heap.size:=by
        have:=hc.2 0 _ rfl
        have:=World.block_lt_of_cell? w _ this
        simpa using this
       refine⟨[.bool l, .slice ap ps.length cp, .slice at_ t.length ct, .slice (some ⟨K,0,none⟩) ks.length ck],⟨rfl,fun q u hqu=> ?_⟩, ?_⟩
       . rw [hk b _ hbl (.inr rfl) (fun hh=>by omega) (fun hh=>hb ⟨by omega,by omega⟩)]
         exact hc.2 q u hqu
       . have hgd:ks.getD j (.mk false [] [] [])=ks[j]:=by simp [List.getD,List.getElem?_eq_getElem hj]
         have hKin:∀o,¬ (A1=K/\A2 <= o/\o < A2+4) ->w'.cell? ⟨K,o,none⟩=w.cell? ⟨K,o,none⟩:=fun o hno=>by
          have hKl:K < w.heap.size:=(h6.lt K rfl).2
          exact hk K o hKl (.inl ⟨hK,by omega⟩) (fun hh=>hno ⟨hh.1.symm,hh.2⟩) (by omega)
         show NodeQ w' ok (.mk l ps t (ks.set (j:Int).toNat (gY (ks.getD (j:Int).toNat (.mk false [] [] [])) p m'))) _
         rw [Int.toNat_natCast,hgd]
         unfold NodeQ
         have hside:∀x o,(lo <= x/\x < mid/\(Value.slice (some ⟨K,0,none⟩) ks.length ck).ownBlock≠some x) ->x < w.heap.size ->w'.cell? ⟨x,o,none⟩=w.cell? ⟨x,o,none⟩:=fun x o hx hlt=>by
          have hxK:x≠K:=fun e=>hx.2.2 (by rw [e];rfl)
          refine hk x o hlt (.inl ⟨hx.1,by omega⟩) (fun hh=> ?_) (by omega)
          rcases k6 with e | e
          . injection e with e1 e2;omega
          . omega
         refine⟨ap,cp,at_,ct,some ⟨K,0,none⟩,ck,css.take (j * 4) ++ c' ++ css.drop (j * 4+4),by rw [List.length_set],C4 h3 hs hside (fun x hx=>ho x hx.1 (by omega)),C4 h4 hs hside (fun x hx=>ho x hx.1 (by omega)),h5, ?_,hq⟩
         have hc4:=q1.1
         obtain⟨a',c'',hv,hr⟩:=cK h6 hone
         injection hv with e1 e2 e3
         subst e3
         refine⟨by rw [List.length_set];simp [hcl,hc4];omega,by rw [List.length_set];exact hr.le,hr.max,bX.onec hq,(fun e=>by cases e),fun _=>⟨K,0,rfl,ho K hK (by omega),Nat.lt_of_lt_of_le (h6.lt K rfl).2 hs,fun q u hqu=> ?_⟩⟩
         rw [Nat.zero_add]
         have hjl:j * 4+4 <= css.length:=by rw [hcl];omega
         rcases Nat.lt_or_ge q (j * 4)with hq1 | hq1
         . rw [List.append_assoc,List.getElem?_append_left (by simp;omega),List.getElem?_take_of_lt hq1]at hqu
           rw [hKin q (fun hh=> ?_)]
           . exact pV h6 _ _ hqu
           . rcases k6 with e | e
             . injection e with e1 e2;omega
             . omega
         . rcases Nat.lt_or_ge q (j * 4+4)with hq2 | hq2
           . rw [List.append_assoc,List.getElem?_append_right (by simp;omega),List.getElem?_append_left (by simp;omega)]at hqu
             have:=q1.2 (q - j * 4) u (by simpa [Nat.min_eq_left (show j * 4 <= css.length by omega)]using hqu)
             rw [show j * 4+(q - j * 4)=q by omega]at this
             exact this
           . rw [List.getElem?_append_right (by simp;omega),List.getElem?_drop]at hqu
             rw [hKin q (fun hh=> ?_)]
             . refine pV h6 _ _ ?_
               rw [<- hqu]
               congr 1
               simp [hc4]
               omega
             . rcases k6 with e | e
               . injection e with e1 e2;omega
               . omega
     . rw [List.getElem?_eq_none (by omega)]at hat
       cases hat
   . cases hat
theorem jY.form {w:World} {n:aK} {lo hi:Nat} {cs:List Value} (h:jY w n lo hi cs):∃l a1 n1 c1 a2 n2 c2 a3 n3 c3,cs= [.bool l, .slice a1 n1 c1, .slice a2 n2 c2, .slice a3 n3 c3]:=(jY.q (ok:=fun _=>True) (fun _ _ _=>trivial) h).form
theorem h_u {w:World} {M:Nat} {r:Option Nat} {sz n cap:Nat} {a:Option Addr} {cs:List Value} (h:RowQ w (fun b=>M <= b/\r≠some b) sz a n cap cs):RowQ w (fun b=>M <= b/\b < w.heap.size/\r≠some b) sz a n cap cs:=h.keep (a8) (fun _ _ _=>rfl) (fun b hb hlt=>⟨hb.1,hlt,hb.2⟩)
theorem kV {w:World} {ks:List aK} {lo hi g o:Nat} {css:List Value} {u:Value} (h:eX w ks lo hi css) (hg:g < lo):eX (w.setCell ⟨g,o,none⟩ u) ks lo hi css:=
 eX.keep (by simp [World.setCell]) (fun b hb _ _=>Below.heap_setCell w ⟨g,o,none⟩ u b (by show b≠g;omega)) h
def n_r (W:World) (n:aK) (e:Ending) (w':World):Prop:= ∃cs,e= .returned (.agg cs.toArray)/\jY w' n W.heap.size w'.heap.size cs/\Below W.heap.size W w'
theorem h_v (m:Nat):∀ (n:aK) (v:Value) (W:World),n.wt <= m ->n.wt <= 100000000 ->bY W W.heap.size n v ->Calls Tryz.prog 61 #[v] W (n_r W n):=by
 induction m with
 | zero=>intro n v W hm;have:=G5 n;omega
 | succ m IH=>
   intro n v W hm hbig hv
   obtain⟨l,ps,t,ks⟩:=n
   obtain⟨ap,cp,at_,ct,ak,ck,css,rfl,hp,ht,hk,hkk⟩:=hv.open
   have hwt:dX ks <= m:=by simp only [aK.wt]at hm;omega
   have hpl:ps.length <= 100000000:=by have:=rV ps;simp only [aK.wt]at hbig;omega
   have htl:t.length <= 100000000:=by simp only [aK.wt]at hbig;omega
   have hkl:ks.length <= 100000000:=by have:=fX ks;simp only [aK.wt]at hbig;omega
   have hkw:dX ks <= 100000000:=by simp only [aK.wt]at hbig;omega
   obtain⟨⟨at2,ct2,htv,htr⟩,htw⟩:=ht
   injection htv with e1 e2 e3
   subst e1;subst e3
   have hA:=(b6.fresh W (.bool l) (.slice ap ps.length cp) (.slice at_ t.length ct) (.slice ak ks.length ck)).alloc (Obj.cells #[.bool false, .slice none 0 0, .slice none 0 0, .slice none 0 0] 35)
   have hB:=m8 W (Obj.cells #[.bool l, .slice ap ps.length cp, .slice at_ t.length ct, .slice ak ks.length ck] 35) (.bool false) (.slice none 0 0) (.slice none 0 0) (.slice none 0 0)
   have hb0:Below W.heap.size W ((W.alloc (Obj.cells #[.bool l, .slice ap ps.length cp, .slice at_ t.length ct, .slice ak ks.length ck] 35)).alloc (Obj.cells #[.bool false, .slice none 0 0, .slice none 0 0, .slice none 0 0] 35)):=((a7).alloc (a8) _).alloc (by simp) _
   have hs0:((W.alloc (Obj.cells #[.bool l, .slice ap ps.length cp, .slice at_ t.length ct, .slice ak ks.length ck] 35)).alloc (Obj.cells #[.bool false, .slice none 0 0, .slice none 0 0, .slice none 0 0] 35)).heap.size=W.heap.size+2:=by simp
   have HI:=a6 (fun(i:Nat) (h:i < ks.length) (v:Value) (W2:World) (q:bY W2 W2.heap.size ks[i] v)=>IH ks[i] v W2 (aJ (iK (List.getElem_mem h)) hwt) (aJ (iK (List.getElem_mem h)) hkw) q)
   have Hp:=a6 (hp.keep hb0 (a8));have Ht:=a6 (htr.keep hb0 (a8));have Hk:=a6 (hk.keep hb0 (a8));have Hkk:=a6 (dQ.keep hb0 (a8) _ _ hkk)
   have Htone:=a6 (show ∀u∈t.map (Value.int .i32),u.oneCell'=true by intro u hu;obtain⟨z, -,rfl⟩:=List.mem_map.1 hu;rfl);have Hkkone:=a6 hkk.one
   have HkkW:=a6 hkk
   have Htw:=a6 htw;have Hb0:=a6 hb0;have HA:=a6 hA;have HB:=a6 hB;have Hs0:=a6 hs0
   clear IH hm hbig hv hp htr hk hkk htw hb0 hA hB hwt hkw hs0
   go_enter Tryz.func61,Tryz.ntmps61
   go_upto_region 1 with fail
   obtain⟨w0,hw0⟩:∃w0,w0=(W.alloc (Obj.cells #[.bool l, .slice ap ps.length cp, .slice at_ t.length ct, .slice ak ks.length ck] 35)).alloc (Obj.cells #[.bool false, .slice none 0 0, .slice none 0 0, .slice none 0 0] 35):=⟨_,rfl⟩
   rw [<- hw0]at Hp Ht Hk Hkk Hb0 HA HB Hs0⊢
   clear hw0
   obtain⟨x0,x1,x2,x3,⟨f0,f1,f2,f3⟩,hA4⟩:=HA.o.facts
   go_cut [] (fun wx=>∃pa pc ta tc ka kc,b6 wx W.heap.size (.bool l) (.slice pa ps.length pc) (.slice ta t.length tc) (.slice ka ks.length kc)/\b6 wx (W.heap.size+1) (.bool false) (.slice none 0 0) (.slice none 0 0) (.slice none 0 0)/\
    RowQ wx (fun b=>W.heap.size+2 <= b/\(Value.slice ka ks.length kc).ownBlock≠some b) 2 pa ps.length pc (bK ps)/\RowQ wx (fun b=>W.heap.size+2 <= b/\(Value.slice ka ks.length kc).ownBlock≠some b) 1 ta t.length tc (t.map (Value.int .i32))/\
    wx.ownsRow (W.heap.size+2) 35 4 (.slice ka ks.length kc) ks.length css/\Below W.heap.size W wx)
   case first=>
    go_region_law (first
     | (refine b9 rfl 113 _ _ rfl d_Z [Value.slice ap ps.length cp] ?_ _ (yY W.heap.size ps.length ap cp _ _ (Hp.o.keep ?_ (a8)) ?_ hpl) ?_
        . go_simp
        . exact(a7).drew
        . show W.heap.size <= w0.heap.size;rw [Hs0.o];omega
        rintro e w1 ⟨v1,rfl,hown,hbel⟩
        obtain⟨pa,pc,rfl, -⟩:=cK hown (m7 _)
        refine⟨_,rfl, ?_⟩
        have Hbel1:=a6 (((Below.refl w0.heap.size w0).drew).trans hbel);have Hown1:=a6 hown
        have hA1:=HA.o.keep (Hbel1.o.mono (by rw [Hs0.o];omega))
        obtain⟨y0,y1,y2,y3,⟨k0,k1,k2,k3⟩,hA5⟩:=hA1.facts
        clear hbel hown hA1)
     | (refine b9 rfl 114 _ _ rfl e_0 [Value.slice at_ t.length ct] ?_ _ (DQ W.heap.size t.length at_ ct _ _ (Ht.o.keep (Hbel1.o.mono ?_) (a8)) ?_ htl) ?_
        . go_simp
        . rw [Hs0.o];omega
        . have:=Hbel1.o.size;rw [Hs0.o]at this;omega
        rintro e w2 ⟨v2,rfl,hown,hbel⟩
        obtain⟨ta,tc,rfl, -⟩:=cK hown Htone.o
        refine⟨_,rfl, ?_⟩
        have Hbel2:=a6 (Hbel1.o.trans (hbel.mono Hbel1.o.size));have Hown2:=a6 hown;have Hbel12:=a6 hbel
        have hA1:=HA.o.keep (Hbel2.o.mono (by rw [Hs0.o];omega))
        obtain⟨z0,z1,z2,z3,⟨g0,g1,g2,g3⟩,hA6⟩:=hA1.facts
        clear hbel hown hA1)
     | (refine b9 rfl 115 _ _ rfl e_1 [Value.slice ak ks.length ck] ?_ _ (M0 W.heap.size ks.length ak ck _ _ (Hk.o.keep (Hbel2.o.mono ?_) (a8)) ?_ hkl) ?_
        . go_simp
        . rw [Hs0.o];omega
        . have:=Hbel2.o.size;rw [Hs0.o]at this;omega
        rintro e w3 ⟨v3,rfl,hown,hbel⟩
        obtain⟨ka,kc,rfl, -⟩:=cK hown Hkkone.o
        refine⟨_,rfl, ?_⟩
        have Hbel3:=a6 (Hbel2.o.trans (hbel.mono Hbel2.o.size));have Hown3:=a6 hown;have Hbel23:=a6 hbel
        have hA1:=HA.o.keep (Hbel3.o.mono (by rw [Hs0.o];omega))
        obtain⟨t0,t1,t2,t3,⟨r0,r1,r2,r3⟩,hA7⟩:=hA1.facts
        have HA3:=a6 hA1
        clear hbel hown hA1))
    all_goals
     go_wp2_with fail
     go_meet
     case rel=>
      have hM3:W.heap.size+2 <= w0.heap.size:=by rw [Hs0.o];omega
      have hrp:=KK (M:=W.heap.size+2) Hown1.o (m7 _) (Hbel12.o.trans (Hbel23.o.mono Hbel12.o.size)) Hown3.o Hbel12.o.size hM3
      have hrt:=KK (M:=W.heap.size+2) Hown2.o Htone.o Hbel23.o Hown3.o (a8) (aJ hM3 Hbel1.o.size)
      have hkM:W.heap.size+2 <= w2.heap.size:=aJ hM3 Hbel2.o.size
      have hn1:¬ (W.heap.size+2 <= W.heap.size/\(Value.slice ka ks.length kc).ownBlock≠some W.heap.size):=fun h=>by omega
      refine⟨pa,pc,ta,tc,ka,kc, ?_, ?_, ?_, ?_, ?_, ?_⟩
      . exact((HA3.o.s1 _).s2 _).s3 _
      . exact(((HB.o.keep (Hbel3.o.mono (by rw [Hs0.o];omega))).set (by omega)).set (by omega)).set (by omega)
      . exact aY (aY (aY hrp hn1) hn1) hn1
      . exact aY (aY (aY hrt hn1) hn1) hn1
      . exact lK (ownsRow_setCell_below (a:=⟨W.heap.size,3,none⟩) (ownsRow_setCell_below (a:=⟨W.heap.size,2,none⟩) (ownsRow_setCell_below (a:=⟨W.heap.size,1,none⟩) Hown3.o (show W.heap.size < w2.heap.size by omega) _) (show W.heap.size < w2.heap.size by omega) _) (show W.heap.size < w2.heap.size by omega) _) hkM
      . exact((((Hb0.o.trans (Hbel3.o.mono (by rw [Hs0.o];omega))).setCell (p:=⟨W.heap.size,1,none⟩) (a8) _).setCell (p:=⟨W.heap.size,2,none⟩) (a8) _).setCell (p:=⟨W.heap.size,3,none⟩) (a8) _)
   case rest=>
    obtain⟨pa,pc,ta,tc,ka,kc,hA,hB,hrp,hrt,hown,hbel⟩:=hcut
    obtain⟨y0,y1,y2,y3, -,hA5⟩:=hA.facts
    have HgM:=a6 (show ∀g,(Value.slice ka ks.length kc).ownBlock=some g ->g < wc.heap.size from fun g hg=>(hown.lt g hg).2)
    have HwM:=a6 (show W.heap.size+2 <= wc.heap.size from hB.facts.2.2.2.2.2)
    have Hi:=a6 (show _/\_/\_/\_/\_/\_ from⟨hA,hB,hrp,hrt,hown,hbel⟩)
    clear hA hB hrp hrt hown hbel x0 x1 x2 x3 f0 f1 f2 f3 hA4 HA HB Hp Ht Hk
    go_wp2_with fail
    clear y0 y1 y2 y3 hA5
    go_loopg [20] ks.length (fun g i wr=>∃ (j:Nat) (csN:List Value),i= .int .i64 j/\j+g=ks.length/\b6 wr W.heap.size (.bool l) (.slice pa ps.length pc) (.slice ta t.length tc) (.slice ka ks.length kc)/\b6 wr (W.heap.size+1) (.bool false) (.slice none 0 0) (.slice none 0 0) (.slice none 0 0)/\
     RowQ wr (fun b=>W.heap.size+2 <= b/\b < wc.heap.size/\(Value.slice ka ks.length kc).ownBlock≠some b) 2 pa ps.length pc (bK ps)/\RowQ wr (fun b=>W.heap.size+2 <= b/\b < wc.heap.size/\(Value.slice ka ks.length kc).ownBlock≠some b) 1 ta t.length tc (t.map (Value.int .i32))/\
     wr.ownsRow (W.heap.size+2) 35 4 (.slice ka ks.length kc) ks.length (csN ++ css.drop (j * 4))/\eX wr (ks.take j) wc.heap.size wr.heap.size csN/\Below W.heap.size W wr)
    case atStart=>
     obtain⟨hA,hB,hrp,hrt,hown,hbel⟩:=Hi.o
     exact⟨0, [],rfl,by omega,hA,hB,h_u hrp,h_u hrt,by simpa using hown,by rw [List.take_zero];unfold eX;exact⟨rfl,a8⟩,hbel⟩
    case round=>
     obtain⟨j,csN,rfl,hg,hA,hB,hrp,hrt,hown,hkids,hbel⟩:=hrel
     obtain⟨y0,y1,y2,y3,⟨p0,p1,p2,p3⟩,hA5⟩:=hA.facts
     obtain⟨z0,z1,z2,z3,⟨q0,q1,q2,q3⟩,hB5⟩:=hB.facts
     have hcl:=bX.len' (eX.q (ok:=fun _=>True) (fun _ _ _=>trivial) hkids)
     have hMr:=hkids.le
     have hclen:=Hkk.o.len
     have HA2:=a6 hA;have HB2:=a6 hB;have Hrp:=a6 hrp;have Hrt:=a6 hrt;have Hown:=a6 hown;have Hkids:=a6 hkids;have Hbel:=a6 hbel
     clear hA hB hrp hrt hkids
     by_cases hlt:j < ks.length
     . obtain ⟨c,hc,hall⟩:=HkkW.o.at_ j hlt
       have hc':=dJ.keep hbel (a8) _ _ hc
       obtain⟨l1,a1,n1,c1,a2,n2,c2,a3,n3,c3,rfl⟩:=hc'.form
       have hcj:csN.length=j * 4:=by rw [hcl,List.length_take,Nat.min_eq_left (by omega)]
       have hjl:j * 4+4 <= css.length:=by rw [hclen];omega
       obtain⟨g,rfl,hgM⟩:=A6 Hown.o (by
        intro e
        have:=congrArg List.length e
        simp only [List.length_append,List.length_drop,List.length_nil]at this
        omega)
       have hgl:g < wr.heap.size:=(Hown.o.lt g rfl).2
       have hat:∀i,i < 4 ->(csN ++ css.drop (j * 4))[j * 4+i]? = [Value.bool l1, .slice a1 n1 c1, .slice a2 n2 c2, .slice a3 n3 c3][i]? :=by
        intro i hi
        rw [List.getElem?_append_right (by omega),List.getElem?_drop,hcj,show j * 4+(j * 4+i - j * 4)=j * 4+i by omega]
        exact hall i hi
       have k0:=pV Hown.o _ _ (hat 0 (by omega))
       have k1:=pV Hown.o _ _ (hat 1 (by omega))
       have k2:=pV Hown.o _ _ (hat 2 (by omega))
       have k3:=pV Hown.o _ _ (hat 3 (by omega))
       have hdrop:∃x0 x1 x2 x3,css.drop (j * 4)=x0::x1::x2::x3::css.drop ((j+1) * 4):=by
        refine⟨css[j * 4],css[j * 4+1],css[j * 4+2],css[j * 4+3], ?_⟩
        rw [List.drop_eq_getElem_cons (by omega),List.drop_eq_getElem_cons (by omega),List.drop_eq_getElem_cons (by omega),List.drop_eq_getElem_cons (by omega)]
        rw [show (j+1) * 4=j * 4+1+1+1+1 by omega]
       have hlti:(j:Int) < ks.length:=by omega
       have HC:=a6 (fun(W':World) (hbw:Below wr.heap.size wr W')=>HI.o j hlt (.agg #[.bool l1, .slice a1 n1 c1, .slice a2 n2 c2, .slice a3 n3 c3]) W' ⟨_,rfl,dJ.keep (hbw.mono hbel.size) (aJ hbel.size hbw.size) _ _ hc'⟩)
       have Hdrop:=a6 hdrop;have Hcj:=a6 hcj
       have hW:=hbel.size
       have hgne:g≠W.heap.size:=by omega
       clear hc hc' hall hat hdrop hcj hown hbel Hi hcl hclen hjl
       simp only [Nat.add_zero]at k0
       go_wp2_with fail
       go_region_law (first
        | (refine b9 rfl 61 _ _ rfl IY [Value.agg #[.bool l1, .slice a1 n1 c1, .slice a2 n2 c2, .slice a3 n3 c3]] ?_ _ (HC.o _ ?_) ?_
           . go_simp
           . exact((a7).alloc (a8) _).drew
           rintro e w6 ⟨cs',rfl,hnode,hbel6⟩
           obtain⟨m1,b1,o1,d1,b2,o2,d2,b3,o3,d3,rfl⟩:=hnode.form
           refine⟨_,rfl, ?_⟩
           have Hb6:=a6 ((((Below.refl wr.heap.size wr).alloc (a8) (Obj.cells #[.bool l1, .slice a1 n1 c1, .slice a2 n2 c2, .slice a3 n3 c3] 35)).drew).trans (hbel6.mono (by show wr.heap.size <= (wr.alloc _).heap.size;simp)))
           have hA6:=HA2.o.keep (Hb6.o.mono (by omega))
           have hown6:=j4 Hown.o Hb6.o
           have r0:=hown6.frozenAt (j * 4);have r1:=hown6.frozenAt (j * 4+1);have r2:=hown6.frozenAt (j * 4+2);have r3:=hown6.frozenAt (j * 4+3)
           have hg6:=(hown6.lt g rfl).2
           have k0':=(Hb6.o.cell (p:=⟨g,j * 4,none⟩) hgl).trans k0;have k1':=(Hb6.o.cell (p:=⟨g,j * 4+1,none⟩) hgl).trans k1;have k2':=(Hb6.o.cell (p:=⟨g,j * 4+2,none⟩) hgl).trans k2;have k3':=(Hb6.o.cell (p:=⟨g,j * 4+3,none⟩) hgl).trans k3
           obtain⟨s0,s1,s2,s3, -,hA7⟩:=hA6.facts
           have HA6:=a6 hA6;have Hown6:=a6 hown6;have Hnode:=a6 hnode
           clear hA6 hown6 hnode hbel6))
       all_goals
        go_wp2_with fail
        go_roundg (gk - 1)
        case measure=>omega
        case rel=>
         have hz:(Value.slice (some ⟨g,0,none⟩) ks.length kc).ownBlock=some g:=by simp [Value.ownBlock]
         obtain⟨x0,x1,x2,x3,hdr⟩:=Hdrop.o
         have hs:=(((Hown6.o.stored (j * 4) (.bool m1)).1.stored (j * 4+1) (.slice b1 o1 d1)).1.stored (j * 4+2) (.slice b2 o2 d2)).1.stored (j * 4+3) (.slice b3 o3 d3) |>.1
         rw [b_U Hcj.o hdr]at hs
         have hng:¬ (W.heap.size+2 <= g/\g < wc.heap.size/\(Value.slice (some ⟨g,0,none⟩) ks.length kc).ownBlock≠some g):=fun h=>h.2.2 hz
         have hgM2:=HgM.o g hz
         have hk6:=eX.keep (w':=w6) Hb6.o.size (fun b _ _ hlt=>Hb6.o.block b hlt) Hkids.o
         have hrp6:=Hrp.o.keep (w':=w6) (ok':=fun b=>W.heap.size+2 <= b/\b < wc.heap.size/\(Value.slice (some ⟨g,0,none⟩) ks.length kc).ownBlock≠some b) Hb6.o.size (fun b _ hlt=>Hb6.o.block b hlt) (fun b hb _=>hb)
         have hrt6:=Hrt.o.keep (w':=w6) (ok':=fun b=>W.heap.size+2 <= b/\b < wc.heap.size/\(Value.slice (some ⟨g,0,none⟩) ks.length kc).ownBlock≠some b) Hb6.o.size (fun b _ hlt=>Hb6.o.block b hlt) (fun b hb _=>hb)
         have hB6:=HB2.o.keep (Hb6.o.mono (by omega))
         have hsz:=Hb6.o.size
         have hkk:=kV (o:=j * 4+3) (u:= .slice b3 o3 d3) (kV (o:=j * 4+2) (u:= .slice b2 o2 d2) (kV (o:=j * 4+1) (u:= .slice b1 o1 d1) (kV (o:=j * 4) (u:= .bool m1) ((hk6.up (by simp)).snoc Hnode.o) hgM2) hgM2) hgM2) hgM2
         rw [<- List.take_succ_eq_append_getElem hlt]at hkk
         refine⟨j+1,csN ++ [.bool m1, .slice b1 o1 d1, .slice b2 o2 d2, .slice b3 o3 d3],rfl,by omega, ?_, ?_, ?_, ?_,hs,hkk.up (by simp [World.setCell]), ?_⟩
         . exact(((HA6.o.set hgne.symm).set hgne.symm).set hgne.symm).set hgne.symm
         . exact(((hB6.set (by omega)).set (by omega)).set (by omega)).set (by omega)
         . exact aY (aY (aY (aY hrp6 hng) hng) hng) hng
         . exact aY (aY (aY (aY hrt6 hng) hng) hng) hng
         . exact((((fV Hbel.o Hb6.o (a8)).setCell (p:=⟨g,j * 4,none⟩) (by show W.heap.size <= g;omega) _).setCell (p:=⟨g,j * 4+1,none⟩) (by show W.heap.size <= g;omega) _).setCell (p:=⟨g,j * 4+2,none⟩) (by show W.heap.size <= g;omega) _).setCell (p:=⟨g,j * 4+3,none⟩) (by show W.heap.size <= g;omega) _
     . have hnl:decide ((j:Int) < ks.length)=false:=by simp;omega
       clear hown hbel Hi
       go_wp2_with fail
       refine bodyPost_ret (v:= .agg #[.bool l, .slice pa ps.length pc, .slice ta t.length tc, .slice ka ks.length kc]) (by simp [results,Tryz.results61,go_sem,z0,z1,z2,z3]) rfl ?_
       have hj:j=ks.length:=by omega
       have hown2:=Hown.o
       have hkids2:=Hkids.o
       rw [hj,List.take_length]at hkids2
       rw [hj,List.drop_eq_nil_of_le (by omega),List.append_nil]at hown2
       have hn1:¬ (W.heap.size+2 <= W.heap.size+1/\W.heap.size+1 < wc.heap.size/\(Value.slice ka ks.length kc).ownBlock≠some (W.heap.size+1)):=fun h=>by omega
       have hMw:=HwM.o
       have hbo:∀ {w:World} {e sz n o:Nat} {v u:Value} {cs:List Value},w.ownsRow (W.heap.size+2) e sz v n cs ->(w.setCell ⟨W.heap.size+1,o,none⟩ u).ownsRow (W.heap.size+2) e sz v n cs:=fun h=>ownsRow_setCell_below (a:=⟨W.heap.size+1,_,none⟩) h (by show W.heap.size+1 < _;omega) _
       refine⟨[.bool l, .slice pa ps.length pc, .slice ta t.length tc, .slice ka ks.length kc],rfl, ?_, ?_⟩
       . unfold jY
         refine⟨wc.heap.size,pa,pc,ta,tc,ka,kc,csN,by omega,rfl, ?_, ?_,Htw.o, ?_,HgM.o, ?_⟩
         . exact(F4 Hrp.o hn1 _ _ _ _).keep (a8) (fun _ _ _=>rfl) (fun b hb _=>⟨by omega,hb.2⟩)
         . exact(F4 Hrt.o hn1 _ _ _ _).keep (a8) (fun _ _ _=>rfl) (fun b hb _=>⟨by omega,hb.2⟩)
         . exact lK (hbo (hbo (hbo (hbo hown2)))) (by omega)
         . exact(kV (kV (kV (kV hkids2 (by omega)) (by omega)) (by omega)) (by omega)).up (by simp [World.setCell])
       . with_reducible exact iQ Hbel.o (Nat.le_succ _) _ _ _ _
theorem b_V {w:World} {i:Int} {p:List Int} {b off kb ko n c:Nat} (h:w.cell? ⟨b,off+3,none⟩=some (.slice (some ⟨kb,ko,none⟩) n c)):oQ w (i::p) b off=oQ w p kb (ko+i.toNat * 4):=by
 show (match w.cell? ⟨b,off+3,none⟩with | some (.slice (some a) _ _)=>oQ w p a.block (a.off+i.toNat * 4) | _=>(b,off))=_
 rw [h]
theorem n_s (n m:aK) (p:List Int) (a:Option Addr) (cap:Nat) (b off B:Nat) (w:World) (hn:b_b w B b off n) (hr:RowA w B 1 a p.length cap (p.map (Value.int .i64))) (hat:kK n p=some m):
 Calls Tryz.prog 60 #[.pointer (some ⟨b,off,none⟩), .slice a p.length cap] w (fun e w'=>e= .returned (.tuple #[.pointer (some ⟨(oQ w p b off).1,(oQ w p b off).2,none⟩), .int .i64 0])/\w=w'):=by
 have hm:p.length <= 9223372036854775807:=by have h1:=hr.le;have h2:=hr.max;unfold maxLen at h2;omega
 obtain⟨R,hR⟩:∃R,R=oQ w p b off:=⟨_,rfl⟩
 rw [<- hR]
 have HR:=a6 hR;have Hn:=a6 hn;have Hat0:=a6 hat
 clear hR hn hat
 go_enter Tryz.func60,Tryz.ntmps60
 go_wp2_with fail
 go_loopg [0,10] p.length (fun g q i wr=>∃ (k b' off':Nat) (n':aK),q= .pointer (some ⟨b',off',none⟩)/\i= .int .i64 k/\k+g=p.length/\Hid (kK n' (p.drop k)=some m)/\Hid (oQ w (p.drop k) b' off'=R)/\b_b w B b' off' n'/\wr=w)
 case atStart=>exact⟨0,b,off,n,rfl,rfl,by omega,Hat0,(show _=R from HR.o.symm),Hn.o,rfl⟩
 case round=>
  obtain⟨k,b',off',n',rfl,rfl,hg,Hat,Had,hn',rfl⟩:=hrel
  have Hn':=a6 hn'
  obtain⟨l,a1,n1,c1,a2,n2,c2,a3,n3,c3,hnc,x0,x1,x2,x3⟩:=hn'
  clear Hn HR Hat0
  by_cases hlt:k < p.length
  . have hd:p.drop k=p[k]::p.drop (k+1):=List.drop_eq_getElem_cons hlt
    have Hd:=a6 hd
    obtain⟨pb,po,rfl,hpb,hcell0⟩:=hr.int_at k hlt
    have hcell:=hcell0 k hlt
    rw [fJ hlt]at hcell
    clear hcell0
    generalize p[k]=i at hcell Hd
    have hlti:(k:Int) < p.length:=by omega
    clear hd
    obtain⟨l',ps',t',ks'⟩:=n'
    have hnc2:=hnc
    unfold dJ at hnc2
    obtain⟨ap,cp,at_,ct,ak,ck,css,hcs, -, -, -,hk,hkk⟩:=hnc2
    injection hcs with e0 e1;injection e1 with e1 e2;injection e2 with e2 e3;injection e3 with e3 e4
    injection e3 with f1 f2 f3
    subst f1;subst f2;subst f3
    clear e0 e1 e2 e4 hnc
    have hat2:=Hat.o
    rw [Hd.o]at hat2
    simp only [kK,aQ]at hat2
    split at hat2
    . rename_i h0
      obtain⟨j,rfl⟩:∃j:Nat,i=j:=⟨i.toNat,by omega⟩
      rw [Int.toNat_natCast]at hat2
      by_cases hj:j < ks'.length
      . rw [List.getElem?_eq_getElem hj]at hat2
        simp only at hat2
        obtain⟨kb,ko,l1,b1,o1,d1,b2,o2,d2,b3,o3,d3,rfl,hkb,hkn,g0,g1,g2,g3⟩:=hk.kid_at hkk j hj
        have Hkn:=a6 (show b_b wr B kb (ko+j * 4) ks'[j]from⟨l1,b1,o1,d1,b2,o2,d2,b3,o3,d3,hkn,g0,g1,g2,g3⟩)
        have Had2:Hid (oQ wr (p.drop (k+1)) kb (ko+j * 4)=R):=by
         show _=R
         rw [<- Had.o,Hd.o,b_V x3,Int.toNat_natCast]
        have Hat2:=a6 hat2
        have hnl:decide ((j:Int) < 0)=false:=by simp
        have hji:(j:Int) < ks'.length:=by omega
        have hge:decide ((ks'.length:Int) <= j)=false:=by simp;omega
        clear hkn hk hkk Hat hat2 Had
        go_wp2_with fail
        go_roundg (gk - 1)
        case measure=>omega
        case rel=>exact⟨k+1,kb,ko+j * 4,ks'[j],rfl,rfl,by omega,Hat2,Had2,Hkn.o,rfl⟩
      . rw [List.getElem?_eq_none (by omega)]at hat2
        cases hat2
    . cases hat2
  . have hnl:decide ((k:Int) < p.length)=false:=by simp;omega
    have HR2:Hid ((b',off')=R):=by
     show _=R
     rw [<- Had.o,List.drop_eq_nil_of_le (by omega)]
     rfl
    clear Hat Had hnc
    go_wp2_with fail
    go_ret2
    rw [<- HR2.o]
    exact⟨rfl,rfl⟩
end Go.Proofs.YtmadpclcmjahoaaGreatDoor
namespace Go.Redl
open Go.RowKit
abbrev A7:=Int×List UInt8
abbrev vQ:=List UInt8×A7
structure bJ where
 type:List UInt8
 text:A7
 other:A7
 kids:List vQ
 fill:Int
 fillT:List UInt8
structure b8 where
 rules:List bJ
 els:bJ
 order:List Int
 cap:Int
abbrev aV (s:List UInt8):Value:= .string ⟨s.toArray⟩
def oV (a:A7):List Value:= [.int .i64 a.1,aV a.2]
def dY (l:List vQ):List Value:=l.flatMap fun p=> [aV p.1, .int .i64 p.2.1,aV p.2.2]
theorem d_5 (l:List vQ):∀u∈dY l,u.oneCell'=true:=by
 intro u hu
 simp only [dY,List.mem_flatMap]at hu
 obtain⟨p, -,hp⟩:=hu
 simp at hp
 rcases hp with rfl | rfl | rfl <;> rfl
theorem a_e:∀ (l:List vQ) (i:Nat) (hi:i < l.length),(dY l)[i * 3]? =some (aV l[i].1)/\(dY l)[i * 3+1]? =some (.int .i64 l[i].2.1)/\(dY l)[i * 3+2]? =some (aV l[i].2.2)
 | [],i,hi=>absurd hi (by simp)
 | p::l,0,hi=>by simp [dY]
 | p::l,i+1,hi=>by
   have h:=a_e l i (by simpa using hi)
   have e:dY (p::l)=aV p.1:: .int .i64 p.2.1::aV p.2.2::dY l:=by simp [dY]
   rw [e,show (i+1) * 3=i * 3+1+1+1 by omega]
   simpa using h
def mZ (r:bJ) (a:Option Addr) (c:Nat):List Value:= [aV r.type, .int .i64 r.text.1,aV r.text.2, .int .i64 r.other.1,aV r.other.2, .slice a r.kids.length c, .int .i64 r.fill,aV r.fillT]
def DV (w:World) (B:Nat) (r:bJ) (cs:List Value):Prop:= ∃a c,cs=mZ r a c/\RowA w B 3 a r.kids.length c (dY r.kids)
def g8 (w:World) (B:Nat):List bJ ->List Value ->Prop
 | [],css=>css= []
 | r::rs,css=>∃c1 c2,css=c1 ++ c2/\DV w B r c1/\g8 w B rs c2
def a_f (w:World) (B:Nat) (s:b8) (cs:List Value):Prop:=
 ∃a c css ec,cs= .slice a s.rules.length c::(ec ++ (s.order.map (Value.int .i64) ++ [.int .i64 s.cap]))/\RowA w B 8 a s.rules.length c css/\g8 w B s.rules css/\DV w B s.els ec/\s.order.length=6
def SchemaV (w:World) (B:Nat) (s:b8) (v:Value):Prop:= ∃cs:List Value,v= .agg cs.toArray/\a_f w B s cs
theorem DV.keep {w w':World} {B B':Nat} {r:bJ} {cs:List Value} (h:DV w B r cs) (hb:Below B w w') (hB:B <= B'):DV w' B' r cs:=by
 obtain⟨a,c,h1,h2⟩:=h
 exact⟨a,c,h1,h2.keep hb hB⟩
theorem g8.keep {w w':World} {B B':Nat} (hb:Below B w w') (hB:B <= B'):∀ {rs:List bJ} {css:List Value},g8 w B rs css ->g8 w' B' rs css
 | [],css,h=>h
 | r::rs,css,h=>by
   obtain⟨c1,c2,h1,h2,h3⟩:=h
   exact⟨c1,c2,h1,h2.keep hb hB,g8.keep hb hB h3⟩
theorem a_f.keep {w w':World} {B B':Nat} {s:b8} {cs:List Value} (h:a_f w B s cs) (hb:Below B w w') (hB:B <= B'):a_f w' B' s cs:=by
 obtain⟨a,c,css,ec,h1,h2,h3,h4,h5⟩:=h
 exact⟨a,c,css,ec,h1,h2.keep hb hB,g8.keep hb hB h3,h4.keep hb hB,h5⟩
theorem SchemaV.keep {w w':World} {B B':Nat} {s:b8} {v:Value} (h:SchemaV w B s v) (hb:Below B w w') (hB:B <= B'):SchemaV w' B' s v:=by
 obtain⟨cs,h1,h2⟩:=h
 exact⟨cs,h1,h2.keep hb hB⟩
theorem DV.one {w:World} {B:Nat} {r:bJ} {cs:List Value} (h:DV w B r cs):∀u∈cs,u.oneCell'=true:=by
 obtain⟨a,c,rfl, -⟩:=h
 intro u hu
 simp [mZ]at hu
 rcases hu with rfl | rfl | rfl | rfl | rfl | rfl | rfl | rfl <;> rfl
theorem DV.len {w:World} {B:Nat} {r:bJ} {cs:List Value} (h:DV w B r cs):cs.length=8:=by
 obtain⟨a,c,rfl, -⟩:=h
 rfl
theorem g8.one {w:World} {B:Nat}:∀ {rs:List bJ} {css:List Value},g8 w B rs css ->∀u∈css,u.oneCell'=true
 | [],css,h=>by rw [show css= []from h];simp
 | r::rs,css,h=>by
   obtain⟨c1,c2,rfl,h2,h3⟩:=h
   intro u hu
   rcases List.mem_append.1 hu with hu | hu
   . exact h2.one u hu
   . exact g8.one h3 u hu
theorem g8.at_ {w:World} {B:Nat}:∀ {rs:List bJ} {css:List Value},g8 w B rs css ->∀ (k:Nat) (hk:k < rs.length),∃cs,DV w B rs[k] cs/\∀j u,cs[j]? =some u ->css[k * 8+j]? =some u
 | [],css,h,k,hk=>absurd hk (by simp)
 | r::rs,css,h,0,hk=>by
   obtain⟨c1,c2,rfl,h2,h3⟩:=h
   refine⟨c1,h2,fun j u hj=> ?_⟩
   rw [Nat.zero_mul,Nat.zero_add,List.getElem?_append_left (List.getElem?_eq_some_iff.1 hj).1]
   exact hj
 | r::rs,css,h,k+1,hk=>by
   obtain⟨c1,c2,rfl,h2,h3⟩:=h
   obtain⟨cs,h4,h5⟩:=g8.at_ h3 k (by simpa using hk)
   refine⟨cs,h4,fun j u hj=> ?_⟩
   rw [List.getElem?_append_right (by rw [h2.len];omega),h2.len,show (k+1) * 8+j - 8=k * 8+j by omega]
   exact h5 j u hj
theorem RowA.rule_at {w:World} {B n cap:Nat} {a:Option Addr} {rs:List bJ} {css:List Value} (h:RowA w B 8 a n cap css) (hr:g8 w B rs css) (k:Nat) (hk:k < rs.length):
 ∃b off ra rc,a=some ⟨b,off,none⟩/\b < B/\RowA w B 3 ra rs[k].kids.length rc (dY rs[k].kids)/\∀j u,(mZ rs[k] ra rc)[j]? =some u ->w.cell? ⟨b,off+k * 8+j,none⟩=some u:=by
 obtain⟨cs,⟨ra,rc,rfl,h2⟩,h3⟩:=hr.at_ k hk
 have h0:=h3 0 _ (show (mZ rs[k] ra rc)[0]? =some (aV rs[k].type)from rfl)
 obtain⟨b,off,ha,hb,hc⟩:=h.some_ (by rintro rfl;simp at h0)
 refine⟨b,off,ra,rc,ha,hb,h2,fun j u hj=> ?_⟩
 have:=hc _ u (h3 j u hj)
 rwa [<- Nat.add_assoc]at this
theorem RowA.pair_at {w:World} {B n cap:Nat} {a:Option Addr} {l:List vQ} (h:RowA w B 3 a n cap (dY l)) (k:Nat) (hk:k < l.length):
 ∃b off,a=some ⟨b,off,none⟩/\b < B/\w.cell? ⟨b,off+k * 3,none⟩=some (aV l[k].1)/\w.cell? ⟨b,off+k * 3+1,none⟩=some (.int .i64 l[k].2.1)/\w.cell? ⟨b,off+k * 3+2,none⟩=some (aV l[k].2.2):=by
 obtain⟨h1,h2,h3⟩:=a_e l k hk
 obtain⟨b,off,ha,hb,hc⟩:=h.some_ (by intro e;rw [e]at h1;simp at h1)
 exact⟨b,off,ha,hb,hc _ _ h1,by have:=hc _ _ h2;rwa [<- Nat.add_assoc]at this,by have:=hc _ _ h3;rwa [<- Nat.add_assoc]at this⟩
def A5:List vQ ->Nat
 | []=>0
 | p::l=>3+p.1.length+p.2.2.length+A5 l
def bJ.wt (r:bJ):Nat:=6+r.type.length+r.text.2.length+r.other.2.length+r.fillT.length+A5 r.kids
def sQ:List bJ ->Nat
 | []=>0
 | r::rs=>r.wt+sQ rs
def b8.wt (s:b8):Nat:=sQ s.rules+s.els.wt
theorem b_d (l:List vQ):3 * l.length <= A5 l:=by
 induction l with
 | nil=>simp [A5]
 | cons p l ih=>simp only [A5,List.length_cons];omega
theorem b_e {l:List vQ} {p:vQ} (h:p∈l):3+p.1.length+p.2.2.length <= A5 l:=by
 induction l with
 | nil=>cases h
 | cons q l ih=>
   simp only [A5]
   rcases List.mem_cons.1 h with rfl | h
   . omega
   . have:=ih h;omega
theorem pJ (l:List bJ):6 * l.length <= sQ l:=by
 induction l with
 | nil=>simp [sQ]
 | cons p l ih=>simp only [sQ,bJ.wt,List.length_cons];omega
theorem DX {l:List bJ} {r:bJ} (h:r∈l):r.wt <= sQ l:=by
 induction l with
 | nil=>cases h
 | cons q l ih=>
   simp only [sQ]
   rcases List.mem_cons.1 h with rfl | h
   . omega
   . have:=ih h;omega
end Go.Redl
namespace Go.Proofs.YtmadpclcmjahoaaGreatDoor
open Go.RowKit Go.Redl Go.Deep
def ActΦ {H:Type} (a:A7) (cs:List Value) (d:DataW H):Prop:=cs=oV a/\1+a.2.length <= Rows.uptoBulk d
def PairΦ {H:Type} (p:vQ) (cs:List Value) (d:DataW H):Prop:=cs= [aV p.1, .int .i64 p.2.1,aV p.2.2]/\3+p.1.length+p.2.2.length <= Rows.uptoBulk d
def RuleΦ {H:Type} (W:World) (r:bJ) (cs:List Value) (d:DataW H):Prop:=DV W W.heap.size r cs/\r.wt <= Rows.uptoBulk d
theorem J0 {H:Type} {enc:TypeId×Value ->H} {W:World} {fuel:Nat} {cs:List Value} {x:DataW H×List MemPlace} (h:DataW.trod enc Tryz.prog W 0 (fun _=>true) true fuel 24 cs=some x):∃a,ActΦ a cs x.1:=by
 obtain⟨xs,n,rfl,rfl,hl,hx,hf⟩:=DataW.trod_struct Tryz.underlying24 h
 rw [show Tryz.prog.cellsOf 24=2 by kernel_rfl]at hl
 match xs,hx,cs,hl with
 | [y0,y1],_, [v0,v1],_=>
   have g0:=hf 0 _ rfl
   have g1:=hf 1 _ rfl
   have k0:Tryz.prog.cellsOf 3=1:=by kernel_rfl
   have k1:Tryz.prog.cellsOf 9=1:=by kernel_rfl
   simp [k0,k1]at g0 g1
   obtain⟨z,e0,rfl, -⟩:=DataW.trod_int Tryz.underlying3 g0
   obtain⟨s,e1,rfl, -⟩:=DataW.trod_string Tryz.underlying9 g1
   simp at e0 e1
   subst e0;subst e1
   refine⟨(z,s.data.toList), ?_, ?_⟩
   . simp only [oV,aV,DK]
   . simp [Rows.uptoBulk,Rows.uptoBulkAll];omega
theorem e_2 {H:Type} {enc:TypeId×Value ->H} {W:World} {fuel:Nat} {cs:List Value} {x:DataW H×List MemPlace} (h:DataW.trod enc Tryz.prog W 0 (fun _=>true) true fuel 140 cs=some x):∃p,PairΦ p cs x.1:=by
 obtain⟨xs,n,rfl,rfl,hl,hx,hf⟩:=DataW.trod_struct Tryz.underlying140 h
 rw [show Tryz.prog.cellsOf 140=3 by kernel_rfl]at hl
 match xs,hx,cs,hl with
 | [y0,y1],_, [v0,v1,v2],_=>
   have g0:=hf 0 _ rfl
   have g1:=hf 1 _ rfl
   have k0:Tryz.prog.cellsOf 9=1:=by kernel_rfl
   have k1:Tryz.prog.cellsOf 24=2:=by kernel_rfl
   simp [k0,k1]at g0 g1
   obtain⟨s,e0,rfl, -⟩:=DataW.trod_string Tryz.underlying9 g0
   obtain⟨a,ha,hb⟩:=J0 g1
   simp [oV]at e0 ha
   obtain⟨rfl,rfl⟩:=ha
   subst e0
   refine⟨(s.data.toList,a), ?_, ?_⟩
   . simp only [aV,DK]
   . simp [Rows.uptoBulk,Rows.uptoBulkAll]at *;omega
theorem b_f {H:Type}:∀ {l:List vQ} {css:List Value} {ds:List (DataW H)},F0 PairΦ l css ds ->css=dY l/\A5 l <= Rows.uptoBulkAll ds
 | [],css,ds,h=>by obtain⟨rfl,rfl⟩:=h;exact⟨rfl,by simp [A5]⟩
 | p::l,css,ds,h=>by
   obtain⟨c,cs,d,ds',rfl,rfl,⟨rfl,hb⟩,hr⟩:=h
   obtain⟨rfl,h2⟩:=b_f hr
   exact⟨by simp [dY],by simp only [A5,Rows.uptoBulkAll];omega⟩
theorem b_g {H:Type} {W:World}:∀ {l:List bJ} {css:List Value} {ds:List (DataW H)},F0 (RuleΦ W) l css ds ->g8 W W.heap.size l css/\sQ l <= Rows.uptoBulkAll ds
 | [],css,ds,h=>by obtain⟨rfl,rfl⟩:=h;exact⟨rfl,by simp [sQ]⟩
 | r::l,css,ds,h=>by
   obtain⟨c,cs,d,ds',rfl,rfl,⟨hk,hb⟩,hr⟩:=h
   obtain⟨h2,h3⟩:=b_g hr
   exact⟨⟨c,cs,rfl,hk,h2⟩,by simp only [sQ,Rows.uptoBulkAll];omega⟩
theorem a_g {H:Type} {enc:TypeId×Value ->H} {W:World} {fuel:Nat} {cs:List Value} {x:DataW H×List MemPlace} (h:DataW.trod enc Tryz.prog W 0 (fun _=>true) true fuel 27 cs=some x):∃r,RuleΦ W r cs x.1:=by
 obtain⟨xs,n,rfl,rfl,hl,hx,hf⟩:=DataW.trod_struct Tryz.underlying27 h
 rw [show Tryz.prog.cellsOf 27=8 by kernel_rfl]at hl
 match xs,hx,cs,hl with
 | [y0,y1,y2,y3,y4,y5],_, [v0,v1,v2,v3,v4,v5,v6,v7],_=>
   have g0:=hf 0 _ rfl
   have g1:=hf 1 _ rfl
   have g2:=hf 2 _ rfl
   have g3:=hf 3 _ rfl
   have g4:=hf 4 _ rfl
   have g5:=hf 5 _ rfl
   have k0:Tryz.prog.cellsOf 9=1:=by kernel_rfl
   have k1:Tryz.prog.cellsOf 24=2:=by kernel_rfl
   have k2:Tryz.prog.cellsOf 25=1:=by kernel_rfl
   have k3:Tryz.prog.cellsOf 3=1:=by kernel_rfl
   simp [k0,k1,k2,k3]at g0 g1 g2 g3 g4 g5
   obtain⟨s0,e0,rfl, -⟩:=DataW.trod_string Tryz.underlying9 g0
   obtain⟨a1,e1,b1⟩:=J0 g1
   obtain⟨a2,e2,b2⟩:=J0 g2
   obtain⟨a3,c3,ps,css3,ds3,e3,r3,el3,s3⟩:=vJ PairΦ Tryz.underlying25 (show Tryz.prog.cellsOf 140=3 by kernel_rfl) (by decide)
    (fun m cs x _ hx=>e_2 hx) (fun y c d hh=>by obtain⟨rfl, -⟩:=hh;intro u hu;simp at hu;rcases hu with rfl | rfl | rfl <;> rfl) g3
   obtain⟨z4,e4,rfl, -⟩:=DataW.trod_int Tryz.underlying3 g4
   obtain⟨s5,e5,rfl, -⟩:=DataW.trod_string Tryz.underlying9 g5
   simp [oV]at e0 e1 e2 e3 e4 e5
   obtain⟨rfl,rfl⟩:=e1
   obtain⟨rfl,rfl⟩:=e2
   subst e0;subst e3;subst e4;subst e5
   obtain⟨rfl,b3⟩:=b_f el3
   have m3:=yV (n:=0) (s3.imp (fun h=>⟨h.1,rfl,h.2.2⟩) id)
   refine⟨⟨s0.data.toList,a1,a2,ps,z4,s5.data.toList⟩,⟨a3,c3, ?_,r3⟩, ?_⟩
   . simp only [mZ,aV,DK]
   . simp [bJ.wt,Rows.uptoBulk,Rows.uptoBulkAll]at *;omega
theorem b_W {H:Type} {enc:TypeId×Value ->H} {W:World} {fuel:Nat} {cs:List Value} {x:DataW H×List MemPlace} (h:DataW.trod enc Tryz.prog W 0 (fun _=>true) true fuel 30 cs=some x):∃s,a_f W W.heap.size s cs/\s.wt <= Rows.uptoBulk x.1:=by
 obtain⟨xs,n,rfl,rfl,hl,hx,hf⟩:=DataW.trod_struct Tryz.underlying30 h
 rw [show Tryz.prog.cellsOf 30=16 by kernel_rfl]at hl
 match xs,hx,cs,hl with
 | [y0,y1,y2,y3],_, [v0,v1,v2,v3,v4,v5,v6,v7,v8,v9,v10,v11,v12,v13,v14,v15],_=>
   have g0:=hf 0 _ rfl
   have g1:=hf 1 _ rfl
   have g2:=hf 2 _ rfl
   have g3:=hf 3 _ rfl
   have k0:Tryz.prog.cellsOf 22=1:=by kernel_rfl
   have k1:Tryz.prog.cellsOf 27=8:=by kernel_rfl
   have k2:Tryz.prog.cellsOf 28=6:=by kernel_rfl
   have k3:Tryz.prog.cellsOf 3=1:=by kernel_rfl
   simp [k0,k1,k2,k3]at g0 g1 g2 g3
   obtain⟨a0,c0,rs,css0,ds0,e0,r0,el0,s0⟩:=vJ (RuleΦ W) Tryz.underlying22 (show Tryz.prog.cellsOf 27=8 by kernel_rfl) (by decide)
    (fun m cs x _ hx=>a_g hx) (fun y c d hh=>hh.1.one) g0
   obtain⟨er,hec,eb⟩:=a_g g1
   obtain⟨ys,m, -, -, -,hyl,hy⟩:=DataW.trod_array Tryz.underlying28 g2
   rw [k3]at hy
   have o0:=hy 0 (by decide)
   have o1:=hy 1 (by decide)
   have o2:=hy 2 (by decide)
   have o3:=hy 3 (by decide)
   have o4:=hy 4 (by decide)
   have o5:=hy 5 (by decide)
   match ys,hyl with
   | [q0,q1,q2,q3,q4,q5],_=>
     simp at o0 o1 o2 o3 o4 o5
     obtain⟨z0,f0, -, -⟩:=DataW.trod_int Tryz.underlying3 o0
     obtain⟨z1,f1, -, -⟩:=DataW.trod_int Tryz.underlying3 o1
     obtain⟨z2,f2, -, -⟩:=DataW.trod_int Tryz.underlying3 o2
     obtain⟨z3,f3, -, -⟩:=DataW.trod_int Tryz.underlying3 o3
     obtain⟨z4,f4, -, -⟩:=DataW.trod_int Tryz.underlying3 o4
     obtain⟨z5,f5, -, -⟩:=DataW.trod_int Tryz.underlying3 o5
     obtain⟨z6,f6, -, -⟩:=DataW.trod_int Tryz.underlying3 g3
     simp at e0 f0 f1 f2 f3 f4 f5 f6
     subst e0;subst f0;subst f1;subst f2;subst f3;subst f4;subst f5;subst f6
     obtain⟨hrs,b0⟩:=b_g el0
     have m0:=yV (n:=0) (s0.imp (fun h=>⟨h.1,rfl,h.2.2⟩) id)
     refine⟨⟨rs,er, [z0,z1,z2,z3,z4,z5],z6⟩,⟨a0,c0,css0,_,rfl,r0,hrs,hec,rfl⟩, ?_⟩
     simp only [b8.wt,List.map_cons,List.map_nil,Rows.uptoBulk,Rows.uptoBulkAll]
     omega
def aZ:aK ->Bool
 | .mk l _ _ _=>l
def cV:aK ->List eK
 | .mk _ ps _ _=>ps
def gJ:aK ->List Int
 | .mk _ _ t _=>t
def rX (p:Nat ->Bool) (n:Nat):Int:=match (List.range n).find? p with
 | some k=>k
 | none=> -1
theorem qQ {p:Nat ->Bool} {n k:Nat} (hk:k < n) (h:p k=true) (hb:∀j,j < k ->p j=false):rX p n=k:=by
 unfold rX
 have:(List.range n).find? p=some k:=by
  rw [List.find?_range_eq_some]
  exact⟨h,by simpa using hk,fun j hj=>by simp [hb j hj]⟩
 rw [this]
theorem oX {p:Nat ->Bool} {n:Nat} (hb:∀j,j < n ->p j=false):rX p n= -1:=by
 unfold rX
 have:(List.range n).find? p=none:=by
  rw [List.find?_eq_none]
  intro x hx
  simp [hb x (by simpa using hx)]
 rw [this]
theorem kQ (p:Nat ->Bool) (n:Nat):(∃k,k < n/\p k=true/\(∀j,j < k ->p j=false)/\rX p n=k)∨ ((∀j,j < n ->p j=false)/\rX p n= -1):=by
 cases h:(List.range n).find? p with
 | none=>
   have hb:∀j,j < n ->p j=false:=fun j hj=>by
    rw [List.find?_eq_none]at h
    simpa using h j (by simpa using hj)
   exact .inr ⟨hb,oX hb⟩
 | some k=>
   rw [List.find?_range_eq_some]at h
   obtain⟨h1,h2,h3⟩:=h
   have hk:k < n:=by simpa using h2
   have hb:∀j,j < k ->p j=false:=fun j hj=>by simpa using h3 j hj
   exact .inl ⟨k,hk,h1,hb,qQ hk h1 hb⟩
theorem b_X {α :Type} {l:List α} {q: α ->Bool} {k:Nat} (hk:k < l.length) (h:q l[k]=true) (hb:∀j (hj:j < k),q (l[j]'(by omega))=false):l.find? q=some l[k]:=by
 rw [List.find?_eq_some_iff_getElem]
 exact⟨h,k,hk,rfl,fun j hj=>by simp [hb j hj]⟩
theorem a_O {α :Type} {l:List α} {q: α ->Bool} (hb:∀j (hj:j < l.length),q l[j]=false):l.find? q=none:=by
 rw [List.find?_eq_none]
 intro x hx
 obtain⟨j,hj,rfl⟩:=List.mem_iff_getElem.1 hx
 simp [hb j hj]
def F6:List UInt8:= [116,121,112,101]
def d_6 (ps:List eK) (k:List UInt8):Option (List UInt8):=(ps.find? (fun p=>decide (p.1=k))).map (·.2)
def dZ (n:aK):List UInt8:=if aZ n then [] else (d_6 (cV n) F6).getD []
def bV (s:b8) (kind:List UInt8):bJ:=(s.rules.find? (fun r=>decide (r.type=kind))).getD s.els
def j8 (r:bJ) (kind:List UInt8):A7:=((r.kids.find? (fun p=>decide (p.1=kind))).map (·.2)).getD r.other
def eY (r:bJ) (n:aK):A7:=if aZ n then r.text else j8 r (dZ n)
theorem d_k {α :Type} (q: α ->Bool):∀ (l:List α) (m:Nat) (hm:m <= l.length),(∀j (hj:j < m),q (l[j]'(by omega))=true) ->(∀h:m < l.length,q l[m]=false) ->(l.takeWhile q).length=m
 | [],m,hm,h1,h2=>by simp at hm;subst hm;rfl
 | x::l,0,hm,h1,h2=>by
   have:=h2 (by simp)
   simp at this
   simp [this]
 | x::l,m+1,hm,h1,h2=>by
   have h0:=h1 0 (by omega)
   simp at h0
   rw [List.takeWhile_cons,if_pos h0,List.length_cons,d_k q l m (by simpa using hm) (fun j hj=>by simpa using h1 (j+1) (by omega)) (fun h=>h2 (Nat.succ_lt_succ h))]
def a_P (l:List A7) (i:Nat):Nat:=1+((l.drop (i+1)).takeWhile (fun a=>decide (a=l.getD i (0, [])))).length
theorem e_3 {l:List A7} {i m:Nat} (hi:i < l.length) (h0:1 <= m) (hm:i+m <= l.length) (h1:∀j (hj:j < m),l[i+j]'(by omega)=l[i]) (h2:∀h:i+m < l.length,l[i+m]≠l[i]):a_P l i=m:=by
 have hg:l.getD i (0, [])=l[i]:=by simp [List.getD,List.getElem?_eq_getElem hi]
 unfold a_P
 rw [hg,d_k (fun a=>decide (a=l[i])) (l.drop (i+1)) (m - 1) (by simp;omega) (fun j hj=> ?_) (fun h=> ?_)]
 . omega
 . have:=h1 (j+1) (by omega)
   simp only [List.getElem_drop,decide_eq_true_eq]
   rw [<- this]
   congr 1
   omega
 . have:=h2 (by simp at h;omega)
   simp only [List.getElem_drop,decide_eq_false_iff_not]
   intro e
   refine this (Eq.trans ?_ e)
   congr 1
   omega
abbrev kX (r:bJ) (ks:List aK):List A7:=ks.map (eY r)
abbrev cX (ks:List aK) (i:Nat):aK:=ks.getD i (.mk false [] [] [])
def M3 (r:bJ) (ks:List aK) (c:Int) (i:Nat):Bool:=
 if c=1 then decide ((eY r (cX ks i)).1=2) else if c=2 then decide ((eY r (cX ks i)).1=3) else if c=3 then decide ((eY r (cX ks i)).1=4)
 else if c=4 then decide (0 < i) && (aZ (cX ks i) && (aZ (cX ks (i - 1)) && decide (cV (cX ks i)=cV (cX ks (i - 1)))))
 else if c=5 then aZ (cX ks i) && (decide ((gJ (cX ks i)).length=0) && decide (1 < ks.length)) else false
def i7 (r:bJ) (ks:List aK) (c:Int):Int:=if c=6 then (if ks.length=0/\r.fill≠0 then 0 else -1) else rX (M3 r ks c) ks.length
def i9 (r:bJ) (ks:List aK) (c:Int):Nat:=if c=3 then a_P (kX r ks) (i7 r ks c).toNat else 1
abbrev qJ:=Int×Int×Int
def B5 (r:bJ) (ks:List aK):List Int ->qJ
 | []=>(0,0,0)
 | c::cs=>if 0 <= i7 r ks c then (c,i7 r ks c,(i9 r ks c:Int)) else B5 r ks cs
def g9 (s:b8) (n:aK):qJ:=if aZ n then (0,0,0) else B5 (bV s (dZ n)) (aQ n) s.order
theorem J1 {r:bJ} {ks:List aK} {c:Int} (h:0 <= i7 r ks c):1 <= c/\c <= 6:=by
 unfold i7 at h
 split at h
 . omega
 . rename_i h6
   rcases kQ (M3 r ks c) ks.length with⟨k,hk,hp, -, -⟩ | ⟨-,e⟩
   . unfold M3 at hp
     split at hp
     . omega
     split at hp
     . omega
     split at hp
     . omega
     split at hp
     . omega
     split at hp
     . omega
     . cases hp
   . rw [e]at h;omega
structure j7 where
 kind:Int
 path:List Int
 dest:List Int
 pos:Int
 node:aK
 old:List eK
abbrev bZ:aK:= .mk false [] [] []
def fQ (kind:List UInt8):aK:= .mk false (if kind= [] then [] else [(F6,kind)]) [] []
def G6:aK ->aK
 | .mk l ps t _=> .mk l ps t []
def lX (r:bJ) (ks:List aK) (p:List Int) (f:qJ):List j7:=
 if f.1=1∨f.1=5 then [⟨2,p ++ [f.2.1], [],0,cX ks f.2.1.toNat, []⟩]
 else if f.1=2 then (List.range (aQ (cX ks f.2.1.toNat)).length).map (fun i:Nat=>(⟨5,p ++ [f.2.1,0],p ++ [f.2.1+(1+(i:Int))],0,bZ, []⟩:j7)) ++ [⟨2,p ++ [f.2.1], [],0,G6 (cX ks f.2.1.toNat), []⟩]
 else if f.1=3 then ⟨1,p ++ [f.2.1], [],0,fQ (eY r (cX ks f.2.1.toNat)).2, []⟩::(List.range f.2.2.toNat).map (fun i:Nat=>(⟨5,p ++ [f.2.1+1],p ++ [f.2.1,(i:Int)],0,bZ, []⟩:j7))
 else if f.1=4 then [⟨3,p ++ [f.2.1], [],(gJ (cX ks (f.2.1.toNat - 1))).length,bZ,cV (cX ks f.2.1.toNat)⟩]
 else [⟨1,p ++ [f.2.1], [],0,if r.fill=1 then .mk true [] [] [] else fQ r.fillT, []⟩]
def D4 (s:b8) (n:aK) (p:List Int):List j7×Int:=
 match kK n p with
 | none=>([],5)
 | some k=>if aZ k then ([],7) else if (g9 s k).1=0 then ([],14) else (lX (bV s (dZ k)) (aQ k) p (g9 s k),0)
end Go.Proofs.YtmadpclcmjahoaaGreatDoor
