/- Parts of the proof: 10. -/
import Derived.Test.YtmadpclcmjahoaaGreatDoorFN1
import Derived.Test.YtmadpclcmjahoaaGreatDoorFN9
set_option linter.unusedVariables false
set_option linter.unusedSimpArgs false
set_option maxHeartbeats 8000000
set_option maxRecDepth 100000
namespace Go.Proofs.YtmadpclcmjahoaaGreatDoor
open Go.RowKit Go.Redl
def vX (W:World) (R:aK×Int) (e:Ending) (w':World):Prop:=
 Below W.heap.size W w'/\if R.2=0 then ∃cs,e= .returned (.tuple #[.agg cs.toArray, .int .i64 0])/\NodeQ w' (fun b=>W.heap.size <= b) R.1 cs
  else e= .returned (.tuple #[.agg #[.bool false, .slice none 0 0, .slice none 0 0, .slice none 0 0], .int .i64 R.2])
theorem vX.of_changed {W w:World} {n:aK} {p:List Int} {R:aK ->aK×Int} {e:Ending} {w':World} {r:aK×Int} (hb:Below W.heap.size W w) (h:e_Q w n p R e w')
 (hr:r=match kK n p with | none=>(bZ,5) | some m=>if (R m).2=0 then (gY n p (R m).1,0) else (bZ,(R m).2)):vX W r e w':=by
 obtain⟨h1,h2⟩:=h
 refine⟨hb.trans (h1.mono hb.size), ?_⟩
 subst hr
 cases hat:kK n p with
 | none=>rw [hat]at h2;simp only;rw [if_neg (by decide)];exact h2
 | some m=>
   rw [hat]at h2
   simp only at h2⊢
   by_cases hz:(R m).2=0
   . rw [if_pos hz]at h2
     simp only [hz,if_true]
     obtain⟨cs,rfl,hq⟩:=h2
     exact⟨cs,rfl,NodeQ.keep (a8) (fun _ _ _=>rfl) (fun x hx _=>aJ hb.size hx) _ _ hq⟩
   . rw [if_neg hz]at h2
     simp only [hz,if_false]
     exact h2
theorem GX {W w0 w1:World} {N:Nat} {r:aK} {l:Bool} {b1 b2 b3:Option Addr} {o1 o2 o3 d1 d2 d3:Nat} (hb:Below W.heap.size W w1) (hW:W.heap.size <= w0.heap.size) (hN:N < w0.heap.size) (hN2:W.heap.size <= N) (hq:NodeQ w1 (fun b=>w0.heap.size <= b) r [.bool l, .slice b1 o1 d1, .slice b2 o2 d2, .slice b3 o3 d3]):
 vX W (r,0) (.returned (.tuple #[.agg #[.bool l, .slice b1 o1 d1, .slice b2 o2 d2, .slice b3 o3 d3], .int .i64 0])) ((((w1.setCell ⟨N,0,none⟩ (.bool l)).setCell ⟨N,1,none⟩ (.slice b1 o1 d1)).setCell ⟨N,2,none⟩ (.slice b2 o2 d2)).setCell ⟨N,3,none⟩ (.slice b3 o3 d3)):=by
 refine⟨iQ hb hN2 _ _ _ _, ?_⟩
 rw [if_pos rfl]
 have hne:¬ (w0.heap.size <= N):=by omega
 exact⟨_,rfl,NodeQ.keep (a8) (fun _ _ _=>rfl) (fun b hb _=>aJ hW hb) _ _ (cQ (cQ (cQ (cQ hq hne) hne) hne) hne)⟩
theorem h_H {W w1:World} {N:Nat} {r:aK×Int} (hb:Below W.heap.size W w1) (hN2:W.heap.size <= N) (hr:r.2≠0):
 vX W r (.returned (.tuple #[.agg #[.bool false, .slice none 0 0, .slice none 0 0, .slice none 0 0], .int .i64 r.2])) ((((w1.setCell ⟨N,0,none⟩ (.bool false)).setCell ⟨N,1,none⟩ (.slice none 0 0)).setCell ⟨N,2,none⟩ (.slice none 0 0)).setCell ⟨N,3,none⟩ (.slice none 0 0)):=by
 refine⟨iQ hb hN2 _ _ _ _, ?_⟩
 rw [if_neg hr]
theorem vX.cases {W:World} {R:aK×Int} {e:Ending} {w':World} (h:vX W R e w'):Below W.heap.size W w'/\((R.2=0/\∃l b1 o1 d1 b2 o2 d2 b3 o3 d3,e= .returned (.tuple #[.agg #[.bool l, .slice b1 o1 d1, .slice b2 o2 d2, .slice b3 o3 d3], .int .i64 0])/\NodeQ w' (fun b=>W.heap.size <= b) R.1 [.bool l, .slice b1 o1 d1, .slice b2 o2 d2, .slice b3 o3 d3])∨
 (R.2≠0/\e= .returned (.tuple #[.agg #[.bool false, .slice none 0 0, .slice none 0 0, .slice none 0 0], .int .i64 R.2]))):=by
 obtain⟨h1,h2⟩:=h
 refine⟨h1, ?_⟩
 by_cases hz:R.2=0
 . rw [if_pos hz]at h2
   obtain⟨cs,rfl,hq⟩:=h2
   obtain⟨l,b1,o1,d1,b2,o2,d2,b3,o3,d3,rfl⟩:=hq.form
   exact .inl ⟨hz,l,b1,o1,d1,b2,o2,d2,b3,o3,d3,rfl,hq⟩
 . rw [if_neg hz]at h2
   exact .inr ⟨hz,h2⟩
theorem n_D (n m':aK) (p:List Int) (v v':Value) (pa:Option Addr) (pc:Nat) (W:World) (hbig:n.wt <= 100000000) (hbig':m'.wt <= 100000000) (hv:bY W W.heap.size n v) (hv':bY W W.heap.size m' v') (hp:RowA W W.heap.size 1 pa p.length pc (p.map (Value.int .i64))):
 Calls Tryz.prog 185 #[v, .slice pa p.length pc,v'] W (vX W (j_K n p m')):=by
 obtain⟨R,hR⟩:∃R,R=j_K n p m':=⟨_,rfl⟩
 rw [<- hR]
 have HR:=a6 hR
 obtain⟨csn,rfl,hc⟩:=hv
 obtain⟨l,a1,n1,c1,a2,n2,c2,a3,n3,c3,rfl⟩:=hc.form
 obtain⟨csm,rfl,hcm⟩:=hv'
 obtain⟨e0,b1,m1,d1,b2,m2,d2,b3,m3,d3,rfl⟩:=hcm.form
 clear hR
 obtain⟨w0,hw0⟩:∃w0,w0=((W.alloc (Obj.cells #[.bool l, .slice a1 n1 c1, .slice a2 n2 c2, .slice a3 n3 c3] 35)).alloc (Obj.cells #[.bool e0, .slice b1 m1 d1, .slice b2 m2 d2, .slice b3 m3 d3] 35)).alloc (Obj.cells #[.bool false, .slice none 0 0, .slice none 0 0, .slice none 0 0] 35):=⟨_,rfl⟩
 have hb0:Below W.heap.size W w0:=by rw [hw0];exact iX _ _ _ _
 have hA:b6 w0 W.heap.size (.bool l) (.slice a1 n1 c1) (.slice a2 n2 c2) (.slice a3 n3 c3):=by rw [hw0];exact((b6.fresh W _ _ _ _).alloc _).alloc _
 have hM:b6 w0 (W.heap.size+1) (.bool e0) (.slice b1 m1 d1) (.slice b2 m2 d2) (.slice b3 m3 d3):=by rw [hw0];exact(m8 W _ _ _ _ _).alloc _
 have hB:b6 w0 (W.heap.size+1+1) (.bool false) (.slice none 0 0) (.slice none 0 0) (.slice none 0 0):=by rw [hw0];exact At.third W _ _ _ _
 have hs0:w0.heap.size=W.heap.size+3:=by rw [hw0];simp
 have hvm:bY w0 w0.heap.size m' (.agg #[.bool e0, .slice b1 m1 d1, .slice b2 m2 d2, .slice b3 m3 d3]):=⟨_,rfl,dJ.keep hb0 hb0.size _ _ hcm⟩
 have HC:=a6 (a_Q 238 #[.pointer (some ⟨W.heap.size+1,0,none⟩)] j_L n p (.agg #[.bool l, .slice a1 n1 c1, .slice a2 n2 c2, .slice a3 n3 c3]) pa pc (fun _=>(m',0)) w0 hbig ⟨_,rfl,dJ.keep hb0 hb0.size _ _ hc⟩ (hp.keep hb0 hb0.size) (fun m _=>m_R m' m (W.heap.size+1) e0 b1 b2 b3 m1 m2 m3 d1 d2 d3 w0 hM hvm hbig'))
 obtain⟨y0,y1,y2,y3, -, -⟩:=hA.facts
 have Hw0:=a6 hw0;have Hb0:=a6 hb0;have HB:=a6 hB;have Hs0:=a6 hs0
 clear hc hcm hb0 hA hM hB hs0 hvm hp hw0
 go_enter Tryz.func185,Tryz.ntmps185
 go_upto_region 1 with fail
 rw [<- Hw0.o]
 clear Hw0
 go_wp2_with fail
 refine HC.o.mono ?_
 intro e w1 hch
 have ht:vX w0 R e w1:=vX.of_changed (a7) hch (by rw [HR.o];unfold j_K;cases kK n p <;> rfl)
 clear HR
 obtain⟨R1,R2⟩:=R
 have hB1:=HB.o.keep (hch.1.mono (by rw [Hs0.o];omega))
 obtain⟨x0,x1,x2,x3,⟨f0,f1,f2,f3⟩, -⟩:=hB1.facts
 obtain⟨hb1,⟨hz,l',k1,o1,r1,k2,o2,r2,k3,o3,r3,rfl,hq⟩ | ⟨hz,rfl⟩⟩:=ht.cases
 . simp only at hz
   subst hz
   have Hq:=a6 hq;have Hb1:=a6 (Hb0.o.trans (hb1.mono Hb0.o.size))
   clear HC hch ht hB1 hb1 hq y0 y1 y2 y3
   go_wp2_with fail
   refine bodyPost_ret (v:= .tuple #[.agg #[.bool l', .slice k1 o1 r1, .slice k2 o2 r2, .slice k3 o3 r3], .int .i64 0]) (by simp [results,Tryz.results185,go_sem,x0,x1,x2,x3,f0,f1,f2,f3]) rfl ?_
   exact GX (N:=W.heap.size+1+1) Hb1.o Hb0.o.size (by rw [Hs0.o];omega) (by omega) Hq.o
 . have Hz:=a6 hz;have Hb1:=a6 (Hb0.o.trans (hb1.mono Hb0.o.size))
   clear HC hch ht hB1 hb1 hz y0 y1 y2 y3
   simp only
   go_wp2_with fail
   refine bodyPost_ret (v:= .tuple #[.agg #[.bool false, .slice none 0 0, .slice none 0 0, .slice none 0 0], .int .i64 R2]) (by simp [results,Tryz.results185,go_sem,x0,x1,x2,x3,f0,f1,f2,f3]) rfl ?_
   exact h_H (N:=W.heap.size+1+1) (r:=(R1,R2)) Hb1.o (by omega) Hz.o
theorem e_e {w:World} {B pc:Nat} {a:Option Addr} {q:List Int} {i:Int} (h:RowA w B 1 a (q ++ [i]).length pc ((q ++ [i]).map (Value.int .i64))):
 ∃b off,a=some ⟨b,off,none⟩/\b < B/\w.cell? ⟨b,off+q.length,none⟩=some (.int .i64 i)/\RowA w B 1 (some ⟨b,off,none⟩) q.length pc (q.map (Value.int .i64)):=by
 obtain⟨b,off,ha,hb,hc⟩:=h.some_ (by simp)
 have hle:=h.le
 rw [List.length_append,List.length_singleton]at hle
 refine⟨b,off,ha,hb,hc _ _ (by simp),⟨by simp,by omega,h.max,(by intro u hu;obtain⟨z, -,rfl⟩:=List.mem_map.1 hu;rfl),(fun e=>by cases e),fun _=>⟨b,off,rfl,hb,fun j u hj=>hc j u ?_⟩⟩⟩
 rw [List.map_append,List.getElem?_append_left]
 . exact hj
 . rcases Nat.lt_or_ge j (q.map (Value.int .i64)).length with h | h
   . exact h
   . rw [List.getElem?_eq_none h]at hj;cases hj
theorem l_H (n m':aK) (v v':Value) (pa:Option Addr) (pc:Nat) (W:World) (hv:bY W W.heap.size n v) (hv':bY W W.heap.size m' v'):
 Calls Tryz.prog 121 #[v, .slice pa 0 pc,v'] W (vX W (bZ,6)):=by
 obtain⟨csn,rfl,hc⟩:=hv
 obtain⟨l,a1,n1,c1,a2,n2,c2,a3,n3,c3,rfl⟩:=hc.form
 obtain⟨csm,rfl,hcm⟩:=hv'
 obtain⟨e0,b1,m1,d1,b2,m2,d2,b3,m3,d3,rfl⟩:=hcm.form
 clear hc hcm
 go_enter Tryz.func121,Tryz.ntmps121
 go_wp2_with fail
 refine bodyPost_ret (v:= .tuple #[.agg #[.bool false, .slice none 0 0, .slice none 0 0, .slice none 0 0], .int .i64 6]) (by simp [results,Tryz.results121,go_sem]) rfl ?_
 exact⟨iX _ _ _ _,by rw [if_neg (by decide)]⟩
theorem m_T (m' m:aK) (i:Int) (M N:Nat) (e0:Bool) (a1 a2 a3:Option Addr) (n1 n2 n3 q1 q2 q3:Nat) (W:World) (hM:W.cell? ⟨M,0,none⟩=some (.int .i64 i)) (hMW:M < W.heap.size) (hN:At W N [.bool e0, .slice a1 n1 q1, .slice a2 n2 q2, .slice a3 n3 q3] 35) (hv:bY W W.heap.size m' (.agg #[.bool e0, .slice a1 n1 q1, .slice a2 n2 q2, .slice a3 n3 q3])) (hbig:m'.wt <= 100000000) (hn:m.wt <= 100000000):
 i_8 182 #[.pointer (some ⟨M,0,none⟩), .pointer (some ⟨N,0,none⟩)] W m (a_S i m' m):=by
 by_cases he:(a_S i m' m).2=0
 . unfold a_S at he⊢
   split at he
   . cases he
   . rename_i hl
     rw [if_neg hl]
     split at he
     . cases he
     . rename_i hi
       rw [if_neg hi]
       obtain⟨k,rfl⟩:∃k:Nat,i=k:=⟨i.toNat,by omega⟩
       rw [Int.toNat_natCast]
       have hk:(aQ m).length <= 100000000:=by obtain⟨l,ps,t,ks⟩:=m;have:=fX ks;simp only [aK.wt]at hn;simp only [aQ];omega
       exact l_F m' m k M N e0 a1 a2 a3 n1 n2 n3 q1 q2 q3 W hM hMW hN hv hbig (by simpa using hl) (by omega) hk
 . exact l_E m' m i M N W hM hMW he
theorem j_T (n m':aK) (q:List Int) (i:Int) (v v':Value) (pa:Option Addr) (pc:Nat) (W:World) (hbig:n.wt <= 100000000) (hbig':m'.wt <= 100000000) (hv:bY W W.heap.size n v) (hv':bY W W.heap.size m' v') (hp:RowA W W.heap.size 1 pa (q ++ [i]).length pc ((q ++ [i]).map (Value.int .i64))) (hq:q.length <= 1000000):
 Calls Tryz.prog 121 #[v, .slice pa (q ++ [i]).length pc,v'] W (vX W (FK n (q ++ [i]) m')):=by
 obtain⟨R,hR⟩:∃R,R=FK n (q ++ [i]) m':=⟨_,rfl⟩
 rw [<- hR]
 have HR:=a6 hR
 obtain⟨pb,po,rfl,hpb,hpi,hpq⟩:=e_e hp
 have hpc:q.length+1 <= pc:=by have:=hp.le;simpa using this
 have hpm:=hp.max
 unfold maxLen at hpm
 rw [List.length_append,List.length_singleton]at *
 obtain⟨csn,rfl,hc⟩:=hv
 obtain⟨l,a1,n1,c1,a2,n2,c2,a3,n3,c3,rfl⟩:=hc.form
 obtain⟨csm,rfl,hcm⟩:=hv'
 obtain⟨e0,b1,m1,d1,b2,m2,d2,b3,m3,d3,rfl⟩:=hcm.form
 clear hR hp
 obtain⟨w0,hw0⟩:∃w0,w0=((W.alloc (Obj.cells #[.bool l, .slice a1 n1 c1, .slice a2 n2 c2, .slice a3 n3 c3] 35)).alloc (Obj.cells #[.bool e0, .slice b1 m1 d1, .slice b2 m2 d2, .slice b3 m3 d3] 35)).alloc (Obj.cells #[.bool false, .slice none 0 0, .slice none 0 0, .slice none 0 0] 35):=⟨_,rfl⟩
 have hb0:Below W.heap.size W w0:=by rw [hw0];exact iX _ _ _ _
 have hA:b6 w0 W.heap.size (.bool l) (.slice a1 n1 c1) (.slice a2 n2 c2) (.slice a3 n3 c3):=by rw [hw0];exact((b6.fresh W _ _ _ _).alloc _).alloc _
 have hM:b6 w0 (W.heap.size+1) (.bool e0) (.slice b1 m1 d1) (.slice b2 m2 d2) (.slice b3 m3 d3):=by rw [hw0];exact(m8 W _ _ _ _ _).alloc _
 have hB:b6 w0 (W.heap.size+1+1) (.bool false) (.slice none 0 0) (.slice none 0 0) (.slice none 0 0):=by rw [hw0];exact At.third W _ _ _ _
 have hs0:w0.heap.size=W.heap.size+3:=by rw [hw0];simp
 have y0:w0.cell? ⟨pb,po+q.length,none⟩=some (.int .i64 i):=(hb0.cell (p:=⟨pb,po+q.length,none⟩) hpb).trans hpi
 have hpbw:pb < w0.heap.size:=Nat.lt_of_lt_of_le hpb hb0.size
 have HA:=a6 hA;have HM:=a6 hM;have HB:=a6 hB
 have Hw0:=a6 hw0;have Hb0:=a6 hb0;have Hs0:=a6 hs0;have Hc:=a6 hc;have Hcm:=a6 hcm;have Hpq:=a6 hpq
 have h1:((q.length:Int)+1) - 1=(q.length:Int):=by omega
 have h2:(q.length:Int) <= (pc:Int):=by omega
 clear hc hcm hb0 hA hM hB hs0 hw0 hpq hpi
 go_enter Tryz.func121,Tryz.ntmps121
 go_upto_region 1 with fail
 rw [<- Hw0.o]
 clear Hw0
 go_upto_region 3 with fail
 go_region
 obtain⟨w1,hw1⟩:∃w1,w1=(w0.alloc (Obj.cells #[.int .i64 i] 3)).drew:=⟨_,rfl⟩
 rw [<- hw1]
 have hb1:Below w0.heap.size w0 w1:=by rw [hw1];exact(aX _ _).drew
 have hI:At w1 w0.heap.size [.int .i64 i] 3:=by rw [hw1];exact At.fresh w0 _ _
 have hbb:=Hb0.o.trans (hb1.mono Hb0.o.size)
 have hA1:=HA.o.keep (hb1.mono (by rw [Hs0.o];omega));have hM1:=HM.o.keep (hb1.mono (by rw [Hs0.o];omega))
 have HB1:=a6 (HB.o.keep (hb1.mono (by rw [Hs0.o];omega)))
 have hvm:bY w1 w1.heap.size m' (.agg #[.bool e0, .slice b1 m1 d1, .slice b2 m2 d2, .slice b3 m3 d3]):=⟨_,rfl,dJ.keep hbb hbb.size _ _ Hcm.o⟩
 have HC:=a6 (a_Q 182 #[.pointer (some ⟨w0.heap.size,0,none⟩), .pointer (some ⟨W.heap.size+1,0,none⟩)] j_M n q (.agg #[.bool l, .slice a1 n1 c1, .slice a2 n2 c2, .slice a3 n3 c3]) (some ⟨pb,po,none⟩) pc (a_S i m') w1 hbig ⟨_,rfl,dJ.keep hbb hbb.size _ _ Hc.o⟩ (Hpq.o.keep hbb hbb.size) (fun m hm=>m_T m' m i w0.heap.size (W.heap.size+1) e0 b1 b2 b3 m1 m2 m3 d1 d2 d3 w1 (hI.cell 0 rfl) hI.lt hM1 hvm hbig' (aJ (uK q n m hm) hbig)))
 obtain⟨x0,x1,x2,x3, -, -⟩:=hA1.facts
 have Hbb:=a6 hbb
 have Hs1:=a6 (show W.heap.size+3 <= w1.heap.size by have:=hb1.size;rw [Hs0.o]at this;exact this)
 clear hw1 hb1 hI hbb hA1 hM1 hvm y0 HA HM HB
 go_wp2_with fail
 refine HC.o.mono ?_
 intro e w2 hch
 have ht:vX w1 R e w2:=vX.of_changed (a7) hch (by
  rw [HR.o]
  unfold FK
  rw [if_neg (by simp),m9,vV]
  cases kK n q with
  | none=>rfl
  | some k=>
    simp only [a_S]
    split
    . rfl
    . split <;> rfl)
 clear HR
 obtain⟨R1,R2⟩:=R
 have hB2:=HB1.o.keep (hch.1.mono (by have:=Hs1.o;omega))
 obtain⟨z0,z1,z2,z3,⟨f0,f1,f2,f3⟩, -⟩:=hB2.facts
 obtain⟨hb2,⟨hz,l',k1,o1,r1,k2,o2,r2,k3,o3,r3,rfl,hq⟩ | ⟨hz,rfl⟩⟩:=ht.cases
 . simp only at hz
   subst hz
   have Hq:=a6 hq;have Hb2:=a6 (Hbb.o.trans (hb2.mono Hbb.o.size))
   clear HC hch ht hB2 hb2 hq x0 x1 x2 x3
   go_wp2_with fail
   refine bodyPost_ret (v:= .tuple #[.agg #[.bool l', .slice k1 o1 r1, .slice k2 o2 r2, .slice k3 o3 r3], .int .i64 0]) (by simp [results,Tryz.results121,go_sem,z0,z1,z2,z3,f0,f1,f2,f3]) rfl ?_
   exact GX (N:=W.heap.size+1+1) Hb2.o Hbb.o.size (by have:=Hs1.o;omega) (by omega) Hq.o
 . have Hz:=a6 hz;have Hb2:=a6 (Hbb.o.trans (hb2.mono Hbb.o.size))
   clear HC hch ht hB2 hb2 hz x0 x1 x2 x3
   simp only
   go_wp2_with fail
   refine bodyPost_ret (v:= .tuple #[.agg #[.bool false, .slice none 0 0, .slice none 0 0, .slice none 0 0], .int .i64 R2]) (by simp [results,Tryz.results121,go_sem,z0,z1,z2,z3,f0,f1,f2,f3]) rfl ?_
   exact h_H (N:=W.heap.size+1+1) (r:=(R1,R2)) Hb2.o (by omega) Hz.o
theorem m_y (n m':aK) (p:List Int) (v v':Value) (pa:Option Addr) (pc:Nat) (W:World) (hbig:n.wt <= 100000000) (hbig':m'.wt <= 100000000) (hv:bY W W.heap.size n v) (hv':bY W W.heap.size m' v') (hp:RowA W W.heap.size 1 pa p.length pc (p.map (Value.int .i64))) (hq:p.length <= 1000000):
 Calls Tryz.prog 121 #[v, .slice pa p.length pc,v'] W (vX W (FK n p m')):=by
 rcases List.eq_nil_or_concat p with rfl | ⟨q,i,rfl⟩
 . exact l_H n m' v v' pa pc W hv hv'
 . rw [List.concat_eq_append]at *
   exact j_T n m' q i v v' pa pc W hbig hbig' hv hv' hp (by simp at hq;omega)
def l_I (W:World) (R:aK×aK×Int) (e:Ending) (w':World):Prop:=
 Below W.heap.size W w'/\if R.2.2=0 then ∃cs ds,e= .returned (.tuple #[.agg cs.toArray, .agg ds.toArray, .int .i64 0])/\NodeQ w' (fun b=>W.heap.size <= b) R.1 cs/\NodeQ w' (fun b=>W.heap.size <= b) R.2.1 ds
  else e= .returned (.tuple #[.agg #[.bool false, .slice none 0 0, .slice none 0 0, .slice none 0 0], .agg #[.bool false, .slice none 0 0, .slice none 0 0, .slice none 0 0], .int .i64 R.2.2])
theorem b6.set4 {w:World} {M N:Nat} {c0 c1 c2 c3:Value} (h:b6 w M c0 c1 c2 c3) (hne:M≠N) (d0 d1 d2 d3:Value):b6 ((((w.setCell ⟨N,0,none⟩ d0).setCell ⟨N,1,none⟩ d1).setCell ⟨N,2,none⟩ d2).setCell ⟨N,3,none⟩ d3) M c0 c1 c2 c3:=(((h.set hne).set hne).set hne).set hne
theorem AK {w w':World} {ok:Nat ->Prop} {n:aK} {cs:List Value} (h:NodeQ w ok n cs) (hb:Below w.heap.size w w'):NodeQ w' ok n cs:=NodeQ.keep hb.size (fun b _ hlt=>hb.block b hlt) (fun _ h _=>h) n cs h
theorem pZ {w:World} {ok:Nat ->Prop} {N:Nat} {n:aK} {cs:List Value} (h:NodeQ w ok n cs) (hne:¬ok N) (d0 d1 d2 d3:Value):NodeQ ((((w.setCell ⟨N,0,none⟩ d0).setCell ⟨N,1,none⟩ d1).setCell ⟨N,2,none⟩ d2).setCell ⟨N,3,none⟩ d3) ok n cs:=cQ (cQ (cQ (cQ h hne) hne) hne) hne
theorem j_U {n m:aK} {q:List Int} {i:Int} (h:kK n (q ++ [i])=some m):∃ (k:aK) (j:Nat),kK n q=some k/\i=j/\∃hj:j < (aQ k).length,(aQ k)[j]=m:=by
 rw [MK]at h
 cases hk:kK n q with
 | none=>rw [hk]at h;cases h
 | some k=>
   rw [hk]at h
   obtain⟨j,rfl,hj,h2⟩:=iV (show kK k [i]=some m from h)
   have e:(aQ k)[j]=m:=by simpa [kK]using h2
   exact⟨k,j,rfl,rfl,hj,e⟩
theorem l_J (n:aK) (v:Value) (pa:Option Addr) (pc:Nat) (W:World) (hv:bY W W.heap.size n v):
 Calls Tryz.prog 120 #[v, .slice pa 0 pc] W (l_I W (bZ,bZ,6)):=by
 obtain⟨csn,rfl,hc⟩:=hv
 obtain⟨l,a1,n1,c1,a2,n2,c2,a3,n3,c3,rfl⟩:=hc.form
 clear hc
 go_enter Tryz.func120,Tryz.ntmps120
 go_wp2_with fail
 refine bodyPost_ret (v:= .tuple #[.agg #[.bool false, .slice none 0 0, .slice none 0 0, .slice none 0 0], .agg #[.bool false, .slice none 0 0, .slice none 0 0, .slice none 0 0], .int .i64 6]) (by simp [results,Tryz.results120,go_sem]) rfl ?_
 exact⟨iX _ _ _ _,by rw [if_neg (by decide)]⟩
theorem m_U (n:aK) (q:List Int) (i:Int) (v:Value) (pa:Option Addr) (pc:Nat) (W:World) (hbig:n.wt <= 100000000) (hv:bY W W.heap.size n v) (hp:RowA W W.heap.size 1 pa (q ++ [i]).length pc ((q ++ [i]).map (Value.int .i64))) (hat:kK n (q ++ [i])=none):
 Calls Tryz.prog 120 #[v, .slice pa (q ++ [i]).length pc] W (l_I W (bZ,bZ,5)):=by
 obtain⟨csn,rfl,hc⟩:=hv
 obtain⟨l,a1,n1,c1,a2,n2,c2,a3,n3,c3,rfl⟩:=hc.form
 obtain⟨w0,hw0⟩:∃w0,w0=((W.alloc (Obj.cells #[.bool l, .slice a1 n1 c1, .slice a2 n2 c2, .slice a3 n3 c3] 35)).alloc (Obj.cells #[.bool false, .slice none 0 0, .slice none 0 0, .slice none 0 0] 35)).alloc (Obj.cells #[.bool false, .slice none 0 0, .slice none 0 0, .slice none 0 0] 35):=⟨_,rfl⟩
 have hb0:Below W.heap.size W w0:=by rw [hw0];exact iX _ _ _ _
 have hA:b6 w0 W.heap.size (.bool l) (.slice a1 n1 c1) (.slice a2 n2 c2) (.slice a3 n3 c3):=by rw [hw0];exact((b6.fresh W _ _ _ _).alloc _).alloc _
 have hB:b6 w0 (W.heap.size+1) (.bool false) (.slice none 0 0) (.slice none 0 0) (.slice none 0 0):=by rw [hw0];exact(m8 W _ _ _ _ _).alloc _
 have hC:b6 w0 (W.heap.size+1+1) (.bool false) (.slice none 0 0) (.slice none 0 0) (.slice none 0 0):=by rw [hw0];exact At.third W _ _ _ _
 have hs0:w0.heap.size=W.heap.size+3:=by rw [hw0];simp
 have hg:=e_L n (q ++ [i]) (.agg #[.bool l, .slice a1 n1 c1, .slice a2 n2 c2, .slice a3 n3 c3]) pa pc w0 hbig ⟨_,rfl,dJ.keep hb0 hb0.size _ _ hc⟩ (hp.keep hb0 hb0.size)
 rw [hat]at hg
 have HG:=a6 hg
 obtain⟨y0,y1,y2,y3, -, -⟩:=hA.facts
 have HB:=a6 hB;have HC:=a6 hC;have Hw0:=a6 hw0;have Hb0:=a6 hb0;have Hs0:=a6 hs0
 clear hc hp hat hg hA hB hC hb0 hs0 hw0
 obtain⟨k,hk⟩:∃k,(q ++ [i]).length=k+1:=⟨q.length,by simp⟩
 rw [hk]at HG⊢
 clear hk
 go_enter Tryz.func120,Tryz.ntmps120
 go_upto_region 1 with fail
 rw [<- Hw0.o]
 clear Hw0
 go_wp2_with fail
 refine HG.o.mono ?_
 rintro e w1 ⟨rfl,hb1⟩
 obtain⟨x0,x1,x2,x3,⟨f0,f1,f2,f3⟩,xl⟩:=(HB.o.keep (hb1.mono (by rw [Hs0.o];omega))).facts
 obtain⟨z0,z1,z2,z3,⟨g0,g1,g2,g3⟩,zl⟩:=(HC.o.keep (hb1.mono (by rw [Hs0.o];omega))).facts
 have Hb1:=a6 (Hb0.o.trans (hb1.mono Hb0.o.size));have Hb10:=a6 hb1
 clear HG hb1 y0 y1 y2 y3
 go_wp2_with fail
 have h1:W.heap.size <= W.heap.size+1+1:=by omega
 have h2:W.heap.size <= W.heap.size+1:=by omega
 have hx:=(HB.o.keep (Hb10.o.mono (by rw [Hs0.o];omega)))
 have hz:=(HC.o.keep (Hb10.o.mono (by rw [Hs0.o];omega)))
 have q1:=iQ (iQ (iQ Hb1.o h1 (.bool false) (.slice none 0 0) (.slice none 0 0) (.slice none 0 0)) h2 (.bool false) (.slice none 0 0) (.slice none 0 0) (.slice none 0 0)) h1 (.bool false) (.slice none 0 0) (.slice none 0 0) (.slice none 0 0)
 have q2:=b6.set4 (N:=W.heap.size+1+1) (b6.all (b6.set4 (N:=W.heap.size+1+1) hx (by omega) (.bool false) (.slice none 0 0) (.slice none 0 0) (.slice none 0 0)) (.bool false) (.slice none 0 0) (.slice none 0 0) (.slice none 0 0)) (by omega) (.bool false) (.slice none 0 0) (.slice none 0 0) (.slice none 0 0)
 have q3:=b6.all (b6.set4 (N:=W.heap.size+1) (b6.all hz (.bool false) (.slice none 0 0) (.slice none 0 0) (.slice none 0 0)) (by omega) (.bool false) (.slice none 0 0) (.slice none 0 0) (.slice none 0 0)) (.bool false) (.slice none 0 0) (.slice none 0 0) (.slice none 0 0)
 clear x0 x1 x2 x3 f0 f1 f2 f3 xl z0 z1 z2 z3 g0 g1 g2 g3 zl hx hz
 with_reducible generalize World.setCell (World.setCell (World.setCell (World.setCell (World.setCell (World.setCell (World.setCell (World.setCell (World.setCell (World.setCell (World.setCell (World.setCell w1 _ _) _ _) _ _) _ _) _ _) _ _) _ _) _ _) _ _) _ _) _ _) _ _=w5 at q1 q2 q3⊢
 obtain⟨x0,x1,x2,x3, -, -⟩:=q2.facts
 obtain⟨z0,z1,z2,z3, -, -⟩:=q3.facts
 refine bodyPost_ret (v:= .tuple #[.agg #[.bool false, .slice none 0 0, .slice none 0 0, .slice none 0 0], .agg #[.bool false, .slice none 0 0, .slice none 0 0, .slice none 0 0], .int .i64 5]) (by simp [results,Tryz.results120,go_sem,x0,x1,x2,x3,z0,z1,z2,z3]) rfl ?_
 exact⟨q1,by rw [if_neg (by decide)]⟩
theorem l_K (n m k:aK) (q:List Int) (j:Nat) (v:Value) (pa:Option Addr) (pc:Nat) (W:World) (hbig:n.wt <= 100000000) (hv:bY W W.heap.size n v) (hp:RowA W W.heap.size 1 pa (q ++ [(j:Int)]).length pc ((q ++ [(j:Int)]).map (Value.int .i64))) (hq:q.length <= 1000000) (hat:kK n (q ++ [(j:Int)])=some m) (hk:kK n q=some k) (hj:j < (aQ k).length):
 Calls Tryz.prog 120 #[v, .slice pa (q ++ [(j:Int)]).length pc] W (l_I W (gY n q (setKids k ((aQ k).eraseIdx j)),m,0)):=by
 have hkw:=aJ (uK q n k hk) hbig
 have hmw:=aJ (uK _ n m hat) hbig
 have hkl:(aQ k).length <= 100000000:=by obtain⟨l,ps,t,ks⟩:=k;have:=fX ks;simp only [aK.wt]at hkw;simp only [aQ];omega
 have hg0:=fun(w0:World) (v:Value) (hv:bY w0 w0.heap.size n v) (hp:RowA w0 w0.heap.size 1 pa (q ++ [(j:Int)]).length pc ((q ++ [(j:Int)]).map (Value.int .i64)))=>e_L n (q ++ [(j:Int)]) v pa pc w0 hbig hv hp
 rw [hat]at hg0
 have hp0:=hp
 obtain⟨pb,po,rfl,hpb,hpi,hpq⟩:=e_e hp
 have hpc:q.length+1 <= pc:=by have:=hp.le;simpa using this
 have hpm:=hp.max
 unfold maxLen at hpm
 obtain⟨csn,rfl,hc⟩:=hv
 obtain⟨l,a1,n1,c1,a2,n2,c2,a3,n3,c3,rfl⟩:=hc.form
 obtain⟨w0,hw0⟩:∃w0,w0=((W.alloc (Obj.cells #[.bool l, .slice a1 n1 c1, .slice a2 n2 c2, .slice a3 n3 c3] 35)).alloc (Obj.cells #[.bool false, .slice none 0 0, .slice none 0 0, .slice none 0 0] 35)).alloc (Obj.cells #[.bool false, .slice none 0 0, .slice none 0 0, .slice none 0 0] 35):=⟨_,rfl⟩
 have hb0:Below W.heap.size W w0:=by rw [hw0];exact iX _ _ _ _
 have hA:b6 w0 W.heap.size (.bool l) (.slice a1 n1 c1) (.slice a2 n2 c2) (.slice a3 n3 c3):=by rw [hw0];exact((b6.fresh W _ _ _ _).alloc _).alloc _
 have hB:b6 w0 (W.heap.size+1) (.bool false) (.slice none 0 0) (.slice none 0 0) (.slice none 0 0):=by rw [hw0];exact(m8 W _ _ _ _ _).alloc _
 have hC:b6 w0 (W.heap.size+1+1) (.bool false) (.slice none 0 0) (.slice none 0 0) (.slice none 0 0):=by rw [hw0];exact At.third W _ _ _ _
 have hs0:w0.heap.size=W.heap.size+3:=by rw [hw0];simp
 have HG:=a6 (hg0 w0 (.agg #[.bool l, .slice a1 n1 c1, .slice a2 n2 c2, .slice a3 n3 c3]) ⟨_,rfl,dJ.keep hb0 hb0.size _ _ hc⟩ (hp0.keep hb0 hb0.size))
 obtain⟨y0,y1,y2,y3, -, -⟩:=hA.facts
 have HA:=a6 hA;have HB:=a6 hB;have HC:=a6 hC;have Hw0:=a6 hw0;have Hb0:=a6 hb0;have Hs0:=a6 hs0;have Hc:=a6 hc;have Hpq:=a6 hpq;have Hpi:=a6 hpi
 have Hk:=a6 hk
 have h1:((q.length:Int)+1) - 1=(q.length:Int):=by omega
 have h2:(q.length:Int) <= (pc:Int):=by omega
 clear hc hp hp0 hat hg0 hA hB hC hb0 hs0 hw0 hpq hpi hk
 rw [List.length_append,List.length_singleton]at *
 go_enter Tryz.func120,Tryz.ntmps120
 go_upto_region 1 with fail
 rw [<- Hw0.o]
 clear Hw0
 go_upto_region 3 with fail
 go_wp2_with fail
 refine HG.o.mono ?_
 rintro e w1 ⟨cs,rfl,hqm,hb1⟩
 obtain⟨lm,p1,o1,d1,p2,o2,d2,p3,o3,d3,rfl⟩:=hqm.form
 have hC1:=HC.o.keep (hb1.mono (by rw [Hs0.o];omega))
 obtain⟨z0,z1,z2,z3,⟨g0,g1,g2,g3⟩,zl⟩:=hC1.facts
 have Hb1:=a6 hb1;have Hqm:=a6 hqm;have HC1:=a6 hC1
 clear HG hb1 y0 y1 y2 y3 hqm hC1
 go_upto_region 6 with fail
 obtain⟨w2,hw2⟩:∃w2,w2=(((w1.setCell ⟨W.heap.size+1+1,0,none⟩ (.bool lm)).setCell ⟨W.heap.size+1+1,1,none⟩ (.slice p1 o1 d1)).setCell ⟨W.heap.size+1+1,2,none⟩ (.slice p2 o2 d2)).setCell ⟨W.heap.size+1+1,3,none⟩ (.slice p3 o3 d3):=⟨_,rfl⟩
 rw [<- hw2]
 have hs1:=Hb1.o.size
 have hs0:=Hs0.o
 have hs2:w2.heap.size=w1.heap.size:=by rw [hw2];simp [World.setCell]
 have hC2:b6 w2 (W.heap.size+1+1) (.bool lm) (.slice p1 o1 d1) (.slice p2 o2 d2) (.slice p3 o3 d3):=by rw [hw2];exact b6.all HC1.o _ _ _ _
 have hA2:b6 w2 W.heap.size (.bool l) (.slice a1 n1 c1) (.slice a2 n2 c2) (.slice a3 n3 c3):=by rw [hw2];exact b6.set4 (HA.o.keep (Hb1.o.mono (by omega))) (by omega) _ _ _ _
 have hB2:b6 w2 (W.heap.size+1) (.bool false) (.slice none 0 0) (.slice none 0 0) (.slice none 0 0):=by rw [hw2];exact b6.set4 (HB.o.keep (Hb1.o.mono (by omega))) (by omega) _ _ _ _
 have hb2:Below W.heap.size W w2:=by rw [hw2];exact iQ (Hb0.o.trans (Hb1.o.mono Hb0.o.size)) (by omega) _ _ _ _
 have hq2:NodeQ w2 (fun b=>w0.heap.size <= b) m [.bool lm, .slice p1 o1 d1, .slice p2 o2 d2, .slice p3 o3 d3]:=by
  have hne:¬ (w0.heap.size <= W.heap.size+1+1):=by omega
  rw [hw2];exact cQ (cQ (cQ (cQ Hqm.o hne) hne) hne) hne
 have y0:w2.cell? ⟨pb,po+q.length,none⟩=some (.int .i64 (j:Int)):=(hb2.cell (p:=⟨pb,po+q.length,none⟩) hpb).trans Hpi.o
 have HA2:=a6 hA2;have HB2:=a6 hB2;have HC2:=a6 hC2;have Hb2:=a6 hb2;have Hq2:=a6 hq2
 have Hs2:=a6 (show W.heap.size+3 <= w2.heap.size by omega)
 have hpbw:pb < w2.heap.size:=Nat.lt_of_lt_of_le hpb hb2.size
 clear hw2 hs1 hs0 hs2 hC2 hA2 hB2 hb2 hq2 z0 z1 z2 z3 g0 g1 g2 g3 zl HA HB HC HC1 Hqm Hpi
 go_region
 obtain⟨w3,hw3⟩:∃w3,w3=(w2.alloc (Obj.cells #[.int .i64 (j:Int)] 3)).drew:=⟨_,rfl⟩
 rw [<- hw3]
 have hb3:Below w2.heap.size w2 w3:=by rw [hw3];exact(aX _ _).drew
 have hI:At w3 w2.heap.size [.int .i64 (j:Int)] 3:=by rw [hw3];exact At.fresh w2 _ _
 have hbb:=Hb2.o.trans (hb3.mono Hb2.o.size)
 have hs2:=Hs2.o
 have hA3:=HA2.o.keep (hb3.mono (by omega))
 have HB3:=a6 (HB2.o.keep (hb3.mono (by omega)));have HC3:=a6 (HC2.o.keep (hb3.mono (by omega)))
 have HCh:=a6 (a_Q 180 #[.pointer (some ⟨w2.heap.size,0,none⟩)] j_N n q (.agg #[.bool l, .slice a1 n1 c1, .slice a2 n2 c2, .slice a3 n3 c3]) (some ⟨pb,po,none⟩) pc (fun k=>(setKids k ((aQ k).eraseIdx j),0)) w3 hbig ⟨_,rfl,dJ.keep hbb hbb.size _ _ Hc.o⟩ (Hpq.o.keep hbb hbb.size) (fun k' hk'=>by
  have e:k'=k:=by have:=Hk.o;rw [this]at hk';exact(Option.some.inj hk').symm
  subst e
  exact m_S k' j w2.heap.size w3 (hI.cell 0 rfl) hI.lt hj hkl))
 obtain⟨x0,x1,x2,x3, -, -⟩:=hA3.facts
 have Hbb:=a6 hbb;have Hb3:=a6 hb3
 have Hs3:=a6 (show w2.heap.size <= w3.heap.size from hb3.size)
 clear hw3 hb3 hI hbb hA3 y0 HA2 HB2 HC2 hs2
 go_wp2_with fail
 refine HCh.o.mono ?_
 intro e w4 hch
 have ht:vX w3 (gY n q (setKids k ((aQ k).eraseIdx j)),0) e w4:=vX.of_changed (a7) hch (by rw [Hk.o];simp)
 have hs2:=Hs2.o;have hs3:=Hs3.o
 have hB4:=HB3.o.keep (hch.1.mono (by omega))
 have hC4:=HC3.o.keep (hch.1.mono (by omega))
 obtain⟨hb4,⟨-,l',k1,s1,r1,k2,s2,r2,k3,s3,r3,rfl,hqr⟩ | ⟨hz, -⟩⟩:=ht.cases
 . obtain ⟨z0,z1,z2,z3,⟨f0,f1,f2,f3⟩,zl⟩:=hB4.facts
   obtain⟨v0,v1,v2,v3,⟨g0,g1,g2,g3⟩,vl⟩:=hC4.facts
   have Hqr:=a6 hqr;have Hb4:=a6 (Hbb.o.trans (hb4.mono Hbb.o.size));have Hb40:=a6 hb4
   have HB4:=a6 hB4;have HC4:=a6 hC4
   clear HCh hch ht hB4 hC4 hb4 hqr x0 x1 x2 x3
   go_upto_region 8 with fail
   obtain⟨w5,hw5⟩:∃w5,w5=(((w4.setCell ⟨W.heap.size+1,0,none⟩ (.bool l')).setCell ⟨W.heap.size+1,1,none⟩ (.slice k1 s1 r1)).setCell ⟨W.heap.size+1,2,none⟩ (.slice k2 s2 r2)).setCell ⟨W.heap.size+1,3,none⟩ (.slice k3 s3 r3):=⟨_,rfl⟩
   rw [<- hw5]
   have hB5:b6 w5 (W.heap.size+1) (.bool l') (.slice k1 s1 r1) (.slice k2 s2 r2) (.slice k3 s3 r3):=by rw [hw5];exact b6.all HB4.o _ _ _ _
   have hC5:b6 w5 (W.heap.size+1+1) (.bool lm) (.slice p1 o1 d1) (.slice p2 o2 d2) (.slice p3 o3 d3):=by rw [hw5];exact b6.set4 HC4.o (by omega) _ _ _ _
   have hb5:Below W.heap.size W w5:=by rw [hw5];exact iQ Hb4.o (by omega) _ _ _ _
   have hs0:=Hs0.o
   have hq5:NodeQ w5 (fun b=>w0.heap.size <= b) (gY n q (setKids k ((aQ k).eraseIdx j))) [.bool l', .slice k1 s1 r1, .slice k2 s2 r2, .slice k3 s3 r3]:=by
    have hne:¬ (w3.heap.size <= W.heap.size+1):=by omega
    rw [hw5]
    exact NodeQ.keep (a8) (fun _ _ _=>rfl) (fun b hb _=>by omega) _ _ (cQ (cQ (cQ (cQ Hqr.o hne) hne) hne) hne)
   have hm5:NodeQ w5 (fun b=>w0.heap.size <= b) m [.bool lm, .slice p1 o1 d1, .slice p2 o2 d2, .slice p3 o3 d3]:=by
    have hne:¬ (w0.heap.size <= W.heap.size+1):=by omega
    rw [hw5]
    exact cQ (cQ (cQ (cQ (AK (AK Hq2.o Hb3.o) Hb40.o) hne) hne) hne) hne
   have HB5:=a6 hB5;have HC5:=a6 hC5;have Hb5:=a6 hb5;have Hq5:=a6 hq5;have Hm5:=a6 hm5
   obtain⟨z0,z1,z2,z3,⟨f0,f1,f2,f3⟩,zl⟩:=hB5.facts
   obtain⟨v0,v1,v2,v3,⟨g0,g1,g2,g3⟩,vl⟩:=hC5.facts
   clear hw5 hB5 hC5 hb5 hq5 hm5 HB4 HC4 Hb4 Hqr hs0 hs2 hs3
   go_region
   have hn0:=Hs0.o
   have q0:=iQ (iQ Hb5.o (N:=W.heap.size+1) (by omega) (.bool l') (.slice k1 s1 r1) (.slice k2 s2 r2) (.slice k3 s3 r3)) (N:=W.heap.size+1+1) (by omega) (.bool lm) (.slice p1 o1 d1) (.slice p2 o2 d2) (.slice p3 o3 d3)
   have q1:=b6.set4 (N:=W.heap.size+1+1) (b6.all HB5.o (.bool l') (.slice k1 s1 r1) (.slice k2 s2 r2) (.slice k3 s3 r3)) (by omega) (.bool lm) (.slice p1 o1 d1) (.slice p2 o2 d2) (.slice p3 o3 d3)
   have q2:=b6.all (b6.set4 (N:=W.heap.size+1) HC5.o (by omega) (.bool l') (.slice k1 s1 r1) (.slice k2 s2 r2) (.slice k3 s3 r3)) (.bool lm) (.slice p1 o1 d1) (.slice p2 o2 d2) (.slice p3 o3 d3)
   have hx1:¬ (w0.heap.size <= W.heap.size+1):=by omega
   have hx2:¬ (w0.heap.size <= W.heap.size+1+1):=by omega
   have q3:=pZ (pZ Hq5.o hx1 (.bool l') (.slice k1 s1 r1) (.slice k2 s2 r2) (.slice k3 s3 r3)) hx2 (.bool lm) (.slice p1 o1 d1) (.slice p2 o2 d2) (.slice p3 o3 d3)
   have q4:=pZ (pZ Hm5.o hx1 (.bool l') (.slice k1 s1 r1) (.slice k2 s2 r2) (.slice k3 s3 r3)) hx2 (.bool lm) (.slice p1 o1 d1) (.slice p2 o2 d2) (.slice p3 o3 d3)
   clear z0 z1 z2 z3 f0 f1 f2 f3 zl v0 v1 v2 v3 g0 g1 g2 g3 vl
   with_reducible generalize World.setCell (World.setCell (World.setCell (World.setCell (World.setCell (World.setCell (World.setCell (World.setCell w5 _ _) _ _) _ _) _ _) _ _) _ _) _ _) _ _=w6 at q0 q1 q2 q3 q4⊢
   obtain⟨x0,x1,x2,x3, -, -⟩:=q1.facts
   obtain⟨z0,z1,z2,z3, -, -⟩:=q2.facts
   have Q0:=a6 q0;have Q3:=a6 q3;have Q4:=a6 q4
   clear q0 q1 q2 q3 q4 hx1 hx2 hn0
   go_wp2_with fail
   refine bodyPost_ret (v:= .tuple #[.agg #[.bool l', .slice k1 s1 r1, .slice k2 s2 r2, .slice k3 s3 r3], .agg #[.bool lm, .slice p1 o1 d1, .slice p2 o2 d2, .slice p3 o3 d3], .int .i64 0]) (by simp [results,Tryz.results120,go_sem,x0,x1,x2,x3,z0,z1,z2,z3]) rfl ?_
   have hbw:=Hb0.o.size
   refine⟨Q0.o.drew, ?_⟩
   rw [if_pos rfl]
   exact⟨_,_,rfl,NodeQ.keep (w:=w6) (w':=w6.drew) (a8) (fun _ _ _=>rfl) (fun b hb _=>aJ hbw hb) _ _ Q3.o,NodeQ.keep (w:=w6) (w':=w6.drew) (a8) (fun _ _ _=>rfl) (fun b hb _=>aJ hbw hb) _ _ Q4.o⟩
 . exact absurd rfl hz
theorem n_E (n:aK) (p:List Int) (v:Value) (pa:Option Addr) (pc:Nat) (W:World) (hbig:n.wt <= 100000000) (hv:bY W W.heap.size n v) (hp:RowA W W.heap.size 1 pa p.length pc (p.map (Value.int .i64))) (hq:p.length <= 1000000):
 Calls Tryz.prog 120 #[v, .slice pa p.length pc] W (l_I W (B4 n p)):=by
 rcases List.eq_nil_or_concat p with rfl | ⟨q,i,rfl⟩
 . exact l_J n v pa pc W hv
 . rw [List.concat_eq_append]at *
   cases hat:kK n (q ++ [i])with
   | none=>
     have e:B4 n (q ++ [i])=(bZ,bZ,5):=by unfold B4;rw [if_neg (by simp),hat]
     rw [e]
     exact m_U n q i v pa pc W hbig hv hp hat
   | some m=>
     obtain⟨k,j,hk,rfl,hj,hm⟩:=j_U hat
     have e:=JJ hk hj
     rw [hm]at e
     rw [e]
     exact l_K n m k q j v pa pc W hbig hv hp (by simp at hq;omega) hat hk hj
def rQ (w:World) (M:Nat):aK ->List Value ->Prop
 | .mk l ps t ks,cs=>∃ (ap:Option Addr) (cp:Nat) (at_:Option Addr) (ct:Nat) (ak:Option Addr) (ck:Nat) (css:List Value),cs= [.bool l, .slice ap ps.length cp, .slice at_ t.length ct, .slice ak ks.length ck]/\
     RowQ w (fun b=>M <= b/\(Value.slice ak ks.length ck).ownBlock≠some b/\(Value.slice at_ t.length ct).ownBlock≠some b) 2 ap ps.length cp (bK ps)/\w.ownsRow M 21 1 (.slice at_ t.length ct) t.length (t.map (Value.int .i32))/\(∀z∈t,(Lit.int .i32 z).wf=true)/\
     w.ownsRow M 35 4 (.slice ak ks.length ck) ks.length css/\bX w (fun b=>M <= b/\(Value.slice ak ks.length ck).ownBlock≠some b/\(Value.slice at_ t.length ct).ownBlock≠some b) ks css/\(∀b,(Value.slice at_ t.length ct).ownBlock=some b ->(Value.slice ak ks.length ck).ownBlock≠some b)
def n_F (W:World) (n:aK) (e:Ending) (w':World):Prop:= ∃cs,e= .returned (.agg cs.toArray)/\rQ w' W.heap.size n cs/\Below W.heap.size W w'
theorem g_z {w1 w3:World} {b1 b3 b4 e e' e'' sz sz' sz'' n n' n'' c M:Nat} {a:Option Addr} {u u2:Value} {cs cs' cs'':List Value} {w4:World} (h1:w1.ownsRow b1 e sz (.slice a n c) n cs) (ho:∀u∈cs,u.oneCell'=true) (hb:Below w1.heap.size w1 w3) (h3:w3.ownsRow b3 e' sz' u n' cs') (hle:w1.heap.size <= b3) (h4:w4.ownsRow b4 e'' sz'' u2 n'' cs'') (hle4:w1.heap.size <= b4) (hM:M <= b1):
 RowQ w3 (fun b=>M <= b/\u.ownBlock≠some b/\u2.ownBlock≠some b) sz a n c cs:=by
 obtain⟨a',c',hv,hr⟩:=RowQ.of_own h1 ho
 injection hv with e1 e2 e3
 subst e1;subst e3
 refine hr.keep hb.size (fun b _ hlt=>hb.block b hlt) (fun b hk hlt=>⟨aJ hM (h1.lt b hk).1,fun hu=> ?_,fun hu=> ?_⟩)
 . have:=(h3.lt b hu).1
   omega
 . have:=(h4.lt b hu).1
   omega
theorem j_V {w:World} {M:Nat} {r r2:Option Nat} {sz n cap:Nat} {a:Option Addr} {cs:List Value} (h:RowQ w (fun b=>M <= b/\r≠some b/\r2≠some b) sz a n cap cs):RowQ w (fun b=>M <= b/\b < w.heap.size/\r≠some b/\r2≠some b) sz a n cap cs:=h.keep (a8) (fun _ _ _=>rfl) (fun b hb hlt=>⟨hb.1,hlt,hb.2⟩)
theorem zK {w:World} {M e sz n g o:Nat} {v u:Value} {cs:List Value} (h:w.ownsRow M e sz v n cs) (hne:v.ownBlock≠some g):(w.setCell ⟨g,o,none⟩ u).ownsRow M e sz v n cs:=by
 refine⟨h.1, ?_⟩
 rcases h.2 with hn | ⟨k,cap,cur,hv,hb,hg,hr⟩
 . exact .inl hn
 . refine .inr ⟨k,cap,cur,hv,hb, ?_,hr⟩
   rw [Below.heap_setCell w ⟨g,o,none⟩ u k (by show k≠g;intro e;exact hne (by rw [hv, <- e];rfl))]
   exact hg
theorem l_L (n:aK) (v:Value) (W:World) (hbig:n.wt <= 100000000) (hv:bY W W.heap.size n v):Calls Tryz.prog 61 #[v] W (n_F W n):=by
 obtain⟨l,ps,t,ks⟩:=n
 obtain⟨ap,cp,at_,ct,ak,ck,css,rfl,hp,ht,hk,hkk⟩:=hv.open
 have hpl:ps.length <= 100000000:=by have:=rV ps;simp only [aK.wt]at hbig;omega
 have htl:t.length <= 100000000:=by simp only [aK.wt]at hbig;omega
 have hkl:ks.length <= 100000000:=by have:=fX ks;simp only [aK.wt]at hbig;omega
 have hkw:dX ks <= 100000000:=by simp only [aK.wt]at hbig;omega
 obtain⟨⟨at2,ct2,htv,htr⟩,htw⟩:=ht
 injection htv with e1 e2 e3
 subst e1;subst e3
 have hA:=(b6.fresh W (.bool l) (.slice ap ps.length cp) (.slice at_ t.length ct) (.slice ak ks.length ck)).alloc (Obj.cells #[.bool false, .slice none 0 0, .slice none 0 0, .slice none 0 0] 35)
 have hB:=m8 W (Obj.cells #[.bool l, .slice ap ps.length cp, .slice at_ t.length ct, .slice ak ks.length ck] 35) (.bool false) (.slice none 0 0) (.slice none 0 0) (.slice none 0 0)
 have hb0:Below W.heap.size W ((W.alloc (Obj.cells #[.bool l, .slice ap ps.length cp, .slice at_ t.length ct, .slice ak ks.length ck] 35)).alloc (Obj.cells #[.bool false, .slice none 0 0, .slice none 0 0, .slice none 0 0] 35)):=((a7).alloc (a8) _).alloc (by simp) _
 have hs0:((W.alloc (Obj.cells #[.bool l, .slice ap ps.length cp, .slice at_ t.length ct, .slice ak ks.length ck] 35)).alloc (Obj.cells #[.bool false, .slice none 0 0, .slice none 0 0, .slice none 0 0] 35)).heap.size=W.heap.size+2:=by simp
 have HI:=a6 (fun(i:Nat) (h:i < ks.length) (v:Value) (W2:World) (q:bY W2 W2.heap.size ks[i] v)=>h_v _ ks[i] v W2 (a8) (aJ (iK (List.getElem_mem h)) hkw) q)
 have Hp:=a6 (hp.keep hb0 (a8));have Ht:=a6 (htr.keep hb0 (a8));have Hk:=a6 (hk.keep hb0 (a8));have Hkk:=a6 (dQ.keep hb0 (a8) _ _ hkk)
 have Htone:=a6 (show ∀u∈t.map (Value.int .i32),u.oneCell'=true by intro u hu;obtain⟨z, -,rfl⟩:=List.mem_map.1 hu;rfl);have Hkkone:=a6 hkk.one
 have HkkW:=a6 hkk
 have Htw:=a6 htw;have Hb0:=a6 hb0;have HA:=a6 hA;have HB:=a6 hB;have Hs0:=a6 hs0
 clear hbig hv hp htr hk hkk htw hb0 hA hB hkw hs0
 go_enter Tryz.func61,Tryz.ntmps61
 go_upto_region 1 with fail
 obtain⟨w0,hw0⟩:∃w0,w0=(W.alloc (Obj.cells #[.bool l, .slice ap ps.length cp, .slice at_ t.length ct, .slice ak ks.length ck] 35)).alloc (Obj.cells #[.bool false, .slice none 0 0, .slice none 0 0, .slice none 0 0] 35):=⟨_,rfl⟩
 rw [<- hw0]at Hp Ht Hk Hkk Hb0 HA HB Hs0⊢
 clear hw0
 obtain⟨x0,x1,x2,x3,⟨f0,f1,f2,f3⟩,hA4⟩:=HA.o.facts
 go_cut [] (fun wx=>∃pa pc ta tc ka kc,b6 wx W.heap.size (.bool l) (.slice pa ps.length pc) (.slice ta t.length tc) (.slice ka ks.length kc)/\b6 wx (W.heap.size+1) (.bool false) (.slice none 0 0) (.slice none 0 0) (.slice none 0 0)/\
  RowQ wx (fun b=>W.heap.size+2 <= b/\(Value.slice ka ks.length kc).ownBlock≠some b/\(Value.slice ta t.length tc).ownBlock≠some b) 2 pa ps.length pc (bK ps)/\wx.ownsRow (W.heap.size+2) 21 1 (.slice ta t.length tc) t.length (t.map (Value.int .i32))/\(∀b,(Value.slice ta t.length tc).ownBlock=some b ->(Value.slice ka ks.length kc).ownBlock≠some b)/\
  wx.ownsRow (W.heap.size+2) 35 4 (.slice ka ks.length kc) ks.length css/\Below W.heap.size W wx)
 case first=>
  go_region_law (first
   | (refine b9 rfl 113 _ _ rfl d_Z [Value.slice ap ps.length cp] ?_ _ (yY W.heap.size ps.length ap cp _ _ (Hp.o.keep ?_ (a8)) ?_ hpl) ?_
      . go_simp
      . exact(a7).drew
      . show W.heap.size <= w0.heap.size;rw [Hs0.o];omega
      rintro e w1 ⟨v1,rfl,hown,hbel⟩
      obtain⟨pa,pc,rfl, -⟩:=cK hown (m7 _)
      refine⟨_,rfl, ?_⟩
      have Hbel1:=a6 (((Below.refl w0.heap.size w0).drew).trans hbel);have Hown1:=a6 hown
      have hA1:=HA.o.keep (Hbel1.o.mono (by rw [Hs0.o];omega))
      obtain⟨y0,y1,y2,y3,⟨k0,k1,k2,k3⟩,hA5⟩:=hA1.facts
      clear hbel hown hA1)
   | (refine b9 rfl 114 _ _ rfl e_0 [Value.slice at_ t.length ct] ?_ _ (DQ W.heap.size t.length at_ ct _ _ (Ht.o.keep (Hbel1.o.mono ?_) (a8)) ?_ htl) ?_
      . go_simp
      . rw [Hs0.o];omega
      . have:=Hbel1.o.size;rw [Hs0.o]at this;omega
      rintro e w2 ⟨v2,rfl,hown,hbel⟩
      obtain⟨ta,tc,rfl, -⟩:=cK hown Htone.o
      refine⟨_,rfl, ?_⟩
      have Hbel2:=a6 (Hbel1.o.trans (hbel.mono Hbel1.o.size));have Hown2:=a6 hown;have Hbel12:=a6 hbel
      have hA1:=HA.o.keep (Hbel2.o.mono (by rw [Hs0.o];omega))
      obtain⟨z0,z1,z2,z3,⟨g0,g1,g2,g3⟩,hA6⟩:=hA1.facts
      clear hbel hown hA1)
   | (refine b9 rfl 115 _ _ rfl e_1 [Value.slice ak ks.length ck] ?_ _ (M0 W.heap.size ks.length ak ck _ _ (Hk.o.keep (Hbel2.o.mono ?_) (a8)) ?_ hkl) ?_
      . go_simp
      . rw [Hs0.o];omega
      . have:=Hbel2.o.size;rw [Hs0.o]at this;omega
      rintro e w3 ⟨v3,rfl,hown,hbel⟩
      obtain⟨ka,kc,rfl, -⟩:=cK hown Hkkone.o
      refine⟨_,rfl, ?_⟩
      have Hbel3:=a6 (Hbel2.o.trans (hbel.mono Hbel2.o.size));have Hown3:=a6 hown;have Hbel23:=a6 hbel
      have hA1:=HA.o.keep (Hbel3.o.mono (by rw [Hs0.o];omega))
      obtain⟨t0,t1,t2,t3,⟨r0,r1,r2,r3⟩,hA7⟩:=hA1.facts
      have HA3:=a6 hA1
      clear hbel hown hA1))
  all_goals
   go_wp2_with fail
   go_meet
   case rel=>
    have hM3:W.heap.size+2 <= w0.heap.size:=by rw [Hs0.o];omega
    have hrp:=g_z (M:=W.heap.size+2) Hown1.o (m7 _) (Hbel12.o.trans (Hbel23.o.mono Hbel12.o.size)) Hown3.o Hbel12.o.size Hown2.o (a8) hM3
    have hkM:W.heap.size+2 <= w2.heap.size:=aJ hM3 Hbel2.o.size
    have htk:∀b,(Value.slice ta t.length tc).ownBlock=some b ->(Value.slice ka ks.length kc).ownBlock≠some b:=fun b h1 h2=>by have:=(Hown2.o.lt b h1).2;have:=(Hown3.o.lt b h2).1;omega
    have hn1:¬ (W.heap.size+2 <= W.heap.size/\(Value.slice ka ks.length kc).ownBlock≠some W.heap.size/\(Value.slice ta t.length tc).ownBlock≠some W.heap.size):=fun h=>by omega
    have hbo:∀ {w:World} {e sz n o:Nat} {v u:Value} {cs:List Value},w.ownsRow (W.heap.size+2) e sz v n cs ->(w.setCell ⟨W.heap.size,o,none⟩ u).ownsRow (W.heap.size+2) e sz v n cs:=fun h=>ownsRow_setCell_below (a:=⟨W.heap.size,_,none⟩) h (by show W.heap.size < _;omega) _
    refine⟨pa,pc,ta,tc,ka,kc, ?_, ?_, ?_, ?_,htk, ?_, ?_⟩
    . exact((HA3.o.s1 _).s2 _).s3 _
    . exact(((HB.o.keep (Hbel3.o.mono (by rw [Hs0.o];omega))).set (by omega)).set (by omega)).set (by omega)
    . exact aY (aY (aY hrp hn1) hn1) hn1
    . exact hbo (hbo (hbo (lK (j4 Hown2.o Hbel23.o) (aJ hM3 Hbel1.o.size))))
    . exact hbo (hbo (hbo (lK Hown3.o hkM)))
    . exact((((Hb0.o.trans (Hbel3.o.mono (by rw [Hs0.o];omega))).setCell (p:=⟨W.heap.size,1,none⟩) (a8) _).setCell (p:=⟨W.heap.size,2,none⟩) (a8) _).setCell (p:=⟨W.heap.size,3,none⟩) (a8) _)
 case rest=>
  obtain⟨pa,pc,ta,tc,ka,kc,hA,hB,hrp,hrt,htk,hown,hbel⟩:=hcut
  obtain⟨y0,y1,y2,y3, -,hA5⟩:=hA.facts
  have Htk:=a6 htk
  have HgM:=a6 (show ∀g,(Value.slice ka ks.length kc).ownBlock=some g ->g < wc.heap.size from fun g hg=>(hown.lt g hg).2)
  have HwM:=a6 (show W.heap.size+2 <= wc.heap.size from hB.facts.2.2.2.2.2)
  have Hi:=a6 (show _/\_/\_/\_/\_/\_ from⟨hA,hB,hrp,hrt,hown,hbel⟩)
  clear hA hB hrp hrt htk hown hbel x0 x1 x2 x3 f0 f1 f2 f3 hA4 HA HB Hp Ht Hk
  go_wp2_with fail
  clear y0 y1 y2 y3 hA5
  go_loopg [20] ks.length (fun g i wr=>∃ (j:Nat) (csN:List Value),i= .int .i64 j/\j+g=ks.length/\b6 wr W.heap.size (.bool l) (.slice pa ps.length pc) (.slice ta t.length tc) (.slice ka ks.length kc)/\b6 wr (W.heap.size+1) (.bool false) (.slice none 0 0) (.slice none 0 0) (.slice none 0 0)/\
   RowQ wr (fun b=>W.heap.size+2 <= b/\b < wc.heap.size/\(Value.slice ka ks.length kc).ownBlock≠some b/\(Value.slice ta t.length tc).ownBlock≠some b) 2 pa ps.length pc (bK ps)/\(wr.ownsRow (W.heap.size+2) 21 1 (.slice ta t.length tc) t.length (t.map (Value.int .i32))/\∀b,(Value.slice ta t.length tc).ownBlock=some b ->b < wc.heap.size)/\
   wr.ownsRow (W.heap.size+2) 35 4 (.slice ka ks.length kc) ks.length (csN ++ css.drop (j * 4))/\eX wr (ks.take j) wc.heap.size wr.heap.size csN/\Below W.heap.size W wr)
  case atStart=>
   obtain⟨hA,hB,hrp,hrt,hown,hbel⟩:=Hi.o
   exact⟨0, [],rfl,by omega,hA,hB,j_V hrp,⟨hrt,fun b hb=>(hrt.lt b hb).2⟩,by simpa using hown,by rw [List.take_zero];unfold eX;exact⟨rfl,a8⟩,hbel⟩
  case round=>
   obtain⟨j,csN,rfl,hg,hA,hB,hrp,hrt,hown,hkids,hbel⟩:=hrel
   obtain⟨y0,y1,y2,y3,⟨p0,p1,p2,p3⟩,hA5⟩:=hA.facts
   obtain⟨z0,z1,z2,z3,⟨q0,q1,q2,q3⟩,hB5⟩:=hB.facts
   have hcl:=bX.len' (eX.q (ok:=fun _=>True) (fun _ _ _=>trivial) hkids)
   have hMr:=hkids.le
   have hclen:=Hkk.o.len
   have HA2:=a6 hA;have HB2:=a6 hB;have Hrp:=a6 hrp;have Hrt:=a6 hrt;have Hown:=a6 hown;have Hkids:=a6 hkids;have Hbel:=a6 hbel
   clear hA hB hrp hrt hkids
   by_cases hlt:j < ks.length
   . obtain ⟨c,hc,hall⟩:=HkkW.o.at_ j hlt
     have hc':=dJ.keep hbel (a8) _ _ hc
     obtain⟨l1,a1,n1,c1,a2,n2,c2,a3,n3,c3,rfl⟩:=hc'.form
     have hcj:csN.length=j * 4:=by rw [hcl,List.length_take,Nat.min_eq_left (by omega)]
     have hjl:j * 4+4 <= css.length:=by rw [hclen];omega
     obtain⟨g,rfl,hgM⟩:=A6 Hown.o (by
      intro e
      have:=congrArg List.length e
      simp only [List.length_append,List.length_drop,List.length_nil]at this
      omega)
     have hgl:g < wr.heap.size:=(Hown.o.lt g rfl).2
     have hat:∀i,i < 4 ->(csN ++ css.drop (j * 4))[j * 4+i]? = [Value.bool l1, .slice a1 n1 c1, .slice a2 n2 c2, .slice a3 n3 c3][i]? :=by
      intro i hi
      rw [List.getElem?_append_right (by omega),List.getElem?_drop,hcj,show j * 4+(j * 4+i - j * 4)=j * 4+i by omega]
      exact hall i hi
     have k0:=pV Hown.o _ _ (hat 0 (by omega))
     have k1:=pV Hown.o _ _ (hat 1 (by omega))
     have k2:=pV Hown.o _ _ (hat 2 (by omega))
     have k3:=pV Hown.o _ _ (hat 3 (by omega))
     have hdrop:∃x0 x1 x2 x3,css.drop (j * 4)=x0::x1::x2::x3::css.drop ((j+1) * 4):=by
      refine⟨css[j * 4],css[j * 4+1],css[j * 4+2],css[j * 4+3], ?_⟩
      rw [List.drop_eq_getElem_cons (by omega),List.drop_eq_getElem_cons (by omega),List.drop_eq_getElem_cons (by omega),List.drop_eq_getElem_cons (by omega)]
      rw [show (j+1) * 4=j * 4+1+1+1+1 by omega]
     have hlti:(j:Int) < ks.length:=by omega
     have HC:=a6 (fun(W':World) (hbw:Below wr.heap.size wr W')=>HI.o j hlt (.agg #[.bool l1, .slice a1 n1 c1, .slice a2 n2 c2, .slice a3 n3 c3]) W' ⟨_,rfl,dJ.keep (hbw.mono hbel.size) (aJ hbel.size hbw.size) _ _ hc'⟩)
     have Hdrop:=a6 hdrop;have Hcj:=a6 hcj
     have hW:=hbel.size
     have hgne:g≠W.heap.size:=by omega
     clear hc hc' hall hat hdrop hcj hown hbel Hi hcl hclen hjl
     simp only [Nat.add_zero]at k0
     go_wp2_with fail
     go_region_law (first
      | (refine b9 rfl 61 _ _ rfl IY [Value.agg #[.bool l1, .slice a1 n1 c1, .slice a2 n2 c2, .slice a3 n3 c3]] ?_ _ (HC.o _ ?_) ?_
         . go_simp
         . exact((a7).alloc (a8) _).drew
         rintro e w6 ⟨cs',rfl,hnode,hbel6⟩
         obtain⟨m1,b1,o1,d1,b2,o2,d2,b3,o3,d3,rfl⟩:=hnode.form
         refine⟨_,rfl, ?_⟩
         have Hb6:=a6 ((((Below.refl wr.heap.size wr).alloc (a8) (Obj.cells #[.bool l1, .slice a1 n1 c1, .slice a2 n2 c2, .slice a3 n3 c3] 35)).drew).trans (hbel6.mono (by show wr.heap.size <= (wr.alloc _).heap.size;simp)))
         have hA6:=HA2.o.keep (Hb6.o.mono (by omega))
         have hown6:=j4 Hown.o Hb6.o
         have r0:=hown6.frozenAt (j * 4);have r1:=hown6.frozenAt (j * 4+1);have r2:=hown6.frozenAt (j * 4+2);have r3:=hown6.frozenAt (j * 4+3)
         have hg6:=(hown6.lt g rfl).2
         have k0':=(Hb6.o.cell (p:=⟨g,j * 4,none⟩) hgl).trans k0;have k1':=(Hb6.o.cell (p:=⟨g,j * 4+1,none⟩) hgl).trans k1;have k2':=(Hb6.o.cell (p:=⟨g,j * 4+2,none⟩) hgl).trans k2;have k3':=(Hb6.o.cell (p:=⟨g,j * 4+3,none⟩) hgl).trans k3
         obtain⟨s0,s1,s2,s3, -,hA7⟩:=hA6.facts
         have HA6:=a6 hA6;have Hown6:=a6 hown6;have Hnode:=a6 hnode
         clear hA6 hown6 hnode hbel6))
     all_goals
      go_wp2_with fail
      go_roundg (gk - 1)
      case measure=>omega
      case rel=>
       have hz:(Value.slice (some ⟨g,0,none⟩) ks.length kc).ownBlock=some g:=by simp [Value.ownBlock]
       obtain⟨x0,x1,x2,x3,hdr⟩:=Hdrop.o
       have hs:=(((Hown6.o.stored (j * 4) (.bool m1)).1.stored (j * 4+1) (.slice b1 o1 d1)).1.stored (j * 4+2) (.slice b2 o2 d2)).1.stored (j * 4+3) (.slice b3 o3 d3) |>.1
       rw [b_U Hcj.o hdr]at hs
       have hng:¬ (W.heap.size+2 <= g/\g < wc.heap.size/\(Value.slice (some ⟨g,0,none⟩) ks.length kc).ownBlock≠some g/\(Value.slice ta t.length tc).ownBlock≠some g):=fun h=>h.2.2.1 hz
       have hgM2:=HgM.o g hz
       have hk6:=eX.keep (w':=w6) Hb6.o.size (fun b _ _ hlt=>Hb6.o.block b hlt) Hkids.o
       have hrp6:=Hrp.o.keep (w':=w6) (ok':=fun b=>W.heap.size+2 <= b/\b < wc.heap.size/\(Value.slice (some ⟨g,0,none⟩) ks.length kc).ownBlock≠some b/\(Value.slice ta t.length tc).ownBlock≠some b) Hb6.o.size (fun b _ hlt=>Hb6.o.block b hlt) (fun b hb _=>hb)
       have hrt6:=j4 Hrt.o.1 Hb6.o
       have htg:(Value.slice ta t.length tc).ownBlock≠some g:=fun e=>Htk.o g e hz
       have hB6:=HB2.o.keep (Hb6.o.mono (by omega))
       have hsz:=Hb6.o.size
       have hkk:=kV (o:=j * 4+3) (u:= .slice b3 o3 d3) (kV (o:=j * 4+2) (u:= .slice b2 o2 d2) (kV (o:=j * 4+1) (u:= .slice b1 o1 d1) (kV (o:=j * 4) (u:= .bool m1) ((hk6.up (by simp)).snoc Hnode.o) hgM2) hgM2) hgM2) hgM2
       rw [<- List.take_succ_eq_append_getElem hlt]at hkk
       refine⟨j+1,csN ++ [.bool m1, .slice b1 o1 d1, .slice b2 o2 d2, .slice b3 o3 d3],rfl,by omega, ?_, ?_, ?_, ?_,hs,hkk.up (by simp [World.setCell]), ?_⟩
       . exact(((HA6.o.set hgne.symm).set hgne.symm).set hgne.symm).set hgne.symm
       . exact(((hB6.set (by omega)).set (by omega)).set (by omega)).set (by omega)
       . exact aY (aY (aY (aY hrp6 hng) hng) hng) hng
       . exact⟨zK (zK (zK (zK hrt6 htg) htg) htg) htg,Hrt.o.2⟩
       . exact((((fV Hbel.o Hb6.o (a8)).setCell (p:=⟨g,j * 4,none⟩) (by show W.heap.size <= g;omega) _).setCell (p:=⟨g,j * 4+1,none⟩) (by show W.heap.size <= g;omega) _).setCell (p:=⟨g,j * 4+2,none⟩) (by show W.heap.size <= g;omega) _).setCell (p:=⟨g,j * 4+3,none⟩) (by show W.heap.size <= g;omega) _
   . have hnl:decide ((j:Int) < ks.length)=false:=by simp;omega
     clear hown hbel Hi
     go_wp2_with fail
     refine bodyPost_ret (v:= .agg #[.bool l, .slice pa ps.length pc, .slice ta t.length tc, .slice ka ks.length kc]) (by simp [results,Tryz.results61,go_sem,z0,z1,z2,z3]) rfl ?_
     have hj:j=ks.length:=by omega
     have hown2:=Hown.o
     have hkids2:=Hkids.o
     rw [hj,List.take_length]at hkids2
     rw [hj,List.drop_eq_nil_of_le (by omega),List.append_nil]at hown2
     have hn1:¬ (W.heap.size+2 <= W.heap.size+1/\W.heap.size+1 < wc.heap.size/\(Value.slice ka ks.length kc).ownBlock≠some (W.heap.size+1)/\(Value.slice ta t.length tc).ownBlock≠some (W.heap.size+1)):=fun h=>by omega
     have hMw:=HwM.o
     have hbo:∀ {w:World} {e sz n o:Nat} {v u:Value} {cs:List Value},w.ownsRow (W.heap.size+2) e sz v n cs ->(w.setCell ⟨W.heap.size+1,o,none⟩ u).ownsRow (W.heap.size+2) e sz v n cs:=fun h=>ownsRow_setCell_below (a:=⟨W.heap.size+1,_,none⟩) h (by show W.heap.size+1 < _;omega) _
     refine⟨[.bool l, .slice pa ps.length pc, .slice ta t.length tc, .slice ka ks.length kc],rfl, ?_, ?_⟩
     . unfold rQ
       refine⟨pa,pc,ta,tc,ka,kc,csN,rfl, ?_, ?_,Htw.o, ?_, ?_,Htk.o⟩
       . exact(F4 Hrp.o hn1 _ _ _ _).keep (a8) (fun _ _ _=>rfl) (fun b hb _=>⟨by omega,hb.2.2.1,hb.2.2.2⟩)
       . exact lK (hbo (hbo (hbo (hbo Hrt.o.1)))) (by omega)
       . exact lK (hbo (hbo (hbo (hbo hown2)))) (by omega)
       . refine eX.q (fun b hb hb2=>⟨by omega,fun e=> ?_,fun e=> ?_⟩) (kV (kV (kV (kV hkids2 (by omega)) (by omega)) (by omega)) (by omega))
         . have:=HgM.o b e;omega
         . have:=Hrt.o.2 b e;omega
     . with_reducible exact iQ Hbel.o (Nat.le_succ _) _ _ _ _
theorem rQ.q {w:World} {M:Nat} {n:aK} {cs:List Value} (h:rQ w M n cs):NodeQ w (fun b=>M <= b) n cs:=by
 obtain⟨l,ps,t,ks⟩:=n
 unfold rQ at h
 unfold NodeQ
 obtain⟨ap,cp,at_,ct,ak,ck,css,h1,h2,h3,h4,h5,h6,h7⟩:=h
 obtain⟨a1,c1,hv1,hr1⟩:=RowQ.of_own h3 (by intro u hu;obtain⟨z, -,rfl⟩:=List.mem_map.1 hu;rfl)
 obtain⟨a2,c2,hv2,hr2⟩:=RowQ.of_own h5 h6.onec
 injection hv1 with e1 e2 e3
 injection hv2 with g1 g2 g3
 subst e1;subst e3;subst g1;subst g3
 exact⟨ap,cp,at_,ct,ak,ck,css,h1,h2.keep (a8) (fun _ _ _=>rfl) (fun b hb _=>hb.1),hr1.keep (a8) (fun _ _ _=>rfl) (fun b hb _=>(h3.lt b hb).1),h4,hr2.keep (a8) (fun _ _ _=>rfl) (fun b hb _=>(h5.lt b hb).1),bX.keep (a8) (fun _ _ _=>rfl) (fun b hb _=>hb.1) _ _ h6⟩
theorem rQ.form {w:World} {M:Nat} {n:aK} {cs:List Value} (h:rQ w M n cs):∃l a1 n1 c1 a2 n2 c2 a3 n3 c3,cs= [.bool l, .slice a1 n1 c1, .slice a2 n2 c2, .slice a3 n3 c3]:=h.q.form
theorem rQ.set {w:World} {M N o:Nat} {n:aK} {cs:List Value} {u:Value} (h:rQ w M n cs) (hN:N < M):rQ (w.setCell ⟨N,o,none⟩ u) M n cs:=by
 obtain⟨l,ps,t,ks⟩:=n
 unfold rQ at h⊢
 obtain⟨ap,cp,at_,ct,ak,ck,css,h1,h2,h3,h4,h5,h6,h7⟩:=h
 have hh:∀b,M <= b ->(w.setCell ⟨N,o,none⟩ u).heap[b]? =w.heap[b]? :=fun b hb=>Below.heap_setCell w ⟨N,o,none⟩ u b (by show b≠N;omega)
 exact⟨ap,cp,at_,ct,ak,ck,css,h1,h2.keep (by simp [World.setCell]) (fun b hb _=>hh b hb.1) (fun _ hb _=>hb),ownsRow_setCell_below (a:=⟨N,o,none⟩) h3 hN _,h4,ownsRow_setCell_below (a:=⟨N,o,none⟩) h5 hN _,bX.keep (by simp [World.setCell]) (fun b hb _=>hh b hb.1) (fun _ hb _=>hb) _ _ h6,h7⟩
theorem rQ.from {w:World} {M M':Nat} {n:aK} {cs:List Value} (h:rQ w M n cs) (hM:M' <= M):rQ w M' n cs:=by
 obtain⟨l,ps,t,ks⟩:=n
 unfold rQ at h⊢
 obtain⟨ap,cp,at_,ct,ak,ck,css,h1,h2,h3,h4,h5,h6,h7⟩:=h
 exact⟨ap,cp,at_,ct,ak,ck,css,h1,h2.keep (a8) (fun _ _ _=>rfl) (fun b hb _=>⟨by omega,hb.2⟩),lK h3 hM,h4,lK h5 hM,bX.keep (a8) (fun _ _ _=>rfl) (fun b hb _=>⟨by omega,hb.2⟩) _ _ h6,h7⟩
def n_W (W:World) (m:aK) (e:Ending) (w':World):Prop:= ∃cs,e= .returned (.tuple #[.agg cs.toArray, .int .i64 0])/\rQ w' W.heap.size m cs/\Below W.heap.size W w'
theorem m_V (n m:aK) (p:List Int) (v:Value) (pa:Option Addr) (pc:Nat) (W:World) (hbig:n.wt <= 100000000) (hv:bY W W.heap.size n v) (hp:RowA W W.heap.size 1 pa p.length pc (p.map (Value.int .i64))) (hat:kK n p=some m):
 Calls Tryz.prog 13 #[v, .slice pa p.length pc] W (n_W W m):=by
 have hwt:=uK p n
 obtain⟨csn,rfl,hc⟩:=hv
 obtain⟨l,a1,n1,c1,a2,n2,c2,a3,n3,c3,rfl⟩:=hc.form
 have hA:=(b6.fresh W (.bool l) (.slice a1 n1 c1) (.slice a2 n2 c2) (.slice a3 n3 c3)).alloc (Obj.cells #[.bool false, .slice none 0 0, .slice none 0 0, .slice none 0 0] 35)
 have hB:=m8 W (Obj.cells #[.bool l, .slice a1 n1 c1, .slice a2 n2 c2, .slice a3 n3 c3] 35) (.bool false) (.slice none 0 0) (.slice none 0 0) (.slice none 0 0)
 have hb0:Below W.heap.size W ((W.alloc (Obj.cells #[.bool l, .slice a1 n1 c1, .slice a2 n2 c2, .slice a3 n3 c3] 35)).alloc (Obj.cells #[.bool false, .slice none 0 0, .slice none 0 0, .slice none 0 0] 35)):=((a7).alloc (a8) _).alloc (by simp) _
 have hs0:((W.alloc (Obj.cells #[.bool l, .slice a1 n1 c1, .slice a2 n2 c2, .slice a3 n3 c3] 35)).alloc (Obj.cells #[.bool false, .slice none 0 0, .slice none 0 0, .slice none 0 0] 35)).heap.size=W.heap.size+2:=by simp
 obtain⟨y0,y1,y2,y3, -, -⟩:=hA.facts
 have HAt:=a6 (m_F n p pa pc W.heap.size 0 W.heap.size _ ⟨l,a1,n1,c1,a2,n2,c2,a3,n3,c3,dJ.keep hb0 (a8) _ _ hc,y0,y1,y2,y3⟩ (hp.keep hb0 (a8)))
 have Hb0:=a6 hb0;have HB:=a6 hB;have Hs0:=a6 hs0
 clear hc hA hB hb0 hs0 y0 y1 y2 y3 hp
 rw [hat]at HAt
 have hmw:=hwt m hat
 clear hat hwt
 go_enter Tryz.func13,Tryz.ntmps13
 obtain⟨w0,hw0⟩:∃w0,w0=(W.alloc (Obj.cells #[.bool l, .slice a1 n1 c1, .slice a2 n2 c2, .slice a3 n3 c3] 35)).alloc (Obj.cells #[.bool false, .slice none 0 0, .slice none 0 0, .slice none 0 0] 35):=⟨_,rfl⟩
 go_wp2_with fail
 rw [<- hw0]at HAt Hb0 HB Hs0⊢
 refine HAt.o.mono ?_
 rintro e w1 ⟨⟨b,off,rfl,l',b1,o1,d1,b2,o2,d2,b3,o3,d3,hmc,x0,x1,x2,x3⟩,rfl⟩
 have HC:=a6 (l_L m (.agg #[.bool l', .slice b1 o1 d1, .slice b2 o2 d2, .slice b3 o3 d3]) w0 (by omega) ⟨_,rfl,dJ.keep (a7) (by rw [Hs0.o];omega) _ _ hmc⟩)
 clear HAt hw0 hmc
 go_wp2_with fail
 refine HC.o.mono ?_
 rintro e w2 ⟨cs,rfl,hnode,hbel⟩
 obtain⟨m1,p1,q1,r1,p2,q2,r2,p3,q3,r3,rfl⟩:=hnode.form
 have hB2:=HB.o.keep (hbel.mono (by rw [Hs0.o];omega))
 obtain⟨z0,z1,z2,z3,⟨g0,g1,g2,g3⟩,hB5⟩:=hB2.facts
 have Hb2:=a6 (Hb0.o.trans (hbel.mono (by rw [Hs0.o];omega)))
 have Hnode:=a6 hnode
 clear HC hnode hbel x0 x1 x2 x3 hB2 HB
 go_wp2_with fail
 refine bodyPost_ret (v:= .tuple #[.agg #[.bool m1, .slice p1 q1 r1, .slice p2 q2 r2, .slice p3 q3 r3], .int .i64 0]) (by simp [results,Tryz.results13,go_sem,z0,z1,z2,z3]) rfl ?_
 refine⟨_,rfl, ?_, ?_⟩
 . have hlt:W.heap.size+1 < w0.heap.size:=by rw [Hs0.o];omega
   exact rQ.from (rQ.set (rQ.set (rQ.set (rQ.set Hnode.o hlt) hlt) hlt) hlt) (by rw [Hs0.o];omega)
 . with_reducible exact iQ Hb2.o (Nat.le_succ _) _ _ _ _
end Go.Proofs.YtmadpclcmjahoaaGreatDoor
