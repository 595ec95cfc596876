/- Parts of the proof: 13. -/
import Derived.Test.YtmadpclcmjahoaaGreatDoorFN1
import Derived.Test.YtmadpclcmjahoaaGreatDoorFN12
import Derived.Test.YtmadpclcmjahoaaGreatDoorFN4
import Derived.Test.YtmadpclcmjahoaaGreatDoorFN2
set_option linter.unusedVariables false
set_option linter.unusedSimpArgs false
set_option maxHeartbeats 8000000
set_option maxRecDepth 100000
namespace Go.Proofs.YtmadpclcmjahoaaGreatDoor
open Go.RowKit Go.Redl
theorem _root_.Go.Redl.Below.and {w0 w w1:World} (h:Below w0.heap.size w0 w) (h1:Below w.heap.size w w1):Below w0.heap.size w0 w1:=h.trans (h1.mono h.size)
theorem g_H {p q:Nat ->Bool} {n:Nat} (h:∀i,i < n ->p i=q i):rX p n=rX q n:=by
 rcases kQ q n with⟨k,hk,hp,hm,he⟩ | ⟨hm,he⟩
 . rw [he];exact qQ hk (by rw [h k hk];exact hp) (fun j hj=>by rw [h j (by omega)];exact hm j hj)
 . rw [he];exact oX (fun j hj=>by rw [h j hj];exact hm j hj)
theorem e_h (r:bJ) (ks:List aK) (d:Int):JK (kX r ks) d=rX (fun i=>decide ((eY r (cX ks i)).1=d)) ks.length:=by
 unfold JK
 rw [show (kX r ks).length=ks.length by simp]
 refine g_H fun i hi=> ?_
 rw [u_9 hi]
 simp [List.getD,List.getElem?_eq_getElem hi]
theorem k_3 (r:bJ) (ks:List aK):i7 r ks 1=JK (kX r ks) 2:=by
 rw [e_h];unfold i7;rw [if_neg (by omega)];congr 1
theorem k_4 (r:bJ) (ks:List aK):i7 r ks 2=JK (kX r ks) 3:=by
 rw [e_h];unfold i7;rw [if_neg (by omega)];congr 1
theorem g_I (r:bJ) (ks:List aK):i7 r ks 3=JK (kX r ks) 4:=by
 rw [e_h];unfold i7;rw [if_neg (by omega)];congr 1
theorem zV (r:bJ) (ks:List aK):i7 r ks 6=if ks.length=0/\r.fill≠0 then 0 else -1:=by
 unfold i7;rw [if_pos rfl]
theorem k_5:(Tryz.prog.info? 24).map (fun i=>(i.zero,i.size,i.bytes))=some (some (.agg #[.int .i64 0, .string ⟨#[]⟩]),2,24):=by kernel_rfl
theorem d_y:∀args w,(callFunc 71 args).run Tryz.prog w= .ok (.enter 71 args) w:=by intro args w;kernel_rfl
theorem c_r:∀args w,(callFunc 53 args).run Tryz.prog w= .ok (.enter 53 args) w:=by intro args w;kernel_rfl
def mK (n:Nat):List Value:=(List.replicate n (0,([]:List UInt8))).flatMap oV
theorem i_r (n:Nat):(madeCells (#[.int .i64 0, .string ⟨#[]⟩]:Array Value) (n * 2))=(mK n).toArray:=by
 apply Array.ext'
 unfold madeCells mK
 simp only [Array.toList_map,Array.toList_range]
 induction n with
 | zero=>simp
 | succ n ih=>
   rw [show (n+1) * 2=n * 2+1+1 by omega,List.range_succ,List.range_succ,List.replicate_succ',List.flatMap_append]
   simp only [List.map_append,List.append_assoc,ih]
   congr 1
   simp [oV,aV]
theorem i_s (n:Nat) (hn:n <= 100000000) (w:World):
 (Instr.makeSlice 116 (.int .i64 (n:Int)) (.int .i64 (n:Int))).run Tryz.prog w= .ok (.slice (some ⟨w.heap.size,0,none⟩) n n) (w.alloc (.cells (mK n).toArray 24)):=by
 obtain⟨i,hi,hz,hs,hb⟩:∃i,Tryz.prog.info? 24=some i/\i.zero=some (.agg #[.int .i64 0, .string ⟨#[]⟩])/\i.size=2/\i.bytes=24:=by
  obtain⟨i,hi,hzz⟩:=Option.map_eq_some_iff.1 k_5
  simp only [Prod.mk.injEq]at hzz
  exact⟨i,hi,hzz⟩
 have hr:=run_make (P:=Tryz.prog) w 116 24 i _ Tryz.underlying116 hi hz .i64 .i64 n n (by omega) (Int.le_refl _) (by rw [hb];omega) (by omega)
 simp only [Int.toNat_natCast,hs,Value.cells]at hr
 rw [hr,i_r]
theorem At.s13 {w:World} {N:Nat} {c0 c1 c2 c3 c4 c5 c6 c7 c8 c9 c10 c11 c12:Value} {T:TypeId} (h:At w N [c0,c1,c2,c3,c4,c5,c6,c7,c8,c9,c10,c11,c12] T) (d0 d1 d2 d3 d4 d5 d6 d7 d8 d9 d10 d11 d12:Value):At (((((((((((((w.setCell ⟨N,0,none⟩ d0).setCell ⟨N,1,none⟩ d1).setCell ⟨N,2,none⟩ d2).setCell ⟨N,3,none⟩ d3).setCell ⟨N,4,none⟩ d4).setCell ⟨N,5,none⟩ d5).setCell ⟨N,6,none⟩ d6).setCell ⟨N,7,none⟩ d7).setCell ⟨N,8,none⟩ d8).setCell ⟨N,9,none⟩ d9).setCell ⟨N,10,none⟩ d10).setCell ⟨N,11,none⟩ d11).setCell ⟨N,12,none⟩ d12) N [d0,d1,d2,d3,d4,d5,d6,d7,d8,d9,d10,d11,d12] T:=by
 have h0:At (w.setCell ⟨N,0,none⟩ d0) N [d0,c1,c2,c3,c4,c5,c6,c7,c8,c9,c10,c11,c12] T:=h.set 0 d0
 have h1:At ((w.setCell ⟨N,0,none⟩ d0).setCell ⟨N,1,none⟩ d1) N [d0,d1,c2,c3,c4,c5,c6,c7,c8,c9,c10,c11,c12] T:=h0.set 1 d1
 have h2:At (((w.setCell ⟨N,0,none⟩ d0).setCell ⟨N,1,none⟩ d1).setCell ⟨N,2,none⟩ d2) N [d0,d1,d2,c3,c4,c5,c6,c7,c8,c9,c10,c11,c12] T:=h1.set 2 d2
 have h3:At ((((w.setCell ⟨N,0,none⟩ d0).setCell ⟨N,1,none⟩ d1).setCell ⟨N,2,none⟩ d2).setCell ⟨N,3,none⟩ d3) N [d0,d1,d2,d3,c4,c5,c6,c7,c8,c9,c10,c11,c12] T:=h2.set 3 d3
 have h4:At (((((w.setCell ⟨N,0,none⟩ d0).setCell ⟨N,1,none⟩ d1).setCell ⟨N,2,none⟩ d2).setCell ⟨N,3,none⟩ d3).setCell ⟨N,4,none⟩ d4) N [d0,d1,d2,d3,d4,c5,c6,c7,c8,c9,c10,c11,c12] T:=h3.set 4 d4
 have h5:At ((((((w.setCell ⟨N,0,none⟩ d0).setCell ⟨N,1,none⟩ d1).setCell ⟨N,2,none⟩ d2).setCell ⟨N,3,none⟩ d3).setCell ⟨N,4,none⟩ d4).setCell ⟨N,5,none⟩ d5) N [d0,d1,d2,d3,d4,d5,c6,c7,c8,c9,c10,c11,c12] T:=h4.set 5 d5
 have h6:At (((((((w.setCell ⟨N,0,none⟩ d0).setCell ⟨N,1,none⟩ d1).setCell ⟨N,2,none⟩ d2).setCell ⟨N,3,none⟩ d3).setCell ⟨N,4,none⟩ d4).setCell ⟨N,5,none⟩ d5).setCell ⟨N,6,none⟩ d6) N [d0,d1,d2,d3,d4,d5,d6,c7,c8,c9,c10,c11,c12] T:=h5.set 6 d6
 have h7:At ((((((((w.setCell ⟨N,0,none⟩ d0).setCell ⟨N,1,none⟩ d1).setCell ⟨N,2,none⟩ d2).setCell ⟨N,3,none⟩ d3).setCell ⟨N,4,none⟩ d4).setCell ⟨N,5,none⟩ d5).setCell ⟨N,6,none⟩ d6).setCell ⟨N,7,none⟩ d7) N [d0,d1,d2,d3,d4,d5,d6,d7,c8,c9,c10,c11,c12] T:=h6.set 7 d7
 have h8:At (((((((((w.setCell ⟨N,0,none⟩ d0).setCell ⟨N,1,none⟩ d1).setCell ⟨N,2,none⟩ d2).setCell ⟨N,3,none⟩ d3).setCell ⟨N,4,none⟩ d4).setCell ⟨N,5,none⟩ d5).setCell ⟨N,6,none⟩ d6).setCell ⟨N,7,none⟩ d7).setCell ⟨N,8,none⟩ d8) N [d0,d1,d2,d3,d4,d5,d6,d7,d8,c9,c10,c11,c12] T:=h7.set 8 d8
 have h9:At ((((((((((w.setCell ⟨N,0,none⟩ d0).setCell ⟨N,1,none⟩ d1).setCell ⟨N,2,none⟩ d2).setCell ⟨N,3,none⟩ d3).setCell ⟨N,4,none⟩ d4).setCell ⟨N,5,none⟩ d5).setCell ⟨N,6,none⟩ d6).setCell ⟨N,7,none⟩ d7).setCell ⟨N,8,none⟩ d8).setCell ⟨N,9,none⟩ d9) N [d0,d1,d2,d3,d4,d5,d6,d7,d8,d9,c10,c11,c12] T:=h8.set 9 d9
 have h10:At (((((((((((w.setCell ⟨N,0,none⟩ d0).setCell ⟨N,1,none⟩ d1).setCell ⟨N,2,none⟩ d2).setCell ⟨N,3,none⟩ d3).setCell ⟨N,4,none⟩ d4).setCell ⟨N,5,none⟩ d5).setCell ⟨N,6,none⟩ d6).setCell ⟨N,7,none⟩ d7).setCell ⟨N,8,none⟩ d8).setCell ⟨N,9,none⟩ d9).setCell ⟨N,10,none⟩ d10) N [d0,d1,d2,d3,d4,d5,d6,d7,d8,d9,d10,c11,c12] T:=h9.set 10 d10
 have h11:At ((((((((((((w.setCell ⟨N,0,none⟩ d0).setCell ⟨N,1,none⟩ d1).setCell ⟨N,2,none⟩ d2).setCell ⟨N,3,none⟩ d3).setCell ⟨N,4,none⟩ d4).setCell ⟨N,5,none⟩ d5).setCell ⟨N,6,none⟩ d6).setCell ⟨N,7,none⟩ d7).setCell ⟨N,8,none⟩ d8).setCell ⟨N,9,none⟩ d9).setCell ⟨N,10,none⟩ d10).setCell ⟨N,11,none⟩ d11) N [d0,d1,d2,d3,d4,d5,d6,d7,d8,d9,d10,d11,c12] T:=h10.set 11 d11
 exact h11.set 12 d12
theorem At.n13 {w:World} {N M:Nat} {cs:List Value} {T:TypeId} (h:At w M cs T) (hne:M≠N) (d0 d1 d2 d3 d4 d5 d6 d7 d8 d9 d10 d11 d12:Value):At (((((((((((((w.setCell ⟨N,0,none⟩ d0).setCell ⟨N,1,none⟩ d1).setCell ⟨N,2,none⟩ d2).setCell ⟨N,3,none⟩ d3).setCell ⟨N,4,none⟩ d4).setCell ⟨N,5,none⟩ d5).setCell ⟨N,6,none⟩ d6).setCell ⟨N,7,none⟩ d7).setCell ⟨N,8,none⟩ d8).setCell ⟨N,9,none⟩ d9).setCell ⟨N,10,none⟩ d10).setCell ⟨N,11,none⟩ d11).setCell ⟨N,12,none⟩ d12) M cs T:=
 ((((((((((((h.set_ne hne _).set_ne hne _).set_ne hne _).set_ne hne _).set_ne hne _).set_ne hne _).set_ne hne _).set_ne hne _).set_ne hne _).set_ne hne _).set_ne hne _).set_ne hne _).set_ne hne _
theorem k_6 {w:World} {ok:Nat ->Prop} {sz n cap N:Nat} {a:Option Addr} {cs:List Value} (h:RowQ w ok sz a n cap cs) (hne:¬ok N) (d0 d1 d2 d3 d4 d5 d6 d7 d8 d9 d10 d11 d12:Value):RowQ (((((((((((((w.setCell ⟨N,0,none⟩ d0).setCell ⟨N,1,none⟩ d1).setCell ⟨N,2,none⟩ d2).setCell ⟨N,3,none⟩ d3).setCell ⟨N,4,none⟩ d4).setCell ⟨N,5,none⟩ d5).setCell ⟨N,6,none⟩ d6).setCell ⟨N,7,none⟩ d7).setCell ⟨N,8,none⟩ d8).setCell ⟨N,9,none⟩ d9).setCell ⟨N,10,none⟩ d10).setCell ⟨N,11,none⟩ d11).setCell ⟨N,12,none⟩ d12) ok sz a n cap cs:=
 aY (aY (aY (aY (aY (aY (aY (aY (aY (aY (aY (aY (aY h hne) hne) hne) hne) hne) hne) hne) hne) hne) hne) hne) hne) hne
theorem At.drew {w:World} {N:Nat} {cs:List Value} {T:TypeId} (h:At w N cs T):At w.drew N cs T:=h
theorem At.lay {w:World} {N:Nat} {cs:List Value} {T:TypeId} {G:Prop} (h:At w N cs T) (k:Hid (At w N cs T) ->G):G:=k h
theorem uQ {w:World} {ok:Nat ->Prop} {sz n cap:Nat} {a:Option Addr} {cs:List Value} (h:RowQ w ok sz a n cap cs) (o:Obj):RowQ (w.alloc o) ok sz a n cap cs:=
 h.keep (by simp) (fun b _ hlt=>Lib.alloc_old _ _ _ hlt) (fun _ hb _=>hb)
theorem At.fresh2 {W:World} {N:Nat} {cs:List Value} {T:TypeId} (h:N=W.heap.size):At (W.alloc (.cells cs.toArray T)) N cs T:=h ▸ At.fresh W cs T
theorem LV (m:Nat):mK (m+1)= .int .i64 0::aV []::mK m:=by
 simp [mK,List.replicate_succ,oV]
theorem i_t {w:World} {N k m:Nat} {l:List A7} {T:TypeId} (hl:l.length=k) (hm:0 < m) (h:At w N (m4 l ++ mK m) T):
 w.cell? ⟨N,k * 2,none⟩=some (.int .i64 0)/\w.cell? ⟨N,k * 2+1,none⟩=some (aV [])/\∀j,w.frozen? ⟨N,j,none⟩=false:=by
 obtain⟨m,rfl⟩:∃m',m=m'+1:=⟨m - 1,by omega⟩
 have hr:=N1 l
 rw [LV]at h
 refine⟨h.cell _ ?_,h.cell _ ?_,fun j=>Lib.frozen_of_heap h _⟩
 . rw [List.getElem?_append_right (by omega),hr,hl,Nat.sub_self];rfl
 . rw [List.getElem?_append_right (by omega),hr,hl,Nat.add_sub_cancel_left];rfl
theorem k_7 {w:World} {N k m:Nat} {l:List A7} {T:TypeId} (A:A7) (hl:l.length=k) (hm:0 < m) (h:At w N (m4 l ++ mK m) T):
 At ((w.setCell ⟨N,k * 2,none⟩ (.int .i64 A.1)).setCell ⟨N,k * 2+1,none⟩ (aV A.2)) N (m4 (l ++ [A]) ++ mK (m - 1)) T:=by
 obtain⟨m,rfl⟩:∃m',m=m'+1:=⟨m - 1,by omega⟩
 have hr:=N1 l
 have h2:=(h.set (k * 2) (.int .i64 A.1)).set (k * 2+1) (aV A.2)
 rw [LV,List.set_append_right _ _ (by omega),hr,hl,Nat.sub_self,List.set_append_right _ _ (by omega),hr,hl,Nat.add_sub_cancel_left]at h2
 have e:m4 (l ++ [A])=m4 l ++ [.int .i64 A.1,aV A.2]:=by simp [m4,oV]
 rw [e]
 simpa using h2
theorem k_8 {w:World} {N:Nat} {l:List A7} {T:TypeId} (hl:l.length <= 100000000) (h:At w N (m4 l) T):RowA w w.heap.size 2 (some ⟨N,0,none⟩) l.length l.length (m4 l):=by
 refine⟨N1 l,a8,by unfold maxLen;omega,fun u hu=> ?_,(fun e=>by cases e),fun _=>⟨N,0,rfl,h.lt,fun j u hj=>by rw [Nat.zero_add];exact h.cell j hj⟩⟩
 unfold m4 at hu
 obtain⟨a, -,ha⟩:=List.mem_flatMap.1 hu
 simp [oV]at ha
 rcases ha with rfl | rfl <;> rfl
theorem N3 {r:bJ} {ks:List aK} {c:Int} {cs:List Int} (h:¬0 <= i7 r ks c):B5 r ks (c::cs)=B5 r ks cs:=by
 conv=>lhs;unfold B5
 rw [if_neg h]
theorem k_9 (s:b8) (sv:Value) (n:aK) (v:Value) (W:World) (hsw:s.wt <= 100000000) (hw:n.wt <= 100000000) (hs:SchemaV W W.heap.size s sv) (hv:bY W W.heap.size n v):
 Calls Tryz.prog 16 #[sv,v] W (n_I W (g9 s n)):=by
 have hv0:=hv;have hs0:=hs
 obtain⟨lf,ps,t,ks⟩:=n
 obtain⟨ap,cp,at_,ct,ak,ck,css,rfl, -, -,hk,hkk⟩:=hv0.open
 obtain⟨a,c,rcss,ea,ec,o0,o1,o2,o3,o4,o5,rfl, -, -, -,ho⟩:=hs0.open
 have hRk:(bV s (dZ (.mk lf ps t ks))).kids.length <= 100000000:=by have:=GZ (bV s (dZ (.mk lf ps t ks)));have:=L0 s (dZ (.mk lf ps t ks));omega
 have hkl:ks.length <= 100000000:=by have:=fX ks;simp only [aK.wt]at hw;omega
 have hF:g9 s (.mk lf ps t ks)=if lf then (0,0,0) else B5 (bV s (dZ (.mk lf ps t ks))) ks [o0,o1,o2,o3,o4,o5]:=by
  unfold g9;rw [ho];rfl
 obtain⟨F,hFF⟩:∃F,F=g9 s (.mk lf ps t ks):=⟨_,rfl⟩
 rw [<- hFF]at hF⊢
 have hRO:=fun(k:List UInt8) (w1:World) (hb:Below W.heap.size W w1)=>a_t s _ k w1 hsw (hs.keep hb hb.size)
 have hTY:=fun(w1:World) (hb:Below W.heap.size W w1)=>g_a (.mk lf ps t ks) _ w1 hw (hv.keep hb hb.size)
 have hAC:=fun(ra:Option Addr) (rc:Nat) (q:aK) (qv:Value) (w1:World) (hr) (hq:bY w1 w1.heap.size q qv) (hqw:q.wt <= 100000000)=>h_y (bV s (dZ (.mk lf ps t ks))) ra rc q qv w1 hr hRk hq hqw
 have hqw:∀q∈ks,q.wt <= 100000000:=fun q hq=>by have:=iK hq;simp only [aK.wt]at hw;omega
 generalize dZ (.mk lf ps t ks)=ty at hRO hTY hAC hF hRk
 obtain⟨w0,hw0⟩:∃w0,w0=(((W.alloc (Obj.cells #[.slice a s.rules.length c,aV s.els.type, .int .i64 s.els.text.1,aV s.els.text.2, .int .i64 s.els.other.1,aV s.els.other.2, .slice ea s.els.kids.length ec, .int .i64 s.els.fill,aV s.els.fillT, .int .i64 o0, .int .i64 o1, .int .i64 o2, .int .i64 o3, .int .i64 o4, .int .i64 o5, .int .i64 s.cap] 30)).alloc (Obj.cells #[.bool lf, .slice ap ps.length cp, .slice at_ t.length ct, .slice ak ks.length ck] 35)).alloc (Obj.cells #[.int .i64 0, .int .i64 0, .int .i64 0] 60)):=⟨_,rfl⟩
 have hb0:Below W.heap.size W w0:=by rw [hw0];exact iX _ _ _ _
 have hA:At w0 W.heap.size [.slice a s.rules.length c,aV s.els.type, .int .i64 s.els.text.1,aV s.els.text.2, .int .i64 s.els.other.1,aV s.els.other.2, .slice ea s.els.kids.length ec, .int .i64 s.els.fill,aV s.els.fillT, .int .i64 o0, .int .i64 o1, .int .i64 o2, .int .i64 o3, .int .i64 o4, .int .i64 o5, .int .i64 s.cap] 30:=by rw [hw0];exact((At.fresh W _ _).alloc _).alloc _
 have hX:At w0 (W.heap.size+1) [.bool lf, .slice ap ps.length cp, .slice at_ t.length ct, .slice ak ks.length ck] 35:=by rw [hw0];exact(At.second W _ _ _).alloc _
 have hZ:At w0 (W.heap.size+1+1) [.int .i64 0, .int .i64 0, .int .i64 0] 60:=by rw [hw0];exact At.third W _ _ _ _
 have hcl:W.heap.size <= W.heap.size+1+1:=by omega
 have Hw0:=a6 hw0;have Hb0:=a6 hb0;have HA:=a6 hA;have HX:=a6 hX;have HZ:=a6 hZ
 have HF:=a6 hF;have HRO:=a6 hRO;have HTY:=a6 hTY;have HAC:=a6 hAC
 have Hk:=a6 hk;have Hkk:=a6 hkk;have Hqw:=a6 hqw
 obtain⟨⟨x0,x1,x2,x3,x4,x5,x6,x7,x8,x9,x10,x11,x12,x13,x14,x15⟩, -,xl⟩:=hA.f16
 obtain⟨⟨y0,y1,y2,y3⟩, -,yl⟩:=hX.f4
 obtain⟨⟨z0,z1,z2⟩,zf,zl⟩:=hZ.f3
 clear hw0 hb0 hA hX hZ hF hRO hTY hAC hk hkk hqw hv hv0 hs hs0 hFF ho hsw hw
 cases lf with
 | true=>
   clear HRO HTY HAC HA HX
   go_enter Tryz.func16,Tryz.ntmps16
   go_upto_region 1 with fail
   rw [<- Hw0.o]
   clear Hw0
   go_wp2_with fail
   refine bodyPost_ret (v:= .agg #[.int .i64 0, .int .i64 0, .int .i64 0]) (by simp [results,Tryz.results16,go_sem,z0,z1,z2]) rfl ?_
   rw [HF.o]
   exact⟨rfl,b_Z Hb0.o hcl _ _ _⟩
 | false =>
   have HRO2:=a6 (fun(w1:World) (hb:Below w0.heap.size w0 w1)=>HRO.o ty w1 (Hb0.o.trans (hb.mono Hb0.o.size)))
   have HTY2:=a6 (fun(w1:World) (hb:Below w0.heap.size w0 w1)=>HTY.o w1 (Hb0.o.trans (hb.mono Hb0.o.size)))
   clear HRO HTY
   generalize bV s ty=R at HF HRO2 HAC hRk
   have HF2:=a6 (show F=B5 R ks [o0,o1,o2,o3,o4,o5]from HF.o)
   clear HF
   go_enter Tryz.func16,Tryz.ntmps16
   go_upto_region 1 with fail
   rw [<- Hw0.o]
   clear Hw0
   go_upto_region 3 with fail
   go_cut [5] (fun p wx=>∃ (M M2:Nat) (ra:Option Addr) (rc:Nat),p= .pointer (some ⟨M,0,none⟩)/\At wx M [.bool false, .slice ap ps.length cp, .slice at_ t.length ct, .slice ak ks.length ck,aV R.type, .int .i64 R.text.1,aV R.text.2, .int .i64 R.other.1,aV R.other.2, .slice ra R.kids.length rc, .int .i64 R.fill,aV R.fillT, .slice (some ⟨M2,0,none⟩) ks.length ks.length] 118/\At wx M2 (mK ks.length) 24/\M≠M2/\w0.heap.size <= M/\w0.heap.size <= M2/\
    RowQ wx (fun b=>b≠M/\b≠M2) 3 ra R.kids.length rc (dY R.kids)/\Below w0.heap.size w0 wx)
   case first=>
    clear HF2 HAC Hk Hkk Hqw HZ z0 z1 z2 zf zl x0 x1 x2 x3 x4 x5 x6 x7 x8 x9 x10 x11 x12 x13 x14 x15 y0 y1 y2 y3
    have hW0:=Hb0.o.size
    have hMk:=i_s ks.length hkl
    have HS0:=a6 (fun(w':World) (hb:Below w0.heap.size w0 w')=>And.intro (HA.o.kept hb).f16.1 (HX.o.kept hb).f4.1)
    go_region_held3 (fun w'=>(w'.cell? ⟨W.heap.size,0,none⟩=some (.slice a s.rules.length c)/\w'.cell? ⟨W.heap.size,1,none⟩=some (aV s.els.type)/\w'.cell? ⟨W.heap.size,2,none⟩=some (.int .i64 s.els.text.1)/\w'.cell? ⟨W.heap.size,3,none⟩=some (aV s.els.text.2)/\w'.cell? ⟨W.heap.size,4,none⟩=some (.int .i64 s.els.other.1)/\w'.cell? ⟨W.heap.size,5,none⟩=some (aV s.els.other.2)/\w'.cell? ⟨W.heap.size,6,none⟩=some (.slice ea s.els.kids.length ec)/\w'.cell? ⟨W.heap.size,7,none⟩=some (.int .i64 s.els.fill)/\w'.cell? ⟨W.heap.size,8,none⟩=some (aV s.els.fillT)/\w'.cell? ⟨W.heap.size,9,none⟩=some (.int .i64 o0)/\w'.cell? ⟨W.heap.size,10,none⟩=some (.int .i64 o1)/\w'.cell? ⟨W.heap.size,11,none⟩=some (.int .i64 o2)/\w'.cell? ⟨W.heap.size,12,none⟩=some (.int .i64 o3)/\w'.cell? ⟨W.heap.size,13,none⟩=some (.int .i64 o4)/\w'.cell? ⟨W.heap.size,14,none⟩=some (.int .i64 o5)/\w'.cell? ⟨W.heap.size,15,none⟩=some (.int .i64 s.cap))/\(w'.cell? ⟨W.heap.size+1,0,none⟩=some (.bool false)/\w'.cell? ⟨W.heap.size+1,1,none⟩=some (.slice ap ps.length cp)/\w'.cell? ⟨W.heap.size+1,2,none⟩=some (.slice at_ t.length ct)/\w'.cell? ⟨W.heap.size+1,3,none⟩=some (.slice ak ks.length ck))) (refine HS0.o _ (by((repeat (first | with_reducible exact Hb2.o | with_reducible exact Hb1.o | with_reducible exact a7 | with_reducible refine Below.drew ?_ | with_reducible refine Below.alloc ?_ ?_ _ | with_reducible refine Below.setCell ?_ ?_ _)) <;> (first | with_reducible exact a8 | with_reducible exact Hb2.o.size | with_reducible exact Hb1.o.size | (have hsz:=Hb2.o.size;simp [World.setCell];omega) | (have hsz:=Hb1.o.size;simp [World.setCell];omega) | (simp;done) | (simp;omega) | omega))))
     (first
     | (refine b9 rfl 54 _ _ rfl c_0 [.agg #[.bool false, .slice ap ps.length cp, .slice at_ t.length ct, .slice ak ks.length ck]] ?_ _ (HTY2.o _ (by((repeat (first | with_reducible exact a7 | with_reducible refine Below.drew ?_ | with_reducible refine Below.alloc ?_ ?_ _ | with_reducible refine Below.setCell ?_ ?_ _)) <;> (first | with_reducible exact a8 | (simp;done) | (simp;omega) | omega)))) ?_
        . go_simp
        rintro e w1 ⟨rfl,hbel⟩
        refine⟨_,rfl, ?_⟩
        have Hz1:=a6 hbel.size
        have Hb1:=a6 (Below.and (w0:=w0) (by((repeat (first | with_reducible exact a7 | with_reducible refine Below.drew ?_ | with_reducible refine Below.alloc ?_ ?_ _ | with_reducible refine Below.setCell ?_ ?_ _)) <;> (first | with_reducible exact a8 | (simp;done) | (simp;omega) | omega))) hbel)
        first
         | (refine At.lay (N:= ?_) (cs:= [.bool false, .slice none 0 0, .slice none 0 0, .slice none 0 0,aV [], .int .i64 0,aV [], .int .i64 0,aV [], .slice none 0 0, .int .i64 0,aV [], .slice none 0 0]) (T:=118) (At.kept ?_ hbel) ?_
            rotate_left
            . (repeat (first | with_reducible exact At.second _ _ _ _ | with_reducible exact At.fresh _ _ _ | with_reducible refine At.drew ?_ | with_reducible refine At.alloc ?_ _))
            intro HM1)
         | skip
        first
         | (refine At.lay (N:= ?_) (cs:=(mK ks.length)) (T:=24) (At.kept ?_ hbel) ?_
            rotate_left
            . (repeat (first | with_reducible exact At.second _ _ _ _ | with_reducible exact At.fresh _ _ _ | with_reducible refine At.drew ?_ | with_reducible refine At.alloc ?_ _))
            intro HN1)
         | skip
        clear hbel)
     | (refine b9 rfl 53 _ _ rfl c_r [.agg #[.slice a s.rules.length c,aV s.els.type, .int .i64 s.els.text.1,aV s.els.text.2, .int .i64 s.els.other.1,aV s.els.other.2, .slice ea s.els.kids.length ec, .int .i64 s.els.fill,aV s.els.fillT, .int .i64 o0, .int .i64 o1, .int .i64 o2, .int .i64 o3, .int .i64 o4, .int .i64 o5, .int .i64 s.cap],aV ty] ?_ _ (HRO2.o _ (by((repeat (first | with_reducible exact Hb1.o | with_reducible exact a7 | with_reducible refine Below.drew ?_ | with_reducible refine Below.alloc ?_ ?_ _ | with_reducible refine Below.setCell ?_ ?_ _)) <;> (first | with_reducible exact a8 | with_reducible exact Hb1.o.size | (have hsz:=Hb1.o.size;simp [World.setCell];omega) | (simp;done) | (simp;omega) | omega)))) ?_
        . go_simp
        rintro e w2 ⟨ra,rc,rfl,hrow,hbel⟩
        refine⟨_,rfl, ?_⟩
        have Hz2:=a6 hbel.size
        have Hb2:=a6 (Below.and (w0:=w0) (by((repeat (first | with_reducible exact Hb1.o | with_reducible exact a7 | with_reducible refine Below.drew ?_ | with_reducible refine Below.alloc ?_ ?_ _ | with_reducible refine Below.setCell ?_ ?_ _)) <;> (first | with_reducible exact a8 | with_reducible exact Hb1.o.size | (have hsz:=Hb1.o.size;simp [World.setCell];omega) | (simp;done) | (simp;omega) | omega))) hbel)
        have Hrow:=a6 hrow
        first
         | (refine At.lay (N:= ?_) (cs:= [.bool false, .slice none 0 0, .slice none 0 0, .slice none 0 0,aV [], .int .i64 0,aV [], .int .i64 0,aV [], .slice none 0 0, .int .i64 0,aV [], .slice none 0 0]) (T:=118) (At.kept ?_ hbel) ?_
            rotate_left
            . (repeat (first | with_reducible exact HM1.o | with_reducible exact At.second _ _ _ _ | with_reducible exact At.fresh _ _ _ | with_reducible refine At.drew ?_ | with_reducible refine At.alloc ?_ _))
            intro HM2)
         | skip
        first
         | (refine At.lay (N:= ?_) (cs:=(mK ks.length)) (T:=24) (At.kept ?_ hbel) ?_
            rotate_left
            . (repeat (first | with_reducible exact HN1.o | with_reducible exact At.second _ _ _ _ | with_reducible exact At.fresh _ _ _ | with_reducible refine At.drew ?_ | with_reducible refine At.alloc ?_ _))
            intro HN2)
         | skip
        first
         | (obtain⟨⟨r0,r1,r2,r3,r4,r5,r6,r7,r8,r9,r10,r11,r12⟩,rf,rl⟩:=HM2.o.f13)
         | skip
        clear hbel hrow))
    all_goals
     go_wp2_with fail
     go_meet
     case rel=>
      have hz1:=Hz1.o;have hz2:=Hz2.o
      simp at hz1 hz2
      refine⟨_, ?_,ra,rc,rfl, ?_, ?_, ?_, ?_, ?_, ?_, ?_⟩
      rotate_left
      . (repeat (first | with_reducible exact HM2.o | with_reducible exact HM2.o.s13 _ _ _ _ _ _ _ _ _ _ _ _ _ | with_reducible exact(HM2.o.alloc _).s13 _ _ _ _ _ _ _ _ _ _ _ _ _ | with_reducible exact At.second _ _ _ _ | with_reducible exact At.fresh _ _ _ | (with_reducible refine At.fresh2 ?_;(simp [World.setCell];done)) | with_reducible refine At.drew ?_ | with_reducible refine At.alloc ?_ _ | (with_reducible refine At.n13 ?_ ?_ _ _ _ _ _ _ _ _ _ _ _ _ _;rotate_left;(omega))))
      . (repeat (first | with_reducible exact HN2.o | with_reducible exact HN2.o.s13 _ _ _ _ _ _ _ _ _ _ _ _ _ | with_reducible exact(HN2.o.alloc _).s13 _ _ _ _ _ _ _ _ _ _ _ _ _ | with_reducible exact At.second _ _ _ _ | with_reducible exact At.fresh _ _ _ | (with_reducible refine At.fresh2 ?_;(simp [World.setCell];done)) | with_reducible refine At.drew ?_ | with_reducible refine At.alloc ?_ _ | (with_reducible refine At.n13 ?_ ?_ _ _ _ _ _ _ _ _ _ _ _ _ _;rotate_left;(omega))))
      . omega
      . omega
      . omega
      . (repeat (first | with_reducible refine k_6 ?_ (by simp) _ _ _ _ _ _ _ _ _ _ _ _ _ | with_reducible refine uQ ?_ _))
        refine Hrow.o.keep (a8) (fun _ _ _=>rfl) (fun b hb hlt=> ?_)
        try simp at hb
        constructor <;> omega
      . ((repeat (first | with_reducible exact Hb2.o | with_reducible exact a7 | with_reducible refine Below.drew ?_ | with_reducible refine Below.alloc ?_ ?_ _ | with_reducible refine Below.setCell ?_ ?_ _)) <;> (first | with_reducible exact a8 | with_reducible exact Hb2.o.size | (have hsz:=Hb2.o.size;simp [World.setCell];omega) | (simp;done) | (simp;omega) | omega))
   case rest=>
    obtain⟨M,M2,ra,rc,rfl,hE,hM,hne,hM0,hM20,hrow,hb⟩:=hcut
    obtain⟨w5,rfl⟩:∃w5,w5=wc:=⟨_,rfl⟩
    have HWc:=a6 (Hb0.o.trans (hb.mono Hb0.o.size))
    have HAc:=a6 (HA.o.kept hb);have HXc:=a6 (HX.o.kept hb);have HZc:=a6 (HZ.o.kept hb)
    have HE:=a6 hE;have HM:=a6 hM;have Hrow:=a6 hrow
    have h12:W.heap.size+1+1 < w0.heap.size:=zl
    clear HRO2 HTY2 HA HX HZ hb hE hM hrow x0 x1 x2 x3 x4 x5 x6 x7 x8 x9 x10 x11 x12 x13 x14 x15 xl y0 y1 y2 y3 yl z0 z1 z2 zf zl
    have hXc:=HXc.o
    obtain⟨⟨y0,y1,y2,y3⟩, -,yl⟩:=hXc.f4
    clear hXc
    go_wp2_with fail
    clear y0 y1 y2 y3 yl
    go_loopg [29] ks.length (fun g i wr=>∃k:Nat,k+g=ks.length/\i= .int .i64 k/\At wr M2 (m4 ((kX R ks).take k) ++ mK (ks.length - k)) 24/\At wr M [.bool false, .slice ap ps.length cp, .slice at_ t.length ct, .slice ak ks.length ck,aV R.type, .int .i64 R.text.1,aV R.text.2, .int .i64 R.other.1,aV R.other.2, .slice ra R.kids.length rc, .int .i64 R.fill,aV R.fillT, .slice (some ⟨M2,0,none⟩) ks.length ks.length] 118/\At wr (W.heap.size+1) [.bool false, .slice ap ps.length cp, .slice at_ t.length ct, .slice ak ks.length ck] 35/\At wr W.heap.size [.slice a s.rules.length c,aV s.els.type, .int .i64 s.els.text.1,aV s.els.text.2, .int .i64 s.els.other.1,aV s.els.other.2, .slice ea s.els.kids.length ec, .int .i64 s.els.fill,aV s.els.fillT, .int .i64 o0, .int .i64 o1, .int .i64 o2, .int .i64 o3, .int .i64 o4, .int .i64 o5, .int .i64 s.cap] 30/\At wr (W.heap.size+1+1) [.int .i64 0, .int .i64 0, .int .i64 0] 60/\RowQ wr (fun b=>b≠M/\b≠M2) 3 ra R.kids.length rc (dY R.kids)/\Below W.heap.size W wr)
    case atStart=>exact⟨0,by omega,rfl,HM.o,HE.o,HXc.o,HAc.o,HZc.o,Hrow.o,HWc.o⟩
    case round=>
     obtain⟨k,hg,rfl,hm,he,hx,ha,hz,hr,hbr⟩:=hrel
     by_cases hlt:k < ks.length
     . --<2
       have hlti:(k:Int) < ks.length:=by omega
       have hkr:=Hk.o.keep hbr hbr.size;have hkkr:=dQ.keep hbr hbr.size _ _ Hkk.o
       obtain⟨kb,ko,a1,c1,a2,c2,a3,c3,rfl,hkb,hnv, -,g0,g1,g2,g3⟩:=i_m hkr hkkr k hlt
       have hqq:=Hqw.o _ (List.getElem_mem hlt)
       have hmp:(kX R ks).take (k+1)=(kX R ks).take k ++ [eY R ks[k]]:=by
        rw [List.take_succ_eq_append_getElem (by simpa using hlt)];simp
       generalize ks[k]=q at hnv hqq hmp g0 g1 g2 g3
       have Hmp:=a6 hmp
       have hb6:=aX wr (Obj.cells #[.bool (aZ q), .slice a1 (cV q).length c1, .slice a2 (gJ q).length c2, .slice a3 (aQ q).length c3] 35)
       have HAF:=a6 (fun(w1:World) (hb:Below wr.heap.size wr w1)=>HAC.o ra rc q _ w1 ((hr.keep hb.size (fun b _ hlt=>hb.block b hlt) (fun _ h _=>h)).row) (hnv.keep hb hb.size) hqq)
       have HSm:=a6 (fun(w1:World) (hb:Below wr.heap.size wr w1)=>hm.kept hb)
       have HSe:=a6 (fun(w1:World) (hb:Below wr.heap.size wr w1)=>he.kept hb)
       have Hx:=a6 hx;have Ha:=a6 ha;have Hz:=a6 hz;have Hr:=a6 hr;have Hbr:=a6 hbr
       obtain⟨A,hA⟩:∃A,A=eY R q:=⟨_,rfl⟩
       rw [<- hA]at HAF Hmp
       clear hA hmp hm he hx ha hz hr hkr hkkr hqq hnv hbr
       have hM2l:=(HSm.o wr (a7)).lt
       have hMl:=(HSe.o wr (a7)).lt
       go_upto_region 7 with fail
       obtain⟨w6,hw6⟩:∃w6,w6=wr.alloc (Obj.cells #[.bool (aZ q), .slice a1 (cV q).length c1, .slice a2 (gJ q).length c2, .slice a3 (aQ q).length c3] 35):=⟨_,rfl⟩
       rw [<- hw6]at hb6⊢
       have HK6:=a6 (show At w6 wr.heap.size [.bool (aZ q), .slice a1 (cV q).length c1, .slice a2 (gJ q).length c2, .slice a3 (aQ q).length c3] 35 by rw [hw6];exact At.fresh _ _ _)
       have HE6:=a6 (HSe.o _ hb6);have HM6:=a6 (HSm.o _ hb6)
       have Hb6:=a6 hb6
       have hs6:=hb6.size
       have HS1:=a6 (fun(w':World) (h1:At w' M [.bool false, .slice ap ps.length cp, .slice at_ t.length ct, .slice (some ⟨kb,ko,none⟩) ks.length ck,aV R.type, .int .i64 R.text.1,aV R.text.2, .int .i64 R.other.1,aV R.other.2, .slice ra R.kids.length rc, .int .i64 R.fill,aV R.fillT, .slice (some ⟨M2,0,none⟩) ks.length ks.length] 118) (h2:At w' wr.heap.size [.bool (aZ q), .slice a1 (cV q).length c1, .slice a2 (gJ q).length c2, .slice a3 (aQ q).length c3] 35)=>And.intro h1.f13.1 h2.f4.1)
       clear hw6 hb6
       go_region_held3 (fun w'=>(w'.cell? ⟨M,0,none⟩=some (.bool false)/\w'.cell? ⟨M,1,none⟩=some (.slice ap ps.length cp)/\w'.cell? ⟨M,2,none⟩=some (.slice at_ t.length ct)/\w'.cell? ⟨M,3,none⟩=some (.slice (some ⟨kb,ko,none⟩) ks.length ck)/\w'.cell? ⟨M,4,none⟩=some (aV R.type)/\w'.cell? ⟨M,5,none⟩=some (.int .i64 R.text.1)/\w'.cell? ⟨M,6,none⟩=some (aV R.text.2)/\w'.cell? ⟨M,7,none⟩=some (.int .i64 R.other.1)/\w'.cell? ⟨M,8,none⟩=some (aV R.other.2)/\w'.cell? ⟨M,9,none⟩=some (.slice ra R.kids.length rc)/\w'.cell? ⟨M,10,none⟩=some (.int .i64 R.fill)/\w'.cell? ⟨M,11,none⟩=some (aV R.fillT)/\w'.cell? ⟨M,12,none⟩=some (.slice (some ⟨M2,0,none⟩) ks.length ks.length))/\(w'.cell? ⟨wr.heap.size,0,none⟩=some (.bool (aZ q))/\w'.cell? ⟨wr.heap.size,1,none⟩=some (.slice a1 (cV q).length c1)/\w'.cell? ⟨wr.heap.size,2,none⟩=some (.slice a2 (gJ q).length c2)/\w'.cell? ⟨wr.heap.size,3,none⟩=some (.slice a3 (aQ q).length c3))) (refine HS1.o _ ?_ ?_ <;> (repeat (first | with_reducible exact HE7.o | with_reducible exact HK7.o | with_reducible exact HE6.o | with_reducible exact HK6.o | with_reducible exact At.second _ _ _ _ | with_reducible exact At.fresh _ _ _ | with_reducible refine At.drew ?_ | with_reducible refine At.alloc ?_ _ | (with_reducible refine At.set_ne ?_ ?_ _;rotate_left;omega))))
        (first | (refine b9 rfl 71 _ _ rfl d_y [.agg #[aV R.type, .int .i64 R.text.1,aV R.text.2, .int .i64 R.other.1,aV R.other.2, .slice ra R.kids.length rc, .int .i64 R.fill,aV R.fillT], .agg #[.bool (aZ q), .slice a1 (cV q).length c1, .slice a2 (gJ q).length c2, .slice a3 (aQ q).length c3]] ?_ _ (HAF.o _ (by((repeat (first | with_reducible exact Hb6.o | with_reducible exact a7 | with_reducible refine Below.drew ?_ | with_reducible refine Below.alloc ?_ ?_ _ | with_reducible refine Below.setCell ?_ ?_ _)) <;> (first | with_reducible exact a8 | with_reducible exact Hb6.o.size | (have hsz:=Hb6.o.size;simp [World.setCell];omega) | (simp;done) | (simp;omega) | omega)))) ?_
                  . go_simp
                  rintro e w7 ⟨rfl,hbel⟩
                  refine⟨_,rfl, ?_⟩
                  have hbel:=Below.and (w0:=w6) ((a7).drew) hbel
                  have Hb7:=a6 (Hb6.o.trans (hbel.mono Hb6.o.size))
                  have HE7:=a6 (HE6.o.kept hbel);have HK7:=a6 (HK6.o.kept hbel)
                  have hm7:=HM6.o.kept hbel
                  have HM7:=a6 hm7
                  obtain⟨m0,m1,mf⟩:=i_t (k:=k) (by simp;omega) (by omega) hm7
                  clear hbel hm7))
       go_wp2_with fail
       go_roundg (ks.length - (k+1))
       case measure=>omega
       case rel=>
        have hW2:W.heap.size <= M2:=by omega
        refine⟨k+1,by omega,by go_num, ?_,(HE7.o.set_ne hne _).set_ne hne _,((Hx.o.kept Hb7.o).set_ne (by omega) _).set_ne (by omega) _,((Ha.o.kept Hb7.o).set_ne (by omega) _).set_ne (by omega) _,((Hz.o.kept Hb7.o).set_ne (by omega) _).set_ne (by omega) _,
         aY (aY (Hr.o.keep Hb7.o.size (fun b _ hlt=>Hb7.o.block b hlt) (fun _ h _=>h)) (by simp)) (by simp),(((Hbr.o.trans (Hb7.o.mono Hbr.o.size)).setCell (p:=⟨M2,k * 2,none⟩) hW2 _).setCell (p:=⟨M2,k * 2+1,none⟩) hW2 _)⟩
        rw [Hmp.o,show ks.length - (k+1)=ks.length - k - 1 by omega]
        exact k_7 A (by simp;omega) (by omega) HM7.o
     . --<3
       obtain rfl:k=ks.length:=by omega
       rw [show (kX R ks).take ks.length=kX R ks by rw [List.take_of_length_le (by simp)],Nat.sub_self,show m4 (kX R ks) ++ mK 0=m4 (kX R ks)by simp [mK]]at hm
       have hml:=hm.lt
       have hbk:=fun(w1:World) (hb:Below wr.heap.size wr w1)=>(show Below W.heap.size W w1 from hbr.trans (hb.mono hbr.size))
       have hLK:=fun(w1:World) (hb:Below wr.heap.size wr w1)=>l_R (.bool false) (.slice ap ps.length cp) (.slice at_ t.length ct) ak ck ks css (aV R.type) (.int .i64 R.text.1) (aV R.text.2) (.int .i64 R.other.1) (aV R.other.2) (.slice ra R.kids.length rc) R.fill (aV R.fillT) (some ⟨M2,0,none⟩) ks.length (kX R ks) w1 hkl (Hk.o.keep (hbk w1 hb) (hbk w1 hb).size) (dQ.keep (hbk w1 hb) (hbk w1 hb).size _ _ Hkk.o) (by
        have h:=k_8 (by simpa using hkl) (hm.kept hb)
        simpa using h) (by simpa using hkl)
       rw [show (kX R ks).length=ks.length by simp, <- k_3, <- k_4, <- g_I, <- d_x R, <- i_n R, <- zV R]at hLK
       have HLK:=a6 (hLK _ (a7))
       have He:=a6 he;have Hx:=a6 hx;have Ha:=a6 ha;have Hz:=a6 hz;have Hbr:=a6 hbr
       obtain⟨⟨e0,e1,e2,e3,e4,e5,e6,e7,e8,e9,e10,e11,e12⟩, -,el⟩:=he.f13
       obtain⟨⟨x0,x1,x2,x3,x4,x5,x6,x7,x8,x9,x10,x11,x12,x13,x14,x15⟩, -,xl⟩:=ha.f16
       clear hm he hx ha hz hr hbr hLK hbk
       go_wp2_with fail
       refine HLK.o.mono ?_
       rintro e w7 ⟨v1,v2,v3,v4,v5,v6,rfl,⟨l1,f1,q1,rfl,t1,k1⟩,⟨l2,f2,q2,rfl,t2,k2⟩,⟨l3,f3,q3,rfl,t3,k3⟩,⟨l4,f4,q4,rfl,t4,k4⟩,⟨l5,f5,q5,rfl,t5,k5⟩,⟨l6,f6,q6,rfl,t6,k6⟩,hbel⟩
       obtain⟨w9,hw9⟩:∃w9,w9=w7.alloc (Obj.cells #[.nilFunc, .func (.func l1) f1 q1, .func (.func l2) f2 q2, .func (.func l3) f3 q3, .func (.func l4) f4 q4, .func (.func l5) f5 q5, .func (.func l6) f6 q6] 121):=⟨_,rfl⟩
       have hN:At w9 w7.heap.size [.nilFunc, .func (.func l1) f1 q1, .func (.func l2) f2 q2, .func (.func l3) f3 q3, .func (.func l4) f4 q4, .func (.func l5) f5 q5, .func (.func l6) f6 q6] 121:=by rw [hw9];exact At.fresh _ _ _
       have hb9:Below w7.heap.size w7 w9:=by rw [hw9];exact aX _ _
       have hbr9:=hbel.trans (hb9.mono hbel.size)
       have HLs:=a6 (fun(c:Nat) (w':World) (h1:1 <= c) (h6:c <= 6) (hb:Below w9.heap.size w9 w')=>show ∃f first caps,w'.cell? ⟨w7.heap.size,c,none⟩=some (.func (.func f) first caps)/\(∀args w,(callFunc f args).run Tryz.prog w= .ok (.enter f args) w)/\Calls Tryz.prog f (first ++ caps) w' (a_u w' (i7 R ks c) (i9 R ks c))from by
        have hb':=hb9.trans (hb.mono hb9.size)
        obtain⟨⟨z0,z1,z2,z3,z4,z5,z6⟩, -, -⟩:=(hN.kept hb).f7
        rcases(show c=1∨c=2∨c=3∨c=4∨c=5∨c=6 by omega)with rfl | rfl | rfl | rfl | rfl | rfl
        . exact⟨l1,f1,q1,z1,t1,k1 w' hb'⟩
        . exact⟨l2,f2,q2,z2,t2,k2 w' hb'⟩
        . exact⟨l3,f3,q3,z3,t3,k3 w' hb'⟩
        . exact⟨l4,f4,q4,z4,t4,k4 w' hb'⟩
        . exact⟨l5,f5,q5,z5,t5,k5 w' hb'⟩
        . exact⟨l6,f6,q6,z6,t6,k6 w' hb'⟩)
       have Hb9:=a6 (Hbr.o.trans (hbr9.mono Hbr.o.size))
       have HZ9:=a6 (Hz.o.kept hbr9)
       have Hw9:=a6 hw9
       have hN9:=hN.lt
       have HA9:=Ha.o.kept hbr9
       clear hbel HLK e0 e1 e2 e3 e4 e5 e6 e7 e8 e9 e10 e11 e12 el x0 x1 x2 x3 x4 x5 x6 x7 x8 x9 x10 x11 x12 x13 x14 x15 xl hw9 hN hb9 hbr9 k1 k2 k3 k4 k5 k6 t1 t2 t3 t4 t5 t6 He Hx Ha Hz
       have hst:=fun(W:World) (a:Addr) (fn:Fn) (first cap:Array Value) (m:Mode)=>run_store Tryz.prog W a (.func fn first cap) m rfl
       have hsn:=fun(W:World) (a:Addr) (m:Mode)=>run_store Tryz.prog W a .nilFunc m rfl
       go_upto_region 10 with fail
       clear hst hsn
       rw [<- Hw9.o]
       clear Hw9
       obtain⟨⟨x0,x1,x2,x3,x4,x5,x6,x7,x8,x9,x10,x11,x12,x13,x14,x15⟩, -,xl⟩:=HA9.f16
       clear HA9
       go_wp2_with fail
       clear x0 x1 x2 x3 x4 x5 x6 x7 x8 x9 x10 x11 x12 x13 x14 x15 xl
       go_loopg [47] 6 (fun g i wr2=>∃k:Nat,k+g=6/\i= .int .i64 k/\F=B5 R ks ([o0,o1,o2,o3,o4,o5].drop k)/\Below w9.heap.size w9 wr2)
       case atStart=>exact⟨0,by omega,rfl,HF2.o,a7⟩
       case round=>
        obtain⟨k,hg,rfl,hF,hbr⟩:=hrel
        have Hbr2:=a6 hbr
        have HbW:=a6 (Hb9.o.trans (hbr.mono Hb9.o.size))
        have HZr:=a6 (HZ9.o.kept hbr)
        obtain⟨⟨z0,z1,z2⟩,zf,zl⟩:=HZr.o.f3
        clear hbr
        by_cases hlt:k < 6
        . have hlti:(k:Int) < 6:=by omega
          have hix:=n_1 o0 o1 o2 o3 o4 o5 k hlt
          have hdr: [o0,o1,o2,o3,o4,o5].drop k= [o0,o1,o2,o3,o4,o5].getD k 0:: [o0,o1,o2,o3,o4,o5].drop (k+1):=by
           rw [List.drop_eq_getElem_cons (by simpa using hlt)]
           simp [List.getD,List.getElem?_eq_getElem (show k < [o0,o1,o2,o3,o4,o5].length by simpa using hlt)]
          rw [hdr]at hF
          generalize [o0,o1,o2,o3,o4,o5].getD k 0=cl at hix hF
          have HF3:=a6 hF
          clear hdr hF
          go_upto_region 13 with fail
          clear hix
          by_cases h1:cl < 1
          . have HFn:=a6 (HF3.o.trans (N3 (fun h=>by have:=J1 h;omega)))
            have h1I:decide (cl < 1)=true:=by simpa using h1
            clear h1
            go_wp2_with fail
            go_roundg (6 - (k+1))
            case measure=>omega
            case rel=>exact⟨k+1,by omega,by go_num,HFn.o,Hbr2.o⟩
          . have h1I:decide (cl < 1)=false:=by simpa using h1
            by_cases h6:6 < cl
            . have HFn:=a6 (HF3.o.trans (N3 (fun h=>by have:=J1 h;omega)))
              have h6I:decide (6 < cl)=true:=by simpa using h6
              clear h1
              go_wp2_with fail
              go_roundg (6 - (k+1))
              case measure=>omega
              case rel=>exact⟨k+1,by omega,by go_num,HFn.o,Hbr2.o⟩
            . obtain ⟨cn,rfl⟩:∃cn:Nat,cl=cn:=⟨cl.toNat,by omega⟩
              have h6I:decide (6 < (cn:Int))=false:=by simpa using h6
              have h7I:(cn:Int) < 7:=by omega
              obtain⟨f,first,caps,hcell,he,hC⟩:=HLs.o cn wr (by omega) (by omega) Hbr2.o
              have HC:=a6 hC
              have Hhit:=a6 (fun(j:Int) (h:i7 R ks cn=j) (h0:0 <= j)=>HF3.o.trans (i_q (r:=R) (ks:=ks) h h0))
              have Hskip:=a6 (fun(h:¬0 <= i7 R ks cn)=>HF3.o.trans (N3 h))
              generalize i7 R ks cn=z at HC Hhit Hskip
              generalize i9 R ks cn=m at HC Hhit
              clear hC h1 h6
              go_wp2_with fail
              refine HC.o.mono ?_
              rintro e w10 ⟨mk,rfl,hmk,hbel⟩
              have Hb10:=a6 (HbW.o.trans (hbel.mono HbW.o.size))
              have Hb11:=a6 (Hbr2.o.trans (hbel.mono Hbr2.o.size))
              have HZ10:=a6 (HZr.o.kept hbel)
              have Hmk:=a6 hmk
              clear hbel hmk z0 z1 z2 zf zl HC he hcell
              obtain⟨⟨z0,z1,z2⟩,zf,zl⟩:=HZ10.o.f3
              by_cases hz:0 <= z
              . have HFv:=a6 (Hhit.o z rfl hz)
                have HM:=a6 (Hmk.o hz)
                go_wp2_with fail
                refine bodyPost_ret (v:= .agg #[.int .i64 cn, .int .i64 z, .int .i64 mk]) (by simp [results,Tryz.results16,go_sem,z0,z1,z2]) rfl ?_
                rw [HFv.o, <- HM.o]
                exact⟨rfl,b_Z Hb10.o hcl _ _ _⟩
              . have hzI:decide (0 <= z)=false:=by simpa using hz
                have HFn:=a6 (Hskip.o (by omega))
                clear hz
                go_wp2_with fail
                go_roundg (6 - (k+1))
                case measure=>omega
                case rel=>exact⟨k+1,by omega,by go_num,HFn.o,Hb11.o⟩
        . obtain rfl:k=6:=by omega
          have HFv:=a6 (show F=(0,0,0)from hF)
          clear hF
          go_wp2_with fail
          refine bodyPost_ret (v:= .agg #[.int .i64 0, .int .i64 0, .int .i64 0]) (by simp [results,Tryz.results16,go_sem,z0,z1,z2]) rfl ?_
          rw [HFv.o]
          exact⟨rfl,b_Z HbW.o hcl _ _ _⟩
abbrev a_v (W:World) (zs:List Int) (e:Ending) (w':World):Prop:= ∃a c,e= .returned (.slice a zs.length c)/\b_h w' (fun b=>W.heap.size <= b) a c zs/\Below W.heap.size W w'
theorem wZ {w:World} {N:Nat} {cs:List Value} {T:TypeId} {ok:Nat ->Prop} (h:At w N cs T) (n sz:Nat) (hl:cs.length=n * sz) (hn:n <= 100000000) (h1:∀u∈cs,u.oneCell'=true) (hok:ok N):RowQ w ok sz (some ⟨N,0,none⟩) n n cs:=
 ⟨hl,a8,by unfold maxLen;omega,h1,(fun e=>by cases e),fun _=>⟨N,0,rfl,hok,h.lt,fun j u hj=>by rw [Nat.zero_add];exact h.cell j hj⟩⟩
theorem tQ (zs:List Int):∀u∈zs.map (Value.int .i64),u.oneCell'=true:=by
 intro u hu;obtain⟨z, -,rfl⟩:=List.mem_map.1 hu;rfl
theorem l_S (w:World) (v0 v1:Value) (E B:Nat) (h0:v0.oneCell'=true) (h1:v1.oneCell'=true) (hB:w.heap.size < B):RowA (w.alloc (.cells #[v0,v1] E)) B 1 (some ⟨w.heap.size,0,none⟩) 2 2 [v0,v1]:=by
 refine⟨rfl,a8,by unfold maxLen;omega,by simp [h0,h1],(fun e=>by cases e),fun _=>⟨w.heap.size,0,rfl,hB,fun j u hj=> ?_⟩⟩
 have h:=At.fresh w [v0,v1] E
 rw [Nat.zero_add];exact h.cell j hj
theorem e_i (p l:List Int) (pa:Option Addr) (pc:Nat) (la:Option Addr) (lc:Nat) (W:World) (hp:RowA W W.heap.size 1 pa p.length pc (p.map (Value.int .i64))) (hl:RowA W W.heap.size 1 la l.length lc (l.map (Value.int .i64))) (hn:p.length+l.length <= 1000000):
 Calls Tryz.prog 111 #[.slice pa p.length pc, .slice la l.length lc] W (a_v W (p ++ l)):=by
 have hb0:=aX W (Obj.cells #[.slice pa p.length pc, .slice la l.length lc] 36)
 have hC:=M5 (some ⟨W.heap.size,0,none⟩) 2 (W.heap.size+1) [.slice pa p.length pc, .slice la l.length lc] [p.map (Value.int .i64),l.map (Value.int .i64)] _
  (l_S W (.slice pa p.length pc) (.slice la l.length lc) 36 _ rfl rfl (by omega))
  (yJ.cons (hp.keep hb0 (by omega)) (yJ.cons (hl.keep hb0 (by omega)) (yJ.nil _ _))) (by simp) (by simpa using hn)
 have HC:=a6 (show Calls Tryz.prog 144 #[.slice (some ⟨W.heap.size,0,none⟩) 2 2] _ (rK _ 3 1 (p ++ l).length ((p ++ l).map (Value.int .i64)))by
  have h:=hC
  rw [show ([p.map (Value.int .i64),l.map (Value.int .i64)].flatten)=(p ++ l).map (Value.int .i64)by simp,List.length_map]at h
  exact h)
 have Hb0:=a6 hb0
 clear hC hb0 hp hl
 generalize p ++ l=zs at HC⊢
 go_enter Tryz.func111,Tryz.ntmps111
 go_wp2_with fail
 refine HC.o.mono ?_
 rintro e w1 ⟨v,rfl,hown,hbel⟩
 obtain⟨a,c,rfl,hq⟩:=oK hown (tQ _)
 have Hq:=a6 hq;have Hb1:=a6 (Hb0.o.trans (hbel.mono Hb0.o.size))
 clear hown hq hbel HC
 go_wp2_with fail
 go_ret
 exact⟨_,_,rfl,Hq.o.keep (a8) (fun _ _ _=>rfl) (fun b hb _=>aJ Hb0.o.size hb),Hb1.o⟩
theorem FY:∀args w,(callFunc 111 args).run Tryz.prog w= .ok (.enter 111 args) w:=by intro args w;kernel_rfl
theorem BV:∀args w,(callFunc 109 args).run Tryz.prog w= .ok (.enter 109 args) w:=by intro args w;kernel_rfl
theorem c_s:∀args w,(callFunc 110 args).run Tryz.prog w= .ok (.enter 110 args) w:=by intro args w;kernel_rfl
theorem g_J:∀args w,(callFunc 112 args).run Tryz.prog w= .ok (.enter 112 args) w:=by intro args w;kernel_rfl
theorem f_h (p:List Int) (pa:Option Addr) (pc:Nat) (v1 v2 v3 v4 v5 v6 v7 v8 v9 v10 v11 v12 v13 v15:Value) (j:Nat) (d:Int) (W:World) (hp:RowA W W.heap.size 1 pa p.length pc (p.map (Value.int .i64))) (hn:p.length <= 100000) (hj:j <= 100000000) (h0:0 <= d) (h1:d <= 100000000):
 Calls Tryz.prog 109 #[.agg #[.slice pa p.length pc,v1,v2,v3,v4,v5,v6,v7,v8,v9,v10,v11,v12,v13, .int .i64 j,v15], .int .i64 d] W (a_v W (p ++ [(j:Int)+d])):=by
 have hb0:=i8 W (Obj.cells #[.slice pa p.length pc,v1,v2,v3,v4,v5,v6,v7,v8,v9,v10,v11,v12,v13, .int .i64 j,v15] 98) (Obj.cells #[.int .i64 ((j:Int)+d)] 3)
 have HU:=a6 (e_i p [(j:Int)+d] pa pc (some ⟨W.heap.size+1,0,none⟩) 1 ((W.alloc (Obj.cells #[.slice pa p.length pc,v1,v2,v3,v4,v5,v6,v7,v8,v9,v10,v11,v12,v13, .int .i64 j,v15] 98)).alloc (Obj.cells #[.int .i64 ((j:Int)+d)] 3)) (hp.keep hb0 hb0.size) (by
  have h:=BJ (W.alloc (Obj.cells #[.slice pa p.length pc,v1,v2,v3,v4,v5,v6,v7,v8,v9,v10,v11,v12,v13, .int .i64 j,v15] 98)) (.int .i64 ((j:Int)+d)) 3 ((W.alloc (Obj.cells #[.slice pa p.length pc,v1,v2,v3,v4,v5,v6,v7,v8,v9,v10,v11,v12,v13, .int .i64 j,v15] 98)).alloc (Obj.cells #[.int .i64 ((j:Int)+d)] 3)).heap.size rfl (by simp)
  simpa using h) (by simp;omega))
 have hwr:IntKind.i64.wrap ((j:Int)+d)=(j:Int)+d:=IntWalk.i64_in _ (by omega)
 have Hb0:=a6 hb0
 clear hb0 hp
 generalize p ++ [(j:Int)+d]=zs at HU⊢
 go_enter Tryz.func109,Tryz.ntmps109
 go_wp2_with fail
 refine HU.o.mono ?_
 rintro e w1 ⟨a,c,rfl,hq,hbel⟩
 have Hq:=a6 hq;have Hb1:=a6 (Hb0.o.trans (hbel.mono Hb0.o.size))
 clear hq hbel HU
 go_wp2_with fail
 go_ret
 exact⟨_,_,rfl,Hq.o.keep (a8) (fun _ _ _=>rfl) (fun b hb _=>aJ Hb0.o.size hb),Hb1.o⟩
abbrev n_X (W:World) (q:aK) (e:Ending) (w':World):Prop:= ∃v,e= .returned v/\bY w' w'.heap.size q v/\Below W.heap.size W w'
theorem e_j (ks:List aK) (ak:Option Addr) (ck:Nat) (css:List Value) (v0 v1 v2 v3 v5 v6 v7 v8 v9 v10 v11 v12 v13 v15:Value) (j:Nat) (W:World) (hk:RowA W W.heap.size 4 ak ks.length ck css) (hkk:dQ W W.heap.size ks css) (hj:j < ks.length) (hn:ks.length <= 100000000):
 Calls Tryz.prog 110 #[.agg #[v0,v1,v2,v3, .slice ak ks.length ck,v5,v6,v7,v8,v9,v10,v11,v12,v13, .int .i64 j,v15]] W (n_X W (cX ks j)):=by
 rw [u_9 hj]
 have hjI:(j:Int) < ks.length:=by omega
 have hb0:=aX W (Obj.cells #[v0,v1,v2,v3, .slice ak ks.length ck,v5,v6,v7,v8,v9,v10,v11,v12,v13, .int .i64 j,v15] 98)
 have hb1:=i8 W (Obj.cells #[v0,v1,v2,v3, .slice ak ks.length ck,v5,v6,v7,v8,v9,v10,v11,v12,v13, .int .i64 j,v15] 98) (Obj.cells #[.bool false, .slice none 0 0, .slice none 0 0, .slice none 0 0] 35)
 obtain⟨kb,ko,a1,c1,a2,c2,a3,c3,rfl,hkb,hnv, -,g0,g1,g2,g3⟩:=i_m hk hkk j hj
 generalize ks[j]=q at hnv g0 g1 g2 g3⊢
 have hX:=At.second W (Obj.cells #[v0,v1,v2,v3, .slice (some ⟨kb,ko,none⟩) ks.length ck,v5,v6,v7,v8,v9,v10,v11,v12,v13, .int .i64 j,v15] 98) [.bool false, .slice none 0 0, .slice none 0 0, .slice none 0 0] 35
 obtain⟨w1,hw1⟩:∃w1,w1=((W.alloc (Obj.cells #[v0,v1,v2,v3, .slice (some ⟨kb,ko,none⟩) ks.length ck,v5,v6,v7,v8,v9,v10,v11,v12,v13, .int .i64 j,v15] 98)).alloc (Obj.cells #[.bool false, .slice none 0 0, .slice none 0 0, .slice none 0 0] 35)):=⟨_,rfl⟩
 have hA:At w1 W.heap.size [v0,v1,v2,v3, .slice (some ⟨kb,ko,none⟩) ks.length ck,v5,v6,v7,v8,v9,v10,v11,v12,v13, .int .i64 j,v15] 98:=by rw [hw1];exact(At.fresh W _ _).alloc _
 rw [<- hw1]at hX hb1
 have f0:=(hb1.cell (p:=⟨kb,ko+j * 4,none⟩) hkb).trans g0
 have f1:=(hb1.cell (p:=⟨kb,ko+j * 4+1,none⟩) hkb).trans g1
 have f2:=(hb1.cell (p:=⟨kb,ko+j * 4+2,none⟩) hkb).trans g2
 have f3:=(hb1.cell (p:=⟨kb,ko+j * 4+3,none⟩) hkb).trans g3
 obtain⟨⟨x0,x1,x2,x3,x4,x5,x6,x7,x8,x9,x10,x11,x12,x13,x14,x15⟩, -,xl⟩:=hA.f16
 obtain⟨⟨y0,y1,y2,y3⟩,yf,yl⟩:=hX.f4
 have Hw1:=a6 hw1;have Hb1:=a6 hb1;have Hnv:=a6 hnv
 have hcl:W.heap.size <= W.heap.size+1:=by omega
 clear hw1 hb1 hb0 hnv hk hkk hA hX g0 g1 g2 g3 hj
 go_enter Tryz.func110,Tryz.ntmps110
 go_upto_region 1 with fail
 rw [<- Hw1.o]
 clear Hw1
 go_wp2_with fail
 refine bodyPost_ret (v:= .agg #[.bool (aZ q), .slice a1 (cV q).length c1, .slice a2 (gJ q).length c2, .slice a3 (aQ q).length c3]) (by simp [results,Tryz.results110,go_sem,y0,y1,y2,y3]) rfl ?_
 have hb:=iQ (N:=W.heap.size+1) Hb1.o hcl (.bool (aZ q)) (.slice a1 (cV q).length c1) (.slice a2 (gJ q).length c2) (.slice a3 (aQ q).length c3)
 exact⟨_,rfl,Hnv.o.keep hb hb.size,hb⟩
theorem f_i (kind:List UInt8) (W:World):Calls Tryz.prog 112 #[aV kind] W (m_v W (fQ kind)):=by
 cases kind with
 | nil=>
   have HE:Hid (fQ []= .mk false [] [] []):=rfl
   go_enter Tryz.func112,Tryz.ntmps112
   go_wp2_with fail
   refine bodyPost_ret (v:= .agg #[.bool false, .slice none 0 0, .slice none 0 0, .slice none 0 0]) (by simp [results,Tryz.results112,go_sem]) rfl ?_
   rw [HE.o]
   exact⟨_,rfl,b_Y _ _,i8 W _ _⟩
 | cons x r=>
   have HE:Hid (fQ (x::r)= .mk false [(F6,x::r)] [] []):=by show fQ _=_;unfold fQ;rw [if_neg (by simp)]
   have hne:((⟨(x::r).toArray⟩:ByteArray).toList.isEmpty)=false:=by rw [ByteArray.toList_mk];rfl
   have hne2:(!(⟨(x::r).toArray⟩:ByteArray).toList.isEmpty)=true:=by rw [ByteArray.toList_mk];rfl
   have Hpc:Hid (bK [(F6,x::r)]= [.string ⟨#[116,121,112,101]⟩, .string ⟨(x::r).toArray⟩]):=rfl
   obtain⟨S,hS⟩:∃S,S=(⟨(x::r).toArray⟩:ByteArray):=⟨_,rfl⟩
   rw [show aV (x::r)= .string S by rw [hS]]
   rw [<- hS]at hne hne2 Hpc
   clear hS
   go_enter Tryz.func112,Tryz.ntmps112
   go_wp2_with fail
   have hb1:=fun(o1 o2:Obj)=>a6 (iX W o1 o2 (Obj.cells #[.string ⟨#[116,121,112,101]⟩, .string S] 138))
   refine bodyPost_ret (v:= .agg #[.bool false, .slice (some ⟨W.heap.size+1+1,0,none⟩) 1 1, .slice none 0 0, .slice none 0 0]) (by simp [results,Tryz.results112,go_sem]) rfl ?_
   refine⟨_,rfl, ?_,(hb1 _ _).o⟩
   rw [HE.o]
   unfold NodeQ
   refine⟨some ⟨W.heap.size+1+1,0,none⟩,1,none,0,none,0, [],rfl, ?_,RowQ.empty _ _ _,by simp,RowQ.empty _ _ _,by unfold bX;rfl⟩
   rw [Hpc.o]
   exact wZ (At.third W _ _ [.string ⟨#[116,121,112,101]⟩, .string S] 138) 1 2 rfl (by omega) (by intro u hu;simp at hu;rcases hu with rfl | rfl <;> rfl) (by omega)
end Go.Proofs.YtmadpclcmjahoaaGreatDoor
