/- Parts of the proof: 20. -/
import Derived.Test.YtmadpclcmjahoaaGreatDoorFN1
import Derived.Test.YtmadpclcmjahoaaGreatDoorFN19
import Derived.Test.YtmadpclcmjahoaaGreatDoorFN14
import Derived.Test.YtmadpclcmjahoaaGreatDoorFN2
import Derived.Test.YtmadpclcmjahoaaGreatDoorFN9
import Derived.Test.YtmadpclcmjahoaaGreatDoorFN3
import Derived.Test.YtmadpclcmjahoaaGreatDoorFN8
set_option linter.unusedVariables false
set_option linter.unusedSimpArgs false
set_option maxHeartbeats 8000000
set_option maxRecDepth 100000
namespace Go.Proofs.YtmadpclcmjahoaaGreatDoor
open Go.RowKit Go.Redl
theorem k_u:∀args w,(callFunc 16 args).run Tryz.prog w= .ok (.enter 16 args) w:=by intro args w;kernel_rfl
theorem c_y:∀args w,(callFunc 55 args).run Tryz.prog w= .ok (.enter 55 args) w:=by intro args w;kernel_rfl
theorem k_v:∀args w,(callFunc 56 args).run Tryz.prog w= .ok (.enter 56 args) w:=by intro args w;kernel_rfl
theorem k_w:∀args w,(callFunc 57 args).run Tryz.prog w= .ok (.enter 57 args) w:=by intro args w;kernel_rfl
theorem e_r:∀args w,(callFunc 58 args).run Tryz.prog w= .ok (.enter 58 args) w:=by intro args w;kernel_rfl
theorem f_E:∀args w,(callFunc 59 args).run Tryz.prog w= .ok (.enter 59 args) w:=by intro args w;kernel_rfl
abbrev n_Z (W:World) (r:List j7×Int) (e:Ending) (w':World):Prop:= ∃v,e= .returned (.tuple #[v, .int .i64 r.2])/\e_M w' r.1 v/\Below W.heap.size W w'
abbrev n_P (W:World) (r:List j7×Int) (e:Ending) (w':World):Prop:= ∃v,e= .returned (.tuple #[v, .int .i64 r.2])/\BX W.heap.size w' r.1 v/\Below W.heap.size W w'
theorem b_t (r:bJ) (ks:List aK):∀cs:List Int,B5 r ks cs=(0,0,0)∨ ∃c∈cs,0 <= i7 r ks c/\B5 r ks cs=(c,i7 r ks c,(i9 r ks c:Int))
 | []=> .inl rfl
 | c ::cs=>by
   by_cases h:0 <= i7 r ks c
   . exact .inr ⟨c,by simp,h,by unfold B5;rw [if_pos h]⟩
   . rw [show B5 r ks (c::cs)=B5 r ks cs by(conv=>lhs;unfold B5);rw [if_neg h]]
     rcases b_t r ks cs with h' | ⟨c',hc,h1,h2⟩
     . exact .inl h'
     . exact .inr ⟨c',by simp [hc],h1,h2⟩
theorem o8 (s:b8) (n:aK):g9 s n=(0,0,0)∨ ∃ (c j:Nat),aZ n=false/\1 <= c/\c <= 6/\i7 (bV s (dZ n)) (aQ n) c=j/\g9 s n=((c:Int),(j:Int),(i9 (bV s (dZ n)) (aQ n) c:Int))/\(c≠6 ->j < (aQ n).length)/\(c=4 ->0 < j)/\(c=6 ->j=0):=by
 unfold g9
 cases hl:aZ n with
 | true=>exact .inl (by simp)
 | false =>
   simp only [Bool.false_eq_true,if_false]
   rcases b_t (bV s (dZ n)) (aQ n) s.order with h | ⟨c, -,h1,h2⟩
   . exact .inl h
   . have hr:=J1 h1
     generalize bV s (dZ n)=r at h1 h2⊢
     generalize aQ n=ks at h1 h2⊢
     refine .inr ⟨c.toNat,(i7 r ks c).toNat,trivial,by omega,by omega, ?_, ?_,fun h6=> ?_,fun h4=> ?_,fun h6=> ?_⟩
     . rw [show ((c.toNat:Nat):Int)=c by omega];omega
     . rw [h2,show ((c.toNat:Nat):Int)=c by omega,show (((i7 r ks c).toNat:Nat):Int)=i7 r ks c by omega]
     . unfold i7 at h1⊢
       rw [if_neg (by omega)]at h1⊢
       rcases kQ (M3 r ks c) ks.length with⟨k,hk, -, -,he⟩ | ⟨-,he⟩
       . rw [he];simpa using hk
       . rw [he]at h1;omega
     . obtain rfl:c=4:=by omega
       rw [d_x]at h1⊢
       rcases kQ (wY ks) ks.length with⟨k,hk,hp, -,he⟩ | ⟨-,he⟩
       . rw [he]
         unfold wY at hp
         simp only [Bool.and_eq_true,decide_eq_true_eq]at hp
         simpa using hp.1
       . rw [he]at h1;omega
     . obtain rfl:c=6:=by omega
       rw [zV]at h1⊢
       split at h1
       . rename_i h;rw [if_pos h];rfl
       . omega
theorem m_9 (r:bJ) (ks:List aK) (c:Int):i9 r ks c <= ks.length+1:=by
 unfold i9
 split
 . unfold a_P
   have:=(List.takeWhile_sublist (fun a=>decide (a=(kX r ks).getD (i7 r ks c).toNat (0, []))) (l:=(kX r ks).drop ((i7 r ks c).toNat+1))).length_le
   simp only [List.length_drop,List.length_map]at this
   omega
 . omega
theorem At.map {w w':World} {N b:Nat} {cs:List Value} {T:TypeId} (h:At w N cs T) (ho:a_x b w w') (hne:N≠b):At w' N cs T:=by
 unfold At;rw [ho.block N hne];exact h
theorem d_B (s:b8) (sv:Value) (n:aK) (v:Value) (p:List Int) (pa:Option Addr) (pc:Nat) (W:World) (hsw:s.wt <= 100000000) (hw:n.wt <= 100000000) (hs:SchemaV W W.heap.size s sv) (hv:bY W W.heap.size n v) (hp:RowA W W.heap.size 1 pa p.length pc (p.map (Value.int .i64))) (hpl:p.length <= 100000):
 Calls Tryz.prog 12 #[sv,v, .slice pa p.length pc] W (n_P W (D4 s n p)):=by
 have hv0:=hv;have hs0:=hs
 have hwt:=uK p n
 obtain⟨R0,hR0⟩:∃R0,R0=D4 s n p:=⟨_,rfl⟩
 have hR1:R0=match kK n p with
  | none=>([],5)
  | some k=>if aZ k then ([],7) else if (g9 s k).1=0 then ([],14) else (lX (bV s (dZ k)) (aQ k) p (g9 s k),0):=by rw [hR0];rfl
 rw [<- hR0]
 obtain⟨a,c,rcss,ea,ec,o0,o1,o2,o3,o4,o5,rfl, -, -, -,ho⟩:=hs0.open
 have hbs:=i8 W (Obj.cells #[.slice a s.rules.length c,aV s.els.type, .int .i64 s.els.text.1,aV s.els.text.2, .int .i64 s.els.other.1,aV s.els.other.2, .slice ea s.els.kids.length ec, .int .i64 s.els.fill,aV s.els.fillT, .int .i64 o0, .int .i64 o1, .int .i64 o2, .int .i64 o3, .int .i64 o4, .int .i64 o5, .int .i64 s.cap] 30)
 have hG:=fun(w1:World) (hb:Below W.heap.size W w1)=>e_L n p v pa pc w1 hw (hv.keep hb hb.size) (hp.keep hb hb.size)
 obtain⟨lf,ps,t,ks⟩:=n
 obtain⟨ap,cp,at_,ct,ak,ck,css,rfl, -, -, -, -⟩:=hv0.open
 generalize aK.mk lf ps t ks=n at hv hw hwt hR1 hG
 obtain⟨w0,hw0⟩:∃w0,w0=(W.alloc (Obj.cells #[.slice a s.rules.length c,aV s.els.type, .int .i64 s.els.text.1,aV s.els.text.2, .int .i64 s.els.other.1,aV s.els.other.2, .slice ea s.els.kids.length ec, .int .i64 s.els.fill,aV s.els.fillT, .int .i64 o0, .int .i64 o1, .int .i64 o2, .int .i64 o3, .int .i64 o4, .int .i64 o5, .int .i64 s.cap] 30)).alloc (Obj.cells #[.bool lf, .slice ap ps.length cp, .slice at_ t.length ct, .slice ak ks.length ck] 35):=⟨_,rfl⟩
 have hb0:Below W.heap.size W w0:=by rw [hw0];exact i8 _ _ _
 have hA:At w0 W.heap.size [.slice a s.rules.length c,aV s.els.type, .int .i64 s.els.text.1,aV s.els.text.2, .int .i64 s.els.other.1,aV s.els.other.2, .slice ea s.els.kids.length ec, .int .i64 s.els.fill,aV s.els.fillT, .int .i64 o0, .int .i64 o1, .int .i64 o2, .int .i64 o3, .int .i64 o4, .int .i64 o5, .int .i64 s.cap] 30:=by rw [hw0];exact(At.fresh _ _ _).alloc _
 have hX:At w0 (W.heap.size+1) [.bool lf, .slice ap ps.length cp, .slice at_ t.length ct, .slice ak ks.length ck] 35:=by rw [hw0];exact At.second _ _ _ _
 have hSC:=fun(w1:World) (hb:Below w0.heap.size w0 w1)=>hs.keep (hb0.trans (hb.mono hb0.size)) (hb0.trans (hb.mono hb0.size)).size
 have HSC:=a6 hSC
 have HPA:=a6 (fun(w1:World) (hb:Below w0.heap.size w0 w1)=>hp.keep (hb0.trans (hb.mono hb0.size)) (hb0.trans (hb.mono hb0.size)).size)
 have HG:=a6 (hG w0 hb0)
 have Hw0:=a6 hw0;have Hb0:=a6 hb0;have HA:=a6 hA
 obtain⟨⟨y0,y1,y2,y3⟩, -,yl⟩:=hX.f4
 clear hw0 hb0 hA hX hSC hG hv hv0 hs hs0 hp hR0 ho hbs
 cases hat:kK n p with
 | none=>
   rw [hat]at HG hR1
   have HR:=a6 (show R0=([],5)from hR1)
   clear hR1 hat hwt
   go_enter Tryz.func12,Tryz.ntmps12
   go_upto_region 1 with fail
   rw [<- Hw0.o]
   clear Hw0
   go_wp2_with fail
   refine HG.o.mono ?_
   rintro e w1 ⟨rfl,hbel⟩
   have Hb1:=a6 (Hb0.o.trans (hbel.mono Hb0.o.size))
   clear hbel HG
   go_wp2_with fail
   go_ret2
   rw [HR.o]
   exact⟨_,rfl,BX.nil _ _,Hb1.o.alloc Hb1.o.size _⟩
 | some k=>
   rw [hat]at HG hR1
   have hkw:k.wt <= 100000000:=aJ (hwt k hat) hw
   clear hw hwt hat
   obtain⟨lk,pk,tk,kk⟩:=k
   cases lk with
   | true=>
     have HR:=a6 (show R0=([],7)from hR1)
     clear hR1
     go_enter Tryz.func12,Tryz.ntmps12
     go_upto_region 1 with fail
     rw [<- Hw0.o]
     clear Hw0
     go_wp2_with fail
     refine HG.o.mono ?_
     rintro e w1 ⟨cs,rfl,hq,hbel⟩
     obtain⟨bp,dp,bt,dt,bk,dk,cqs,rfl, -, -, -, -, -⟩:∃bp dp bt dt bk dk cqs,cs= [.bool true, .slice bp pk.length dp, .slice bt tk.length dt, .slice bk kk.length dk]/\RowQ w1 (fun b=>w0.heap.size <= b) 2 bp pk.length dp (bK pk)/\RowQ w1 (fun b=>w0.heap.size <= b) 1 bt tk.length dt (tk.map (Value.int .i32))/\(∀z∈tk,(Lit.int .i32 z).wf=true)/\RowQ w1 (fun b=>w0.heap.size <= b) 4 bk kk.length dk cqs/\bX w1 (fun b=>w0.heap.size <= b) kk cqs:=by
      unfold NodeQ at hq;exact hq
     have Hb1:=a6 (Hb0.o.trans (hbel.mono Hb0.o.size))
     clear hbel HG hq
     go_wp2_with fail
     go_ret2
     rw [HR.o]
     exact⟨_,rfl,BX.nil _ _,Hb1.o.alloc Hb1.o.size _⟩
   | false=>
     have hR2:R0=if (g9 s (.mk false pk tk kk)).1=0 then ([],14) else (lX (bV s (dZ (.mk false pk tk kk))) kk p (g9 s (.mk false pk tk kk)),0):=hR1
     have hTy:=fun(v:Value) (w1:World) (hv:bY w1 w1.heap.size (.mk false pk tk kk) v)=>g_a (.mk false pk tk kk) v w1 hkw hv
     have hRo:=fun(w1:World) (hb:Below w0.heap.size w0 w1)=>a_t s _ (dZ (.mk false pk tk kk)) w1 hsw (HSC.o w1 hb)
     have hFi:=fun(v:Value) (w1:World) (hb:Below w0.heap.size w0 w1) (hv:bY w1 w1.heap.size (.mk false pk tk kk) v)=>k_9 s _ (.mk false pk tk kk) v w1 hsw hkw (HSC.o w1 hb) hv
     have hcs:=o8 s (.mk false pk tk kk)
     have hml:=m_9 (bV s (dZ (.mk false pk tk kk))) kk
     have hkl:dX kk <= 100000000:=by simp only [aK.wt]at hkw;omega
     have hRk:(bV s (dZ (.mk false pk tk kk))).kids.length <= 100000000:=by have:=GZ (bV s (dZ (.mk false pk tk kk)));have:=L0 s (dZ (.mk false pk tk kk));omega
     simp only [aQ]at hcs
     generalize dZ (.mk false pk tk kk)=ty at hTy hRo hR2 hcs hml hRk
     generalize bV s ty=R at hRo hR2 hcs hml hRk
     generalize g9 s (.mk false pk tk kk)=F at hFi hR2 hcs
     obtain⟨f1,f2,f3⟩:=F
     simp only at hFi hR2
     have Hcs:=a6 hcs;have Hml:=a6 hml;have HTy:=a6 hTy;have HRo:=a6 hRo;have HFi:=a6 hFi;have HR2:=a6 hR2
     clear hcs hml hTy hRo hFi hR2 hR1
     have hls:=fun(w':World) (h:At w' W.heap.size [.slice a s.rules.length c,aV s.els.type, .int .i64 s.els.text.1,aV s.els.text.2, .int .i64 s.els.other.1,aV s.els.other.2, .slice ea s.els.kids.length ec, .int .i64 s.els.fill,aV s.els.fillT, .int .i64 o0, .int .i64 o1, .int .i64 o2, .int .i64 o3, .int .i64 o4, .int .i64 o5, .int .i64 s.cap] 30)=>At.load (P:=Tryz.prog) h Tryz.underlying30 rfl (by kernel_rfl)
     simp [go_sem]at hls
     have Hls:=a6 hls
     clear hls
     go_enter Tryz.func12,Tryz.ntmps12
     go_upto_region 1 with fail
     rw [<- Hw0.o]
     clear Hw0
     go_wp2_with fail
     refine HG.o.mono ?_
     rintro e w1 ⟨cs,rfl,hq,hbel⟩
     obtain⟨bp,dp,bt,dt,bk,dk,cqs,rfl,hq1,hq2,hqf,hq3,hq4⟩:∃bp dp bt dt bk dk cqs,cs= [.bool false, .slice bp pk.length dp, .slice bt tk.length dt, .slice bk kk.length dk]/\RowQ w1 (fun b=>w0.heap.size <= b) 2 bp pk.length dp (bK pk)/\RowQ w1 (fun b=>w0.heap.size <= b) 1 bt tk.length dt (tk.map (Value.int .i32))/\(∀z∈tk,(Lit.int .i32 z).wf=true)/\RowQ w1 (fun b=>w0.heap.size <= b) 4 bk kk.length dk cqs/\bX w1 (fun b=>w0.heap.size <= b) kk cqs:=by
      have:=hq;unfold NodeQ at this;exact this
     obtain⟨w2,hw2⟩:∃w2,w2=w1.alloc (Obj.cells #[.bool false, .slice bp pk.length dp, .slice bt tk.length dt, .slice bk kk.length dk] 35):=⟨_,rfl⟩
     have hb12:Below w1.heap.size w1 w2:=by rw [hw2];exact aX _ _
     have hbw:=hbel.trans (hb12.mono hbel.size)
     have hN2:At w2 w1.heap.size [.bool false, .slice bp pk.length dp, .slice bt tk.length dt, .slice bk kk.length dk] 35:=by rw [hw2];exact At.fresh _ _ _
     have HNV:=a6 (show bY w2 w2.heap.size (.mk false pk tk kk) (.agg #[.bool false, .slice bp pk.length dp, .slice bt tk.length dt, .slice bk kk.length dk])from⟨_,rfl,NodeQ.node _ _ (hq.since hb12)⟩)
     have HKr:=a6 ((hq3.since hb12).row);have HKk:=a6 (bX.kids _ _ (bX.keep hb12.size (fun b _ hlt=>hb12.block b hlt) (fun _ h _=>h) _ _ hq4))
     have Hbw:=a6 hbw
     have HA2:=a6 (HA.o.kept hbw);have HN2:=a6 hN2
     have HRo2:=a6 (fun(w':World) (hb:Below w2.heap.size w2 w')=>HRo.o w' (Hbw.o.trans (hb.mono Hbw.o.size)))
     have HFi2:=a6 (fun(w':World) (hb:Below w2.heap.size w2 w')=>HFi.o _ w' (Hbw.o.trans (hb.mono Hbw.o.size)) (HNV.o.keep hb hb.size))
     have HTy2:=a6 (fun(w':World) (hb:Below w2.heap.size w2 w')=>HTy.o _ w' (HNV.o.keep hb hb.size))
     have hln:=fun(w':World) (h:At w' w1.heap.size [.bool false, .slice bp pk.length dp, .slice bt tk.length dt, .slice bk kk.length dk] 35)=>At.load (P:=Tryz.prog) h Tryz.underlying35 rfl (by kernel_rfl)
     simp [go_sem]at hln
     have Hln:=a6 hln
     have Hw2:=a6 hw2
     obtain⟨⟨n0,n1,n2,n3⟩, -,nl⟩:=hN2.f4
     clear hbel HG hq hq1 hq2 hqf hq3 hq4 hw2 hb12 hbw hN2 hln HRo HFi HTy HSC y0 y1 y2 y3 yl HA
     go_upto_region 2 with fail
     rw [<- Hw2.o]
     clear Hw2
     go_upto_region 6 with fail
     go_cut [10] (fun q wx=>∃ (M:Nat) (ra:Option Addr) (rc:Nat),q= .pointer (some ⟨M,0,none⟩)/\At wx M [.slice pa p.length pc, .bool false, .slice bp pk.length dp, .slice bt tk.length dt, .slice bk kk.length dk,aV R.type, .int .i64 R.text.1,aV R.text.2, .int .i64 R.other.1,aV R.other.2, .slice ra R.kids.length rc, .int .i64 R.fill,aV R.fillT, .int .i64 f1, .int .i64 f2, .int .i64 f3] 98/\RowQ wx (fun b=>b≠M) 3 ra R.kids.length rc (dY R.kids)/\w2.heap.size <= M/\Below w2.heap.size w2 wx)
     case first=>
      clear n0 n1 n2 n3 nl HR2 Hcs Hml HKr HKk HPA
      have hls:=Hls.o
      have hln:=Hln.o
      have HS0:=a6 (fun(w':World) (hb:Below w2.heap.size w2 w')=>And.intro (HA2.o.kept hb) (HN2.o.kept hb))
      go_region_held3 (fun w'=>At w' W.heap.size [.slice a s.rules.length c,aV s.els.type, .int .i64 s.els.text.1,aV s.els.text.2, .int .i64 s.els.other.1,aV s.els.other.2, .slice ea s.els.kids.length ec, .int .i64 s.els.fill,aV s.els.fillT, .int .i64 o0, .int .i64 o1, .int .i64 o2, .int .i64 o3, .int .i64 o4, .int .i64 o5, .int .i64 s.cap] 30/\At w' w1.heap.size [.bool false, .slice bp pk.length dp, .slice bt tk.length dt, .slice bk kk.length dk] 35) (refine HS0.o _ (by((repeat (first | with_reducible exact Hb5.o | with_reducible exact Hb4.o | with_reducible exact Hb3.o | with_reducible exact a7 | with_reducible refine Below.drew ?_ | with_reducible refine Below.alloc ?_ ?_ _ | with_reducible refine Below.setCell ?_ ?_ _)) <;> (first | with_reducible exact a8 | with_reducible exact Hb5.o.size | with_reducible exact Hb4.o.size | with_reducible exact Hb3.o.size | (have hsz:=Hb5.o.size;simp [World.setCell];omega) | (have hsz:=Hb4.o.size;simp [World.setCell];omega) | (have hsz:=Hb3.o.size;simp [World.setCell];omega) | (simp;done) | (simp;omega) | omega))))
       (first
       | (refine b9 rfl 54 _ _ rfl c_0 [.agg #[.bool false, .slice bp pk.length dp, .slice bt tk.length dt, .slice bk kk.length dk]] ?_ _ (HTy2.o _ (by((repeat (first | with_reducible exact a7 | with_reducible refine Below.drew ?_ | with_reducible refine Below.alloc ?_ ?_ _ | with_reducible refine Below.setCell ?_ ?_ _)) <;> (first | with_reducible exact a8 | (simp;done) | (simp;omega) | omega)))) ?_
          . go_simp
          rintro e w3 ⟨rfl,hbel⟩
          refine⟨_,rfl, ?_⟩
          have Hz3:=a6 hbel.size
          have Hb3:=a6 (Below.and (w0:=w2) (by((repeat (first | with_reducible exact a7 | with_reducible refine Below.drew ?_ | with_reducible refine Below.alloc ?_ ?_ _ | with_reducible refine Below.setCell ?_ ?_ _)) <;> (first | with_reducible exact a8 | (simp;done) | (simp;omega) | omega))) hbel)
          first
           | (refine At.lay (N:= ?_) (cs:= [.slice none 0 0, .bool false, .slice none 0 0, .slice none 0 0, .slice none 0 0,aV [], .int .i64 0,aV [], .int .i64 0,aV [], .slice none 0 0, .int .i64 0,aV [], .int .i64 0, .int .i64 0, .int .i64 0]) (T:=98) (At.kept ?_ hbel) ?_
              rotate_left
              . (repeat (first | with_reducible exact At.second _ _ _ _ | with_reducible exact At.fresh _ _ _ | with_reducible refine At.drew ?_ | with_reducible refine At.alloc ?_ _))
              intro HM3)
           | skip
          clear hbel)
       | (refine b9 rfl 53 _ _ rfl c_r [.agg #[.slice a s.rules.length c,aV s.els.type, .int .i64 s.els.text.1,aV s.els.text.2, .int .i64 s.els.other.1,aV s.els.other.2, .slice ea s.els.kids.length ec, .int .i64 s.els.fill,aV s.els.fillT, .int .i64 o0, .int .i64 o1, .int .i64 o2, .int .i64 o3, .int .i64 o4, .int .i64 o5, .int .i64 s.cap],aV ty] ?_ _ (HRo2.o _ (by((repeat (first | with_reducible exact Hb3.o | with_reducible exact a7 | with_reducible refine Below.drew ?_ | with_reducible refine Below.alloc ?_ ?_ _ | with_reducible refine Below.setCell ?_ ?_ _)) <;> (first | with_reducible exact a8 | with_reducible exact Hb3.o.size | (have hsz:=Hb3.o.size;simp [World.setCell];omega) | (simp;done) | (simp;omega) | omega)))) ?_
          . go_simp
          rintro e w4 ⟨ra,rc,rfl,hrow,hbel⟩
          refine⟨_,rfl, ?_⟩
          have Hz4:=a6 hbel.size
          have Hb4:=a6 (Below.and (w0:=w2) (by((repeat (first | with_reducible exact Hb3.o | with_reducible exact a7 | with_reducible refine Below.drew ?_ | with_reducible refine Below.alloc ?_ ?_ _ | with_reducible refine Below.setCell ?_ ?_ _)) <;> (first | with_reducible exact a8 | with_reducible exact Hb3.o.size | (have hsz:=Hb3.o.size;simp [World.setCell];omega) | (simp;done) | (simp;omega) | omega))) hbel)
          have Hrow:=a6 (hrow.keep (a8) (fun _ _ _=>rfl) (fun b hb hlt=>And.intro hb hlt))
          first
           | (refine At.lay (N:= ?_) (cs:= [.slice none 0 0, .bool false, .slice none 0 0, .slice none 0 0, .slice none 0 0,aV [], .int .i64 0,aV [], .int .i64 0,aV [], .slice none 0 0, .int .i64 0,aV [], .int .i64 0, .int .i64 0, .int .i64 0]) (T:=98) (At.kept ?_ hbel) ?_
              rotate_left
              . (repeat (first | with_reducible exact HM3.o | with_reducible exact At.second _ _ _ _ | with_reducible exact At.fresh _ _ _ | with_reducible refine At.drew ?_ | with_reducible refine At.alloc ?_ _))
              intro HM4)
           | skip
          clear hbel hrow)
       | (refine b9 rfl 16 _ _ rfl k_u [.agg #[.slice a s.rules.length c,aV s.els.type, .int .i64 s.els.text.1,aV s.els.text.2, .int .i64 s.els.other.1,aV s.els.other.2, .slice ea s.els.kids.length ec, .int .i64 s.els.fill,aV s.els.fillT, .int .i64 o0, .int .i64 o1, .int .i64 o2, .int .i64 o3, .int .i64 o4, .int .i64 o5, .int .i64 s.cap], .agg #[.bool false, .slice bp pk.length dp, .slice bt tk.length dt, .slice bk kk.length dk]] ?_ _ (HFi2.o _ (by((repeat (first | with_reducible exact Hb4.o | with_reducible exact a7 | with_reducible refine Below.drew ?_ | with_reducible refine Below.alloc ?_ ?_ _ | with_reducible refine Below.setCell ?_ ?_ _)) <;> (first | with_reducible exact a8 | with_reducible exact Hb4.o.size | (have hsz:=Hb4.o.size;simp [World.setCell];omega) | (simp;done) | (simp;omega) | omega)))) ?_
          . go_simp
          rintro e w5 ⟨rfl,hbel⟩
          refine⟨_,rfl, ?_⟩
          have Hz5:=a6 hbel.size
          have Hb5:=a6 (Below.and (w0:=w2) (by((repeat (first | with_reducible exact Hb4.o | with_reducible exact a7 | with_reducible refine Below.drew ?_ | with_reducible refine Below.alloc ?_ ?_ _ | with_reducible refine Below.setCell ?_ ?_ _)) <;> (first | with_reducible exact a8 | with_reducible exact Hb4.o.size | (have hsz:=Hb4.o.size;simp [World.setCell];omega) | (simp;done) | (simp;omega) | omega))) hbel)
          have Hs5:=a6 (Below.and (w0:=w4) (by((repeat (first | with_reducible exact a7 | with_reducible refine Below.drew ?_ | with_reducible refine Below.alloc ?_ ?_ _ | with_reducible refine Below.setCell ?_ ?_ _)) <;> (first | with_reducible exact a8 | (simp;done) | (simp;omega) | omega))) hbel)
          first
           | (refine At.lay (N:= ?_) (cs:= [.slice none 0 0, .bool false, .slice none 0 0, .slice none 0 0, .slice none 0 0,aV [], .int .i64 0,aV [], .int .i64 0,aV [], .slice none 0 0, .int .i64 0,aV [], .int .i64 0, .int .i64 0, .int .i64 0]) (T:=98) (At.kept ?_ hbel) ?_
              rotate_left
              . (repeat (first | with_reducible exact HM4.o | with_reducible exact At.second _ _ _ _ | with_reducible exact At.fresh _ _ _ | with_reducible refine At.drew ?_ | with_reducible refine At.alloc ?_ _))
              intro HM5)
           | skip
          first
           | (obtain⟨⟨r0,r1,r2,r3,r4,r5,r6,r7,r8,r9,r10,r11,r12,r13,r14,r15⟩,rf,rl⟩:=HM5.o.f16)
           | skip
          clear hbel))
      all_goals
       clear hls hln
       go_wp2_with fail
       go_meet
       case rel=>
        have hz3:=Hz3.o;have hz4:=Hz4.o;have hz5:=Hz5.o
        simp at hz3 hz4 hz5
        refine⟨_,ra,rc,rfl, ?_, ?_, ?_, ?_⟩
        . (repeat (first | with_reducible exact HM5.o | with_reducible exact HM5.o.s16 _ _ _ _ _ _ _ _ _ _ _ _ _ _ _ _ | with_reducible exact(HM5.o.alloc _).s16 _ _ _ _ _ _ _ _ _ _ _ _ _ _ _ _ | with_reducible exact At.second _ _ _ _ | with_reducible exact At.fresh _ _ _ | (with_reducible refine At.fresh2 ?_;(simp [World.setCell];done)) | with_reducible refine At.drew ?_ | with_reducible refine At.alloc ?_ _ | (with_reducible refine At.n16 ?_ ?_ _ _ _ _ _ _ _ _ _ _ _ _ _ _ _ _;rotate_left;(omega))))
        . (repeat (first | with_reducible refine k_a ?_ (by simp) _ _ _ _ _ _ _ _ _ _ _ _ _ _ _ _ | with_reducible refine uQ ?_ _))
          refine(Hrow.o.since Hs5.o).keep (a8) (fun _ _ _=>rfl) (fun b hb hlt=> ?_)
          try simp at hb
          intro e
          omega
        . omega
        . ((repeat (first | with_reducible exact Hb5.o | with_reducible exact a7 | with_reducible refine Below.drew ?_ | with_reducible refine Below.alloc ?_ ?_ _ | with_reducible refine Below.setCell ?_ ?_ _)) <;> (first | with_reducible exact a8 | with_reducible exact Hb5.o.size | (have hsz:=Hb5.o.size;simp [World.setCell];omega) | (simp;done) | (simp;omega) | omega))
     case rest=>
      obtain⟨M,ra,rc,rfl,hM,hrow,hM2,hbc⟩:=hcut
      obtain⟨J,hJ⟩:∃J:Value,J= .agg #[.slice pa p.length pc, .bool false, .slice bp pk.length dp, .slice bt tk.length dt, .slice bk kk.length dk,aV R.type, .int .i64 R.text.1,aV R.text.2, .int .i64 R.other.1,aV R.other.2, .slice ra R.kids.length rc, .int .i64 R.fill,aV R.fillT, .int .i64 f1, .int .i64 f2, .int .i64 f3]:=⟨_,rfl⟩
      have hlj:=fun(w':World) (h:At w' M [.slice pa p.length pc, .bool false, .slice bp pk.length dp, .slice bt tk.length dt, .slice bk kk.length dk,aV R.type, .int .i64 R.text.1,aV R.text.2, .int .i64 R.other.1,aV R.other.2, .slice ra R.kids.length rc, .int .i64 R.fill,aV R.fillT, .int .i64 f1, .int .i64 f2, .int .i64 f3] 98)=>(show (Instr.loadAt 98 (.pointer (some ⟨M,0,none⟩))).run Tryz.prog w'= .ok J w' by
       rw [hJ];exact At.load (P:=Tryz.prog) h Tryz.underlying98 rfl (by kernel_rfl))
      simp [go_sem]at hlj
      have hmf:∀ (fn:Fn) (first cap:Array Value) (w:World),(Instr.makeFunc fn first cap).run Tryz.prog w= .ok (.func fn first cap) w:=fun _ _ _ _=>rfl
      have HM:=a6 hM;have Hrow:=a6 hrow;have Hbc:=a6 hbc;have HJ:=a6 hJ
      have hMl:=hM.lt
      clear hrow hbc hJ hM HRo2 HFi2 HTy2 HA2 HN2 n0 n1 n2 n3 nl
      go_upto_region 7 with fail
      go_upto_region 8 with(first
       | (refine CY rfl _ rfl ?_
          intro p0 hp0
          have hJ0:At p0 M [.slice pa p.length pc, .bool false, .slice bp pk.length dp, .slice bt tk.length dt, .slice bk kk.length dk,aV R.type, .int .i64 R.text.1,aV R.text.2, .int .i64 R.other.1,aV R.other.2, .slice ra R.kids.length rc, .int .i64 R.fill,aV R.fillT, .int .i64 f1, .int .i64 f2, .int .i64 f3] 98:=by rw [hp0];exact HM.o.alloc _
          have Hm0:=a6 (show tJ p0 wc.heap.size []by rw [hp0];exact tJ.fresh wc)
          have Hp0:=a6 (show Below wc.heap.size wc p0 by rw [hp0];exact aX wc (.map #[] 0))
          clear hp0)
       | (refine fK rfl 100 3 99 _ _ 1 rfl wc.heap.size [] (.func (.func 55) #[J] #[]) rfl rfl Hm0.o Tryz.underlying100 Tryz.underlying3 (by simp) rfl ?_
          intro p1 hm1 ho1
          have hJ1:=hJ0.map ho1 (by omega)
          have Hm1:=a6 hm1
          have Hp1:=a6 (ho1.below Hp0.o (a8))
          clear hm1 ho1)
       | (refine fK rfl 100 3 99 _ _ 5 rfl wc.heap.size [(1, .func (.func 55) #[J] #[])] (.func (.func 55) #[J] #[]) rfl rfl Hm1.o Tryz.underlying100 Tryz.underlying3 (by simp) rfl ?_
          intro p2 hm2 ho2
          have hJ2:=hJ1.map ho2 (by omega)
          have Hm2:=a6 hm2
          have Hp2:=a6 (ho2.below Hp1.o (a8))
          clear hm2 ho2)
       | (refine fK rfl 100 3 99 _ _ 2 rfl wc.heap.size [(1, .func (.func 55) #[J] #[]),(5, .func (.func 55) #[J] #[])] (.func (.func 56) #[J] #[]) rfl rfl Hm2.o Tryz.underlying100 Tryz.underlying3 (by simp) rfl ?_
          intro p3 hm3 ho3
          have hJ3:=hJ2.map ho3 (by omega)
          have Hm3:=a6 hm3
          have Hp3:=a6 (ho3.below Hp2.o (a8))
          clear hm3 ho3)
       | (refine fK rfl 100 3 99 _ _ 3 rfl wc.heap.size [(1, .func (.func 55) #[J] #[]),(5, .func (.func 55) #[J] #[]),(2, .func (.func 56) #[J] #[])] (.func (.func 57) #[J] #[]) rfl rfl Hm3.o Tryz.underlying100 Tryz.underlying3 (by simp) rfl ?_
          intro p4 hm4 ho4
          have hJ4:=hJ3.map ho4 (by omega)
          have Hm4:=a6 hm4
          have Hp4:=a6 (ho4.below Hp3.o (a8))
          clear hm4 ho4)
       | (refine fK rfl 100 3 99 _ _ 4 rfl wc.heap.size [(1, .func (.func 55) #[J] #[]),(5, .func (.func 55) #[J] #[]),(2, .func (.func 56) #[J] #[]),(3, .func (.func 57) #[J] #[])] (.func (.func 58) #[J] #[]) rfl rfl Hm4.o Tryz.underlying100 Tryz.underlying3 (by simp) rfl ?_
          intro p5 hm5 ho5
          have hJ5:=hJ4.map ho5 (by omega)
          have Hm5:=a6 hm5
          have Hp5:=a6 (ho5.below Hp4.o (a8))
          clear hm5 ho5)
       | (refine fK rfl 100 3 99 _ _ 6 rfl wc.heap.size [(1, .func (.func 55) #[J] #[]),(5, .func (.func 55) #[J] #[]),(2, .func (.func 56) #[J] #[]),(3, .func (.func 57) #[J] #[]),(4, .func (.func 58) #[J] #[])] (.func (.func 59) #[J] #[]) rfl rfl Hm5.o Tryz.underlying100 Tryz.underlying3 (by simp) rfl ?_
          intro p6 hm6 ho6
          have hJ6:=hJ5.map ho6 (by omega)
          have Hm6:=a6 hm6
          have Hp6:=a6 (ho6.below Hp5.o (a8))
          clear hm6 ho6))
      have x13:=hJ6.cell 13 rfl
      have xl:=hJ6.lt
      have hzf:∀w,(zeroValue 99).run Tryz.prog w= .ok .nilFunc w:=by intro w;kernel_rfl
      have HAK:=a6 (fun(k:Int)=>h_K (P:=Tryz.prog) (K:=3) Hm6.o Tryz.underlying100 Tryz.underlying3 .nilFunc hzf k (show ([1,5,2,3,4,6]:List Int).Nodup by decide))
      have Hb6:=a6 (Hbw.o.trans ((Hbc.o.trans (Hp6.o.mono Hbc.o.size)).mono Hbw.o.size))
      have HbF:=a6 (Hb0.o.trans (Hb6.o.mono Hb0.o.size))
      have Hb2:=a6 (Hbc.o.trans (Hp6.o.mono Hbc.o.size))
      have hkn:kk.length+1 <= 100000000:=by have:=fX kk;simp only [aK.wt]at hkw;omega
      have HJA:=a6 (fun(j:Nat) (hj:j <= 100000000)=>(show a_w p6 p pa pc kk bk dk cqs j from⟨HPA.o _ Hb6.o,hpl,HKr.o.keep Hb2.o Hb2.o.size,dQ.keep Hb2.o Hb2.o.size _ _ HKk.o,hkl,hj⟩))
      have Hrw:=a6 ((Hrow.o.since Hp6.o).row)
      clear hlj hmf hJ0 hJ1 hJ2 hJ3 hJ4 hJ5 hJ6 hzf
      rcases Hcs.o with hF | ⟨cn,j, -,h1,h6, -,hF,hjk,hj4,hj6⟩
      . obtain ⟨rfl,rfl,rfl⟩:f1=0/\f2=0/\f3=0:=by simpa using hF
        have HR:=a6 (show R0=([],14)from HR2.o)
        have ha:(Instr.lookup 100 (.map (some wc.heap.size)) (.int .i64 0) true).run Tryz.prog p6= .ok (.tuple #[.nilFunc, .bool false]) p6:=HAK.o 0
        go_wp2_with fail
        go_ret2
        rw [HR.o]
        exact⟨_,rfl,BX.nil _ _,HbF.o⟩
      . obtain ⟨rfl,rfl,rfl⟩:f1=cn/\f2=j/\f3=i9 R kk cn:=by simpa using hF
        have hjn:cn≠6 ->j <= 100000000:=fun h=>by have:=hjk h;omega
        have hml1:=Hml.o (cn:Int)
        rcases(show cn=1∨cn=2∨cn=3∨cn=4∨cn=5∨cn=6 by omega)with rfl | rfl | rfl | rfl | rfl | rfl
        . -- class 1
          have HR:=a6 (show R0=(lX R kk p (1,(j:Int),(i9 R kk 1:Int)),0)from HR2.o)
          have ha:(Instr.lookup 100 (.map (some wc.heap.size)) (.int .i64 1) true).run Tryz.prog p6= .ok (.tuple #[.func (.func 55) #[J] #[], .bool true]) p6:=HAK.o 1
          have HC:=a6 (show Calls Tryz.prog 55 #[J] p6 (c_u p6 (lX R kk p (1,(j:Int),(i9 R kk 1:Int))))by
           rw [HJ.o]
           have h:=f_l p pa pc kk bk dk cqs (.bool false) (.slice bp pk.length dp) (.slice bt tk.length dt) (aV R.type) (.int .i64 R.text.1) (aV R.text.2) (.int .i64 R.other.1) (aV R.other.2) (.slice ra R.kids.length rc) (.int .i64 R.fill) (aV R.fillT) (.int .i64 1) (.int .i64 (i9 R kk 1)) j p6 (HJA.o j (by omega)) (hjk (by omega))
           simpa [lX,m6,nX]using h)
          generalize lX R kk p (1,(j:Int),(i9 R kk 1:Int))=l at HR HC
          have hent:=c_y
          go_wp2_with fail
          refine HC.o.mono ?_
          rintro e w9 ⟨v9,rfl,hv9,hbel⟩
          have Hv9:=a6 hv9;have Hb9:=a6 (HbF.o.trans (hbel.mono HbF.o.size))
          clear hbel hv9 HC
          go_wp2_with fail
          go_ret2
          rw [HR.o]
          exact⟨_,rfl,Hv9.o.from HbF.o.size,Hb9.o⟩
        . -- class 2
          have HR:=a6 (show R0=(lX R kk p (2,(j:Int),(i9 R kk 2:Int)),0)from HR2.o)
          have ha:(Instr.lookup 100 (.map (some wc.heap.size)) (.int .i64 2) true).run Tryz.prog p6= .ok (.tuple #[.func (.func 56) #[J] #[], .bool true]) p6:=HAK.o 2
          have HC:=a6 (show Calls Tryz.prog 56 #[J] p6 (c_u p6 (lX R kk p (2,(j:Int),(i9 R kk 2:Int))))by
           rw [HJ.o]
           have h:=n_g p pa pc kk bk dk cqs (.bool false) (.slice bp pk.length dp) (.slice bt tk.length dt) (aV R.type) (.int .i64 R.text.1) (aV R.text.2) (.int .i64 R.other.1) (aV R.other.2) (.slice ra R.kids.length rc) (.int .i64 R.fill) (aV R.fillT) (.int .i64 2) (.int .i64 (i9 R kk 2)) j p6 (HJA.o j (by omega)) (hjk (by omega))
           simpa [lX,m6,nX]using h)
          generalize lX R kk p (2,(j:Int),(i9 R kk 2:Int))=l at HR HC
          have hent:=k_v
          go_wp2_with fail
          refine HC.o.mono ?_
          rintro e w9 ⟨v9,rfl,hv9,hbel⟩
          have Hv9:=a6 hv9;have Hb9:=a6 (HbF.o.trans (hbel.mono HbF.o.size))
          clear hbel hv9 HC
          go_wp2_with fail
          go_ret2
          rw [HR.o]
          exact⟨_,rfl,Hv9.o.from HbF.o.size,Hb9.o⟩
        . -- class 3
          have HR:=a6 (show R0=(lX R kk p (3,(j:Int),(i9 R kk 3:Int)),0)from HR2.o)
          have ha:(Instr.lookup 100 (.map (some wc.heap.size)) (.int .i64 3) true).run Tryz.prog p6= .ok (.tuple #[.func (.func 57) #[J] #[], .bool true]) p6:=HAK.o 3
          have HC:=a6 (show Calls Tryz.prog 57 #[J] p6 (c_u p6 (lX R kk p (3,(j:Int),(i9 R kk 3:Int))))by
           rw [HJ.o]
           have h:=n_h p pa pc kk bk dk cqs R ra rc (.bool false) (.slice bp pk.length dp) (.slice bt tk.length dt) (.int .i64 3) j (i9 R kk 3) p6 (HJA.o j (by omega)) (hjk (by omega)) Hrw.o hRk (by have:=Hml.o 3;omega)
           simpa [lX,m6,nX]using h)
          generalize lX R kk p (3,(j:Int),(i9 R kk 3:Int))=l at HR HC
          have hent:=k_w
          go_wp2_with fail
          refine HC.o.mono ?_
          rintro e w9 ⟨v9,rfl,hv9,hbel⟩
          have Hv9:=a6 hv9;have Hb9:=a6 (HbF.o.trans (hbel.mono HbF.o.size))
          clear hbel hv9 HC
          go_wp2_with fail
          go_ret2
          rw [HR.o]
          exact⟨_,rfl,Hv9.o.from HbF.o.size,Hb9.o⟩
        . -- class 4
          have HR:=a6 (show R0=(lX R kk p (4,(j:Int),(i9 R kk 4:Int)),0)from HR2.o)
          have ha:(Instr.lookup 100 (.map (some wc.heap.size)) (.int .i64 4) true).run Tryz.prog p6= .ok (.tuple #[.func (.func 58) #[J] #[], .bool true]) p6:=HAK.o 4
          have HC:=a6 (show Calls Tryz.prog 58 #[J] p6 (c_u p6 (lX R kk p (4,(j:Int),(i9 R kk 4:Int))))by
           rw [HJ.o]
           have h:=g_S p pa pc kk bk dk cqs (.bool false) (.slice bp pk.length dp) (.slice bt tk.length dt) (aV R.type) (.int .i64 R.text.1) (aV R.text.2) (.int .i64 R.other.1) (aV R.other.2) (.slice ra R.kids.length rc) (.int .i64 R.fill) (aV R.fillT) (.int .i64 4) (.int .i64 (i9 R kk 4)) j p6 (HJA.o j (by omega)) (hjk (by omega)) (hj4 rfl)
           simpa [lX,m6,nX]using h)
          generalize lX R kk p (4,(j:Int),(i9 R kk 4:Int))=l at HR HC
          have hent:=e_r
          go_wp2_with fail
          refine HC.o.mono ?_
          rintro e w9 ⟨v9,rfl,hv9,hbel⟩
          have Hv9:=a6 hv9;have Hb9:=a6 (HbF.o.trans (hbel.mono HbF.o.size))
          clear hbel hv9 HC
          go_wp2_with fail
          go_ret2
          rw [HR.o]
          exact⟨_,rfl,Hv9.o.from HbF.o.size,Hb9.o⟩
        . -- class 5
          have HR:=a6 (show R0=(lX R kk p (5,(j:Int),(i9 R kk 5:Int)),0)from HR2.o)
          have ha:(Instr.lookup 100 (.map (some wc.heap.size)) (.int .i64 5) true).run Tryz.prog p6= .ok (.tuple #[.func (.func 55) #[J] #[], .bool true]) p6:=HAK.o 5
          have HC:=a6 (show Calls Tryz.prog 55 #[J] p6 (c_u p6 (lX R kk p (5,(j:Int),(i9 R kk 5:Int))))by
           rw [HJ.o]
           have h:=f_l p pa pc kk bk dk cqs (.bool false) (.slice bp pk.length dp) (.slice bt tk.length dt) (aV R.type) (.int .i64 R.text.1) (aV R.text.2) (.int .i64 R.other.1) (aV R.other.2) (.slice ra R.kids.length rc) (.int .i64 R.fill) (aV R.fillT) (.int .i64 5) (.int .i64 (i9 R kk 5)) j p6 (HJA.o j (by omega)) (hjk (by omega))
           simpa [lX,m6,nX]using h)
          generalize lX R kk p (5,(j:Int),(i9 R kk 5:Int))=l at HR HC
          have hent:=c_y
          go_wp2_with fail
          refine HC.o.mono ?_
          rintro e w9 ⟨v9,rfl,hv9,hbel⟩
          have Hv9:=a6 hv9;have Hb9:=a6 (HbF.o.trans (hbel.mono HbF.o.size))
          clear hbel hv9 HC
          go_wp2_with fail
          go_ret2
          rw [HR.o]
          exact⟨_,rfl,Hv9.o.from HbF.o.size,Hb9.o⟩
        . -- class 6
          have HR:=a6 (show R0=(lX R kk p (6,(j:Int),(i9 R kk 6:Int)),0)from HR2.o)
          have ha:(Instr.lookup 100 (.map (some wc.heap.size)) (.int .i64 6) true).run Tryz.prog p6= .ok (.tuple #[.func (.func 59) #[J] #[], .bool true]) p6:=HAK.o 6
          have HC:=a6 (show Calls Tryz.prog 59 #[J] p6 (c_u p6 (lX R kk p (6,(j:Int),(i9 R kk 6:Int))))by
           rw [HJ.o]
           have h:=i_E p pa pc kk bk dk cqs (.bool false) (.slice bp pk.length dp) (.slice bt tk.length dt) (aV R.type) (.int .i64 R.text.1) (aV R.text.2) (.int .i64 R.other.1) (aV R.other.2) (.slice ra R.kids.length rc) (.int .i64 6) (.int .i64 (i9 R kk 6)) R.fill R.fillT j p6 (HJA.o j (by have:=hj6 rfl;omega))
           simpa [lX,m6,nX]using h)
          generalize lX R kk p (6,(j:Int),(i9 R kk 6:Int))=l at HR HC
          have hent:=f_E
          go_wp2_with fail
          refine HC.o.mono ?_
          rintro e w9 ⟨v9,rfl,hv9,hbel⟩
          have Hv9:=a6 hv9;have Hb9:=a6 (HbF.o.trans (hbel.mono HbF.o.size))
          clear hbel hv9 HC
          go_wp2_with fail
          go_ret2
          rw [HR.o]
          exact⟨_,rfl,Hv9.o.from HbF.o.size,Hb9.o⟩
theorem k_x (s:b8) (sv:Value) (n:aK) (v:Value) (p:List Int) (pa:Option Addr) (pc:Nat) (W:World) (hsw:s.wt <= 100000000) (hw:n.wt <= 100000000) (hs:SchemaV W W.heap.size s sv) (hv:bY W W.heap.size n v) (hp:RowA W W.heap.size 1 pa p.length pc (p.map (Value.int .i64))) (hpl:p.length <= 100000):
 Calls Tryz.prog 12 #[sv,v, .slice pa p.length pc] W (n_Z W (D4 s n p)):=
 (d_B s sv n v p pa pc W hsw hw hs hv hp hpl).mono fun e w' ⟨v,h1,h2,h3⟩=>⟨v,h1,h2.ops,h3⟩
def f_F (r:bJ) (ks:List aK) (f:qJ):Prop:=(f.1=3 ->eQ (fQ (eY r (cX ks f.2.1.toNat)).2)=0)/\(f.1=6 ->r.fill≠1 ->eQ (fQ r.fillT)=0)
theorem a_C {r:bJ} {ks:List aK} {j:Nat} (h:i7 r ks 4=j):0 < j/\j < ks.length/\aZ (cX ks j)=true/\aZ (cX ks (j - 1))=true/\cV (cX ks j)=cV (cX ks (j - 1)):=by
 unfold i7 at h
 rw [if_neg (by decide)]at h
 rcases kQ (M3 r ks 4) ks.length with⟨k,hk,hp, -,he⟩ | ⟨-,he⟩
 . rw [he]at h
   have:k=j:=by omega
   subst this
   have h2:(decide (0 < k) && (aZ (cX ks k) && (aZ (cX ks (k - 1)) && decide (cV (cX ks k)=cV (cX ks (k - 1))))))=true:=hp
   simp only [Bool.and_eq_true,decide_eq_true_eq]at h2
   exact⟨h2.1,hk,h2.2.1,h2.2.2.1,h2.2.2.2⟩
 . rw [he]at h;omega
theorem d_C (t:List UInt8):aZ (fQ t)=false:=rfl
theorem b_6 (t:List UInt8):aQ (fQ t)= []:=rfl
theorem JZ:eQ (.mk true [] [] [])=0:=by decide
theorem k_y {s:b8} {n k:aK} {p:List Int} (hn:eQ n=0) (hr:aZ n=false) (ha:kK n p=some k) (hf:(g9 s k).1≠0) (hw:f_F (bV s (dZ k)) (aQ k) (g9 s k)):
 nV n ((lX (bV s (dZ k)) (aQ k) p (g9 s k)).map j7.full)=some (gY n p (setKids k (MV (bV s (dZ k)) (aQ k) (g9 s k)))):=by
 rcases o8 s k with h | ⟨c,j,hk,h1,h6,hj,hF,hlt,h4,h66⟩
 . rw [h]at hf;exact absurd rfl hf
 generalize bV s (dZ k)=r at hj hF hw⊢
 rw [hF]at hw⊢
 unfold f_F at hw
 simp only [Int.toNat_natCast]at hw
 have hE:=rZ (CQ p n k hn ha)
 obtain rfl | rfl | rfl | rfl | rfl | rfl:c=1∨c=2∨c=3∨c=4∨c=5∨c=6:=by omega
 . have hjl:=hlt (by omega)
   rw [FX (.inl rfl),FV (.inl rfl)]
   simp only [Int.toNat_natCast]
   rw [kid_at hjl]
   rw [List.map_cons,sJ (b_K hn hr ha hk hjl)]
   rfl
 . have hjl:=hlt (by omega)
   rw [c_k rfl,c_i rfl]
   simp only [Int.toNat_natCast]
   rw [kid_at hjl,List.map_append,a_s,List.map_map,List.range_eq_range']
   have h:=c_g hn hr ha hk hjl (aQ (aQ k)[j]).length 0 (by omega)
   rw [c_e hjl,setKids_self,a_T p n k ha]at h
   rw [show ((List.range' 0 (aQ (aQ k)[j]).length).map (j7.full ∘ fun i:Nat=>(⟨5,p ++ [(j:Int),0],p ++ [(j:Int)+(1+(i:Int))],0,bZ, []⟩:j7)))=_ from rfl]at *
   have h':nV n (List.map (j7.full ∘ fun i:Nat=>(⟨5,p ++ [(j:Int),0],p ++ [(j:Int)+(1+(i:Int))],0,bZ, []⟩:j7)) (List.range' 0 (aQ (aQ k)[j]).length))=_:=h
   rw [h']
   show nV _ _=_
   have hat:=E0 p n k (setKids k (mY (aQ k) j (aQ k)[j] (aQ (aQ k)[j]).length)) ha
   have hjl2:j < (aQ (setKids k (mY (aQ k) j (aQ k)[j] (aQ (aQ k)[j]).length))).length:=by rw [kids_setKids,KZ hjl (a8)];omega
   have hx:(aQ (setKids k (mY (aQ k) j (aQ k)[j] (aQ (aQ k)[j]).length)))[j]=G6 (aQ k)[j]:=by
    have:=c_f (x:=(aQ k)[j]) (t:=(aQ (aQ k)[j]).length) hjl
    simp only [kids_setKids]
    rw [List.getElem?_eq_getElem (by rw [kids_setKids]at hjl2;exact hjl2)]at this
    rw [Option.some.inj this]
    rw [List.drop_eq_nil_of_le (a8)]
    generalize (aQ k)[j]=x
    cases x;rfl
   have hrem:=b_K (CV hn ha hk (a_V hjl rfl hE)) ((KY ha).trans hr) hat ((nQ _ _).trans hk) hjl2
   rw [hx]at hrem
   rw [List.map_cons,sJ hrem,kids_setKids,setKids_setKids,CK p n k _ _ ha]
   show some _=some _
   congr 3
   unfold mY
   rw [List.eraseIdx_append_of_length_le (by simp;omega)]
   simp [Nat.min_eq_left (Nat.le_of_lt hjl)]
 . have hjl:=hlt (by omega)
   rw [MZ rfl,MY rfl]
   simp only [Int.toNat_natCast]
   have hxE:=hw.1 rfl
   have hm:=a_Z r (aQ k) j hjl (by exact_mod_cast hj)
   have hm':i9 r (aQ k) ((3:Nat):Int)=i9 r (aQ k) 3:=rfl
   rw [hm']
   generalize i9 r (aQ k) 3=m at hm⊢
   have hxl:aZ (fQ (eY r (cX (aQ k) j)).2)=false:=rfl
   have hxk:aQ (fQ (eY r (cX (aQ k) j)).2)= []:=rfl
   generalize fQ (eY r (cX (aQ k) j)).2=x at hxE hxl hxk⊢
   rw [List.map_cons,sJ (b_J hn hr ha hk hxE (Nat.le_of_lt hjl)), <- c_h hxk,List.map_map,List.range_eq_range']
   exact(f_9 hn hr ha hk hxE hxl m 0 (by omega)).trans (by rw [Nat.zero_add])
 . have hj4:i7 r (aQ k) 4=j:=hj
   obtain⟨g1,g2,g3,g4,g5⟩:=a_C hj4
   rw [a_Y rfl,a_X rfl]
   simp only [Int.toNat_natCast]
   obtain⟨i,rfl⟩:∃i,j=i+1:=⟨j - 1,by omega⟩
   have e:i+1 - 1=i:=by omega
   rw [e]at g4 g5⊢
   rw [kid_at g2]at g3 g5
   rw [kid_at (show i < (aQ k).length by omega)]at g4 g5
   rw [kid_at g2,kid_at (show i < (aQ k).length by omega),List.map_cons,sJ (h_G hn hr ha hk g2 g4 g3)]
   rfl
 . have hjl:=hlt (by omega)
   rw [FX (.inr rfl),FV (.inr rfl)]
   simp only [Int.toNat_natCast]
   rw [kid_at hjl]
   rw [List.map_cons,sJ (b_K hn hr ha hk hjl)]
   rfl
 . obtain rfl:=h66 rfl
   rw [c_l rfl,c_j rfl]
   have hx:eQ (if r.fill=1 then aK.mk true [] [] [] else fQ r.fillT)=0:=by
    split
    . exact JZ
    . rename_i h;exact hw.2 rfl h
   generalize (if r.fill=1 then aK.mk true [] [] [] else fQ r.fillT)=x at hx⊢
   have hnil:aQ k= []:=by
    have hj6:i7 r (aQ k) 6=0:=hj
    rw [zV]at hj6
    split at hj6
    . rename_i h;exact List.eq_nil_of_length_eq_zero h.1
    . cases hj6
   rw [List.map_cons,sJ (b_J (i:=0) hn hr ha hk hx (Nat.zero_le _)),hnil]
   rfl
def oZ (t:List UInt8):Bool:=decide (t≠ []) && b_D t
def sZ (lift:Bool) (a:A7):Bool:=if a.1=4 then oZ a.2 else if a.1=3 then lift && decide (a.2= []) else if a.1=1∨a.1=2 then decide (a.2= []) else false
def qZ:Option (List UInt8) ->List (List UInt8) ->Bool
 | _, []=>true
 | none,t::l=>oZ t && qZ (some t) l
 | some p,t::l=>oZ t && (!leB t p && qZ (some t) l)
def AX (l:List (List UInt8)):Bool:=qZ none l && decide (l.length <= 32)
def a_D (r:bJ):Bool:=(decide (r.fill=0∨r.fill=1) && decide (r.fillT= [])) || (decide (r.fill=2) && oZ r.fillT)
def lV (r:bJ):Bool:=r.kids.all (fun p=>sZ true p.2) && (a_D r && (sZ false r.text && (sZ true r.other && AX (r.kids.map (·.1)))))
abbrev qK (s:b8):List bJ:=s.rules ++ [s.els]
def gQ (r:bJ):List (List UInt8):= [r.type,r.text.2,r.other.2,r.fillT] ++ r.kids.flatMap (fun p=> [p.1,p.2.2])
def H7 (s:b8):List (List UInt8):=(qK s).flatMap gQ ++ [[]]
def tK (s:b8) (r:bJ) (n:List UInt8):Bool:= !(decide ((j8 r n).1=4) && (decide ((j8 r (j8 r n).2).1≠1) || decide ((j8 (bV s (j8 r n).2) n).1≠1)))
def xJ (s:b8) (r:bJ):Bool:=
 !(decide (r.text.1=4) && (decide ((j8 r r.text.2).1≠1) || decide ((bV s r.text.2).text.1≠1))) && ((H7 s).all (tK s r) &&
   (if r.fill=1 then decide (r.text.1=1) else if r.fill=2 then decide ((j8 r r.fillT).1=1) else true))
def a_0 (s:b8):Nat ->List (List UInt8) ->bJ ->Nat ->Int
 | 0,_,_,_=> -1
 | f+1,met,r,n=>if r.fill=0 then n else if r.fill=1 then (n:Int)+1 else if r.type∈met then -1 else a_0 s f (r.type::met) (bV s r.fillT) (n+1)
def a_1 (s:b8) (r:bJ):Int:=a_0 s (s.rules.length+2) [] r 0
def K0 (s:b8):Bool:= [1,2,3,4,5,6].all fun c=>decide ((s.order.filter (fun x=>decide (x=c))).length=1)
def uX (s:b8):Int:=
 if K0 s && (decide (1 <= s.cap) && decide (s.cap <= 1048576)) && (decide (s.els.type= []) && (AX (s.rules.map (·.type)) && (qK s).all lV)) && (qK s).all (fun r=>xJ s r && decide (0 <= a_1 s r)) then 0 else 12
theorem zX {s:b8} (h:uX s=0):∀r∈qK s,lV r=true/\xJ s r=true/\0 <= a_1 s r:=by
 unfold uX at h
 split at h
 . rename_i h2
   simp only [Bool.and_eq_true,List.all_eq_true,decide_eq_true_eq]at h2
   intro r hr
   exact⟨h2.1.2.2.2 r hr,(h2.2 r hr).1,(h2.2 r hr).2⟩
 . cases h
theorem L3 (s:b8) (k:List UInt8):bV s k∈qK s:=by
 rcases GY s k with h | h
 . exact List.mem_append_left _ h
 . rw [h];simp [qK]
theorem a_2:∀ (l:List (List UInt8)) (o:Option (List UInt8)),qZ o l=true ->∀t∈l,oZ t=true
 | [],o,h,t,ht=>by cases ht
 | x::l,none,h,t,ht=>by
   simp only [qZ,Bool.and_eq_true]at h
   rcases List.mem_cons.1 ht with rfl | ht
   . exact h.1
   . exact a_2 l _ h.2 t ht
 | x::l,some p,h,t,ht=>by
   simp only [qZ,Bool.and_eq_true]at h
   rcases List.mem_cons.1 ht with rfl | ht
   . exact h.1
   . exact a_2 l _ h.2.2 t ht
structure b_L (r:bJ):Prop where
 acts:∀p∈r.kids,sZ true p.2=true
 fill:a_D r=true
 text:sZ false r.text=true
 other:sZ true r.other=true
 names:∀p∈r.kids,oZ p.1=true
theorem zY {r:bJ} (h:lV r=true):b_L r:=by
 unfold lV at h
 simp only [Bool.and_eq_true,List.all_eq_true]at h
 obtain⟨h1,h2,h3,h4,h5⟩:=h
 unfold AX at h5
 simp only [Bool.and_eq_true]at h5
 exact⟨h1,h2,h3,h4,fun p hp=>a_2 _ _ h5.1 p.1 (List.mem_map.2 ⟨p,hp,rfl⟩)⟩
theorem b_u (r:bJ) (k:List UInt8):(∃p∈r.kids,p.1=k/\j8 r k=p.2)∨ ((∀p∈r.kids,p.1≠k)/\j8 r k=r.other):=by
 unfold j8
 cases h:r.kids.find? (fun p=>decide (p.1=k))with
 | none=>
   rw [List.find?_eq_none]at h
   exact .inr ⟨fun p hp=>by simpa using h p hp,rfl⟩
 | some p=>
   exact .inl ⟨p,List.mem_of_find?_eq_some h,by simpa using List.find?_some h,rfl⟩
theorem b_v {r:bJ} {k:List UInt8} (h:∀p∈r.kids,p.1≠k):j8 r k=r.other:=by
 rcases b_u r k with⟨p,hp,he, -⟩ | ⟨-,he⟩
 . exact absurd he (h p hp)
 . exact he
theorem k_z {r:bJ} (h:b_L r) (k:List UInt8):sZ true (j8 r k)=true:=by
 rcases b_u r k with⟨p,hp, -,he⟩ | ⟨-,he⟩
 . rw [he];exact h.acts p hp
 . rw [he];exact h.other
theorem i_F {a:A7} (h:sZ false a=true):sZ true a=true:=by
 unfold sZ at h⊢
 split at h
 . rename_i h4;rw [if_pos h4];exact h
 . rename_i h4
   rw [if_neg h4]
   split at h
   . simp at h
   . rename_i h3
     rw [if_neg h3];exact h
theorem c_z {r:bJ} (h:b_L r) (n:aK):sZ true (eY r n)=true:=by
 unfold eY
 split
 . exact i_F h.text
 . exact k_z h _
theorem c_A {a:A7} (h:sZ true a=true) (h4:a.1=4):oZ a.2=true:=by
 unfold sZ at h
 rwa [if_pos h4]at h
theorem c_B {t:List UInt8} (h:oZ t=true):t≠ []/\b_D t=true:=by
 unfold oZ at h
 simpa using h
theorem h_P {t:List UInt8} (h:oZ t=true):eQ (fQ t)=0:=by
 obtain⟨h1,h2⟩:=c_B h
 unfold fQ
 rw [if_neg h1]
 refine mJ.2 ⟨zJ.2 ⟨?_,fun h=>(by cases h),fun _=>rfl,by decide⟩,by simp⟩
 unfold pY
 rw [if_neg (by simp)]
 have hk:d_8 F6=true:=by decide
 have hl:leB F6 []=false:=by decide
 simp [u_4,hk,h2,hl]
theorem d_D {t:List UInt8}:dZ (fQ t)=t:=by
 unfold fQ dZ
 by_cases h:t= []
 . simp [h,aZ,cV,d_6]
 . simp [h,aZ,cV,d_6]
theorem c_C {r:bJ} (h:b_L r) (h0:r.fill≠0) (h1:r.fill≠1):r.fill=2/\oZ r.fillT=true:=by
 have:=h.fill
 unfold a_D at this
 simp [h0,h1]at this
 exact this
theorem g_U {s:b8} {k:aK} (hs:uX s=0) (hf:(g9 s k).1≠0):f_F (bV s (dZ k)) (aQ k) (g9 s k):=by
 have hF:=zY (zX hs _ (L3 s (dZ k))).1
 rcases o8 s k with h | ⟨c,j,hk,h1,h6,hj,he,hlt,h4,h66⟩
 . rw [h]at hf;exact absurd rfl hf
 rw [he]
 generalize bV s (dZ k)=r at hF hj⊢
 constructor
 . intro h3
   have h3c:(c:Int)=3:=h3
   obtain rfl:c=3:=by omega
   have hj3:i7 r (aQ k) 3=j:=hj
   refine h_P (c_A (c_z hF _) ?_)
   unfold i7 at hj3
   rw [if_neg (by decide)]at hj3
   rcases kQ (M3 r (aQ k) 3) (aQ k).length with⟨i,hi,hp, -,hx⟩ | ⟨-,hx⟩
   . rw [hx]at hj3
     have:i=j:=by omega
     subst this
     have:decide ((eY r (cX (aQ k) i)).1=4)=true:=hp
     simpa using this
   . rw [hx]at hj3;omega
 . intro h6 hn1
   have h6c:(c:Int)=6:=h6
   obtain rfl:c=6:=by omega
   have hj6:i7 r (aQ k) 6=j:=hj
   rw [zV]at hj6
   split at hj6
   . rename_i h;exact h_P (c_C hF h.2 hn1).2
   . omega
theorem i_G {s:b8} {r:bJ} (hr:r∈qK s) {p:vQ} (hp:p∈r.kids):p.1∈H7 s:=by
 unfold H7
 refine List.mem_append_left _ (List.mem_flatMap.2 ⟨r,hr, ?_⟩)
 unfold gQ
 exact List.mem_append_right _ (List.mem_flatMap.2 ⟨p,hp,by simp⟩)
theorem i_H (s:b8): []∈H7 s:=by unfold H7;simp
theorem b_w {s:b8} {r:bJ} {n:List UInt8} (h:tK s r n=true) (h4:(j8 r n).1=4):(j8 r (j8 r n).2).1=1/\(j8 (bV s (j8 r n).2) n).1=1:=by
 unfold tK at h
 simpa [h4]using h
theorem d_E {s:b8} {r:bJ} (hs:uX s=0) (hr:r∈qK s) {x:aK} (h4:(eY r x).1=4):(j8 r (eY r x).2).1=1/\(eY (bV s (eY r x).2) x).1=1:=by
 obtain⟨hf,hset, -⟩:=zX hs r hr
 have hF:=zY hf
 unfold xJ at hset
 simp only [Bool.and_eq_true,List.all_eq_true]at hset
 obtain⟨h1,h2, -⟩:=hset
 cases hl:aZ x with
 | true=>
   have e:∀q:bJ,eY q x=q.text:=fun q=>by unfold eY;rw [if_pos hl]
   rw [e]at h4⊢
   rw [e]
   simpa [h4]using h1
 | false=>
   have e:∀q:bJ,eY q x=j8 q (dZ x):=fun q=>by unfold eY;rw [hl];rfl
   rw [e]at h4⊢
   rw [e]
   generalize dZ x=n at h4⊢
   by_cases hn:n∈H7 s
   . exact b_w (h2 n hn) h4
   . have hno:∀q∈qK s,j8 q n=q.other/\j8 q []=q.other:=fun q hq=>by
      refine⟨b_v fun p hp e=>hn (by rw [<- e];exact i_G hq hp),b_v fun p hp e=> ?_⟩
      have:=(zY (zX hs q hq).1).names p hp
      rw [e]at this
      exact absurd rfl (c_B this).1
     have h3:(j8 r []).1=4:=by rw [(hno r hr).2, <- (hno r hr).1];exact h4
     have h5:=b_w (h2 [] (i_H s)) h3
     rw [(hno r hr).2]at h5
     rw [(hno r hr).1]
     refine⟨h5.1, ?_⟩
     rw [(hno _ (L3 s _)).1, <- (hno _ (L3 s _)).2]
     exact h5.2
theorem i_I {s:b8} {r:bJ} (hs:uX s=0) (hr:r∈qK s) (h0:r.fill≠0):(eY r (if r.fill=1 then .mk true [] [] [] else fQ r.fillT)).1=1:=by
 obtain⟨hf,hset, -⟩:=zX hs r hr
 have hF:=zY hf
 unfold xJ at hset
 simp only [Bool.and_eq_true]at hset
 obtain⟨-, -,h3⟩:=hset
 by_cases h1:r.fill=1
 . rw [if_pos h1]at h3⊢
   unfold eY
   simpa [aZ]using h3
 . rw [if_neg h1]at h3⊢
   rw [if_pos (c_C hF h0 h1).1]at h3
   unfold eY
   rw [d_C,d_D]
   simpa using h3
def yQ (r:bJ) (ks:List aK):Nat:=(ks.filter fun k=>decide ((eY r k).1=1)).length
def f_G (s:b8) (n:aK):Nat:=yQ (bV s (dZ n)) (aQ n)
theorem d_F {α :Type} {q: α ->Bool}:∀ {l:List α} {x: α},x∈l.takeWhile q ->q x=true
 | [],x,h=>by cases h
 | y ::l,x,h=>by
   rw [List.takeWhile_cons]at h
   split at h
   . rename_i hy
     rcases List.mem_cons.1 h with rfl | h
     . exact hy
     . exact d_F h
   . cases h
theorem I0 (r:bJ) (a b:List aK):yQ r (a ++ b)=yQ r a+yQ r b:=by simp [yQ]
theorem I1 (r:bJ) (x:aK) (b:List aK):yQ r (x::b)=(if (eY r x).1=1 then 1 else 0)+yQ r b:=by
 unfold yQ
 by_cases h:(eY r x).1=1
 . simp [h];omega
 . simp [h]
theorem d_G {r:bJ}:∀ {l:List aK},(∀x∈l,(eY r x).1=1) ->yQ r l=l.length
 | [],h=>rfl
 | x::l,h=>by
   rw [I1,if_pos (h x (by simp)),d_G fun y hy=>h y (by simp [hy])]
   simp;omega
theorem c_D {r:bJ}:∀ {l:List aK},(∀x∈l,(eY r x).1≠1) ->yQ r l=0
 | [],h=>rfl
 | x::l,h=>by rw [I1,if_neg (h x (by simp)),c_D fun y hy=>h y (by simp [hy])]
theorem d_c (r:bJ) (x:aK) (L:List aK):eY r (setKids x L)=eY r x:=by cases x;rfl
theorem a_E (x:aK) (L:List aK):dZ (setKids x L)=dZ x:=by cases x;rfl
theorem c_E {r:bJ} {ks:List aK} {j:Nat} (hj:j < ks.length) (h:i7 r ks 3=j):(eY r ks[j]).1=4/\1 <= i9 r ks 3/\∀x∈ (ks.drop j).take (i9 r ks 3),eY r x=eY r ks[j]:=by
 have h4:(eY r ks[j]).1=4:=by
  have h2:=h
  unfold i7 at h2
  rw [if_neg (by decide)]at h2
  rcases kQ (M3 r ks 3) ks.length with⟨i,hi,hp, -,hx⟩ | ⟨-,hx⟩
  . rw [hx]at h2
    have:i=j:=by omega
    subst this
    have:decide ((eY r (cX ks i)).1=4)=true:=hp
    rw [kid_at hi]at this
    simpa using this
  . rw [hx]at h2;omega
 refine⟨h4, ?_, ?_⟩
 . unfold i9 a_P;rw [if_pos rfl];omega
 . unfold i9
   rw [if_pos rfl,h]
   unfold a_P
   simp only [Int.toNat_natCast]
   have hg:(kX r ks).getD j (0, [])=eY r ks[j]:=by simp [List.getD,List.getElem?_eq_getElem hj]
   simp only [hg]
   intro x hx
   rw [List.drop_eq_getElem_cons hj,Nat.add_comm,List.take_succ_cons]at hx
   rcases List.mem_cons.1 hx with rfl | hx
   . rfl
   . have e:(kX r ks).drop (j+1)=kX r (ks.drop (j+1)):=by simp [List.map_drop]
     rw [e]at hx
     have:eY r x∈ ((kX r (ks.drop (j+1))).takeWhile fun a=>decide (a=eY r ks[j])):=by
      have hpre:=List.takeWhile_prefix (fun a=>decide (a=eY r ks[j])) (l:=kX r (ks.drop (j+1)))
      rw [List.prefix_iff_eq_take]at hpre
      rw [hpre, <- List.map_take]
      exact List.mem_map.2 ⟨x,hx,rfl⟩
     simpa using d_F this
theorem g_V {n k:aK} {p:List Int} {L:List aK} (ha:kK n p=some k):iY (gY n p (setKids k L))+l8 (aQ k)=iY n+l8 L:=by
 have h1:=d_r p n k (setKids k L) ha
 have h2:=LQ k L
 omega
theorem E4 (ks:List aK) (j:Nat):l8 (ks.take j)+l8 (ks.drop j)=l8 ks:=by rw [<- sV,List.take_append_drop]
theorem I2 (x:aK) (l:List aK):l8 (x::l)=iY x+l8 l:=by rw [l8]
theorem d_H (n:aK):1 <= iY n:=by cases n;rw [iY];omega
theorem K1 {ks:List aK} {j:Nat} (hj:j < ks.length):l8 (ks.eraseIdx j)+iY ks[j]=l8 ks:=by
 have h1:=E4 ks j
 rw [List.drop_eq_getElem_cons hj,I2]at h1
 rw [List.eraseIdx_eq_take_drop_succ,sV]
 omega
theorem d_I (t:List UInt8) (L:List aK):iY (setKids (fQ t) L)=1+l8 L:=by
 show iY (.mk false (if t= [] then [] else [(F6,t)]) [] L)=_
 rw [iY];simp
def k_A (s:b8) (n a:aK) (p:List Int) (k m:aK) (f:qJ):Prop:=
 (f.1=3 ->∃w,kK a (p ++ [f.2.1])=some w/\(aQ m).length+f.2.2.toNat+f_G s k=(aQ k).length+f_G s m/\f_G s w=f.2.2.toNat/\(aQ w).length=f.2.2.toNat/\iY a=iY n+1)/\
 (f.1=6 ->(aQ m).length=1/\f_G s m=1/\iY a=iY n+1)/\
 (f.1≠3 ->f.1≠6 ->iY a < iY n)
theorem k_B {s:b8} {n k:aK} {p:List Int} (hs:uX s=0) (ha:kK n p=some k) (hf:(g9 s k).1≠0):
 k_A s n (gY n p (setKids k (MV (bV s (dZ k)) (aQ k) (g9 s k)))) p k (setKids k (MV (bV s (dZ k)) (aQ k) (g9 s k))) (g9 s k):=by
 have hin:=L3 s (dZ k)
 have hF:=zY (zX hs _ hin).1
 have hsz:=fun L=>g_V (L:=L) ha
 have hty:=a_E k
 rcases o8 s k with h | ⟨c,j,hk,h1,h6,hj,he,hlt,h4,h66⟩
 . rw [h]at hf;exact absurd rfl hf
 rw [he]
 unfold k_A f_G
 simp only [kids_setKids,hty,Int.toNat_natCast]
 generalize hR:bV s (dZ k)=r at hF hj hin⊢
 obtain rfl | rfl | rfl | rfl | rfl | rfl:c=1∨c=2∨c=3∨c=4∨c=5∨c=6:=by omega
 . refine ⟨(fun h=>by cases h),(fun h=>by cases h),fun _ _=> ?_⟩
   have hjl:=hlt (by omega)
   have:=hsz ((aQ k).eraseIdx j)
   have h2:=K1 hjl
   have h3:=d_H (aQ k)[j]
   rw [FV (.inl rfl)]
   simp only [Int.toNat_natCast]
   omega
 . refine ⟨(fun h=>by cases h),(fun h=>by cases h),fun _ _=> ?_⟩
   have hjl:=hlt (by omega)
   rw [c_i rfl]
   simp only [Int.toNat_natCast]
   rw [kid_at hjl]
   have:=hsz ((aQ k).take j ++ (aQ (aQ k)[j] ++ (aQ k).drop (j+1)))
   have h2:=E4 (aQ k) j
   rw [List.drop_eq_getElem_cons hjl,I2]at h2
   rw [sV,sV]at this
   have h3:l8 (aQ (aQ k)[j])+1 <= iY (aQ k)[j]:=by
    generalize (aQ k)[j]=x
    cases x;simp only [aQ];rw [iY];omega
   omega
 . have hjl:=hlt (by omega)
   have hj3:i7 r (aQ k) 3=j:=hj
   refine⟨fun _=> ?_,(fun h=>by cases h),fun h=>absurd rfl h⟩
   have hm':i9 r (aQ k) ((3:Nat):Int)=i9 r (aQ k) 3:=rfl
   rw [hm']
   have hm:=a_Z r (aQ k) j hjl hj3
   obtain⟨g1,g2,g3⟩:=c_E hjl hj3
   generalize i9 r (aQ k) 3=m at hm g2 g3⊢
   rw [MY rfl]
   simp only [Int.toNat_natCast]
   rw [kid_at hjl]
   have hwk:=d_E hs hin g1
   have hT:dZ (fQ (eY r (aQ k)[j]).2)=(eY r (aQ k)[j]).2:=d_D
   have hse:=d_I (eY r (aQ k)[j]).2 (((aQ k).drop j).take m)
   have hlx:aZ (fQ (eY r (aQ k)[j]).2)=false:=rfl
   have hall:∀x∈ ((aQ k).drop j).take m,(eY (bV s (eY r (aQ k)[j]).2) x).1=1:=fun x hx=>by
    have e:=g3 x hx
    have h4x:(eY r x).1=4:=by rw [e];exact g1
    have:=(d_E hs hin h4x).2
    rwa [e]at this
   generalize hX:fQ (eY r (aQ k)[j]).2=X at hT hse hlx⊢
   generalize (eY r (aQ k)[j]).2=T at hwk hT hall
   have hat:=E0 p n k (setKids k (kZ (aQ k) j X m)) ha
   have hjl2:j < (aQ (setKids k (kZ (aQ k) j X m))).length:=by rw [kids_setKids,a_W hm];omega
   have hget:(aQ (setKids k (kZ (aQ k) j X m)))[j]=setKids X (((aQ k).drop j).take m):=by
    have:=f_7 (ks:=aQ k) (x:=X) (t:=m) (Nat.le_of_lt hjl)
    simp only [kids_setKids]
    rw [List.getElem?_eq_getElem (by rw [kids_setKids]at hjl2;exact hjl2)]at this
    exact Option.some.inj this
   have hat2:=J9 hat hjl2
   rw [hget]at hat2
   have hlm:(((aQ k).drop j).take m).length=m:=by simp;omega
   refine⟨_,hat2, ?_, ?_, ?_, ?_⟩
   . rw [a_W hm]
     have e1:yQ r (aQ k)=yQ r ((aQ k).take j)+(yQ r (((aQ k).drop j).take m)+yQ r ((aQ k).drop (j+m))):=by
      rw [<- I0, <- I0]
      congr 1
      rw [<- List.drop_drop,List.take_append_drop,List.take_append_drop]
     have e2:yQ r (kZ (aQ k) j X m)=yQ r ((aQ k).take j)+(1+yQ r ((aQ k).drop (j+m))):=by
      unfold kZ
      rw [I0,I1,d_c]
      have:(eY r X).1=1:=by
       unfold eY
       rw [hlx,hT]
       exact hwk.1
      rw [if_pos this]
     have e3:yQ r (((aQ k).drop j).take m)=0:=c_D fun x hx=>by rw [g3 x hx,g1];decide
     rw [e1,e2,e3];omega
   . rw [a_E,hT,kids_setKids,d_G hall,hlm]
   . rw [kids_setKids,hlm]
   . have:=hsz (kZ (aQ k) j X m)
     unfold kZ at this
     rw [sV,I2,hse]at this
     have h2:=E4 (aQ k) j
     have h3:=E4 ((aQ k).drop j) m
     rw [List.drop_drop]at h3
     unfold kZ
     omega
 . obtain ⟨g1,g2,g3,g4,g5⟩:=a_C (show i7 r (aQ k) 4=j from hj)
   refine⟨(fun h=>by cases h),(fun h=>by cases h),fun _ _=> ?_⟩
   rw [a_X rfl]
   simp only [Int.toNat_natCast]
   obtain⟨i,rfl⟩:∃i,j=i+1:=⟨j - 1,by omega⟩
   rw [show i+1 - 1=i by omega,kid_at g2,kid_at (show i < (aQ k).length by omega)]
   have hil:i < ((aQ k).eraseIdx (i+1)).length:=by rw [List.length_eraseIdx];split <;> omega
   have:=hsz (((aQ k).eraseIdx (i+1)).set i (pQ (aQ k)[i] (aQ k)[i+1]))
   have h2:=K1 g2
   have h3:=a_U ((aQ k).eraseIdx (i+1)) i hil (pQ (aQ k)[i] (aQ k)[i+1])
   have e:((aQ k).eraseIdx (i+1))[i]=(aQ k)[i]:=by rw [List.getElem_eraseIdx,dif_pos (by omega)]
   rw [e]at h3
   have h4:iY (pQ (aQ k)[i] (aQ k)[i+1])+1=iY (aQ k)[i]+iY (aQ k)[i+1]:=by
    generalize (aQ k)[i]=x
    generalize (aQ k)[i+1]=y
    cases x;cases y
    simp only [pQ,iY,sV,List.length_append];omega
   omega
 . refine ⟨(fun h=>by cases h),(fun h=>by cases h),fun _ _=> ?_⟩
   have hjl:=hlt (by omega)
   have:=hsz ((aQ k).eraseIdx j)
   have h2:=K1 hjl
   have h3:=d_H (aQ k)[j]
   rw [FV (.inr rfl)]
   simp only [Int.toNat_natCast]
   omega
 . have hj6:i7 r (aQ k) 6=j:=hj
   rw [zV]at hj6
   refine⟨(fun h=>by cases h),fun _=> ?_,fun _ h=>absurd rfl h⟩
   split at hj6
   . rename_i h0
     have hfk:=i_I hs hin h0.2
     have hnil:=List.eq_nil_of_length_eq_zero h0.1
     rw [c_j rfl]
     have hz:iY (if r.fill=1 then aK.mk true [] [] [] else fQ r.fillT)=1:=by
      split
      . rfl
      . exact d_I r.fillT []
     generalize (if r.fill=1 then aK.mk true [] [] [] else fQ r.fillT)=x at hfk hz⊢
     have:=hsz [x]
     rw [hnil,I2,hz]at this
     refine⟨rfl, ?_, ?_⟩
     . rw [I1,if_pos hfk];rfl
     . simp only [l8]at this;omega
   . omega
end Go.Proofs.YtmadpclcmjahoaaGreatDoor
