/- Parts of the proof: 22. -/
import Derived.Test.YtmadpclcmjahoaaGreatDoorFN1
import Derived.Test.YtmadpclcmjahoaaGreatDoorFN18
import Derived.Test.YtmadpclcmjahoaaGreatDoorFN21
set_option linter.unusedVariables false
set_option linter.unusedSimpArgs false
set_option maxHeartbeats 8000000
set_option maxRecDepth 100000
namespace Go.Proofs.YtmadpclcmjahoaaGreatDoor
open Go.RowKit Go.Redl
theorem k_F (kd pos:Int) (p d:List Int) (n0 n1 n2 n3:Value) (pa ta:Option Addr) (pc tc:Nat) (v4 v5 v6 v7 v8 v9 v10 v11 v12 v13 v14 v15 v16 v17 v18 v19 v20:Value) (W:World) (hkd:kd=2) (hp:RowA W W.heap.size 1 pa p.length pc (p.map (Value.int .i64))) (hpl:p.length <= 400000) (hne:p≠ []):
 Calls Tryz.prog 68 #[.agg #[n0,n1,n2,n3], .agg #[.int .i64 kd, .slice pa p.length pc, .slice ta d.length tc, .int .i64 pos,v4,v5,v6,v7,v8,v9,v10,v11,v12,v13,v14,v15,v16,v17,v18,v19,v20]] W (LK W ([p.dropLast])):=by
 subst hkd
 obtain⟨w0,hw0⟩:∃w0,w0=(W.alloc (Obj.cells #[n0,n1,n2,n3] 35)).alloc (Obj.cells #[.int .i64 2, .slice pa p.length pc, .slice ta d.length tc, .int .i64 pos,v4,v5,v6,v7,v8,v9,v10,v11,v12,v13,v14,v15,v16,v17,v18,v19,v20] 55):=⟨_,rfl⟩
 have hb0:Below W.heap.size W w0:=by rw [hw0];exact i8 _ _ _
 have hA0:At w0 (W.heap.size+1) [.int .i64 2, .slice pa p.length pc, .slice ta d.length tc, .int .i64 pos,v4,v5,v6,v7,v8,v9,v10,v11,v12,v13,v14,v15,v16,v17,v18,v19,v20] 55:=by rw [hw0];exact At.second W _ _ _
 obtain⟨w1,hw1⟩:∃w1,w1=w0.alloc (Obj.cells #[.func (.func 128) #[] #[.pointer (some ⟨W.heap.size+1,0,none⟩)]] 176):=⟨_,rfl⟩
 have hb1:Below w0.heap.size w0 w1:=by rw [hw1];exact aX _ _
 have hbW:Below W.heap.size W w1:=hb0.trans (hb1.mono hb0.size)
 have hA:At w1 (W.heap.size+1) [.int .i64 2, .slice pa p.length pc, .slice ta d.length tc, .int .i64 pos,v4,v5,v6,v7,v8,v9,v10,v11,v12,v13,v14,v15,v16,v17,v18,v19,v20] 55:=hA0.kept hb1
 have hU:At w1 w0.heap.size [.func (.func 128) #[] #[.pointer (some ⟨W.heap.size+1,0,none⟩)]] 176:=by rw [hw1];exact At.fresh w0 _ _
 have hp1:=hp.keep hbW hbW.size
 have HS:=a6 (m_7 _ _ 176 w1 rfl (c_x hA rfl hp1 (by omega) hne))
 have c0:=hA.cell 0 rfl;have cl:=hA.lt
 have u0:=hU.cell 0 rfl;have ul:=hU.lt
 have Hw0:=a6 hw0;have Hw1:=a6 hw1;have HbW:=a6 hbW
 have hmf:∀ (fn:Fn) (first cap:Array Value) (w:World),(Instr.makeFunc fn first cap).run Tryz.prog w= .ok (.func fn first cap) w:=fun _ _ _ _=>rfl
 have hst:=fun(W:World) (a:Addr) (fn:Fn) (first cap:Array Value) (m:Mode)=>run_store Tryz.prog W a (.func fn first cap) m rfl
 clear hw0 hw1 hb0 hb1 hbW hA0 hA hU hp hp1 hne
 go_enter Tryz.func68,Tryz.ntmps68
 go_upto_region 1 with fail
 rw [<- Hw0.o]
 clear Hw0
 go_upto_region 5 with fail
 rw [<- Hw1.o]
 clear Hw1
 go_wp2_with fail
 refine HS.o.mono ?_
 rintro e w2 ⟨v,xs,rfl,hx,hpx,hbel⟩
 obtain⟨va,vc,hv⟩:=hx.form
 subst hv
 have Hx:=a6 hx;have Hp:=a6 hpx;have Hb2:=a6 (HbW.o.trans (hbel.mono HbW.o.size));have Hs:=a6 HbW.o.size
 clear hx hpx hbel HS c0 cl u0 ul
 go_wp2_with fail
 go_ret
 exact⟨_,xs,rfl,Hx.o.from Hs.o Hs.o,Hp.o,Hb2.o⟩
theorem k_G (kd pos:Int) (p d:List Int) (n0 n1 n2 n3:Value) (pa ta:Option Addr) (pc tc:Nat) (v4 v5 v6 v7 v8 v9 v10 v11 v12 v13 v14 v15 v16 v17 v18 v19 v20:Value) (W:World) (hkd:kd=3) (hp:RowA W W.heap.size 1 pa p.length pc (p.map (Value.int .i64))) (hpl:p.length <= 400000) (hne:p≠ []) (hpw:∀z∈p, -9223372036854775807 <= z/\z <= 9223372036854775807):
 Calls Tryz.prog 68 #[.agg #[n0,n1,n2,n3], .agg #[.int .i64 kd, .slice pa p.length pc, .slice ta d.length tc, .int .i64 pos,v4,v5,v6,v7,v8,v9,v10,v11,v12,v13,v14,v15,v16,v17,v18,v19,v20]] W (LK W (p.dropLast::(if 0 < iJ p then [j5 p] else []))):=by
 subst hkd
 obtain⟨w0,hw0⟩:∃w0,w0=(W.alloc (Obj.cells #[n0,n1,n2,n3] 35)).alloc (Obj.cells #[.int .i64 3, .slice pa p.length pc, .slice ta d.length tc, .int .i64 pos,v4,v5,v6,v7,v8,v9,v10,v11,v12,v13,v14,v15,v16,v17,v18,v19,v20] 55):=⟨_,rfl⟩
 have hb0:Below W.heap.size W w0:=by rw [hw0];exact i8 _ _ _
 have hA0:At w0 (W.heap.size+1) [.int .i64 3, .slice pa p.length pc, .slice ta d.length tc, .int .i64 pos,v4,v5,v6,v7,v8,v9,v10,v11,v12,v13,v14,v15,v16,v17,v18,v19,v20] 55:=by rw [hw0];exact At.second W _ _ _
 obtain⟨w1,hw1⟩:∃w1,w1=w0.alloc (Obj.cells #[.func (.func 128) #[] #[.pointer (some ⟨W.heap.size+1,0,none⟩)]] 176):=⟨_,rfl⟩
 have hb1:Below w0.heap.size w0 w1:=by rw [hw1];exact aX _ _
 have hbW:Below W.heap.size W w1:=hb0.trans (hb1.mono hb0.size)
 have hA:At w1 (W.heap.size+1) [.int .i64 3, .slice pa p.length pc, .slice ta d.length tc, .int .i64 pos,v4,v5,v6,v7,v8,v9,v10,v11,v12,v13,v14,v15,v16,v17,v18,v19,v20] 55:=hA0.kept hb1
 have hU:At w1 w0.heap.size [.func (.func 128) #[] #[.pointer (some ⟨W.heap.size+1,0,none⟩)]] 176:=by rw [hw1];exact At.fresh w0 _ _
 have hp1:=hp.keep hbW hbW.size
 have HS:=a6 (e_o _ _ _ _ 176 w1 rfl rfl (c_x hA rfl hp1 (by omega) hne) (g_R hA rfl hp1 (by omega) hne hpw))
 have hfin:(some p.dropLast).toList ++ (if 0 < iJ p then some (j5 p) else none).toList=p.dropLast::(if 0 < iJ p then [j5 p] else []):=by split <;> rfl
 rw [hfin]at HS
 clear hfin hpw
 generalize p.dropLast::(if 0 < iJ p then [j5 p] else [])=R at HS⊢
 have c0:=hA.cell 0 rfl;have cl:=hA.lt
 have u0:=hU.cell 0 rfl;have ul:=hU.lt
 have Hw0:=a6 hw0;have Hw1:=a6 hw1;have HbW:=a6 hbW
 have hmf:∀ (fn:Fn) (first cap:Array Value) (w:World),(Instr.makeFunc fn first cap).run Tryz.prog w= .ok (.func fn first cap) w:=fun _ _ _ _=>rfl
 have hst:=fun(W:World) (a:Addr) (fn:Fn) (first cap:Array Value) (m:Mode)=>run_store Tryz.prog W a (.func fn first cap) m rfl
 clear hw0 hw1 hb0 hb1 hbW hA0 hA hU hp hp1 hne
 go_enter Tryz.func68,Tryz.ntmps68
 go_upto_region 1 with fail
 rw [<- Hw0.o]
 clear Hw0
 go_upto_region 5 with fail
 rw [<- Hw1.o]
 clear Hw1
 go_wp2_with fail
 refine HS.o.mono ?_
 rintro e w2 ⟨v,xs,rfl,hx,hpx,hbel⟩
 obtain⟨va,vc,hv⟩:=hx.form
 subst hv
 have Hx:=a6 hx;have Hp:=a6 hpx;have Hb2:=a6 (HbW.o.trans (hbel.mono HbW.o.size));have Hs:=a6 HbW.o.size
 clear hx hpx hbel HS c0 cl u0 ul
 go_wp2_with fail
 go_ret
 exact⟨_,xs,rfl,Hx.o.from Hs.o Hs.o,Hp.o,Hb2.o⟩
theorem k_H (kd pos:Int) (p d:List Int) (n0 n1 n2 n3:Value) (pa ta:Option Addr) (pc tc:Nat) (v4 v5 v6 v7 v8 v9 v10 v11 v12 v13 v14 v15 v16 v17 v18 v19 v20:Value) (W:World) (hkd:kd=5) (hp:RowA W W.heap.size 1 pa p.length pc (p.map (Value.int .i64))) (hpl:p.length <= 400000) (hne:p≠ []) (hd:RowA W W.heap.size 1 ta d.length tc (d.map (Value.int .i64))) (hdl:d.length <= 400000) (hnd:d≠ []):
 Calls Tryz.prog 68 #[.agg #[n0,n1,n2,n3], .agg #[.int .i64 kd, .slice pa p.length pc, .slice ta d.length tc, .int .i64 pos,v4,v5,v6,v7,v8,v9,v10,v11,v12,v13,v14,v15,v16,v17,v18,v19,v20]] W (LK W (d.dropLast::(lY 5 p d pos p.dropLast).toList)):=by
 subst hkd
 obtain⟨w0,hw0⟩:∃w0,w0=(W.alloc (Obj.cells #[n0,n1,n2,n3] 35)).alloc (Obj.cells #[.int .i64 5, .slice pa p.length pc, .slice ta d.length tc, .int .i64 pos,v4,v5,v6,v7,v8,v9,v10,v11,v12,v13,v14,v15,v16,v17,v18,v19,v20] 55):=⟨_,rfl⟩
 have hb0:Below W.heap.size W w0:=by rw [hw0];exact i8 _ _ _
 have hA0:At w0 (W.heap.size+1) [.int .i64 5, .slice pa p.length pc, .slice ta d.length tc, .int .i64 pos,v4,v5,v6,v7,v8,v9,v10,v11,v12,v13,v14,v15,v16,v17,v18,v19,v20] 55:=by rw [hw0];exact At.second W _ _ _
 obtain⟨w1,hw1⟩:∃w1,w1=w0.alloc (Obj.cells #[.func (.func 128) #[] #[.pointer (some ⟨W.heap.size+1,0,none⟩)]] 176):=⟨_,rfl⟩
 have hb1:Below w0.heap.size w0 w1:=by rw [hw1];exact aX _ _
 have hbW:Below W.heap.size W w1:=hb0.trans (hb1.mono hb0.size)
 have hA:At w1 (W.heap.size+1) [.int .i64 5, .slice pa p.length pc, .slice ta d.length tc, .int .i64 pos,v4,v5,v6,v7,v8,v9,v10,v11,v12,v13,v14,v15,v16,v17,v18,v19,v20] 55:=hA0.kept hb1
 have hU:At w1 w0.heap.size [.func (.func 128) #[] #[.pointer (some ⟨W.heap.size+1,0,none⟩)]] 176:=by rw [hw1];exact At.fresh w0 _ _
 have hp1:=hp.keep hbW hbW.size
 have HS:=a6 (e_o _ _ _ _ 176 w1 rfl rfl (k_t hA rfl (hd.keep hbW hbW.size) (by omega) hnd) (⟨_,_,rfl,m_5,fun w' hb=>n_f p d 5 pos (W.heap.size+1) w0.heap.size pa ta pc tc v4 v5 v6 v7 v8 v9 v10 v11 v12 v13 v14 v15 v16 v17 v18 v19 v20 _ w' (.inr (.inr (.inr rfl))) (hA.kept hb) (hU.kept hb) (hp1.keep hb hb.size) ((hd.keep hbW hbW.size).keep hb hb.size) hpl hdl hne⟩:IQ w1 (lY 5 p d pos p.dropLast) (.func (.func 139) #[] #[.pointer (some ⟨w0.heap.size,0,none⟩), .pointer (some ⟨W.heap.size+1,0,none⟩)])))
 rw [show (some d.dropLast).toList ++ (lY 5 p d pos p.dropLast).toList=d.dropLast::(lY 5 p d pos p.dropLast).toList from rfl]at HS
 clear hd hnd
 generalize d.dropLast::(lY 5 p d pos p.dropLast).toList=R at HS⊢
 have c0:=hA.cell 0 rfl;have cl:=hA.lt
 have u0:=hU.cell 0 rfl;have ul:=hU.lt
 have Hw0:=a6 hw0;have Hw1:=a6 hw1;have HbW:=a6 hbW
 have hmf:∀ (fn:Fn) (first cap:Array Value) (w:World),(Instr.makeFunc fn first cap).run Tryz.prog w= .ok (.func fn first cap) w:=fun _ _ _ _=>rfl
 have hst:=fun(W:World) (a:Addr) (fn:Fn) (first cap:Array Value) (m:Mode)=>run_store Tryz.prog W a (.func fn first cap) m rfl
 clear hw0 hw1 hb0 hb1 hbW hA0 hA hU hp hp1 hne
 go_enter Tryz.func68,Tryz.ntmps68
 go_upto_region 1 with fail
 rw [<- Hw0.o]
 clear Hw0
 go_upto_region 5 with fail
 rw [<- Hw1.o]
 clear Hw1
 go_wp2_with fail
 refine HS.o.mono ?_
 rintro e w2 ⟨v,xs,rfl,hx,hpx,hbel⟩
 obtain⟨va,vc,hv⟩:=hx.form
 subst hv
 have Hx:=a6 hx;have Hp:=a6 hpx;have Hb2:=a6 (HbW.o.trans (hbel.mono HbW.o.size));have Hs:=a6 HbW.o.size
 clear hx hpx hbel HS c0 cl u0 ul
 go_wp2_with fail
 go_ret
 exact⟨_,xs,rfl,Hx.o.from Hs.o Hs.o,Hp.o,Hb2.o⟩
theorem n_R (p x:List Int) (N:Nat) (pa xa:Option Addr) (pc xc:Nat) (cs:List Value) (W:World) (hN:At W N cs 55) (hc:cs[1]? =some (.slice pa p.length pc)) (hp:RowA W W.heap.size 1 pa p.length pc (p.map (Value.int .i64))) (hx:RowA W W.heap.size 1 xa x.length xc (x.map (Value.int .i64))):
 Calls Tryz.prog 135 #[.slice xa x.length xc, .pointer (some ⟨N,0,none⟩)] W fun e w'=>e= .returned (.bool (!jK p x))/\Below W.heap.size W w':=by
 have HC:=a6 (h_C p x pa xa pc xc W.heap.size W hp hx)
 have c1:=hN.cell 1 hc;have cl:=hN.lt
 clear hN hp hx
 generalize jK p x=z at HC⊢
 go_enter Tryz.func135,Tryz.ntmps135
 go_wp2_with fail
 refine HC.o.mono ?_
 rintro e w1 ⟨rfl,hdr⟩
 have Hb:=a6 (hdr.below (w':=w1) W.heap.size)
 clear hdr HC c1 cl
 go_wp2_with fail
 go_ret
 exact⟨b7 (by simp),Hb.o⟩
theorem k_I (kd pos:Int) (p d:List Int) (n0 n1 n2 n3:Value) (pa ta:Option Addr) (pc tc:Nat) (v4 v5 v6 v7 v8 v9 v10 v11 v12 v13 v14 v15 v16 v17 v18 v19 v20:Value) (W:World) (hkd:kd=1) (hp:RowA W W.heap.size 1 pa p.length pc (p.map (Value.int .i64))) (hpl:p.length <= 400000) (hne:p≠ []) (n:aK) (hnw:n.wt <= 1000000) (hn:bY W W.heap.size n (.agg #[n0,n1,n2,n3])):
 Calls Tryz.prog 68 #[.agg #[n0,n1,n2,n3], .agg #[.int .i64 kd, .slice pa p.length pc, .slice ta d.length tc, .int .i64 pos,v4,v5,v6,v7,v8,v9,v10,v11,v12,v13,v14,v15,v16,v17,v18,v19,v20]] W (LK W ((L8 n).filter (jK p) ++ [p.dropLast,p])):=by
 subst hkd
 obtain⟨w0,hw0⟩:∃w0,w0=(W.alloc (Obj.cells #[n0,n1,n2,n3] 35)).alloc (Obj.cells #[.int .i64 1, .slice pa p.length pc, .slice ta d.length tc, .int .i64 pos,v4,v5,v6,v7,v8,v9,v10,v11,v12,v13,v14,v15,v16,v17,v18,v19,v20] 55):=⟨_,rfl⟩
 have hb0:Below W.heap.size W w0:=by rw [hw0];exact i8 _ _ _
 have hA0:At w0 (W.heap.size+1) [.int .i64 1, .slice pa p.length pc, .slice ta d.length tc, .int .i64 pos,v4,v5,v6,v7,v8,v9,v10,v11,v12,v13,v14,v15,v16,v17,v18,v19,v20] 55:=by rw [hw0];exact At.second W _ _ _
 obtain⟨w1,hw1⟩:∃w1,w1=w0.alloc (Obj.cells #[.func (.func 128) #[] #[.pointer (some ⟨W.heap.size+1,0,none⟩)]] 176):=⟨_,rfl⟩
 have hb1:Below w0.heap.size w0 w1:=by rw [hw1];exact aX _ _
 have hbW:Below W.heap.size W w1:=hb0.trans (hb1.mono hb0.size)
 have hA:At w1 (W.heap.size+1) [.int .i64 1, .slice pa p.length pc, .slice ta d.length tc, .int .i64 pos,v4,v5,v6,v7,v8,v9,v10,v11,v12,v13,v14,v15,v16,v17,v18,v19,v20] 55:=hA0.kept hb1
 have hU:At w1 w0.heap.size [.func (.func 128) #[] #[.pointer (some ⟨W.heap.size+1,0,none⟩)]] 176:=by rw [hw1];exact At.fresh w0 _ _
 have hp1:=hp.keep hbW hbW.size
 have hN1:At w1 W.heap.size [n0,n1,n2,n3] 35:=by
  have h:At w0 W.heap.size [n0,n1,n2,n3] 35:=by rw [hw0];exact(At.fresh W _ _).alloc _
  exact h.kept hb1
 have HP:=a6 (n_6 n _ w1 (by omega) (hn.keep hbW hbW.size))
 have HF:=a6 (fun(w2:World) (hb:Below w1.heap.size w1 w2) (M L:Nat) (v:Value) (xs:List PX) (hM:w1.heap.size <= M) (hx:jJ w2 M L v xs) (hxl:xs.length <= 100000000)=>j_v 135 #[.pointer (some ⟨W.heap.size+1,0,none⟩)] (fun x=> !jK p x.1) M L v xs w2 m_3 hx hxl fun x hx' W' hg=>by
  obtain⟨x0,xa,xc⟩:=x
  have hb':Below w1.heap.size w1 W':=hb.trans (hg.old hb.size fun k hk=>aJ hM (hx.ge k hk))
  exact n_R p x0 (W.heap.size+1) pa xa pc xc _ W' (hA.kept hb') rfl (hp1.keep hb' hb'.size) (PxQ.own (hx.all _ hx') hg).row)
 have HS:=a6 (fun(w3:World) (hb:Below w1.heap.size w1 w3)=>e_o _ _ _ _ 176 w3 rfl rfl ((c_x hA rfl hp1 (by omega) hne).keep hb) ((e_n hA rfl hp1 (by omega)).keep hb))
 have hpl3:=C8 (fun _=>true) n []
 have HLl:=a6 (show (L8 n).length <= 1000000 from aJ hpl3 hnw)
 have HU:=a6 hU
 obtain⟨⟨y0,y1,y2,y3⟩, -,yl⟩:=hN1.f4
 clear hN1 hn hpl3
 generalize L8 n=A at HP HLl⊢
 have c0:=hA.cell 0 rfl;have cl:=hA.lt
 have u0:=hU.cell 0 rfl;have ul:=hU.lt
 have Hw0:=a6 hw0;have Hw1:=a6 hw1;have HbW:=a6 hbW
 have hmf:∀ (fn:Fn) (first cap:Array Value) (w:World),(Instr.makeFunc fn first cap).run Tryz.prog w= .ok (.func fn first cap) w:=fun _ _ _ _=>rfl
 have hst:=fun(W:World) (a:Addr) (fn:Fn) (first cap:Array Value) (m:Mode)=>run_store Tryz.prog W a (.func fn first cap) m rfl
 clear hw0 hw1 hb0 hb1 hbW hA0 hA hU hp hp1 hne
 go_enter Tryz.func68,Tryz.ntmps68
 go_upto_region 1 with fail
 rw [<- Hw0.o]
 clear Hw0
 go_upto_region 5 with fail
 rw [<- Hw1.o]
 clear Hw1
 go_wp2_with fail
 refine HP.o.mono ?_
 rintro e w2 ⟨v,xs,rfl,hx,hpx,hbel⟩
 have hxl:xs.length <= 1000000:=by have h:=HLl.o;rw [<- hpx]at h;simpa using h
 have HF2:=a6 (HF.o w2 hbel w1.heap.size w1.heap.size v xs (a8) hx (by omega))
 obtain⟨va,vc,hv⟩:=hx.form
 subst hv
 have Hb2:=a6 hbel;have Hp:=a6 hpx
 have Hge:=a6 hx.ge
 clear hx hpx hbel HP HF y0 y1 y2 y3 yl c0 cl u0 ul
 go_wp2_with fail
 refine HF2.o.mono ?_
 rintro e w3 ⟨v',rfl,hz,hk,hg⟩
 have Hb3:=a6 (Hb2.o.trans (hg.old Hb2.o.size Hge.o))
 have Hz:=a6 hz
 obtain⟨za,zc,hv'⟩:=hz.form
 subst hv'
 have u1:=(HU.o.kept Hb3.o).cell 0 rfl;have ul1:=(HU.o.kept Hb3.o).lt
 have HS3:=a6 (HS.o w3 Hb3.o)
 have Hfl:=a6 (show (xs.filter fun x=> !!jK p x.1).length <= xs.length from List.length_filter_le _ _)
 have Hpf:=a6 (show C5 (xs.filter fun x=> !!jK p x.1)=A.filter (jK p)by rw [c_6,Hp.o])
 generalize (xs.filter fun x=> !!jK p x.1)=zs at Hz Hfl Hpf
 clear hz hk hg HF2 HS
 go_wp2_with fail
 refine HS3.o.mono ?_
 rintro e w4 ⟨v4,ys,rfl,hy,hpy,hbel⟩
 have hyl:ys.length=2:=by have h:=congrArg List.length hpy;simpa using h
 obtain⟨ya,yc,hv4⟩:=hy.form
 subst hv4
 obtain⟨ad,rfl⟩:∃ad,ya=some ad:=by
  rcases hy.open with⟨-,h0⟩ | ⟨b,cap,tl,h, -⟩
  . subst h0;simp at hyl
  . injection h with h1 _ _;exact⟨_,h1⟩
 have Hb4:=a6 (b5 Hb3.o hbel)
 have Hz4:=a6 (Hz.o.below hbel)
 have Hs3:=a6 Hb3.o.size
 have Hy:=a6 (hy.from (M':=w1.heap.size) (L':=w1.heap.size) Hs3.o Hs3.o)
 have Hne:=a6 (show ∀y∈ys,PxQ w4 (fun b=>w1.heap.size <= b/\(Value.slice za zs.length zc).ownBlock≠some b) y from fun y hy'=>A8 (hy.all y hy') fun b hb=>⟨aJ Hs3.o hb.1,fun e=>by have:=(Hz.o.own.lt b e).2;omega⟩)
 have Hpy:=a6 hpy
 have Hbs4:=a6 Hb4.o.size
 have hyl2:ys.length <= 2:=by omega
 clear hy hpy hbel HS3 u1 ul1 hyl
 go_wp2_with (at_builtin;refine f_B rfl _ _ rfl Tryz.underlying47 a_j w1.heap.size w1.heap.size (Value.slice za zs.length zc) zs rfl ?hO w1.heap.size ys ad yc rfl ?hr ?hne ?hn ?hM ?_)
 case hO=>exact Hz4.o
 case hr=>exact Hy.o
 case hne=>exact Hne.o
 case hn=>have:=Hfl.o;omega
 case hM=>exact Hbs4.o
 intro v' w5 hx5 hb5
 obtain⟨va5,vc5,hv5⟩:=hx5.form
 subst hv5
 have Hx5:=a6 hx5;have Hb5:=a6 (HbW.o.trans ((Hb4.o.trans hb5).mono HbW.o.size));have HsW:=a6 HbW.o.size
 clear hx5 hb5 Hy Hne Hz4
 go_wp2_with fail
 go_ret
 exact⟨_,zs ++ ys,rfl,Hx5.o.from HsW.o HsW.o,by rw [o7,Hpf.o,Hpy.o];rfl,Hb5.o⟩
theorem m_c (n nd:aK) (kd pos:Int) (p d:List Int) (ol:List eK) (v:Value) (pa ta:Option Addr) (pc tc:Nat) (v4 v5 v6 v7 v8 v9 v10 v11 v12 v13 v14 v15 v16 v17 v18 v19 v20:Value) (W:World) (hk:E3 kd) (hnw:n.wt <= 1000000) (hn:bY W W.heap.size n v) (hp:RowA W W.heap.size 1 pa p.length pc (p.map (Value.int .i64))) (hpl:p.length <= 400000) (hne:p≠ []) (hpw:∀z∈p, -9223372036854775807 <= z/\z <= 9223372036854775807)
 (hd:RowA W W.heap.size 1 ta d.length tc (d.map (Value.int .i64))) (hdl:d.length <= 400000) (hnd:kd=5 ->d≠ []):
 Calls Tryz.prog 68 #[v, .agg #[.int .i64 kd, .slice pa p.length pc, .slice ta d.length tc, .int .i64 pos,v4,v5,v6,v7,v8,v9,v10,v11,v12,v13,v14,v15,v16,v17,v18,v19,v20]] W (LK W (q9 n (j7.full ⟨kd,p,d,pos,nd,ol⟩))):=by
 have hn0:=hn
 obtain⟨lf,ps,t,ks⟩:=n
 obtain⟨ap,cp,at_,ct,ak,ck,css,rfl, -, -, -, -⟩:=hn0.open
 generalize aK.mk lf ps t ks=n at hn hnw⊢
 rcases hk with rfl | rfl | rfl | rfl
 . rw [a_6 rfl]
   exact k_I 1 pos p d _ _ _ _ pa ta pc tc v4 v5 v6 v7 v8 v9 v10 v11 v12 v13 v14 v15 v16 v17 v18 v19 v20 W rfl hp hpl hne n hnw hn
 . rw [a_7 rfl]
   exact k_F 2 pos p d _ _ _ _ pa ta pc tc v4 v5 v6 v7 v8 v9 v10 v11 v12 v13 v14 v15 v16 v17 v18 v19 v20 W rfl hp hpl hne
 . rw [I6 rfl]
   exact k_G 3 pos p d _ _ _ _ pa ta pc tc v4 v5 v6 v7 v8 v9 v10 v11 v12 v13 v14 v15 v16 v17 v18 v19 v20 W rfl hp hpl hne hpw
 . rw [E7 rfl]
   exact k_H 5 pos p d _ _ _ _ pa ta pc tc v4 v5 v6 v7 v8 v9 v10 v11 v12 v13 v14 v15 v16 v17 v18 v19 v20 W rfl hp hpl hne hd hdl (hnd rfl)
theorem n_i (n nd:aK) (kd pos:Int) (p d:List Int) (ol:List eK) (v:Value) (pa ta:Option Addr) (pc tc:Nat) (v4 v5 v6 v7 v8 v9 v10 v11 v12 v13 v14 v15 v16 v17 v18 v19 v20:Value) (vx:Value) (xs:List PX) (W:World) (hk:E3 kd) (hbig:n.wt <= 1000000) (hv:bY W W.heap.size n v) (hp:RowA W W.heap.size 1 pa p.length pc (p.map (Value.int .i64))) (hpl:p.length <= 400000) (hne:p≠ []) (hpw:∀z∈p, -9223372036854775807 <= z/\z <= 9223372036854775807)
 (hd:RowA W W.heap.size 1 ta d.length tc (d.map (Value.int .i64))) (hdl:d.length <= 400000) (hnd:kd=5 ->d≠ []) (hx:b_q W W.heap.size vx xs) (hn:xs.length <= 1000000) (hnp:∀x∈xs,x.1.length <= 400000):
 Calls Tryz.prog 15 #[v,vx, .agg #[.int .i64 kd, .slice pa p.length pc, .slice ta d.length tc, .int .i64 pos,v4,v5,v6,v7,v8,v9,v10,v11,v12,v13,v14,v15,v16,v17,v18,v19,v20]] W (LK W (E6 n (C5 xs) (j7.full ⟨kd,p,d,pos,nd,ol⟩))):=by
 have hml:(q9 n (j7.full ⟨kd,p,d,pos,nd,ol⟩)).length <= 1000002:=by
  have hpl3:(L8 n).length <= n.wt:=C8 (fun _=>true) n []
  rcases hk with rfl | rfl | rfl | rfl
  . rw [a_6 rfl,List.length_append]
    have:((L8 n).filter (jK (j7.full ⟨1,p,d,pos,nd,ol⟩).path)).length <= (L8 n).length:=List.length_filter_le _ _
    generalize ((L8 n).filter (jK (j7.full ⟨1,p,d,pos,nd,ol⟩).path)).length=z at this⊢
    simp only [List.length_cons,List.length_nil]
    omega
  . rw [a_7 rfl];simp
  . rw [I6 rfl];split <;> simp
  . rw [E7 rfl]
    cases kY (j7.full ⟨5,p,d,pos,nd,ol⟩).path.dropLast (j7.full ⟨5,p,d,pos,nd,ol⟩) <;> simp
 have hv0:=hv
 obtain⟨lf,ps,t,ks⟩:=n
 obtain⟨ap,cp,at_,ct,ak,ck,css,rfl, -, -, -, -⟩:=hv0.open
 generalize aK.mk lf ps t ks=n at hv hbig hml⊢
 have hmc:=fun(w1:World) (hb:Below W.heap.size W w1)=>m_c n nd kd pos p d ol _ pa ta pc tc v4 v5 v6 v7 v8 v9 v10 v11 v12 v13 v14 v15 v16 v17 v18 v19 v20 w1 hk hbig (hv.keep hb hb.size) (hp.keep hb hb.size) hpl hne hpw (hd.keep hb hb.size) hdl hnd
 obtain⟨F,hF⟩:∃F:List Int ->Option (List Int),F=fun q=>lY kd p d pos q:=⟨_,rfl⟩
 have hmv:=fun(w1:World) (hb:Below W.heap.size W w1) (x:PX) (hx':x∈xs)=>(show Calls Tryz.prog 69 #[.slice x.2.1 x.1.length x.2.2, .agg #[.int .i64 kd, .slice pa p.length pc, .slice ta d.length tc, .int .i64 pos,v4,v5,v6,v7,v8,v9,v10,v11,v12,v13,v14,v15,v16,v17,v18,v19,v20]] w1 (e_l w1 (F x.1))by rw [hF];exact h_N x.1 p d kd pos x.2.1 pa ta x.2.2 pc tc v4 v5 v6 v7 v8 v9 v10 v11 v12 v13 v14 v15 v16 v17 v18 v19 v20 w1 hk ((hx.all x hx').keep hb hb.size) (hp.keep hb hb.size) (hd.keep hb hb.size) (hnp x hx') hpl hdl hne)
 unfold E6
 rw [show (fun x=>kY x (j7.full ⟨kd,p,d,pos,nd,ol⟩))=F from by rw [hF];rfl]
 generalize q9 n (j7.full ⟨kd,p,d,pos,nd,ol⟩)=ms at hml hmc⊢
 have HV:=a6 hmv;have HM:=a6 hmc
 clear hp hd hpw hnd hne hnp hF hmv hmc
 obtain⟨w0,hw0⟩:∃w0,w0=(W.alloc (Obj.cells #[.bool lf, .slice ap ps.length cp, .slice at_ t.length ct, .slice ak ks.length ck] 35)).alloc (Obj.cells #[.int .i64 kd, .slice pa p.length pc, .slice ta d.length tc, .int .i64 pos,v4,v5,v6,v7,v8,v9,v10,v11,v12,v13,v14,v15,v16,v17,v18,v19,v20] 55):=⟨_,rfl⟩
 have hb0:Below W.heap.size W w0:=by rw [hw0];exact i8 _ _ _
 have hO:At w0 (W.heap.size+1) [.int .i64 kd, .slice pa p.length pc, .slice ta d.length tc, .int .i64 pos,v4,v5,v6,v7,v8,v9,v10,v11,v12,v13,v14,v15,v16,v17,v18,v19,v20] 55:=by rw [hw0];exact At.second W _ _ _
 have hA:At w0 W.heap.size [.bool lf, .slice ap ps.length cp, .slice at_ t.length ct, .slice ak ks.length ck] 35:=by rw [hw0];exact(At.fresh W _ _).alloc _
 have hld:=fun(w':World) (h:At w' (W.heap.size+1) [.int .i64 kd, .slice pa p.length pc, .slice ta d.length tc, .int .i64 pos,v4,v5,v6,v7,v8,v9,v10,v11,v12,v13,v14,v15,v16,v17,v18,v19,v20] 55)=>ldx (P:=Tryz.prog) h Tryz.underlying55 rfl (by kernel_rfl)
 simp [go_sem]at hld
 obtain⟨a,c,rfl, -⟩:=hx.row
 have HE:=a6 (fun(w1:World) (hb:Below W.heap.size W w1) (u:Value) (ys:List PX) (hy:jJ w1 W.heap.size W.heap.size u ys) (hl:ys.length <= 100000000)=>g_h n _ W.heap.size W.heap.size W.heap.size u ys w1 (by omega) (hv.keep hb (a8)) hb.size (a8) hy hl)
 have HX:=a6 hx
 have HO:=a6 hO;have HA:=a6 hA;have Hb0:=a6 hb0;have Hw0:=a6 hw0
 have HM0:=a6 (HM.o w0 hb0)
 obtain⟨⟨x0,x1,x2,x3⟩, -,xl⟩:=hA.f4
 have hS:=hld w0 hO
 have HLd:=a6 hld
 clear hv hv0 hbig hb0 hO hA hw0 hx HM hld
 go_enter Tryz.func15,Tryz.ntmps15
 go_upto_region 1 with fail
 rw [<- Hw0.o]
 clear Hw0
 go_wp2_with fail
 refine HM0.o.mono ?_
 rintro e w1 ⟨mv,mx,rfl,hmx,hpm,hbel⟩
 have Hb1:=a6 hbel
 have Hs0:=a6 Hb0.o.size
 have Hmx:=a6 hmx;have Hpm:=a6 hpm
 have hmxl:mx.length <= 1000002:=by have h:=congrArg List.length hpm;simp at h;omega
 obtain⟨ma,mc,hmv⟩:=hmx.form
 subst hmv
 clear hbel HM0 x0 x1 x2 x3 xl hS hmx hpm
 go_wp2_with fail
 go_loopg [17,7] xs.length (fun g i o wr=>∃ (k:Nat) (ys:List PX),i= .int .i64 k/\k+g=xs.length/\ys.length <= mx.length+k/\Hid (C5 ys=ms ++ (C5 (xs.take k)).filterMap F)/\Hid (jJ wr w0.heap.size w0.heap.size o ys)/\Hid (Below w0.heap.size w0 wr))
 case atStart=>exact⟨0,mx,rfl,by omega,by omega,(show C5 mx=ms ++ (C5 (xs.take 0)).filterMap F by rw [Hpm.o];simp),Hmx.o,Hb1.o⟩
 case round=>
  obtain⟨k,ys,rfl,hg,hyk,hys,hy,hbr⟩:=hrel
  obtain⟨oa,oc,ho⟩:=hy.o.form
  subst ho
  have Hbw:=a6 (Hb0.o.trans (hbr.o.mono Hs0.o))
  by_cases hlt:k < xs.length
  . have hlti:(k:Int) < xs.length:=by omega
    obtain⟨b,off,rfl,hb,hc⟩:=(HX.o.keep Hbw.o Hbw.o.size).at_ k hlt
    have HV1:=a6 (HV.o wr Hbw.o xs[k] (List.getElem_mem hlt))
    have Hst:=a6 (show xs.take (k+1)=xs.take k ++ [xs[k]]from List.take_succ_eq_append_getElem hlt)
    have hS:=HLd.o wr (HO.o.kept hbr.o)
    generalize xs[k]=x at hc HV1 Hst
    obtain⟨x0,xa,xc⟩:=x
    unfold D5 at hc
    simp only at hc HV1
    obtain⟨R,hR⟩:∃R,R=F x0:=⟨_,rfl⟩
    rw [<- hR]at HV1
    have HR:=a6 hR
    clear hR
    go_wp2_with fail
    refine HV1.o.mono ?_
    rintro e w2 ⟨hbel,hno,hyes⟩
    have Hb2:=a6 (b5 hbr.o hbel)
    have Hy2:=a6 (hy.o.below hbel)
    have Hsr:=a6 hbr.o.size
    clear HV1 hc hS
    cases R with
    | none=>
      obtain rfl:=hno rfl
      clear hno hyes hbel
      go_wp2_with fail
      go_roundg (xs.length - (k+1))
      case measure=>omega
      case rel=>
       refine⟨k+1,ys,by go_num,by omega,by omega, ?_,Hy2,Hb2⟩
       show C5 ys=ms ++ (C5 (xs.take (k+1))).filterMap F
       rw [Hst.o,o7,GQ,List.filterMap_append,List.filterMap_cons_none HR.o.symm,List.filterMap_nil,List.append_nil]
       exact hys.o
    | some zs=>
      obtain⟨mv,rfl,hown⟩:=hyes zs rfl
      obtain⟨va,vc,rfl,hq⟩:=oK hown (by intro u hu;obtain⟨z, -,rfl⟩:=List.mem_map.1 hu;rfl)
      have Hq:=a6 (show PxQ w2 (fun b=>w0.heap.size <= b/\(Value.slice oa ys.length oc).ownBlock≠some b) (zs,va,vc)from A8 hq fun b hb=>⟨aJ Hsr.o hb,fun e=>by have:=(hy.o.own.lt b e).2;omega⟩)
      have Hws:=a6 Hb2.o.size
      clear hno hyes hbel hown hq
      go_wp2_with (at_builtin;refine a_B rfl _ _ rfl Tryz.underlying47 a_j w0.heap.size w0.heap.size (Value.slice oa ys.length oc) ys rfl ?hO (zs,va,vc) rfl rfl ?hq ?hn ?hM ?_)
      case hO=>exact Hy2.o
      case hq=>exact Hq.o
      case hn=>omega
      case hM=>exact Hws.o
      intro v' w3 hy3 hb3
      have Hy3:=a6 hy3;have Hb3:=a6 (Hb2.o.trans hb3)
      clear hy3 hb3 Hq
      go_wp2_with fail
      go_roundg (xs.length - (k+1))
      case measure=>omega
      case rel=>
       refine⟨k+1,ys ++ [(zs,va,vc)],by go_num,by omega,by simp;omega, ?_,Hy3,Hb3⟩
       show C5 (ys ++ [(zs,va,vc)])=ms ++ (C5 (xs.take (k+1))).filterMap F
       rw [Hst.o,o7,o7,GQ,GQ,List.filterMap_append,List.filterMap_cons_some HR.o.symm,List.filterMap_nil, <- List.append_assoc, <- hys.o]
  . obtain rfl:k=xs.length:=by omega
    have Hfin:=a6 (show C5 ys=ms ++ (C5 xs).filterMap F by have:=hys.o;rwa [List.take_length]at this)
    have HE1:=a6 (HE.o wr Hbw.o _ ys (hy.o.from Hs0.o Hs0.o) (by omega))
    obtain⟨⟨y0,y1,y2,y3⟩, -,yl⟩:=(HA.o.kept hbr.o).f4
    have Hge:=a6 (show ∀k,(Value.slice oa ys.length oc).ownBlock=some k ->W.heap.size <= k from fun k hk=>aJ Hs0.o (hy.o.ge k hk))
    clear HE hys HLd
    go_wp2_with fail
    refine HE1.o.mono ?_
    rintro e w2 ⟨v',zs,rfl,hz,hpz, -, -,hgr⟩
    obtain⟨va,vc,hv'⟩:=hz.form
    subst hv'
    have Hz:=a6 hz;have Hp:=a6 hpz;have Hb2:=a6 (Hbw.o.trans (hgr.old Hbw.o.size Hge.o))
    clear hz hpz hgr HE1 y0 y1 y2 y3 yl
    go_wp2_with fail
    go_ret
    exact⟨_,zs,rfl,Hz.o,by rw [Hp.o,Hfin.o],Hb2.o⟩
theorem C0 {P:Program} {ops:Array Oper} {rest:List Oper} {o:Oper} {a:Act} {w:World} {Q:Exit ->Act ->World ->Prop} (hg:o.guard=none) (ty:TypeId) (x:Operand) (ho:o.op= .load ty x)
 (N off:Nat) (cs:List Value) (U:TypeId) (vs:Array Value) (hx:a.eval x= .pointer (some ⟨N,off,none⟩)) (h:At w N cs U) (hds:(cs.drop off).take vs.toList.length=vs.toList) (d:TypeDesc) (hu:P.underlying ty=some d) (hd:d.isRow=true) (hi:(P.info? ty).map (·.size)=some vs.size)
 (hk:wpList P ops Q rest (a.put o.dst (.agg vs)) w):wpList P ops Q (o::rest) a w:=
 wpList_load_mid hg ty x ho N off hx vs.toList d (fun j v hj=>h.cell (off+j) (by
  rw [<- hds,List.getElem?_take]at hj
  split at hj
  . rw [List.getElem?_drop]at hj;exact hj
  . cases hj)) hu hd (by simpa using hi) (by simpa using hk)
theorem m_d (p d:List Int) (kd pos:Int) (nd:aK) (ol:List eK) (pa ta oa:Option Addr) (pc tc oc:Nat) (l0:Bool) (a1 a2 a3:Option Addr) (m1 m2 m3 c1 c2 c3:Nat) (W:World)
 (hbig:nd.wt <= 100000000) (hn:bY W W.heap.size nd (.agg #[.bool l0, .slice a1 m1 c1, .slice a2 m2 c2, .slice a3 m3 c3])) (hne:p≠ [])
 (fs:List UInt8) (hfs:JV b_3 kd (.string ⟨#[]⟩)=(.string ⟨fs.toArray⟩,true)) (hfl:fs.length <= 1000) (hall:∀c∈onB (AQ p d pos nd ol),c∈fs)
 (hp:RowA W W.heap.size 1 pa p.length pc (p.map (Value.int .i64))) (hpl:p.length <= 1000000) (hd:RowA W W.heap.size 1 ta d.length tc (d.map (Value.int .i64))) (hdl:d.length <= 1000000) (ho:RowA W W.heap.size 2 oa ol.length oc (bK ol)) (hol:ol.length <= 100000000)
 (hk:E3 kd) (h3:kd=3 ->0 < iJ p) (h5:kd=5 ->d≠ []) (hpw:∀z∈p, -9223372036854775807 <= z/\z <= 9223372036854775807):
 Calls Tryz.prog 67 #[IK, .agg #[.int .i64 kd, .slice pa p.length pc, .slice ta d.length tc, .int .i64 pos, .bool l0, .slice a1 m1 c1, .slice a2 m2 c2, .slice a3 m3 c3, .slice oa ol.length oc, .slice none 0 0, .slice none 0 0, .bool false, .slice none 0 0, .int .i64 0, .slice none 0 0, .int .i64 0, .bool false, .slice none 0 0, .int .i64 0, .slice none 0 0, .int .i64 0]] W (fun e w'=>e= .returned (.bool true)/\Below W.heap.size W w'):=by
 obtain⟨w0,hw0⟩:∃w0,w0=(W.alloc (Obj.cells #[.bool false, .slice none 0 0, .int .i64 0, .slice none 0 0, .int .i64 0] 53)).alloc (Obj.cells #[.int .i64 kd, .slice pa p.length pc, .slice ta d.length tc, .int .i64 pos, .bool l0, .slice a1 m1 c1, .slice a2 m2 c2, .slice a3 m3 c3, .slice oa ol.length oc, .slice none 0 0, .slice none 0 0, .bool false, .slice none 0 0, .int .i64 0, .slice none 0 0, .int .i64 0, .bool false, .slice none 0 0, .int .i64 0, .slice none 0 0, .int .i64 0] 55):=⟨_,rfl⟩
 have hb0:Below W.heap.size W w0:=by rw [hw0];exact(aX _ _).alloc (by simp) _
 have hs0:w0.heap.size=W.heap.size+2:=by rw [hw0];simp
 have hA:At w0 W.heap.size [.bool false, .slice none 0 0, .int .i64 0, .slice none 0 0, .int .i64 0] 53:=by rw [hw0];exact(At.fresh W _ _).alloc _
 have hB:At w0 (W.heap.size+1) [.int .i64 kd, .slice pa p.length pc, .slice ta d.length tc, .int .i64 pos, .bool l0, .slice a1 m1 c1, .slice a2 m2 c2, .slice a3 m3 c3, .slice oa ol.length oc, .slice none 0 0, .slice none 0 0, .bool false, .slice none 0 0, .int .i64 0, .slice none 0 0, .int .i64 0, .bool false, .slice none 0 0, .int .i64 0, .slice none 0 0, .int .i64 0] 55:=by rw [hw0];exact At.second W _ _ _
 have hnk:bY w0 w0.heap.size nd (.agg #[.bool l0, .slice a1 m1 c1, .slice a2 m2 c2, .slice a3 m3 c3]):=by
  obtain⟨cs,he,hc⟩:=hn
  exact⟨cs,he,dJ.keep hb0 hb0.size _ _ hc⟩
 have hrk:∀ {sz:Nat} {a:Option Addr} {n c:Nat} {cs:List Value} (w':World),Below w0.heap.size w0 w' ->RowA W W.heap.size sz a n c cs ->RowA w' w'.heap.size sz a n c cs:=fun w' hb hr=>hr.keep (hb0.trans (hb.mono hb0.size)) (hb0.trans (hb.mono hb0.size)).size
 have HI:=a6 (n_e p d kd pos nd ol pa ta oa pc tc oc l0 a1 a2 a3 m1 m2 m3 c1 c2 c3 w0 hbig hnk hne fs hfs hfl hall (hrk w0 (a7) hp) hpl (hrk w0 (a7) hd) hdl (hrk w0 (a7) ho) hol hk h3 h5 hpw)
 have HM1:=a6 (fun(w':World) (hb:Below w0.heap.size w0 w')=>f_m p d kd pos pa ta pc tc (.bool l0) (.slice a1 m1 c1) (.slice a2 m2 c2) (.slice a3 m3 c3) (.slice oa ol.length oc) (.slice none 0 0) (.slice none 0 0) (.bool false) (.slice none 0 0) (.int .i64 0) (.slice none 0 0) (.int .i64 0) (.bool false) (.slice none 0 0) (.int .i64 0) (.slice none 0 0) (.int .i64 0) w' (by rcases hk with h | h | h | h <;> omega) (hrk w' hb hp) (hrk w' hb hd) hpl hdl hne)
 have HA:=a6 hA;have HB:=a6 hB;have Hb0:=a6 hb0;have Hs0:=a6 hs0;have Hw0:=a6 hw0
 clear hA hB hb0 hs0 hw0 hn hp hd ho hnk hrk hfs hall h3 h5 hne hpw hk
 go_enter Tryz.func67,Tryz.ntmps67
 go_upto_region 1 with fail
 rw [<- Hw0.o]
 clear Hw0
 go_wp2_with (refine dK rfl _ _ rfl (W.heap.size+1) #[.int .i64 kd, .slice pa p.length pc, .slice ta d.length tc, .int .i64 pos, .bool l0, .slice a1 m1 c1, .slice a2 m2 c2, .slice a3 m3 c3, .slice oa ol.length oc, .slice none 0 0, .slice none 0 0, .bool false, .slice none 0 0, .int .i64 0, .slice none 0 0, .int .i64 0, .bool false, .slice none 0 0, .int .i64 0, .slice none 0 0, .int .i64 0] rfl HB.o _ Tryz.underlying55 rfl (by kernel_rfl) ?_)
 refine HI.o.mono ?_
 rintro e w1 ⟨hbel,kd2,q,r,pos2,qa,qc,ra,rc,v4,v5,v6,v7,v8,v9,v10,v11,v12,v13,v14,v15,v16,v17,v18,v19,v20,rfl,hk2,hqne,hql,hrl,hq,hr,hone⟩
 have Hb1:=a6 hbel
 have Hone:=a6 hone
 have HM2:=a6 (fun(w':World) (hb:Below w1.heap.size w1 w')=>f_m q r kd2 pos2 qa ra qc rc v4 v5 v6 v7 v8 v9 v10 v11 v12 v13 v14 v15 v16 v17 v18 v19 v20 w' hk2 (hq.row.keep hb hb.size) (hr.row.keep hb hb.size) hql hrl hqne)
 clear hbel hone hq hr hk2 hqne hql hrl HI
 go_wp2_with (refine jQ rfl _ _ _ rfl rfl w1.heap.size [.int .i64 0, .slice none 0 0, .slice none 0 0, .int .i64 0, .bool false, .slice none 0 0, .slice none 0 0, .slice none 0 0, .slice none 0 0, .slice none 0 0, .slice none 0 0, .bool false, .slice none 0 0, .int .i64 0, .slice none 0 0, .int .i64 0, .bool false, .slice none 0 0, .int .i64 0, .slice none 0 0, .int .i64 0] #[.int .i64 kd2, .slice qa q.length qc, .slice ra r.length rc, .int .i64 pos2,v4,v5,v6,v7,v8,v9,v10,v11,v12,v13,v14,v15,v16,v17,v18,v19,v20] rfl rfl (At.fresh w1 _ _) rfl Hone.o (by kernel_rfl) ?_)
 intro w2 hC2 hg2
 have hgg:=eV (cZ (aX w1 (Obj.cells #[.int .i64 0, .slice none 0 0, .slice none 0 0, .int .i64 0, .bool false, .slice none 0 0, .slice none 0 0, .slice none 0 0, .slice none 0 0, .slice none 0 0, .slice none 0 0, .bool false, .slice none 0 0, .int .i64 0, .slice none 0 0, .int .i64 0, .bool false, .slice none 0 0, .int .i64 0, .slice none 0 0, .int .i64 0] 55))) hg2
 have Hb12:=a6 (hgg.old (M:=w1.heap.size) (a8) (fun k hk=>by cases hk;exact a8))
 have Hb2:=a6 (b5 Hb1.o Hb12.o)
 have HC2:=a6 hC2
 have HA2:=a6 (HA.o.kept Hb2.o);have HB2:=a6 (HB.o.kept Hb2.o)
 have HN1:=a6 (show ∀w',Below w2.heap.size w2 w' ->Below w0.heap.size w0 w' from fun w' hb=>b5 Hb2.o hb)
 have HN2:=a6 (show ∀w',Below w2.heap.size w2 w' ->Below w1.heap.size w1 w' from fun w' hb=>b5 Hb12.o hb)
 have x1:=HA2.o.cell 1 rfl;have x2:=HA2.o.cell 2 rfl;have x3:=HA2.o.cell 3 rfl;have x4:=HA2.o.cell 4 rfl;have xl:=HA2.o.lt
 have Hs2:=a6 (show W.heap.size+2 <= w2.heap.size by have h1:=Hs0.o;have h2:=Hb2.o.size;omega)
 have Hl2:=a6 (show w1.heap.size < w2.heap.size from hC2.lt)
 clear hC2 hg2 hgg HA HB
 go_wp2_with fail
 obtain⟨w3,hw3⟩:∃w3,w3=w2.alloc (Obj.cells #[.slice none 0 0, .int .i64 0, .slice none 0 0, .int .i64 0] 49):=⟨_,rfl⟩
 have HP3:=a6 (show At w3 w2.heap.size [.slice none 0 0, .int .i64 0, .slice none 0 0, .int .i64 0] 49 by rw [hw3];exact At.fresh _ _ _)
 have Hb3:=a6 (show Below w2.heap.size w2 w3 by rw [hw3];exact aX _ _)
 rw [<- hw3]
 clear hw3 x1 x2 x3 x4 xl
 go_loopg [26,8,10,11,12] 2 (fun g i _ _ _ _ wr=>∃j:Nat,i= .int .i64 j/\j+g=2/\Hid (Below w3.heap.size w3 wr))
 case atStart=>exact⟨0,rfl,rfl,a7⟩
 case round=>
  obtain⟨j,rfl,hg,hbr⟩:=hrel
  have hb2r:=b5 Hb3.o hbr.o
  have HA3:=a6 (HA2.o.kept hb2r);have HB3:=a6 (HB2.o.kept hb2r);have HC3:=a6 (HC2.o.kept hb2r)
  have HPr:=a6 (HP3.o.kept hbr.o)
  have Hb2r:=a6 hb2r
  have HBR:=hbr
  clear hb2r hbr
  have hj:j=2∨j=0∨j=1:=by omega
  rcases hj with rfl | hj
  ·
    have x0:=HA3.o.cell 0 rfl;have xl:=HA3.o.lt
    have HbW:=a6 (Hb0.o.trans ((HN1.o wr Hb2r.o).mono Hb0.o.size))
    go_wp2_with fail
    go_ret
    exact⟨rfl,HbW.o⟩
  . have p0:=HPr.o.cell 0 rfl;have p1:=HPr.o.cell 1 rfl;have p2:=HPr.o.cell 2 rfl;have p3:=HPr.o.cell 3 rfl;have pl:=HPr.o.lt
    rcases hj with rfl | rfl
    ·
      go_wp2_with (first
       | (refine dK rfl _ _ rfl (W.heap.size+1) #[.int .i64 kd, .slice pa p.length pc, .slice ta d.length tc, .int .i64 pos, .bool l0, .slice a1 m1 c1, .slice a2 m2 c2, .slice a3 m3 c3, .slice oa ol.length oc, .slice none 0 0, .slice none 0 0, .bool false, .slice none 0 0, .int .i64 0, .slice none 0 0, .int .i64 0, .bool false, .slice none 0 0, .int .i64 0, .slice none 0 0, .int .i64 0] rfl (HB3.o.alloc _) _ Tryz.underlying55 rfl (by kernel_rfl) ?_)
       | (refine dK rfl _ _ rfl w1.heap.size #[.int .i64 kd2, .slice qa q.length qc, .slice ra r.length rc, .int .i64 pos2,v4,v5,v6,v7,v8,v9,v10,v11,v12,v13,v14,v15,v16,v17,v18,v19,v20] rfl (HC3.o.alloc _) _ Tryz.underlying55 rfl (by kernel_rfl) ?_))
      obtain⟨w4,hw4⟩:∃w4,w4=(wr.alloc (Obj.cells #[Value.slice none 0 0,Value.int .i64 0] 49)).alloc (Obj.cells #[.int .i64 kd, .slice pa p.length pc, .slice ta d.length tc, .int .i64 pos, .bool l0, .slice a1 m1 c1, .slice a2 m2 c2, .slice a3 m3 c3, .slice oa ol.length oc, .slice none 0 0, .slice none 0 0, .bool false, .slice none 0 0, .int .i64 0, .slice none 0 0, .int .i64 0, .bool false, .slice none 0 0, .int .i64 0, .slice none 0 0, .int .i64 0, .int .i64 kd2, .slice qa q.length qc, .slice ra r.length rc, .int .i64 pos2,v4,v5,v6,v7,v8,v9,v10,v11,v12,v13,v14,v15,v16,v17,v18,v19,v20] 55):=⟨_,rfl⟩
      have Hbr4:=a6 (show Below wr.heap.size wr w4 by rw [hw4];exact i8 _ _ _)
      have HP:=a6 (show At w4 wr.heap.size [Value.slice none 0 0,Value.int .i64 0] 49 by rw [hw4];exact(At.fresh _ _ _).alloc _)
      have HO:=a6 (show At w4 (wr.heap.size+1) [.int .i64 kd, .slice pa p.length pc, .slice ta d.length tc, .int .i64 pos, .bool l0, .slice a1 m1 c1, .slice a2 m2 c2, .slice a3 m3 c3, .slice oa ol.length oc, .slice none 0 0, .slice none 0 0, .bool false, .slice none 0 0, .int .i64 0, .slice none 0 0, .int .i64 0, .bool false, .slice none 0 0, .int .i64 0, .slice none 0 0, .int .i64 0, .int .i64 kd2, .slice qa q.length qc, .slice ra r.length rc, .int .i64 pos2,v4,v5,v6,v7,v8,v9,v10,v11,v12,v13,v14,v15,v16,v17,v18,v19,v20] 55 by rw [hw4];exact At.second _ _ _ _)
      rw [<- hw4]
      clear hw4 p0 p1 p2 p3 pl
      generalize hwo:wr=wo at *
      clear hwo
      go_loopg [34,10,11,12] 2 (fun g i _ _ _ wr=>∃k:Nat,i= .int .i64 k/\k+g=2/\Hid (Below w4.heap.size w4 wr))
      case atStart=>exact⟨0,rfl,rfl,a7⟩
      case round=>
       obtain⟨k,rfl,hgk,hbi⟩:=hrel
       have HP4:=a6 (HP.o.kept hbi.o);have HO4:=a6 (HO.o.kept hbi.o)
       have Hbi:=a6 hbi.o
       clear hbi
       have hk:k=2∨k=0∨k=1:=by omega
       rcases hk with rfl | rfl | rfl
       . go_wp2_with fail
         go_roundg 1
         case measure=>omega
         case rel=>exact⟨1,rfl,by omega,(show Below _ _ _ from b5 HBR.o (Hbr4.o.trans (Hbi.o.mono Hbr4.o.size)))⟩
       . go_wp2_with (first
          | (refine C0 rfl _ _ rfl (wo.heap.size+1) 0 [.int .i64 kd, .slice pa p.length pc, .slice ta d.length tc, .int .i64 pos, .bool l0, .slice a1 m1 c1, .slice a2 m2 c2, .slice a3 m3 c3, .slice oa ol.length oc, .slice none 0 0, .slice none 0 0, .bool false, .slice none 0 0, .int .i64 0, .slice none 0 0, .int .i64 0, .bool false, .slice none 0 0, .int .i64 0, .slice none 0 0, .int .i64 0, .int .i64 kd2, .slice qa q.length qc, .slice ra r.length rc, .int .i64 pos2,v4,v5,v6,v7,v8,v9,v10,v11,v12,v13,v14,v15,v16,v17,v18,v19,v20] 55 #[.int .i64 kd, .slice pa p.length pc, .slice ta d.length tc, .int .i64 pos, .bool l0, .slice a1 m1 c1, .slice a2 m2 c2, .slice a3 m3 c3, .slice oa ol.length oc, .slice none 0 0, .slice none 0 0, .bool false, .slice none 0 0, .int .i64 0, .slice none 0 0, .int .i64 0, .bool false, .slice none 0 0, .int .i64 0, .slice none 0 0, .int .i64 0] rfl HO4.o rfl _ Tryz.underlying55 rfl (by kernel_rfl) ?_)
          | (refine jQ rfl _ _ _ rfl rfl wr.heap.size [.int .i64 0, .slice none 0 0, .slice none 0 0, .int .i64 0, .bool false, .slice none 0 0, .slice none 0 0, .slice none 0 0, .slice none 0 0, .slice none 0 0, .slice none 0 0, .bool false, .slice none 0 0, .int .i64 0, .slice none 0 0, .int .i64 0, .bool false, .slice none 0 0, .int .i64 0, .slice none 0 0, .int .i64 0] #[.int .i64 kd, .slice pa p.length pc, .slice ta d.length tc, .int .i64 pos, .bool l0, .slice a1 m1 c1, .slice a2 m2 c2, .slice a3 m3 c3, .slice oa ol.length oc, .slice none 0 0, .slice none 0 0, .bool false, .slice none 0 0, .int .i64 0, .slice none 0 0, .int .i64 0, .bool false, .slice none 0 0, .int .i64 0, .slice none 0 0, .int .i64 0] rfl rfl (At.fresh wr _ _) rfl rfl (by kernel_rfl) ?_))
         intro w5 h5 g5
         have hgg:=eV (cZ (aX wr (Obj.cells #[.int .i64 0, .slice none 0 0, .slice none 0 0, .int .i64 0, .bool false, .slice none 0 0, .slice none 0 0, .slice none 0 0, .slice none 0 0, .slice none 0 0, .slice none 0 0, .bool false, .slice none 0 0, .int .i64 0, .slice none 0 0, .int .i64 0, .bool false, .slice none 0 0, .int .i64 0, .slice none 0 0, .int .i64 0] 55))) g5
         have Hb5:=a6 (hgg.old (M:=wr.heap.size) (a8) (fun k hk=>by cases hk;exact a8))
         have H5:=a6 h5
         have p5:=(HP4.o.kept Hb5.o).cell 0 rfl;have p6:=(HP4.o.kept Hb5.o).cell 1 rfl;have p7:=(HP4.o.kept Hb5.o).lt
         have Hb45:=a6 (b5 Hbi.o Hb5.o)
         have HMc:=a6 (HM1.o w5 (HN1.o w5 (b5 Hb2r.o (Hbr4.o.trans (Hb45.o.mono Hbr4.o.size)))))
         clear h5 g5 hgg
         go_wp2_with (refine dK rfl _ _ rfl wr.heap.size #[.int .i64 kd, .slice pa p.length pc, .slice ta d.length tc, .int .i64 pos, .bool l0, .slice a1 m1 c1, .slice a2 m2 c2, .slice a3 m3 c3, .slice oa ol.length oc, .slice none 0 0, .slice none 0 0, .bool false, .slice none 0 0, .int .i64 0, .slice none 0 0, .int .i64 0, .bool false, .slice none 0 0, .int .i64 0, .slice none 0 0, .int .i64 0] rfl H5.o _ Tryz.underlying55 rfl (by kernel_rfl) ?_)
         refine HMc.o.mono ?_
         rintro e w6 ⟨hbel,va,vc,vi,vb,rfl⟩
         have Hb46:=a6 (b5 Hb45.o hbel)
         have x0:=(HA3.o.kept (b5 Hbr4.o Hb46.o)).cell 0 rfl
         have xl:=(HA3.o.kept (b5 Hbr4.o Hb46.o)).lt
         clear hbel HMc p5 p6 p7
         go_wp2_with fail
         go_roundg 1
         case measure=>omega
         case rel=>exact⟨1,rfl,by omega,Hb46.o.trans ((aX w6 _).mono Hb46.o.size)⟩
       . go_wp2_with (first
          | (refine C0 rfl _ _ rfl (wo.heap.size+1) 21 [.int .i64 kd, .slice pa p.length pc, .slice ta d.length tc, .int .i64 pos, .bool l0, .slice a1 m1 c1, .slice a2 m2 c2, .slice a3 m3 c3, .slice oa ol.length oc, .slice none 0 0, .slice none 0 0, .bool false, .slice none 0 0, .int .i64 0, .slice none 0 0, .int .i64 0, .bool false, .slice none 0 0, .int .i64 0, .slice none 0 0, .int .i64 0, .int .i64 kd2, .slice qa q.length qc, .slice ra r.length rc, .int .i64 pos2,v4,v5,v6,v7,v8,v9,v10,v11,v12,v13,v14,v15,v16,v17,v18,v19,v20] 55 #[.int .i64 kd2, .slice qa q.length qc, .slice ra r.length rc, .int .i64 pos2,v4,v5,v6,v7,v8,v9,v10,v11,v12,v13,v14,v15,v16,v17,v18,v19,v20] rfl HO4.o rfl _ Tryz.underlying55 rfl (by kernel_rfl) ?_)
          | (refine jQ rfl _ _ _ rfl rfl wr.heap.size [.int .i64 0, .slice none 0 0, .slice none 0 0, .int .i64 0, .bool false, .slice none 0 0, .slice none 0 0, .slice none 0 0, .slice none 0 0, .slice none 0 0, .slice none 0 0, .bool false, .slice none 0 0, .int .i64 0, .slice none 0 0, .int .i64 0, .bool false, .slice none 0 0, .int .i64 0, .slice none 0 0, .int .i64 0] #[.int .i64 kd2, .slice qa q.length qc, .slice ra r.length rc, .int .i64 pos2,v4,v5,v6,v7,v8,v9,v10,v11,v12,v13,v14,v15,v16,v17,v18,v19,v20] rfl rfl (At.fresh wr _ _) rfl Hone.o (by kernel_rfl) ?_))
         intro w5 h5 g5
         have hgg:=eV (cZ (aX wr (Obj.cells #[.int .i64 0, .slice none 0 0, .slice none 0 0, .int .i64 0, .bool false, .slice none 0 0, .slice none 0 0, .slice none 0 0, .slice none 0 0, .slice none 0 0, .slice none 0 0, .bool false, .slice none 0 0, .int .i64 0, .slice none 0 0, .int .i64 0, .bool false, .slice none 0 0, .int .i64 0, .slice none 0 0, .int .i64 0] 55))) g5
         have Hb5:=a6 (hgg.old (M:=wr.heap.size) (a8) (fun k hk=>by cases hk;exact a8))
         have H5:=a6 h5
         have p5:=(HP4.o.kept Hb5.o).cell 0 rfl;have p6:=(HP4.o.kept Hb5.o).cell 1 rfl;have p7:=(HP4.o.kept Hb5.o).lt
         have Hb45:=a6 (b5 Hbi.o Hb5.o)
         have HMc:=a6 (HM2.o w5 (HN2.o w5 (b5 Hb2r.o (Hbr4.o.trans (Hb45.o.mono Hbr4.o.size)))))
         clear h5 g5 hgg
         go_wp2_with (refine dK rfl _ _ rfl wr.heap.size #[.int .i64 kd2, .slice qa q.length qc, .slice ra r.length rc, .int .i64 pos2,v4,v5,v6,v7,v8,v9,v10,v11,v12,v13,v14,v15,v16,v17,v18,v19,v20] rfl H5.o _ Tryz.underlying55 rfl (by kernel_rfl) ?_)
         refine HMc.o.mono ?_
         rintro e w6 ⟨hbel,va,vc,vi,vb,rfl⟩
         have Hb46:=a6 (b5 Hb45.o hbel)
         have x0:=(HA3.o.kept (b5 Hbr4.o Hb46.o)).cell 0 rfl
         have xl:=(HA3.o.kept (b5 Hbr4.o Hb46.o)).lt
         clear hbel HMc p5 p6 p7
         go_wp2_with fail
         go_roundg 0
         case measure=>omega
         case rel=>exact⟨2,rfl,by omega,Hb46.o.trans ((aX w6 _).mono Hb46.o.size)⟩
    ·
      go_wp2_with (first
       | (refine dK rfl _ _ rfl (W.heap.size+1) #[.int .i64 kd, .slice pa p.length pc, .slice ta d.length tc, .int .i64 pos, .bool l0, .slice a1 m1 c1, .slice a2 m2 c2, .slice a3 m3 c3, .slice oa ol.length oc, .slice none 0 0, .slice none 0 0, .bool false, .slice none 0 0, .int .i64 0, .slice none 0 0, .int .i64 0, .bool false, .slice none 0 0, .int .i64 0, .slice none 0 0, .int .i64 0] rfl (HB3.o.alloc _) _ Tryz.underlying55 rfl (by kernel_rfl) ?_)
       | (refine dK rfl _ _ rfl w1.heap.size #[.int .i64 kd2, .slice qa q.length qc, .slice ra r.length rc, .int .i64 pos2,v4,v5,v6,v7,v8,v9,v10,v11,v12,v13,v14,v15,v16,v17,v18,v19,v20] rfl (HC3.o.alloc _) _ Tryz.underlying55 rfl (by kernel_rfl) ?_))
      obtain⟨w4,hw4⟩:∃w4,w4=(wr.alloc (Obj.cells #[Value.slice none 0 0,Value.int .i64 0] 49)).alloc (Obj.cells #[.int .i64 kd, .slice pa p.length pc, .slice ta d.length tc, .int .i64 pos, .bool l0, .slice a1 m1 c1, .slice a2 m2 c2, .slice a3 m3 c3, .slice oa ol.length oc, .slice none 0 0, .slice none 0 0, .bool false, .slice none 0 0, .int .i64 0, .slice none 0 0, .int .i64 0, .bool false, .slice none 0 0, .int .i64 0, .slice none 0 0, .int .i64 0, .int .i64 kd2, .slice qa q.length qc, .slice ra r.length rc, .int .i64 pos2,v4,v5,v6,v7,v8,v9,v10,v11,v12,v13,v14,v15,v16,v17,v18,v19,v20] 55):=⟨_,rfl⟩
      have Hbr4:=a6 (show Below wr.heap.size wr w4 by rw [hw4];exact i8 _ _ _)
      have HP:=a6 (show At w4 wr.heap.size [Value.slice none 0 0,Value.int .i64 0] 49 by rw [hw4];exact(At.fresh _ _ _).alloc _)
      have HO:=a6 (show At w4 (wr.heap.size+1) [.int .i64 kd, .slice pa p.length pc, .slice ta d.length tc, .int .i64 pos, .bool l0, .slice a1 m1 c1, .slice a2 m2 c2, .slice a3 m3 c3, .slice oa ol.length oc, .slice none 0 0, .slice none 0 0, .bool false, .slice none 0 0, .int .i64 0, .slice none 0 0, .int .i64 0, .bool false, .slice none 0 0, .int .i64 0, .slice none 0 0, .int .i64 0, .int .i64 kd2, .slice qa q.length qc, .slice ra r.length rc, .int .i64 pos2,v4,v5,v6,v7,v8,v9,v10,v11,v12,v13,v14,v15,v16,v17,v18,v19,v20] 55 by rw [hw4];exact At.second _ _ _ _)
      rw [<- hw4]
      clear hw4 p0 p1 p2 p3 pl
      generalize hwo:wr=wo at *
      clear hwo
      go_loopg [34,10,11,12] 2 (fun g i _ _ _ wr=>∃k:Nat,i= .int .i64 k/\k+g=2/\Hid (Below w4.heap.size w4 wr))
      case atStart=>exact⟨0,rfl,rfl,a7⟩
      case round=>
       obtain⟨k,rfl,hgk,hbi⟩:=hrel
       have HP4:=a6 (HP.o.kept hbi.o);have HO4:=a6 (HO.o.kept hbi.o)
       have Hbi:=a6 hbi.o
       clear hbi
       have hk:k=2∨k=0∨k=1:=by omega
       rcases hk with rfl | rfl | rfl
       . go_wp2_with fail
         go_roundg 0
         case measure=>omega
         case rel=>exact⟨2,rfl,by omega,(show Below _ _ _ from b5 HBR.o (Hbr4.o.trans (Hbi.o.mono Hbr4.o.size)))⟩
       . go_wp2_with (first
          | (refine C0 rfl _ _ rfl (wo.heap.size+1) 0 [.int .i64 kd, .slice pa p.length pc, .slice ta d.length tc, .int .i64 pos, .bool l0, .slice a1 m1 c1, .slice a2 m2 c2, .slice a3 m3 c3, .slice oa ol.length oc, .slice none 0 0, .slice none 0 0, .bool false, .slice none 0 0, .int .i64 0, .slice none 0 0, .int .i64 0, .bool false, .slice none 0 0, .int .i64 0, .slice none 0 0, .int .i64 0, .int .i64 kd2, .slice qa q.length qc, .slice ra r.length rc, .int .i64 pos2,v4,v5,v6,v7,v8,v9,v10,v11,v12,v13,v14,v15,v16,v17,v18,v19,v20] 55 #[.int .i64 kd, .slice pa p.length pc, .slice ta d.length tc, .int .i64 pos, .bool l0, .slice a1 m1 c1, .slice a2 m2 c2, .slice a3 m3 c3, .slice oa ol.length oc, .slice none 0 0, .slice none 0 0, .bool false, .slice none 0 0, .int .i64 0, .slice none 0 0, .int .i64 0, .bool false, .slice none 0 0, .int .i64 0, .slice none 0 0, .int .i64 0] rfl HO4.o rfl _ Tryz.underlying55 rfl (by kernel_rfl) ?_)
          | (refine jQ rfl _ _ _ rfl rfl wr.heap.size [.int .i64 0, .slice none 0 0, .slice none 0 0, .int .i64 0, .bool false, .slice none 0 0, .slice none 0 0, .slice none 0 0, .slice none 0 0, .slice none 0 0, .slice none 0 0, .bool false, .slice none 0 0, .int .i64 0, .slice none 0 0, .int .i64 0, .bool false, .slice none 0 0, .int .i64 0, .slice none 0 0, .int .i64 0] #[.int .i64 kd, .slice pa p.length pc, .slice ta d.length tc, .int .i64 pos, .bool l0, .slice a1 m1 c1, .slice a2 m2 c2, .slice a3 m3 c3, .slice oa ol.length oc, .slice none 0 0, .slice none 0 0, .bool false, .slice none 0 0, .int .i64 0, .slice none 0 0, .int .i64 0, .bool false, .slice none 0 0, .int .i64 0, .slice none 0 0, .int .i64 0] rfl rfl (At.fresh wr _ _) rfl rfl (by kernel_rfl) ?_))
         intro w5 h5 g5
         have hgg:=eV (cZ (aX wr (Obj.cells #[.int .i64 0, .slice none 0 0, .slice none 0 0, .int .i64 0, .bool false, .slice none 0 0, .slice none 0 0, .slice none 0 0, .slice none 0 0, .slice none 0 0, .slice none 0 0, .bool false, .slice none 0 0, .int .i64 0, .slice none 0 0, .int .i64 0, .bool false, .slice none 0 0, .int .i64 0, .slice none 0 0, .int .i64 0] 55))) g5
         have Hb5:=a6 (hgg.old (M:=wr.heap.size) (a8) (fun k hk=>by cases hk;exact a8))
         have H5:=a6 h5
         have p5:=(HP4.o.kept Hb5.o).cell 0 rfl;have p6:=(HP4.o.kept Hb5.o).cell 1 rfl;have p7:=(HP4.o.kept Hb5.o).lt
         have Hb45:=a6 (b5 Hbi.o Hb5.o)
         have HMc:=a6 (HM1.o w5 (HN1.o w5 (b5 Hb2r.o (Hbr4.o.trans (Hb45.o.mono Hbr4.o.size)))))
         clear h5 g5 hgg
         go_wp2_with (refine dK rfl _ _ rfl wr.heap.size #[.int .i64 kd, .slice pa p.length pc, .slice ta d.length tc, .int .i64 pos, .bool l0, .slice a1 m1 c1, .slice a2 m2 c2, .slice a3 m3 c3, .slice oa ol.length oc, .slice none 0 0, .slice none 0 0, .bool false, .slice none 0 0, .int .i64 0, .slice none 0 0, .int .i64 0, .bool false, .slice none 0 0, .int .i64 0, .slice none 0 0, .int .i64 0] rfl H5.o _ Tryz.underlying55 rfl (by kernel_rfl) ?_)
         refine HMc.o.mono ?_
         rintro e w6 ⟨hbel,va,vc,vi,vb,rfl⟩
         have Hb46:=a6 (b5 Hb45.o hbel)
         have x0:=(HA3.o.kept (b5 Hbr4.o Hb46.o)).cell 0 rfl
         have xl:=(HA3.o.kept (b5 Hbr4.o Hb46.o)).lt
         clear hbel HMc p5 p6 p7
         go_wp2_with fail
         go_roundg 1
         case measure=>omega
         case rel=>exact⟨1,rfl,by omega,Hb46.o.trans ((aX w6 _).mono Hb46.o.size)⟩
       . go_wp2_with (first
          | (refine C0 rfl _ _ rfl (wo.heap.size+1) 21 [.int .i64 kd, .slice pa p.length pc, .slice ta d.length tc, .int .i64 pos, .bool l0, .slice a1 m1 c1, .slice a2 m2 c2, .slice a3 m3 c3, .slice oa ol.length oc, .slice none 0 0, .slice none 0 0, .bool false, .slice none 0 0, .int .i64 0, .slice none 0 0, .int .i64 0, .bool false, .slice none 0 0, .int .i64 0, .slice none 0 0, .int .i64 0, .int .i64 kd2, .slice qa q.length qc, .slice ra r.length rc, .int .i64 pos2,v4,v5,v6,v7,v8,v9,v10,v11,v12,v13,v14,v15,v16,v17,v18,v19,v20] 55 #[.int .i64 kd2, .slice qa q.length qc, .slice ra r.length rc, .int .i64 pos2,v4,v5,v6,v7,v8,v9,v10,v11,v12,v13,v14,v15,v16,v17,v18,v19,v20] rfl HO4.o rfl _ Tryz.underlying55 rfl (by kernel_rfl) ?_)
          | (refine jQ rfl _ _ _ rfl rfl wr.heap.size [.int .i64 0, .slice none 0 0, .slice none 0 0, .int .i64 0, .bool false, .slice none 0 0, .slice none 0 0, .slice none 0 0, .slice none 0 0, .slice none 0 0, .slice none 0 0, .bool false, .slice none 0 0, .int .i64 0, .slice none 0 0, .int .i64 0, .bool false, .slice none 0 0, .int .i64 0, .slice none 0 0, .int .i64 0] #[.int .i64 kd2, .slice qa q.length qc, .slice ra r.length rc, .int .i64 pos2,v4,v5,v6,v7,v8,v9,v10,v11,v12,v13,v14,v15,v16,v17,v18,v19,v20] rfl rfl (At.fresh wr _ _) rfl Hone.o (by kernel_rfl) ?_))
         intro w5 h5 g5
         have hgg:=eV (cZ (aX wr (Obj.cells #[.int .i64 0, .slice none 0 0, .slice none 0 0, .int .i64 0, .bool false, .slice none 0 0, .slice none 0 0, .slice none 0 0, .slice none 0 0, .slice none 0 0, .slice none 0 0, .bool false, .slice none 0 0, .int .i64 0, .slice none 0 0, .int .i64 0, .bool false, .slice none 0 0, .int .i64 0, .slice none 0 0, .int .i64 0] 55))) g5
         have Hb5:=a6 (hgg.old (M:=wr.heap.size) (a8) (fun k hk=>by cases hk;exact a8))
         have H5:=a6 h5
         have p5:=(HP4.o.kept Hb5.o).cell 0 rfl;have p6:=(HP4.o.kept Hb5.o).cell 1 rfl;have p7:=(HP4.o.kept Hb5.o).lt
         have Hb45:=a6 (b5 Hbi.o Hb5.o)
         have HMc:=a6 (HM2.o w5 (HN2.o w5 (b5 Hb2r.o (Hbr4.o.trans (Hb45.o.mono Hbr4.o.size)))))
         clear h5 g5 hgg
         go_wp2_with (refine dK rfl _ _ rfl wr.heap.size #[.int .i64 kd2, .slice qa q.length qc, .slice ra r.length rc, .int .i64 pos2,v4,v5,v6,v7,v8,v9,v10,v11,v12,v13,v14,v15,v16,v17,v18,v19,v20] rfl H5.o _ Tryz.underlying55 rfl (by kernel_rfl) ?_)
         refine HMc.o.mono ?_
         rintro e w6 ⟨hbel,va,vc,vi,vb,rfl⟩
         have Hb46:=a6 (b5 Hb45.o hbel)
         have x0:=(HA3.o.kept (b5 Hbr4.o Hb46.o)).cell 0 rfl
         have xl:=(HA3.o.kept (b5 Hbr4.o Hb46.o)).lt
         clear hbel HMc p5 p6 p7
         go_wp2_with fail
         go_roundg 0
         case measure=>omega
         case rel=>exact⟨2,rfl,by omega,Hb46.o.trans ((aX w6 _).mono Hb46.o.size)⟩
end Go.Proofs.YtmadpclcmjahoaaGreatDoor
