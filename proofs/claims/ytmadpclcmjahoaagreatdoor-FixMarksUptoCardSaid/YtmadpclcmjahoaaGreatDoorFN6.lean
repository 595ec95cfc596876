/- Parts of the proof: 6. -/
import Derived.Test.YtmadpclcmjahoaaGreatDoorFN1
import Derived.Shelf.SlGeneric
import Derived.Ground.SlsfProg
import Derived.Shelf.SlSortCmp.Whole1
import Derived.Test.YtmadpclcmjahoaaGreatDoorProg
import Derived.Test.YtmadpclcmjahoaaGreatDoorFN4
import Derived.Test.YtmadpclcmjahoaaGreatDoorFN2
import Derived.Deep.LoopGhost
import Derived.Deep.DeepCutAuto
import Derived.Deep.RegionLaw
import Derived.Test.YtmadpclcmjahoaaGreatDoorFN5
import Derived.Lib.SliceRun
set_option linter.unusedVariables false
set_option linter.unusedSimpArgs false
set_option maxHeartbeats 8000000
set_option maxRecDepth 100000
namespace Go.Proofs
open Go.Shelf
def Tryz.sortL_ren:Go.Shelf.Ren:=⟨fun | 6=>198 | 15=>163 | 14=>246 | 28=>214 | 29=>215 | 20=>265 | 21=>266 | 22=>267 | 23=>268 | 24=>269 | 25=>270 | 26=>271 | 27=>272 | 46=>287 | 47=>249 | 48=>250 | 49=>288 | 50=>289 | 57=>296 | n=>n,fun | 22=>47 | 24=>36 | 25=>223 | 3=>3 | 39=>195 | 0=>0 | 53=>242 | 55=>244 | 4=>4 | 46=>234 | 45=>233 | 50=>239 | 5=>5 | 9=>9 | 66=>278 | 70=>275 | 76=>298 | 77=>123 | n=>n,fun | n=>n⟩
theorem Tryz.sortL:Go.Proofs.SlLaysF.n6 Tryz.prog Tryz.sortL_ren:={
 mixed:=by kernel_rfl
 f6:=⟨Tryz.f198.name,by decide,Tryz.func198.trans (congrArg some (by kernel_rfl))⟩
 f14:=⟨Tryz.f246.name,by decide,Tryz.func246.trans (congrArg some (by kernel_rfl))⟩
 f15:=Tryz.func163.trans (congrArg some (by kernel_rfl))
 f20:=⟨Tryz.f265.name,by decide,Tryz.func265.trans (congrArg some (by kernel_rfl))⟩
 f21:=⟨Tryz.f266.name,by decide,Tryz.func266.trans (congrArg some (by kernel_rfl))⟩
 f22:=⟨Tryz.f267.name,by decide,Tryz.func267.trans (congrArg some (by kernel_rfl))⟩
 f23:=⟨Tryz.f268.name,by decide,Tryz.func268.trans (congrArg some (by kernel_rfl))⟩
 f24:=⟨Tryz.f269.name,by decide,Tryz.func269.trans (congrArg some (by kernel_rfl))⟩
 f25:=⟨Tryz.f270.name,by decide,Tryz.func270.trans (congrArg some (by kernel_rfl))⟩
 f26:=⟨Tryz.f271.name,by decide,Tryz.func271.trans (congrArg some (by kernel_rfl))⟩
 f27:=⟨Tryz.f272.name,by decide,Tryz.func272.trans (congrArg some (by kernel_rfl))⟩
 f28:=Tryz.func214.trans (congrArg some (by kernel_rfl))
 f29:=Tryz.func215.trans (congrArg some (by kernel_rfl))
 f46:=⟨Tryz.f287.name,by decide,Tryz.func287.trans (congrArg some (by kernel_rfl))⟩
 f47:=Tryz.func249.trans (congrArg some (by kernel_rfl))
 f48:=Tryz.func250.trans (congrArg some (by kernel_rfl))
 f49:=⟨Tryz.f288.name,by decide,Tryz.func288.trans (congrArg some (by kernel_rfl))⟩
 f50:=⟨Tryz.f289.name,by decide,Tryz.func289.trans (congrArg some (by kernel_rfl))⟩
 f57:=⟨Tryz.f296.name,by decide,Tryz.func296.trans (congrArg some (by kernel_rfl))⟩
 t0:=Tryz.underlying0
 a0:=Tryz.isAgg0
 z0:=Tryz.sizeOf0
 v0:=Tryz.zeroValue0
 t3:=Tryz.underlying3
 a3:=Tryz.isAgg3
 z3:=Tryz.sizeOf3
 v3:=Tryz.zeroValue3
 t4:=Tryz.underlying4
 a4:=Tryz.isAgg4
 z4:=Tryz.sizeOf4
 v4:=Tryz.zeroValue4
 t5:=Tryz.underlying5
 a5:=Tryz.isAgg5
 z5:=Tryz.sizeOf5
 v5:=Tryz.zeroValue5
 t9:=Tryz.underlying9
 a9:=Tryz.isAgg9
 z9:=Tryz.sizeOf9
 v9:=Tryz.zeroValue9
 t22:=Tryz.underlying47
 a22:=Tryz.isAgg47
 z22:=Tryz.sizeOf47
 v22:=Tryz.zeroValue47
 a24:=Tryz.isAgg36
 z24:=Tryz.sizeOf36
 t25:=Tryz.underlying223
 a25:=Tryz.isAgg223
 z25:=Tryz.sizeOf223
 v25:=Tryz.zeroValue223
 t39:=Tryz.underlying195
 a39:=Tryz.isAgg195
 z39:=Tryz.sizeOf195
 v39:=Tryz.zeroValue195
 t45:=Tryz.underlying233
 a45:=Tryz.isAgg233
 z45:=Tryz.sizeOf233
 v45:=Tryz.zeroValue233
 t46:=Tryz.underlying234
 a46:=Tryz.isAgg234
 z46:=Tryz.sizeOf234
 v46:=Tryz.zeroValue234
 t50:=Tryz.underlying239
 a50:=Tryz.isAgg239
 z50:=Tryz.sizeOf239
 v50:=Tryz.zeroValue239
 t53:=Tryz.underlying242
 a53:=Tryz.isAgg242
 z53:=Tryz.sizeOf242
 v53:=Tryz.zeroValue242
 t55:=Tryz.underlying244
 a55:=Tryz.isAgg244
 z55:=Tryz.sizeOf244
 v55:=Tryz.zeroValue244
 t66:=Tryz.underlying278
 a66:=Tryz.isAgg278
 z66:=Tryz.sizeOf278
 v66:=Tryz.zeroValue278
 t70:=Tryz.underlying275
 a70:=Tryz.isAgg275
 z70:=Tryz.sizeOf275
 v70:=Tryz.zeroValue275
 t76:=Tryz.underlying298
 a76:=Tryz.isAgg298
 z76:=Tryz.sizeOf298
 v76:=Tryz.zeroValue298
 t77:=Tryz.underlying123
 a77:=Tryz.isAgg123
 z77:=Tryz.sizeOf123
 v77:=Tryz.zeroValue123 }
end Go.Proofs
namespace Go.Proofs.YtmadpclcmjahoaaGreatDoor
open Go.RowKit Go.Redl
mutual
def wV:aK ->aK ->Bool
 | .mk l ps t ks, .mk l' ps' t' ks'=>l == l' && (decide (ps=ps') && (decide (t=t') && (decide (ks.length=ks'.length) && wX ks ks')))
def wX:List aK ->List aK ->Bool
 | [],_=>true
 | _::_, []=>true
 | k::ks,k'::ks'=>wV k k' && wX ks ks'
end
mutual
theorem M7:∀n:aK,wV n n=true
 | .mk l ps t ks=>by unfold wV;simp [c_1 ks]
theorem c_1:∀ks:List aK,wX ks ks=true
 | []=>by unfold wX;rfl
 | k::ks=>by unfold wX;simp [M7 k,c_1 ks]
end
theorem g_e {ks ks':List aK} {k:Nat} (h:k < ks.length) (h':k < ks'.length):wX (ks.drop k) (ks'.drop k)=(wV ks[k] ks'[k] && wX (ks.drop (k+1)) (ks'.drop (k+1))):=by
 conv=>lhs;rw [List.drop_eq_getElem_cons h,List.drop_eq_getElem_cons h']
 simp only [wX]
theorem i_9 {ks ks':List aK} {k:Nat} (h:ks.length <= k):wX (ks.drop k) (ks'.drop k)=true:=by
 rw [List.drop_eq_nil_of_le h];unfold wX;rfl
theorem e_R (ks ks':List aK) (a a':Option Addr) (c c':Nat) (css css':List Value) (W:World) (hr:RowA W W.heap.size 4 a ks.length c css) (hk:dQ W W.heap.size ks css) (hr':RowA W W.heap.size 4 a' ks'.length c' css') (hk':dQ W W.heap.size ks' css')
 (hC:∀ (i:Nat) (h:i < ks.length) (h':i < ks'.length) (v v':Value) (W':World),bY W' W'.heap.size ks[i] v ->bY W' W'.heap.size ks'[i] v' ->Calls Tryz.prog 25 #[v,v'] W' fun e w'=>e= .returned (.bool (wV ks[i] ks'[i]))/\Below W'.heap.size W' w'):
 Calls Tryz.prog 83 #[.slice a ks.length c, .slice a' ks'.length c', .func (.func 25) #[] #[]] W fun e w'=>e= .returned (.bool (decide (ks.length=ks'.length) && wX ks ks'))/\Below W.heap.size W w':=by
 have hm:ks.length <= 9223372036854775807:=by have h1:=hr.le;have h2:=hr.max;unfold maxLen at h2;omega
 have hm':ks'.length <= 9223372036854775807:=by have h1:=hr'.le;have h2:=hr'.max;unfold maxLen at h2;omega
 by_cases hl:ks.length=ks'.length
 . have hne:(((ks.length:Nat):Int) != (ks'.length:Int))=false:=by simp [hl]
   have Hl:=a6 hl
   have HC:=a6 hC
   have Hk:=a6 hk;have Hk':=a6 hk'
   obtain⟨R,hR⟩:∃R,R=(decide (ks.length=ks'.length) && wX ks ks'):=⟨_,rfl⟩
   rw [<- hR]
   have HR:Hid (R=wX (ks.drop 0) (ks'.drop 0)):=by show R=_;rw [hR];simp [hl]
   clear hl hC hk hk' hR
   have hle:ks'.length <= ks.length:=by have:=Hl.o;omega
   go_enter Tryz.func83,Tryz.ntmps83
   go_wp2_with fail
   go_loopw [17] (fun i wr=>∃k:Nat,k <= ks.length/\i= .int .i64 k/\R=wX (ks.drop k) (ks'.drop k)/\Below W.heap.size W wr) (fun i _=>ks.length - (intOf i).toNat)
   case atStart=>exact⟨0,Nat.zero_le _,rfl,HR.o,a7⟩
   case round=>
    obtain⟨k,hkk,rfl,hp,hbel⟩:=hrel
    clear HR
    by_cases hlt:k < ks.length
    . have hlt':k < ks'.length:=by have:=Hl.o;omega
      have hW:=hbel.size
      obtain⟨b,off,l,a1,n1,c1,a2,n2,c2,a3,n3,c3,rfl,hb,hn,g0,g1,g2,g3⟩:=(hr.keep hbel (a8)).kid_at (dQ.keep hbel (a8) _ _ Hk.o) k hlt
      obtain⟨b',off',l',a1',n1',c1',a2',n2',c2',a3',n3',c3',rfl,hb',hn',g0',g1',g2',g3'⟩:=(hr'.keep hbel (a8)).kid_at (dQ.keep hbel (a8) _ _ Hk'.o) k hlt'
      have hbw:b < wr.heap.size:=by omega
      have hbw':b' < wr.heap.size:=by omega
      have hb0:Below wr.heap.size wr ((wr.alloc (Obj.cells #[.bool l, .slice a1 n1 c1, .slice a2 n2 c2, .slice a3 n3 c3] 35)).alloc (Obj.cells #[.bool l', .slice a1' n1' c1', .slice a2' n2' c2', .slice a3' n3' c3'] 35)):=((a7).alloc (a8) _).alloc (by simp) _
      have HC1:=a6 (HC.o k hlt hlt' (.agg #[.bool l, .slice a1 n1 c1, .slice a2 n2 c2, .slice a3 n3 c3]) (.agg #[.bool l', .slice a1' n1' c1', .slice a2' n2' c2', .slice a3' n3' c3']) _ ⟨_,rfl,dJ.keep (hb0.mono hW) (aJ hW hb0.size) _ _ hn⟩ ⟨_,rfl,dJ.keep (hb0.mono hW) (aJ hW hb0.size) _ _ hn'⟩)
      have Hst:=a6 (g_e hlt hlt')
      have Hb0:=a6 (hbel.trans (hb0.mono hW))
      have Hp:=a6 hp
      generalize wV ks[k] ks'[k]=q at HC1 Hst
      clear hn hn' hp hbel
      go_wp2_with fail
      refine HC1.o.mono ?_
      rintro e w1 ⟨rfl,hbel⟩
      have Hb1:=a6 (fV Hb0.o hbel (a8))
      clear HC1 hbel g0 g1 g2 g3 g0' g1' g2' g3'
      cases q with
      | true=>
        have Hst:Hid (wX (ks.drop k) (ks'.drop k)=wX (ks.drop (k+1)) (ks'.drop (k+1))):=by show _=_;rw [Hst.o];simp
        go_wp2_with fail
        go_roundw
        case rel=>exact⟨k+1,by omega,by go_num,by rw [Hp.o,Hst.o],Hb1.o⟩
        case measure=>simp [intOf];omega
      | false=>
        have Hst:Hid (R=false):=by show _=_;rw [Hp.o,Hst.o];simp
        go_wp2_with fail
        go_ret
        exact⟨b7 Hst.o.symm,Hb1.o⟩
    . have Hp:=a6 hp;have Hb:=a6 hbel
      clear hp hbel
      go_wp2_with fail
      go_ret
      exact⟨b7 (by rw [Hp.o,i_9 (by omega)]),Hb.o⟩
 . have hne:(((ks.length:Nat):Int) != (ks'.length:Int))=true:=by simp;omega
   have Hl:=a6 hl;clear hl hC hk hk'
   go_enter Tryz.func83,Tryz.ntmps83
   go_wp2_with fail
   go_ret
   exact⟨b7 (by simp [Hl.o]),a7⟩
theorem e_5 (a a':Option Addr) (cap cap' B:Nat) (xs ys:List eK) (w:World) (hr:RowA w B 2 a xs.length cap (bK xs)) (hr':RowA w B 2 a' ys.length cap' (bK ys)):
 Calls Tryz.prog 81 #[.slice a xs.length cap, .slice a' ys.length cap'] w fun e w'=>e= .returned (.bool (decide (xs=ys)))/\mX w w':=by
 have H:=a6 (g_7 a a' cap cap' B xs ys w hr hr')
 clear hr hr'
 go_enter Tryz.func81,Tryz.ntmps81
 go_wp2_with fail
 refine H.o.mono ?_
 rintro e w1 ⟨rfl,hd⟩
 have Hd:=a6 hd
 clear hd H
 go_wp2_with fail
 go_ret
 exact⟨rfl,Hd.o⟩
theorem l_o (v1 v2:Value) (B:Nat) (xs ys:List Int) (w:World) (h1:b_P .i32 w B v1 xs) (h2:b_P .i32 w B v2 ys):
 Calls Tryz.prog 82 #[v1,v2] w fun e w'=>e= .returned (.bool (decide (xs=ys)))/\mX w w':=by
 have H:=a6 (g_4 v1 v2 B xs ys w h1 h2)
 clear h1 h2
 go_enter Tryz.func82,Tryz.ntmps82
 go_wp2_with fail
 refine H.o.mono ?_
 rintro e w1 ⟨rfl,hd⟩
 have Hd:=a6 hd
 clear hd H
 go_wp2_with fail
 go_ret
 exact⟨rfl,Hd.o⟩
theorem g_f (l l':Bool) (ps ps':List eK) (t t':List Int) (ks ks':List aK):wV (.mk l ps t ks) (.mk l' ps' t' ks')=(l == l' && (decide (ps=ps') && (decide (t=t') && (decide (ks.length=ks'.length) && wX ks ks')))):=by
 rw [wV]
theorem j_r (m:Nat):∀ (n1 n2:aK) (v1 v2:Value) (W:World),n1.wt <= m ->bY W W.heap.size n1 v1 ->bY W W.heap.size n2 v2 ->
 Calls Tryz.prog 25 #[v1,v2] W fun e w'=>e= .returned (.bool (wV n1 n2))/\Below W.heap.size W w':=by
 induction m with
 | zero=>intro n1 n2 v1 v2 W hm;have:=G5 n1;omega
 | succ m IH=>
   intro n1 n2 v1 v2 W hm hv1 hv2
   obtain⟨l,ps,t,ks⟩:=n1
   obtain⟨l',ps',t',ks'⟩:=n2
   obtain⟨ap,cp,at_,ct,ak,ck,css,rfl,hp,ht,hk,hkk⟩:=hv1.open
   obtain⟨ap',cp',at_',ct',ak',ck',css',rfl,hp',ht',hk',hkk'⟩:=hv2.open
   have hwt:dX ks <= m:=by simp only [aK.wt]at hm;omega
   have Hs:=a6 (g_f l l' ps ps' t t' ks ks')
   generalize wV (.mk l ps t ks) (.mk l' ps' t' ks')=R at Hs⊢
   have hb0:Below W.heap.size W ((W.alloc (Obj.cells #[.bool l, .slice ap ps.length cp, .slice at_ t.length ct, .slice ak ks.length ck] 35)).alloc (Obj.cells #[.bool l', .slice ap' ps'.length cp', .slice at_' t'.length ct', .slice ak' ks'.length ck'] 35)):=((a7).alloc (a8) _).alloc (by simp) _
   have HP:=a6 (e_5 ap ap' cp cp' _ ps ps' _ (hp.keep hb0 (a8)) (hp'.keep hb0 (a8)))
   have HT:=fun q=>a6 (l_o _ _ _ t t' _ (ht.keep (below_drewN hb0 q) (a8)) (ht'.keep (below_drewN hb0 q) (a8)))
   have HK:=fun(W':World) (hb:Below W.heap.size W W')=>a6 (e_R ks ks' ak ak' ck ck' css css' W' (hk.keep hb hb.size) (dQ.keep hb hb.size _ _ hkk) (hk'.keep hb hb.size) (dQ.keep hb hb.size _ _ hkk')
    (fun i h h' v v' W2 q1 q2=>IH ks[i] ks'[i] v v' W2 (aJ (iK (List.getElem_mem h)) hwt) q1 q2))
   have Hb0:=a6 hb0
   clear IH hv1 hv2 hp ht hk hkk hp' ht' hk' hkk' hm hwt hb0
   by_cases hl:l=l'
   . subst hl
     by_cases hps:ps=ps'
     . have HP:Hid _:=HP
       have e1:decide (ps=ps')=true:=decide_eq_true hps
       rw [e1]at HP Hs
       clear e1 hps
       by_cases ht:t=t'
       . have e1:decide (t=t')=true:=decide_eq_true ht
         rw [e1]at HT Hs
         clear e1 ht
         have Hs2:Hid (R=(decide (ks.length=ks'.length) && wX ks ks')):=by show _=_;rw [Hs.o];simp
         clear Hs
         generalize (decide (ks.length=ks'.length) && wX ks ks')=x at Hs2 HK
         cases l <;>
         . go_enter Tryz.func25,Tryz.ntmps25
           go_wp2_with fail
           refine HP.o.mono ?_
           rintro e w1 ⟨rfl,q,rfl⟩
           have HT1:=HT q
           clear HP HT
           go_wp2_with fail
           refine HT1.o.mono ?_
           rintro e w1 ⟨rfl,q2,rfl⟩
           have hb2:=below_drewN Hb0.o (q+q2)
           have HK1:=HK _ hb2
           have Hb2:=a6 hb2
           clear HT1 hb2 HK Hb0
           go_wp2_with fail
           refine HK1.o.mono ?_
           rintro e w1 ⟨rfl,hbel⟩
           have Hb3:=a6 (fV Hb2.o hbel (a8))
           clear hbel HK1 Hb2
           go_wp2_with fail
           go_ret
           exact⟨b7 (by rw [Hs2.o]),Hb3.o⟩
       . have e1:decide (t=t')=false:=decide_eq_false ht
         rw [e1]at HT Hs
         clear e1 ht HK
         have Hs2:Hid (R=false):=by show _=_;rw [Hs.o];simp
         cases l <;>
         . go_enter Tryz.func25,Tryz.ntmps25
           go_wp2_with fail
           refine HP.o.mono ?_
           rintro e w1 ⟨rfl,q,rfl⟩
           have HT1:=HT q
           clear HP HT
           go_wp2_with fail
           refine HT1.o.mono ?_
           rintro e w1 ⟨rfl,q2,rfl⟩
           have hb2:=a6 (below_drewN Hb0.o (q+q2))
           clear HT1 Hb0
           go_wp2_with fail
           go_ret
           exact⟨b7 (by rw [Hs2.o]),hb2.o⟩
     . have e1:decide (ps=ps')=false:=decide_eq_false hps
       rw [e1]at HP Hs
       clear e1 hps HK HT
       have Hs2:Hid (R=false):=by show _=_;rw [Hs.o];simp
       cases l <;>
       . go_enter Tryz.func25,Tryz.ntmps25
         go_wp2_with fail
         refine HP.o.mono ?_
         rintro e w1 ⟨rfl,q,rfl⟩
         have hb2:=a6 (below_drewN Hb0.o q)
         clear HP Hb0
         go_wp2_with fail
         go_ret
         exact⟨b7 (by rw [Hs2.o]),hb2.o⟩
   . have Hs2:Hid (R=false):=by show _=_;rw [Hs.o];simp [hl]
     clear HP HT HK
     have hne:(l == l')=false:=by simpa using hl
     clear hl
     go_enter Tryz.func25,Tryz.ntmps25
     go_wp2_with fail
     go_ret
     exact⟨b7 (by rw [Hs2.o]),Hb0.o⟩
theorem l_p (a a':Option Addr) (cap cap' B:Nat) (xs ys:List Int) (w:World) (hr:RowA w B 1 a xs.length cap (xs.map (Value.int .i64))) (hr':RowA w B 1 a' ys.length cap' (ys.map (Value.int .i64))):
 Calls Tryz.prog 33 #[.slice a xs.length cap, .slice a' ys.length cap'] w fun e w'=>e= .returned (.bool (decide (xs=ys)))/\mX w w':=by
 have hm:xs.length <= 9223372036854775807:=by have h1:=hr.le;have h2:=hr.max;unfold maxLen at h2;omega
 have hm':ys.length <= 9223372036854775807:=by have h1:=hr'.le;have h2:=hr'.max;unfold maxLen at h2;omega
 by_cases hl:xs.length=ys.length
 . go_enter Tryz.func33,Tryz.ntmps33
   have hle:ys.length <= xs.length:=by omega
   have hle':xs.length <= ys.length:=by omega
   have hne:(((xs.length:Nat):Int) != (ys.length:Int))=false:=by simp [hl]
   have Hl:=a6 hl;clear hl
   go_wp2_with fail
   go_loopw [13] (fun i wr=>∃k:Nat,k <= xs.length/\i= .int .i64 k/\C3 xs ys k/\mX w wr) (fun i _=>xs.length - (intOf i).toNat)
   case atStart=>exact⟨0,Nat.zero_le _,rfl,D8 _ _,⟨0,rfl⟩⟩
   case round=>
    obtain⟨k,hk,rfl,hp,q,rfl⟩:=hrel
    have Hp:=a6 hp;clear hp
    by_cases hlt:k < xs.length
    . obtain ⟨b,off,rfl,hb,hcell⟩:=hr.int_at k hlt
      obtain⟨b',off',rfl,hb',hcell'⟩:=hr'.int_at k (by omega)
      have hcell:=hcell k hlt
      have hcell':=hcell' k (by omega)
      have hlt':k < ys.length:=by omega
      rw [fJ hlt]at hcell
      rw [fJ hlt']at hcell'
      go_wp2_with fail
      by_cases he:xs[k]=ys[k]
      . have hne:(xs[k] != ys[k])=false:=by simp [he]
        have He:=a6 he;clear he
        go_quiet (fail)
        go_wp2_with fail
        go_roundw
        case rel=>exact⟨k+1,by omega,by go_num,D9 Hp.o hlt hlt' He.o,by first | exact jX _ _ | exact j6 _ _ _⟩
        case measure=>simp [intOf];omega
      . have hne:(xs[k] != ys[k])=true:=by simp [he]
        have He:=a6 he;clear he
        go_quiet (fail)
        go_wp2_with fail
        go_ret
        exact⟨b7 (by simp [IX hlt hlt' He.o]),j6 _ _ _⟩
    . go_wp2_with fail
      go_ret
      obtain rfl:k=xs.length:=by omega
      exact⟨b7 (by simp [G3 Hp.o Hl.o]),jX _ _⟩
 . have hne:(((xs.length:Nat):Int) != (ys.length:Int))=true:=by simp;omega
   have Hl:=a6 hl;clear hl
   go_enter Tryz.func33,Tryz.ntmps33
   go_wp2_with fail
   go_ret
   exact⟨b7 (by simp [show xs≠ys from fun h=>Hl.o (by rw [h])]),C2 _⟩
abbrev n_V (W:World) (e:Ending) (w':World):Prop:=e= .returned (.bool true)/\Below W.heap.size W w'
theorem d_m (p:List Int) (a a':Option Addr) (c c':Nat) (w:World) (h:RowA w w.heap.size 1 a p.length c (p.map (Value.int .i64))) (h':RowA w w.heap.size 1 a' p.length c' (p.map (Value.int .i64))):
 Calls Tryz.prog 33 #[.slice a p.length c, .slice a' p.length c'] w (n_V w):=
 (l_p a a' c c' _ p p w h h').mono fun e w' hh=>by obtain⟨rfl,hd⟩:=hh;exact⟨b7 (by simp),hd.below _⟩
def wQ (a b:Int):Int:=if a < b then -1 else if b < a then 1 else 0
def nZ:List Int ->List Int ->Int
 | [], []=>0
 | [],_::_=> -1
 | _::_, []=>1
 | x::a,y::b=>if wQ x y=0 then nZ a b else wQ x y
theorem KV {x y:Int}:wQ x y=0 ↔ x=y:=by unfold wQ;split <;> (try split) <;> omega
theorem c_2 {x y:Int}:wQ x y < 0 ↔ x < y:=by unfold wQ;split <;> (try split) <;> omega
theorem KX:∀a:List Int,nZ a a=0
 | []=>rfl
 | x::a=>by unfold nZ;rw [if_pos (by simp [wQ]),KX a]
theorem e_6:∀ {a b:List Int},nZ a b=0 ->a=b
 | [], [],_=>rfl
 | [],_::_,h=>by simp [nZ]at h
 | _::_, [],h=>by simp [nZ]at h
 | x ::a,y::b,h=>by
   unfold nZ at h
   split at h
   . rename_i h0
     rw [e_6 h,KV.1 h0]
   . exact absurd h ‹_›
theorem d_n:∀a b:List Int,nZ b a= -nZ a b
 | [], []=>rfl
 | [],_::_=>rfl
 | _::_, []=>rfl
 | x::a,y::b=>by
   unfold nZ
   have:wQ y x= -wQ x y:=by unfold wQ;split <;> (try split) <;> (try split) <;> omega
   rw [this]
   by_cases h:wQ x y=0
   . rw [if_pos h,if_pos (by omega),d_n a b]
   . rw [if_neg h,if_neg (by omega)]
theorem C6:∀ {a b c:List Int},nZ a b < 0 ->nZ b c < 0 ->nZ a c < 0
 | [],_, [],h1,h2=>by
   rename_i b
   cases b with
   | nil=>simp [nZ]at h1
   | cons y b=>simp [nZ]at h2
 | [],_,_::_,h1,h2=>by simp [nZ]
 | _::_, [],_,h1,h2=>by simp [nZ]at h1
 | _::_,_::_, [],h1,h2=>by simp [nZ]at h2
 | x ::a,y::b,z::c,h1,h2=>by
   unfold nZ at h1 h2⊢
   by_cases e1:wQ x y=0
   . obtain rfl:=KV.1 e1
     rw [if_pos e1]at h1
     by_cases e2:wQ x z=0
     . rw [if_pos e2]at h2⊢
       exact C6 h1 h2
     . rw [if_neg e2]at h2⊢;exact h2
   . rw [if_neg e1]at h1
     have hxy:=c_2.1 h1
     by_cases e2:wQ y z=0
     . obtain rfl:=KV.1 e2
       rw [if_neg e1];exact h1
     . rw [if_neg e2]at h2
       have hyz:=c_2.1 h2
       have hxz:wQ x z < 0:=c_2.2 (by omega)
       rw [if_neg (by omega)];exact hxz
theorem C7 (a b:List Int):nZ a b < 0∨a=b∨nZ b a < 0:=by
 rcases Int.lt_trichotomy (nZ a b) 0 with h | h | h
 . exact .inl h
 . exact .inr (.inl (e_6 h))
 . exact .inr (.inr (by rw [d_n];omega))
theorem m_w (x:Int) (w:World):Calls Tryz.prog 253 #[.int .i64 x] w fun e w'=>e= .returned (.bool false)/\w'=w:=by
 have hne:(x != x)=false:=by simp
 go_enter Tryz.func253,Tryz.ntmps253
 go_wp2_with fail
 go_ret
 exact⟨rfl,rfl⟩
theorem j_s (x y:Int) (w:World):Calls Tryz.prog 235 #[.int .i64 x, .int .i64 y] w fun e w'=>e= .returned (.int .i64 (wQ x y))/\w'=w:=by
 have HX:=a6 (m_w x w);have HY:=a6 (m_w y w)
 obtain⟨z,hz⟩:∃z,z=wQ x y:=⟨_,rfl⟩
 rw [<- hz]
 have Hz:=a6 (show (x < y ->z= -1)/\(¬x < y ->y < x ->z=1)/\(¬x < y ->¬y < x ->z=0)from⟨fun h=>by rw [hz,wQ,if_pos h],fun h h'=>by rw [hz,wQ,if_neg h,if_pos h'],fun h h'=>by rw [hz,wQ,if_neg h,if_neg h']⟩)
 clear hz
 go_enter Tryz.func235,Tryz.ntmps235
 go_wp2_with fail
 refine HX.o.mono ?_
 rintro e w1 ⟨rfl,rfl⟩
 go_wp2_with fail
 refine HY.o.mono ?_
 rintro e w1 ⟨rfl,rfl⟩
 by_cases h1:x < y
 . have Hr:=a6 (Hz.o.1 (by omega))
   go_wp2_with fail
   go_ret
   exact⟨cY Hr.o.symm,rfl⟩
 . by_cases h2:y < x
   . have Hr:=a6 (Hz.o.2.1 (by omega) (by omega))
     have h3:decide (x < y)=false:=decide_eq_false (by omega)
     go_wp2_with fail
     go_ret
     exact⟨cY Hr.o.symm,rfl⟩
   . have Hr:=a6 (Hz.o.2.2 (by omega) (by omega))
     have h3:decide (x < y)=false:=decide_eq_false (by omega)
     have h4:decide (y < x)=false:=decide_eq_false (by omega)
     go_wp2_with fail
     go_ret
     exact⟨cY Hr.o.symm,rfl⟩
theorem i_a {xs ys:List Int} {k:Nat} (h1:k < xs.length) (h2:k < ys.length):nZ (xs.drop k) (ys.drop k)=if wQ xs[k] ys[k]=0 then nZ (xs.drop (k+1)) (ys.drop (k+1)) else wQ xs[k] ys[k]:=by
 rw [List.drop_eq_getElem_cons h1,List.drop_eq_getElem_cons h2];rfl
theorem m_M (xs ys:List Int) (a a':Option Addr) (cap cap' B:Nat) (w:World) (hr:RowA w B 1 a xs.length cap (xs.map (Value.int .i64))) (hr':RowA w B 1 a' ys.length cap' (ys.map (Value.int .i64))):
 Calls Tryz.prog 247 #[.slice a xs.length cap, .slice a' ys.length cap'] w fun e w'=>e= .returned (.int .i64 (nZ xs ys))/\w'=w:=by
 obtain⟨z,hz⟩:∃z,z=nZ xs ys:=⟨_,rfl⟩
 rw [<- hz]
 have Hz:=a6 hz
 clear hz
 have H63:=a6 (show xs.length <= 9223372036854775807 from aJ hr.le (by have:=hr.max;unfold maxLen at this;omega))
 go_enter Tryz.func247,Tryz.ntmps247
 go_wp2_with fail
 go_loopg [11,5,6,7,8] xs.length (fun g i _ _ _ _ wr=>∃k:Nat,i= .int .i64 k/\k+g=xs.length/\k <= ys.length/\Hid (nZ (xs.drop k) (ys.drop k)=z)/\wr=w)
 case atStart=>exact⟨0,rfl,by omega,by omega,Hz.o.symm,rfl⟩
 case round=>
  obtain⟨k,rfl,hg,hky,hst,rfl⟩:=hrel
  by_cases hlt:k < xs.length
  . have hlti:(k:Int) < xs.length:=by omega
    obtain⟨b,off,rfl,hb,hcell0⟩:=hr.int_at k hlt
    have hcell:=hcell0 k hlt
    rw [fJ hlt]at hcell
    clear hcell0
    by_cases hly:k < ys.length
    ·
      have hlyi:(k:Int) < ys.length:=by omega
      have hge:decide ((ys.length:Int) <= k)=false:=decide_eq_false (by omega)
      have hw1:IntKind.i64.wrap ((k:Int)+1)=(k:Int)+1:=IntWalk.i64_in _ (by have:=H63.o;omega)
      obtain⟨b',off',rfl,hb',hcell0⟩:=hr'.int_at k hly
      have hcell':=hcell0 k hly
      rw [fJ hly]at hcell'
      clear hcell0
      have Hs:=a6 ((i_a hlt hly).symm.trans hst.o)
      have HC:=a6 (j_s xs[k] ys[k] wr)
      generalize xs[k]=x at hcell Hs HC
      generalize ys[k]=y at hcell' Hs HC
      clear hst
      by_cases h0:wQ x y=0
      ·
        have Hs2:=a6 (show nZ (xs.drop (k+1)) (ys.drop (k+1))=z by have h:=Hs.o;rwa [if_pos h0]at h)
        rw [h0]at HC
        clear Hs h0
        go_wp2_with fail
        refine HC.o.mono ?_
        rintro e w1 ⟨rfl,rfl⟩
        clear HC
        go_wp2_with fail
        go_roundg (xs.length - (k+1))
        case measure=>omega
        case rel=>exact⟨k+1,by go_num,by omega,by omega,Hs2,rfl⟩
      ·
        have Hs2:=a6 (show wQ x y=z by have h:=Hs.o;rwa [if_neg h0]at h)
        have hne:(wQ x y != 0)=true:=by simpa using h0
        clear Hs h0
        generalize wQ x y=c at HC Hs2 hne
        go_wp2_with fail
        refine HC.o.mono ?_
        rintro e w1 ⟨rfl,rfl⟩
        clear HC
        go_wp2_with fail
        go_ret
        exact⟨cY Hs2.o,rfl⟩
    ·
      obtain rfl:k=ys.length:=by omega
      have hge:decide ((ys.length:Int) <= ys.length)=true:=decide_eq_true (by omega)
      have Hs:=a6 (show (1:Int)=z by
       have h:=hst.o
       rw [List.drop_length,List.drop_eq_getElem_cons hlt]at h
       exact h)
      clear hst
      go_wp2_with fail
      go_ret
      exact⟨cY Hs.o,rfl⟩
  ·
    obtain rfl:k=xs.length:=by omega
    by_cases hly:xs.length < ys.length
    . have hlyi:(xs.length:Int) < ys.length:=by omega
      have Hs:=a6 (show (-1:Int)=z by
       have h:=hst.o
       rw [List.drop_length,List.drop_eq_getElem_cons hly]at h
       exact h)
      clear hst
      go_wp2_with fail
      go_ret
      exact⟨cY Hs.o,rfl⟩
    . have hlyi:decide ((xs.length:Int) < ys.length)=false:=decide_eq_false (by omega)
      have Hs:=a6 (show (0:Int)=z by
       have h:=hst.o
       rw [List.drop_length,List.drop_of_length_le (show ys.length <= xs.length by omega)]at h
       exact h)
      clear hst
      go_wp2_with fail
      go_ret
      exact⟨cY Hs.o,rfl⟩
theorem j_t:∀args w,(callFunc 199 args).run Tryz.prog w= .ok (.enter 199 args) w:=by intro args w;kernel_rfl
theorem j_u (xs ys:List Int) (a a':Option Addr) (cap cap' B:Nat) (w:World) (hr:RowA w B 1 a xs.length cap (xs.map (Value.int .i64))) (hr':RowA w B 1 a' ys.length cap' (ys.map (Value.int .i64))):
 Calls Tryz.prog 199 #[.slice a xs.length cap, .slice a' ys.length cap'] w fun e w'=>e= .returned (.int .i64 (nZ xs ys))/\w'=w:=by
 have HC:=a6 (m_M xs ys a a' cap cap' B w hr hr')
 clear hr hr'
 go_enter Tryz.func199,Tryz.ntmps199
 go_wp2_with fail
 refine HC.o.mono ?_
 rintro e w1 ⟨rfl,rfl⟩
 go_wp2_with fail
 go_ret
 exact⟨rfl,rfl⟩
theorem h_A (a a':Option Addr) (cap cap' B:Nat) (xs ys:List Int) (w:World) (hr:RowA w B 1 a xs.length cap (xs.map (Value.int .i64))) (hr':RowA w B 1 a' ys.length cap' (ys.map (Value.int .i64))):
 Calls Tryz.prog 38 #[.slice a xs.length cap, .slice a' ys.length cap'] w fun e w'=>e= .returned (.bool (decide (xs=ys)))/\mX w w':=by
 have hm:xs.length <= 9223372036854775807:=by have h1:=hr.le;have h2:=hr.max;unfold maxLen at h2;omega
 have hm':ys.length <= 9223372036854775807:=by have h1:=hr'.le;have h2:=hr'.max;unfold maxLen at h2;omega
 by_cases hl:xs.length=ys.length
 . go_enter Tryz.func38,Tryz.ntmps38
   have hle:ys.length <= xs.length:=by omega
   have hle':xs.length <= ys.length:=by omega
   have hne:(((xs.length:Nat):Int) != (ys.length:Int))=false:=by simp [hl]
   have Hl:=a6 hl;clear hl
   go_wp2_with fail
   go_loopw [13] (fun i wr=>∃k:Nat,k <= xs.length/\i= .int .i64 k/\C3 xs ys k/\mX w wr) (fun i _=>xs.length - (intOf i).toNat)
   case atStart=>exact⟨0,Nat.zero_le _,rfl,D8 _ _,⟨0,rfl⟩⟩
   case round=>
    obtain⟨k,hk,rfl,hp,q,rfl⟩:=hrel
    have Hp:=a6 hp;clear hp
    by_cases hlt:k < xs.length
    . obtain ⟨b,off,rfl,hb,hcell⟩:=hr.int_at k hlt
      obtain⟨b',off',rfl,hb',hcell'⟩:=hr'.int_at k (by omega)
      have hcell:=hcell k hlt
      have hcell':=hcell' k (by omega)
      have hlt':k < ys.length:=by omega
      rw [fJ hlt]at hcell
      rw [fJ hlt']at hcell'
      go_wp2_with fail
      by_cases he:xs[k]=ys[k]
      . have hne:(xs[k] != ys[k])=false:=by simp [he]
        have He:=a6 he;clear he
        go_quiet (fail)
        go_wp2_with fail
        go_roundw
        case rel=>exact⟨k+1,by omega,by go_num,D9 Hp.o hlt hlt' He.o,by first | exact jX _ _ | exact j6 _ _ _⟩
        case measure=>simp [intOf];omega
      . have hne:(xs[k] != ys[k])=true:=by simp [he]
        have He:=a6 he;clear he
        go_quiet (fail)
        go_wp2_with fail
        go_ret
        exact⟨b7 (by simp [IX hlt hlt' He.o]),j6 _ _ _⟩
    . go_wp2_with fail
      go_ret
      obtain rfl:k=xs.length:=by omega
      exact⟨b7 (by simp [G3 Hp.o Hl.o]),jX _ _⟩
 . have hne:(((xs.length:Nat):Int) != (ys.length:Int))=true:=by simp;omega
   have Hl:=a6 hl;clear hl
   go_enter Tryz.func38,Tryz.ntmps38
   go_wp2_with fail
   go_ret
   exact⟨b7 (by simp [show xs≠ys from fun h=>Hl.o (by rw [h])]),C2 _⟩
theorem i_b:∀args w,(callFunc 17 args).run Tryz.prog w= .ok (.enter 17 args) w:=by intro args w;kernel_rfl
theorem a_i (xs ys:List Int) (a a':Option Addr) (cap cap' B:Nat) (w:World) (hr:RowA w B 1 a xs.length cap (xs.map (Value.int .i64))) (hr':RowA w B 1 a' ys.length cap' (ys.map (Value.int .i64))):
 Calls Tryz.prog 17 #[.slice a xs.length cap, .slice a' ys.length cap'] w fun e w'=>e= .returned (.bool (decide (xs=ys)))/\mX w w':=by
 have HC:=a6 (h_A a a' cap cap' B xs ys w hr hr')
 clear hr hr'
 go_enter Tryz.func17,Tryz.ntmps17
 go_wp2_with fail
 refine HC.o.mono ?_
 rintro e w1 ⟨rfl,hd⟩
 have Hd:=a6 hd
 clear hd
 go_wp2_with fail
 go_ret
 exact⟨b7 (by simp),Hd.o⟩
def eZ:List Int ->List Int ->Nat
 | x::a,y::b=>if x=y then 1+eZ a b else 0
 | [],_=>0
 | _::_, []=>0
theorem FJ:∀a b:List Int,eZ a b <= a.length/\eZ a b <= b.length
 | [],b=>by simp [eZ]
 | _::_, []=>by simp [eZ]
 | x::a,y::b=>by
   have:=FJ a b
   unfold eZ
   split <;> simp <;> omega
theorem b_j {xs ys:List Int} {k:Nat} (h1:k < xs.length) (h2:k < ys.length):eZ (xs.drop k) (ys.drop k)=if xs[k]=ys[k] then 1+eZ (xs.drop (k+1)) (ys.drop (k+1)) else 0:=by
 rw [List.drop_eq_getElem_cons h1,List.drop_eq_getElem_cons h2];rfl
theorem c_3:∀ {a b:List Int},eZ a b=a.length ↔ a <+:b
 | [],b=>by simp [eZ]
 | x::a, []=>by simp [eZ]
 | x::a,y::b=>by
   unfold eZ
   rw [List.cons_prefix_cons, <- c_3 (a:=a) (b:=b)]
   split
   . rename_i h;simp [h];omega
   . rename_i h;simp [h]
def jK (a b:List Int):Bool:=decide (a.length < b.length) && decide (eZ a b=a.length)
theorem h_B (xs ys:List Int) (a a':Option Addr) (cap cap' B:Nat) (w:World) (hr:RowA w B 1 a xs.length cap (xs.map (Value.int .i64))) (hr':RowA w B 1 a' ys.length cap' (ys.map (Value.int .i64))):
 Calls Tryz.prog 193 #[.slice a xs.length cap, .slice a' ys.length cap'] w fun e w'=>e= .returned (.int .i64 (eZ xs ys:Nat))/\mX w w':=by
 obtain⟨z,hz⟩:∃z,z=eZ xs ys:=⟨_,rfl⟩
 rw [<- hz]
 have Hz:=a6 hz
 have H63:=a6 (show xs.length <= 9223372036854775807 from aJ hr.le (by have:=hr.max;unfold maxLen at this;omega))
 have Hle:=a6 (FJ xs ys)
 by_cases hle:xs.length <= ys.length
 . have hlei:(xs.length:Int) <= ys.length:=by omega
   have Hor:=a6 hle
   clear hz
   go_enter Tryz.func193,Tryz.ntmps193
   go_wp2_with fail
   go_loopg [11,5] xs.length (fun g i _ wr=>∃k:Nat,i= .int .i64 k/\k+g=xs.length/\Hid (k+eZ (xs.drop k) (ys.drop k)=z)/\mX w wr)
   case atStart=>exact⟨0,rfl,by omega,(show 0+eZ xs ys=z by rw [Hz.o];omega),⟨0,rfl⟩⟩
   case round=>
    obtain⟨k,rfl,hg,hst,q,rfl⟩:=hrel
    by_cases hlt:k < xs.length
    . have hlti:(k:Int) < xs.length:=by omega
      have hlx:k < xs.length:=by have:=Hor.o;omega
      have hly:k < ys.length:=by have:=Hor.o;omega
      have hlxi:(k:Int) < xs.length:=by omega
      have hlyi:(k:Int) < ys.length:=by omega
      obtain⟨b,off,rfl,hb,hcell0⟩:=hr.int_at k hlx
      have hcell:=hcell0 k hlx
      obtain⟨b',off',rfl,hb',hcell1⟩:=hr'.int_at k hly
      have hcell':=hcell1 k hly
      rw [fJ hlx]at hcell
      rw [fJ hly]at hcell'
      have Hs:=a6 (show k+(if xs[k]=ys[k] then 1+eZ (xs.drop (k+1)) (ys.drop (k+1)) else 0)=z by rw [<- b_j hlx hly];exact hst.o)
      have hw1:IntKind.i64.wrap ((k:Int)+1)=(k:Int)+1:=IntWalk.i64_in _ (by have:=H63.o;omega)
      generalize xs[k]=x at hcell Hs
      generalize ys[k]=y at hcell' Hs
      clear hcell0 hcell1 hst
      by_cases he:x=y
      . have hne:(x != y)=false:=by simp [he]
        have Hs2:=a6 (show (k+1)+eZ (xs.drop (k+1)) (ys.drop (k+1))=z by have h:=Hs.o;rw [if_pos he]at h;omega)
        have He:=a6 he
        clear he Hs
        go_wp2_with fail
        go_quiet (fail)
        go_wp2_with fail
        go_roundg (xs.length - (k+1))
        case measure=>omega
        case rel=>exact⟨k+1,by go_num,by omega,Hs2,by first | exact jX _ _ | exact j6 _ _ _⟩
      . have hne:(x != y)=true:=by simp [he]
        have Hs2:=a6 (show k=z by have h:=Hs.o;rw [if_neg he]at h;omega)
        clear he Hs
        go_wp2_with fail
        go_quiet (fail)
        go_wp2_with fail
        go_ret
        exact⟨cY (by first | (rw [<- Hs2.o];done) | (rw [<- Hs2.o];omega)),by first | exact jX _ _ | exact j6 _ _ _⟩
    . obtain rfl:k=xs.length:=by omega
      have Hs2:=a6 (show xs.length=z by
       have h:=hst.o
       have h2:=FJ (xs.drop xs.length) (ys.drop xs.length)
       rw [List.length_drop,List.length_drop]at h2
       omega)
      clear hst
      go_wp2_with fail
      go_ret
      exact⟨cY (by first | (rw [<- Hs2.o];done) | (rw [<- Hs2.o];omega)),by first | exact jX _ _ | exact j6 _ _ _⟩
 . have hlei:¬ (xs.length:Int) <= ys.length:=by omega
   have Hor:=a6 hle
   clear hz
   go_enter Tryz.func193,Tryz.ntmps193
   go_wp2_with fail
   go_loopg [11,5] ys.length (fun g i _ wr=>∃k:Nat,i= .int .i64 k/\k+g=ys.length/\Hid (k+eZ (xs.drop k) (ys.drop k)=z)/\mX w wr)
   case atStart=>exact⟨0,rfl,by omega,(show 0+eZ xs ys=z by rw [Hz.o];omega),⟨0,rfl⟩⟩
   case round=>
    obtain⟨k,rfl,hg,hst,q,rfl⟩:=hrel
    by_cases hlt:k < ys.length
    . have hlti:(k:Int) < ys.length:=by omega
      have hlx:k < xs.length:=by have:=Hor.o;omega
      have hly:k < ys.length:=by have:=Hor.o;omega
      have hlxi:(k:Int) < xs.length:=by omega
      have hlyi:(k:Int) < ys.length:=by omega
      obtain⟨b,off,rfl,hb,hcell0⟩:=hr.int_at k hlx
      have hcell:=hcell0 k hlx
      obtain⟨b',off',rfl,hb',hcell1⟩:=hr'.int_at k hly
      have hcell':=hcell1 k hly
      rw [fJ hlx]at hcell
      rw [fJ hly]at hcell'
      have Hs:=a6 (show k+(if xs[k]=ys[k] then 1+eZ (xs.drop (k+1)) (ys.drop (k+1)) else 0)=z by rw [<- b_j hlx hly];exact hst.o)
      have hw1:IntKind.i64.wrap ((k:Int)+1)=(k:Int)+1:=IntWalk.i64_in _ (by have:=H63.o;omega)
      generalize xs[k]=x at hcell Hs
      generalize ys[k]=y at hcell' Hs
      clear hcell0 hcell1 hst
      by_cases he:x=y
      . have hne:(x != y)=false:=by simp [he]
        have Hs2:=a6 (show (k+1)+eZ (xs.drop (k+1)) (ys.drop (k+1))=z by have h:=Hs.o;rw [if_pos he]at h;omega)
        have He:=a6 he
        clear he Hs
        go_wp2_with fail
        go_quiet (fail)
        go_wp2_with fail
        go_roundg (ys.length - (k+1))
        case measure=>omega
        case rel=>exact⟨k+1,by go_num,by omega,Hs2,by first | exact jX _ _ | exact j6 _ _ _⟩
      . have hne:(x != y)=true:=by simp [he]
        have Hs2:=a6 (show k=z by have h:=Hs.o;rw [if_neg he]at h;omega)
        clear he Hs
        go_wp2_with fail
        go_quiet (fail)
        go_wp2_with fail
        go_ret
        exact⟨cY (by first | (rw [<- Hs2.o];done) | (rw [<- Hs2.o];omega)),by first | exact jX _ _ | exact j6 _ _ _⟩
    . obtain rfl:k=ys.length:=by omega
      have Hs2:=a6 (show ys.length=z by
       have h:=hst.o
       have h2:=FJ (xs.drop ys.length) (ys.drop ys.length)
       rw [List.length_drop,List.length_drop]at h2
       omega)
      clear hst
      go_wp2_with fail
      go_ret
      exact⟨cY (by first | (rw [<- Hs2.o];done) | (rw [<- Hs2.o];omega)),by first | exact jX _ _ | exact j6 _ _ _⟩
theorem h_C (xs ys:List Int) (a a':Option Addr) (cap cap' B:Nat) (w:World) (hr:RowA w B 1 a xs.length cap (xs.map (Value.int .i64))) (hr':RowA w B 1 a' ys.length cap' (ys.map (Value.int .i64))):
 Calls Tryz.prog 136 #[.slice a xs.length cap, .slice a' ys.length cap'] w fun e w'=>e= .returned (.bool (jK xs ys))/\mX w w':=by
 have HC:=a6 (h_B xs ys a a' cap cap' B w hr hr')
 clear hr hr'
 unfold jK
 by_cases hlt:xs.length < ys.length
 . have hlti:(xs.length:Int) < ys.length:=by omega
   obtain⟨z,hz⟩:∃z,z=eZ xs ys:=⟨_,rfl⟩
   rw [<- hz]at HC⊢
   have Hlt:=a6 (decide_eq_true hlt)
   have hbe:((z:Int) == (xs.length:Int))=decide (z=xs.length):=by
    by_cases h:z=xs.length
    . subst h;simp
    . rw [decide_eq_false h];simp;omega
   clear hz hlt
   go_enter Tryz.func136,Tryz.ntmps136
   go_wp2_with fail
   refine HC.o.mono ?_
   rintro e w1 ⟨rfl,hd⟩
   have Hd:=a6 hd
   clear hd
   go_wp2_with fail
   go_ret
   exact⟨b7 (by rw [Hlt.o];simp),Hd.o⟩
 . have hlti:¬ (xs.length:Int) < ys.length:=by omega
   have Hlt:=a6 (decide_eq_false hlt)
   clear hlt HC
   go_enter Tryz.func136,Tryz.ntmps136
   go_wp2_with fail
   go_ret
   exact⟨b7 (by rw [Hlt.o];simp),⟨0,rfl⟩⟩
theorem At.setCells {b:Nat} {T:TypeId}:∀ (vs:List Value) (o:Nat) (w:World) (cs:List Value),At w b cs T ->∃cs',cs'.length=cs.length/\cs'.take o=cs.take o/\At (w.setCells b o vs) b cs' T
 | [],o,w,cs,h=>⟨cs,rfl,rfl,h⟩
 | v::vs,o,w,cs,h=>by
   obtain⟨cs',h1,h2,h3⟩:=At.setCells vs (o+1) (w.setCell ⟨b,o,none⟩ v) (cs.set o v) (h.set o v)
   refine⟨cs',by rw [h1,List.length_set], ?_,h3⟩
   have h4:=congrArg (List.take o) h2
   rw [List.take_take,List.take_take,Nat.min_eq_left (by omega)]at h4
   rw [h4,List.take_set_of_le (a8)]
theorem _root_.Go.World.grownBy.setCells {w0:World} {b:Nat}:∀ (vs:List Value) (o:Nat) (w:World),w0.grownBy w (some b) ->w0.grownBy (w.setCells b o vs) (some b)
 | [],o,w,h=>h
 | v::vs,o,w,h=>World.grownBy.setCells vs (o+1) _ (h.set o v)
theorem jJ.cut {w:World} {M L b cap i n:Nat} {zs:List PX} {tl:List Value} (hM:M <= b) (hA:At w b (zs.map D5 ++ tl) 36) (hl:zs.length+tl.length=cap) (hm:cap <= maxLen) (hi:i <= zs.length) (hq:∀x∈zs,PxQ w (fun k=>L <= k/\k≠b) x) (vs:List Value):
 jJ (w.setCells b i vs) M L (.slice (some ⟨b,0,none⟩) (zs.take i).length cap) (zs.take i):=by
 obtain⟨cs',h1,h2,h3⟩:=hA.setCells vs i
 have h4:cs'=(zs.take i).map D5 ++ cs'.drop i:=by
  have h5:=List.take_append_drop i cs'
  rw [h2,List.take_append_of_le_length (by simpa using hi), <- List.map_take]at h5
  exact h5.symm
 rw [h4]at h3
 refine jJ.shut hM h3 ?_ hm fun x hx=>(hq x (List.mem_of_mem_take hx)).grown ((World.grownBy.refl w _).setCells vs i w)
 simp at h1⊢
 omega
theorem e_S (n:Nat) (a:Option Addr) (cap cb:Nat) (caps:Array Value) (pred:Nat ->Bool) (W:World) (hn:n <= 100000000) (hcb:∀args w,(callFunc cb args).run Tryz.prog w= .ok (.enter cb args) w)
 (H:∀ (k:Nat) (W':World),k < n ->Below W.heap.size W W' ->∃b off c0,a=some ⟨b,off,none⟩/\W'.cell? ⟨b,off+k,none⟩=some c0/\Calls Tryz.prog cb (#[c0] ++ caps) W' fun e w'=>e= .returned (.bool (pred k))/\Below W'.heap.size W' w'):
 Calls Tryz.prog 192 #[.slice a n cap, .func (.func cb) #[] caps] W fun e w'=>e= .returned (.int .i64 (rX pred n))/\Below W.heap.size W w':=by
 have HH:=a6 H
 clear H
 go_enter Tryz.func192,Tryz.ntmps192
 go_wp2_with fail
 go_loopg [8] n (fun g i wr=>∃k:Nat,k+g=n/\i= .int .i64 k/\(∀j,j < k ->pred j=false)/\Below W.heap.size W wr)
 case atStart=>exact⟨0,by omega,rfl,by intro j hj;omega,a7⟩
 case round=>
  obtain⟨k,hg,rfl,hb,hbr⟩:=hrel
  have Hbr:=a6 hbr;have Hb:=a6 hb
  by_cases hlt:k < n
  . obtain ⟨b,off,c0,rfl,h0,hC⟩:=HH.o k wr hlt hbr
    have hlti:(k:Int) < n:=by omega
    clear hb hbr HH
    cases hp:pred k with
    | true=>
      rw [hp]at hC
      have HC:=a6 hC
      have Hr:=a6 (qQ hlt hp Hb.o)
      clear hC hp
      go_wp2_with fail
      refine HC.o.mono ?_
      rintro e w1 ⟨rfl,hbel⟩
      have Hb1:=a6 (Hbr.o.trans (hbel.mono Hbr.o.size))
      clear hbel HC
      go_wp2_with fail
      go_ret
      exact⟨cY Hr.o.symm,Hb1.o⟩
    | false=>
      rw [hp]at hC
      have HC:=a6 hC
      have Hr:=a6 (show ∀j,j < k+1 ->pred j=false from fun j hj=>by
       rcases Nat.lt_or_ge j k with h | h
       . exact Hb.o j h
       . obtain rfl:j=k:=by omega
         exact hp)
      clear hC hp
      go_wp2_with fail
      refine HC.o.mono ?_
      rintro e w1 ⟨rfl,hbel⟩
      have Hb1:=a6 (Hbr.o.trans (hbel.mono Hbr.o.size))
      clear hbel HC
      go_wp2_with fail
      go_roundg (gk - 1)
      case measure=>omega
      case rel=>exact⟨k+1,by omega,by go_num,Hr.o,Hb1.o⟩
  . obtain rfl:k=n:=by omega
    have Hr:=a6 (oX hb)
    clear hb hbr HH
    go_wp2_with fail
    go_ret
    exact⟨cY Hr.o.symm,Hbr.o⟩
abbrev px0:PX:=([],none,0)
theorem GJ {xs:List PX} {k:Nat} (hk:k < xs.length):xs.getD k px0=xs[k]:=by simp [List.getD,List.getElem?_eq_getElem hk]
theorem tY {w:World} {b:Nat} {xs:List PX} {tl:List Value} {T:TypeId} (h:At w b (xs.map D5 ++ tl) T) (k:Nat) (hk:k < xs.length):w.cell? ⟨b,k,none⟩=some (D5 xs[k]):=
 h.cell k (by rw [List.getElem?_append_left (by simpa using hk)];simp [List.getElem?_eq_getElem hk])
def n_t (W:World) (M L:Nat) (v:Value) (l:List PX) (e:Ending) (w':World):Prop:=
 ∃v',e= .returned v'/\jJ w' M L v' l/\(∀k,v'.ownBlock=some k ->v.ownBlock=some k)/\W.grownBy w' v.ownBlock
theorem j_v (g:Nat) (lb:Array Value) (p:PX ->Bool) (M L:Nat) (v:Value) (xs:List PX) (W:World) (hg:∀args w,(callFunc g args).run Tryz.prog w= .ok (.enter g args) w) (hx:jJ W M L v xs) (hn:xs.length <= 100000000)
 (hp:∀x∈xs,∀W',W.grownBy W' v.ownBlock ->Calls Tryz.prog g (#[D5 x] ++ lb) W' fun e w'=>e= .returned (.bool (p x))/\Below W'.heap.size W' w'):
 Calls Tryz.prog 134 #[v, .func (.func g) #[] lb] W (n_t W M L v (xs.filter fun x=> !p x)):=by
 rcases hx.open with⟨rfl,rfl⟩ | ⟨b,cap,tl,rfl,hMb,hA,hcl,hcm⟩
 . have HI:=a6 (e_S 0 none 0 g lb (fun _=>false) W (by omega) hg (fun k W' hk=>by omega))
   rw [show rX (fun _=>false) 0= -1 by rfl]at HI
   clear hp hx hn hg
   go_enter Tryz.func134,Tryz.ntmps134
   go_wp2_with fail
   refine HI.o.mono ?_
   rintro e w1 ⟨rfl,hbel⟩
   have Hb:=a6 hbel
   clear hbel HI
   go_wp2_with fail
   go_ret
   exact⟨_,rfl,jJ.nil _ _ _,fun k hk=>hk,cZ Hb.o⟩
 . have hq0:∀x∈xs,PxQ W (fun k=>L <= k/\k≠b) x:=fun x hx'=>A8 (hx.all x hx') fun k hk=>⟨hk.1,fun e=>hk.2 (by rw [e];rfl)⟩
   have hown:(Value.slice (some ⟨b,0,none⟩) xs.length cap).ownBlock=some b:=rfl
   rw [hown]at hp
   have HI:=a6 (e_S xs.length (some ⟨b,0,none⟩) cap g lb (fun k=>p (xs.getD k px0)) W hn hg (fun k W' hk hb=>by
    refine⟨b,0,D5 xs[k],rfl, ?_, ?_⟩
    . rw [Nat.zero_add];exact tY (hA.kept hb) k hk
    . rw [GJ hk];exact hp _ (List.getElem_mem hk) W' (cZ hb)))
   have HA:=a6 hA;have Hq0:=a6 hq0;have HP:=a6 hp
   rcases kQ (fun k=>p (xs.getD k px0)) xs.length with⟨k0,hk0,ht,hb,he⟩ | ⟨hb,he⟩
   . rw [he]at HI
     have hpk:p xs[k0]=true:=by have h:=ht;simp only [GJ hk0]at h;exact h
     have hstart:=a6 (show xs.take k0=(xs.take (k0+1)).filter (fun x=> !p x)by
      rw [List.take_succ_eq_append_getElem hk0,List.filter_append,List.filter_cons_of_neg (by simp [hpk]),List.filter_nil,List.append_nil]
      refine(List.filter_eq_self.2 fun x hx'=> ?_).symm
      obtain⟨k,hk,rfl⟩:=List.mem_iff_getElem.1 hx'
      have hk':k < k0:=by simp at hk;omega
      have:=hb k hk'
      rw [GJ (by omega)]at this
      simp [this])
     have hne1:((k0:Int) == -1)=false:=beq_eq_false_iff_ne.2 (by omega)
     clear hp hx hb he hA hq0 hown ht hpk
     go_enter Tryz.func134,Tryz.ntmps134
     go_wp2_with fail
     refine HI.o.mono ?_
     rintro e w1 ⟨rfl,hbel⟩
     have HA1:=a6 (HA.o.kept hbel)
     have HG1:=a6 (cZ (r:=some b) hbel)
     clear hbel HI
     go_wp2_with fail
     go_loopg [5,6,7] xs.length (fun gg s5 s6 _ wr=>∃ (i j:Nat) (zs:List PX),s5= .int .i64 i/\s6= .int .i64 j/\zs.length=xs.length/\i < j/\j <= xs.length/\xs.length - j <= gg/\Hid (zs.take i=(xs.take j).filter (fun x=> !p x))/\Hid (zs.drop j=xs.drop j)/\Hid (∀z∈zs,z∈xs)/\Hid (At wr b (zs.map D5 ++ tl) 36)/\Hid (W.grownBy wr (some b)))
     case atStart=>exact⟨k0,k0+1,xs,rfl,by go_num,rfl,by omega,by omega,by omega,hstart,rfl,fun z hz=>hz,HA1,HG1⟩
     case round=>
      obtain⟨i,j,zs,rfl,rfl,hzl,hij,hjn,hgg,hdone,hrest,hmem,hAt,hgr⟩:=hrel
      by_cases hlt:j < xs.length
      . have hlti:(j:Int) < (xs.length:Int):=by omega
        have hiti:(i:Int) < (xs.length:Int):=by omega
        have hzj:zs[j]=xs[j]:=by
         have h:=hrest.o
         rw [List.drop_eq_getElem_cons hlt,List.drop_eq_getElem_cons (by omega)]at h
         exact(List.cons.inj h).1
        have cj:=tY hAt.o j (by omega)
        have ci:=tY hAt.o i (by omega)
        have cf:wr.frozen? ⟨b,i,none⟩=false:=Lib.frozen_of_heap hAt.o _
        rw [hzj]at cj
        have hC:=HP.o xs[j] (List.getElem_mem hlt) wr hgr.o
        have Hxj:=a6 (show xs[j]∈xs from List.getElem_mem hlt)
        have Hst:=a6 (show xs.take (j+1)=xs.take j ++ [xs[j]]from List.take_succ_eq_append_getElem hlt)
        have hcl1:(D5 xs[j]).cells= #[D5 xs[j]]:=rfl
        have Hbw:=a6 (At.lt hAt.o)
        generalize xs[j]=u at cj hC hzj Hxj Hst
        generalize zs[i]=old at ci
        obtain⟨zu,za,zc⟩:=u
        cases hq:p (zu,za,zc)with
        | false=>
          rw [hq]at hC
          have HC:=a6 hC;have HQ:=a6 hq
          unfold D5 at cj HC
          clear hC hq hzj ci cf
          go_wp2_with fail
          refine HC.o.mono ?_
          rintro e w2 ⟨rfl,hbel⟩
          have HA2:=a6 (hAt.o.kept hbel);have HG2:=a6 (hgr.o.then hbel)
          have ci:=tY HA2.o i (by omega)
          have cf:w2.frozen? ⟨b,i,none⟩=false:=Lib.frozen_of_heap HA2.o _
          have hi2:i < zs.length:=by omega
          generalize zs[i]=old at ci
          clear hbel HC cj
          go_wp2_with fail
          go_roundg (xs.length - (j+1))
          case measure=>omega
          case rel=>
           refine⟨i+1,j+1,zs.set i (zu,za,zc),by go_num,by go_num,by rw [List.length_set];exact hzl,by omega,by omega,a8, ?_, ?_, ?_, ?_,HG2.o.set i _⟩
           . show (zs.set i (zu,za,zc)).take (i+1)=(xs.take (j+1)).filter (fun x=> !p x)
             rw [Hst.o,List.filter_append,List.filter_cons_of_pos (by simp [HQ.o]),List.filter_nil, <- hdone.o,List.take_set,List.take_succ_eq_append_getElem hi2,List.set_append_right _ _ (by simp;omega)]
             simp [Nat.min_eq_left (Nat.le_of_lt hi2)]
           . show (zs.set i (zu,za,zc)).drop (j+1)=xs.drop (j+1)
             rw [List.drop_set_of_lt (by omega), <- List.drop_drop, <- List.drop_drop,hrest.o]
           . intro z hz
             rcases List.mem_or_eq_of_mem_set hz with h | h
             . exact hmem.o z h
             . rw [h];exact Hxj.o
           . show At _ b ((zs.set i (zu,za,zc)).map D5 ++ tl) 36
             have h:=HA2.o.set i (D5 (zu,za,zc))
             rw [List.set_append_left _ _ (by simpa using hi2), <- List.map_set]at h
             exact h
        | true=>
          rw [hq]at hC
          have HC:=a6 hC;have HQ:=a6 hq
          unfold D5 at cj HC
          clear hC hq ci cf hzj
          go_wp2_with fail
          refine HC.o.mono ?_
          rintro e w2 ⟨rfl,hbel⟩
          have HA2:=a6 (hAt.o.kept hbel);have HG2:=a6 (hgr.o.then hbel)
          clear hbel HC cj
          go_wp2_with fail
          go_roundg (xs.length - (j+1))
          case measure=>omega
          case rel=>
           refine⟨i,j+1,zs,rfl,by go_num,hzl,by omega,by omega,a8, ?_, ?_,hmem,HA2,HG2⟩
           . show zs.take i=(xs.take (j+1)).filter (fun x=> !p x)
             rw [Hst.o,List.filter_append,List.filter_cons_of_neg (by simp [HQ.o]),List.filter_nil,List.append_nil]
             exact hdone.o
           . show zs.drop (j+1)=xs.drop (j+1)
             rw [<- List.drop_drop, <- List.drop_drop,hrest.o]
      . obtain rfl:j=xs.length:=by omega
        have hltz:¬ (xs.length:Int) < (xs.length:Int):=by omega
        have hiti:(i:Int) <= (xs.length:Int):=by omega
        have hcl:=fun ty=>Lib.run_clear_slice (P:=Tryz.prog) wr 47 36 ty (.slice none 0 0) Tryz.underlying47 (fun w=>by kernel_rfl) rfl rfl b (0+i) (xs.length - i) (cap - i) (by omega) (fun k hk=>by
         have:=tY hAt.o (i+k) (by omega)
         rw [Nat.zero_add,this];rfl) (fun k hk=>Lib.frozen_of_heap hAt.o _)
        rw [Nat.zero_add]at hcl
        have Hcut:=a6 (jJ.cut (i:=i) (n:=xs.length) hMb hAt.o (by omega) hcm (by omega) (fun x hx'=>(Hq0.o x (hmem.o x hx')).grown hgr.o))
        have Hgs:=a6 (fun vs=>World.grownBy.setCells vs i wr hgr.o)
        have Hfin:=a6 (show zs.take i=xs.filter (fun x=> !p x)by have:=hdone.o;rwa [List.take_length]at this)
        have Hlen:Hid ((zs.take i).length=i):=by show _=_;simp;omega
        obtain⟨vs,hvs⟩:∃vs,vs=List.replicate (xs.length - i) (Value.slice none 0 0):=⟨_,rfl⟩
        rw [<- hvs]at hcl
        clear hAt hgr hvs
        go_wp2_with fail
        go_ret
        rw [<- Hfin.o]
        refine⟨.slice (some ⟨b,0,none⟩) (zs.take i).length cap,by rw [Hlen.o];rfl,Hcut.o vs,fun k hk=>hk,Hgs.o vs⟩
   . rw [he]at HI
     have Hf:=a6 (show xs.filter (fun x=> !p x)=xs from List.filter_eq_self.2 fun x hx'=>by
      obtain⟨k,hk,rfl⟩:=List.mem_iff_getElem.1 hx'
      have:=hb k hk
      rw [GJ hk]at this
      simp [this])
     have Hx:=a6 hx
     clear hp hx hg hb he hA hq0 hown HP
     go_enter Tryz.func134,Tryz.ntmps134
     go_wp2_with fail
     refine HI.o.mono ?_
     rintro e w1 ⟨rfl,hbel⟩
     have Hb:=a6 hbel
     clear hbel HI
     go_wp2_with fail
     go_ret
     rw [Hf.o]
     exact⟨_,rfl,Hx.o.below Hb.o,fun k hk=>hk,cZ Hb.o⟩
theorem M8 {P:Program} {ops:Array Oper} {o:Oper} {a:Act} {w:World} {K:Act ->World ->Prop} {Q:Exit ->Act ->World ->Prop} {E:Prop}
 (hg:o.guard=none) (f:FuncId) (s:Operand) (caps:Array Value) (args:Array Operand) (tys:Array TypeId) (ho:o.op= .call { callee:= .value s,args:=args,argTypes:=tys }) (hs:a.eval s= .func (.func f) #[] caps)
 (he:∀args w,(callFunc f args).run P w= .ok (.enter f args) w) (vals:List Value) (hv:args.toList.map a.eval=vals) (R:Ending ->World ->Prop) (hC:Calls P f (vals.toArray ++ caps) w R)
 (h:∀e w',R e w' ->∃v,e= .returned v/\K (a.put o.dst v) w'):if Region.wanted o (yielded ops a.tmps)=true then Oper.wp P o a w K Q else E:=by
 have hw:Region.wanted o (yielded ops a.tmps)=true:=by simp [Region.wanted,hg]
 rw [if_pos hw]
 unfold Oper.wp
 have hv':args.map a.eval=vals.toArray:=by rw [<- hv];apply Array.ext';simp
 have hr:(execOp a.eval o).run P w= .ok (.enter f (vals.toArray ++ caps)) w:=by
  simp [execOp,ho,resolve,invoke,hs,Deferred.ofValue,hv',he]
 rw [hr]
 show Calls P f (vals.toArray ++ caps) w _
 refine hC.mono fun e w' hR=> ?_
 obtain⟨v,rfl,hk⟩:=h e w' hR
 exact hk
theorem a_j:(Tryz.prog.info? 36).map (fun i=>(i.zero,i.size,i.bytes))=some (some (.slice none 0 0),1,24):=by kernel_rfl
theorem g_g:∀args w,(callFunc 204 args).run Tryz.prog w= .ok (.enter 204 args) w:=by intro args w;kernel_rfl
theorem e_T:∀args w,(callFunc 119 args).run Tryz.prog w= .ok (.enter 119 args) w:=by intro args w;kernel_rfl
def j_w (B cb:Nat) (caps:Array Value) (want:aK ->Bool) (M:Nat):Prop:=
 ∀ (n:aK) (v:Value) (W:World),n.wt <= M ->bY W B n v ->B <= W.heap.size ->Calls Tryz.prog cb (#[v] ++ caps) W fun e w'=>e= .returned (.bool (want n))/\Below W.heap.size W w'
structure pX (W:World) (tb ob eb cb:Nat) (caps:Array Value) (M:Nat) (l:List (List Int)) (ov:Value) (cs:List Value):Prop where
 t:W.heap[tb]? =some (Obj.cells #[.func (.func cb) #[] caps] 94 (0,0))
 e:W.heap[eb]? =some (Obj.cells #[.func (.func 204) #[] #[.pointer (some ⟨tb,0,none⟩), .pointer (some ⟨ob,0,none⟩), .pointer (some ⟨eb,0,none⟩)]] 231 (0,0))
 o:W.heap[ob]? =some (Obj.cells #[ov] 47 (0,0))
 own:W.ownsRow M 36 1 ov l.length cs
 rows:oY W (fun b=>M <= b/\ov.ownBlock≠some b) l cs
 lt:tb < M/\ob < M/\eb < M/\tb≠ob/\eb≠ob
theorem pX.below {W W':World} {tb ob eb cb M:Nat} {caps:Array Value} {l:List (List Int)} {ov:Value} {cs:List Value} (h:pX W tb ob eb cb caps M l ov cs) (hb:Below W.heap.size W W'):pX W' tb ob eb cb caps M l ov cs:=
 ⟨by rw [hb.block _ (Array.getElem?_eq_some_iff.1 h.t).1];exact h.t,by rw [hb.block _ (Array.getElem?_eq_some_iff.1 h.e).1];exact h.e,by rw [hb.block _ (Array.getElem?_eq_some_iff.1 h.o).1];exact h.o,
  j4 h.own hb,h.rows.keep hb.size (fun b _ hlt=>hb.block b hlt) (fun _ hb _=>hb),h.lt⟩
theorem pX.cells {W:World} {tb ob eb cb M:Nat} {caps:Array Value} {l:List (List Int)} {ov:Value} {cs:List Value} (h:pX W tb ob eb cb caps M l ov cs):
 W.cell? ⟨tb,0,none⟩=some (.func (.func cb) #[] caps)/\W.cell? ⟨eb,0,none⟩=some (.func (.func 204) #[] #[.pointer (some ⟨tb,0,none⟩), .pointer (some ⟨ob,0,none⟩), .pointer (some ⟨eb,0,none⟩)])/\
  W.cell? ⟨ob,0,none⟩=some ov/\W.frozen? ⟨ob,0,none⟩=false/\tb < W.heap.size/\ob < W.heap.size/\eb < W.heap.size:=
 ⟨by rw [cell_of_row _ _ _ _ _ _ h.t];rfl,by rw [cell_of_row _ _ _ _ _ _ h.e];rfl,by rw [cell_of_row _ _ _ _ _ _ h.o];rfl,Lib.frozen_of_heap h.o _,(Array.getElem?_eq_some_iff.1 h.t).1,(Array.getElem?_eq_some_iff.1 h.o).1,(Array.getElem?_eq_some_iff.1 h.e).1⟩
theorem pX.notOwn {W:World} {tb ob eb cb M:Nat} {caps:Array Value} {l:List (List Int)} {ov:Value} {cs:List Value} (h:pX W tb ob eb cb caps M l ov cs) {b:Nat} (hb:b < M∨W.heap.size <= b):ov.ownBlock≠some b:=by
 intro e;have:=h.own.lt b e;omega
theorem pX.push {w1 w2 w3:World} {tb ob eb cb M:Nat} {caps:Array Value} {l:List (List Int)} {ov v':Value} {cs:List Value} {zs:List Int} {pa:Option Addr} {pc:Nat} {o:Obj}
 (h:pX w1 tb ob eb cb caps M l ov cs) (hM:M <= w1.heap.size) (h1:Below w1.heap.size w1 w2) (hr:RowQ w2 (fun b=>w1.heap.size <= b) 1 pa zs.length pc (zs.map (Value.int .i64)))
 (hg:(w2.alloc o).grownBy w3 ov.ownBlock) (hown:w3.ownsRow M 36 1 v' (l.length+1) (cs ++ [.slice pa zs.length pc])) (hw:v'.ownBlock=ov.ownBlock∨ ∀k,v'.ownBlock=some k ->(w2.alloc o).heap.size <= k):
 pX (w3.setCell ⟨ob,0,none⟩ v') tb ob eb cb caps M (l ++ [zs]) v' (cs ++ [.slice pa zs.length pc])/\F8 ob ov v' w1 (w3.setCell ⟨ob,0,none⟩ v'):=by
 have s1:=h1.size
 have hb2:=(Below.refl w2.heap.size w2).alloc (a8) o
 have s2:=hb2.size;have s3:=hg.size
 obtain⟨l1,l2,l3,n1,n2⟩:=h.lt
 have hblk:∀b,b < w1.heap.size ->ov.ownBlock≠some b ->w3.heap[b]? =w1.heap[b]? :=fun b hb hne=>by
  rw [hg.block b (by omega) (fun e=>hne e.symm),hb2.block b (by omega),h1.block b hb]
 have hset:∀b,b≠ob ->(w3.setCell ⟨ob,0,none⟩ v').heap[b]? =w3.heap[b]? :=fun b hb=>Below.heap_setCell _ ⟨ob,0,none⟩ _ b hb
 have ho3:w3.heap[ob]? =some (Obj.cells #[ov] 47 (0,0)):=by rw [hblk ob (by omega) (h.notOwn (.inl l2))];exact h.o
 have hst1:=h_Y h.own h1 hb2 hg hw
 have hst2:=j_b h.own hM hb2 hg hw
 have hne:∀b,M <= b ->b≠ob:=fun b hb=>by omega
 refine⟨⟨?_, ?_, ?_, ?_, ?_,h.lt⟩,⟨?_, ?_, ?_, ?_,fun b hb hne hv=> ?_, ?_⟩⟩
 . rw [hset tb n1,hblk tb (by omega) (h.notOwn (.inl l1))];exact h.t
 . rw [hset eb n2,hblk eb (by omega) (h.notOwn (.inl l3))];exact h.e
 . exact Lib.heap_setCell_same (i:=0) ho3 _
 . rw [List.length_append]
   exact ownsRow_setCell_below (a:=⟨ob,0,none⟩) hown l2 _
 . have hq:oY w3 (fun b=>M <= b/\v'.ownBlock≠some b) (l ++ [zs]) (cs ++ [.slice pa zs.length pc]):=oY.snoc (hr.stay hst2) (h.rows.stay hst1)
   exact hq.keep (by simp [World.setCell]) (fun b hb _=>hset b (hne b hb.1)) (fun b hb _=>hb)
 . show w3.os=_;rw [hg.os,hb2.os,h1.os]
 . show w3.tape=_;rw [hg.tape,hb2.tape,h1.tape]
 . show w3.output=_;rw [hg.output,hb2.output,h1.output]
 . simp [World.setCell];omega
 . rw [hset b hne];exact hblk b hb hv
 . rcases hw with e | e
   . exact .inl e
   . exact .inr fun k hk=>by have:=e k hk;omega
def j_x (tb ob eb cb:Nat) (caps:Array Value) (M:Nat) (ov:Value) (W:World) (l':List (List Int)) (e:Ending) (w':World):Prop:=
 e= .returned (.tuple #[])/\∃ov' cs',pX w' tb ob eb cb caps M l' ov' cs'/\F8 ob ov ov' W w'
theorem e_U {want:aK ->Bool} {ks:List aK} {k:Nat} {p:List Int} (h:k < ks.length):qY want (ks.drop k) k p=qX want ks[k] (p ++ [(k:Int)]) ++ qY want (ks.drop (k+1)) (k+1) p:=by
 conv=>lhs;rw [List.drop_eq_getElem_cons h]
 simp only [qY]
mutual
theorem C8 (want:aK ->Bool):∀ (n:aK) (p:List Int),(qX want n p).length <= n.wt
 | .mk l ps t ks,p=>by
   unfold qX
   have:=c_4 want ks 0 p
   simp only [List.length_append,aK.wt]
   split <;> simp <;> omega
theorem c_4 (want:aK ->Bool):∀ (ks:List aK) (i:Nat) (p:List Int),(qY want ks i p).length <= dX ks
 | [],i,p=>by unfold qY;simp
 | k::ks,i,p=>by
   unfold qY
   have h1:=C8 want k (p ++ [(i:Int)])
   have h2:=c_4 want ks (i+1) p
   simp only [List.length_append,dX]
   omega
end
end Go.Proofs.YtmadpclcmjahoaaGreatDoor
