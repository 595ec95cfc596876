/- Parts of the proof: 11. -/
import Derived.Test.YtmadpclcmjahoaaGreatDoorFN1
import Derived.Test.YtmadpclcmjahoaaGreatDoorFN10
import Derived.Test.YtmadpclcmjahoaaGreatDoorFN8
import Derived.BigQuiet
import Derived.Test.YtmadpclcmjahoaaGreatDoorFN6
import Derived.Test.YtmadpclcmjahoaaGreatDoorFN4
import Derived.Deep.RegionHeld3
import Derived.Test.YtmadpclcmjahoaaGreatDoorFN5
import Derived.Deep.LoopGhost
import Derived.Deep.QuietTactic
import Derived.Deep.DeepCutAuto
set_option linter.unusedVariables false
set_option linter.unusedSimpArgs false
set_option maxHeartbeats 8000000
set_option maxRecDepth 100000
namespace Go.Proofs.YtmadpclcmjahoaaGreatDoor
open Go.RowKit Go.Redl
def sX (p:List Int) (d:Int):List Int×Int:=if p= [] then ([],6) else if (0 < d/\iJ p=9223372036854775807)∨ (d < 0/\iJ p <= 0) then ([],8) else (p.dropLast ++ [iJ p+d],0)
def e_f (W:World) (r:List Int×Int) (e:Ending) (w':World):Prop:=
 Below W.heap.size W w'/\∃v,e= .returned (.tuple #[v, .int .i64 r.2])/\w'.ownsRow W.heap.size 3 1 v r.1.length (r.1.map (Value.int .i64))
theorem j_W (p:List Int) (d:Int) (a:Option Addr) (c:Nat) (B:Nat) (W:World) (hr:RowA W B 1 a p.length c (p.map (Value.int .i64))) (hB:B <= W.heap.size) (hn:p.length <= 1000000) (hd:d=1∨d= -1) (hw:∀z∈p, -9223372036854775807 <= z/\z <= 9223372036854775807):
 Calls Tryz.prog 191 #[.slice a p.length c, .int .i64 d] W (e_f W (sX p d)):=by
 rcases List.eq_nil_or_concat p with rfl | ⟨q,i,rfl⟩
 . have hb:sX [] d=([],6):=rfl
   rw [hb]
   clear hr hb
   go_enter Tryz.func191,Tryz.ntmps191
   go_wp2_with fail
   go_ret2
   exact⟨a7,_,rfl,World.ownsRow_nil _ _ _ _⟩
 . rw [List.concat_eq_append]at *
   have hiw:=hw i (by simp)
   have hbs:sX (q ++ [i]) d=if (0 < d/\i=9223372036854775807)∨ (d < 0/\i <= 0) then ([],8) else (q ++ [i+d],0):=by
    unfold sX;rw [if_neg (by simp),vV,m9]
   have HBS:=a6 hbs
   generalize sX (q ++ [i]) d=R at HBS⊢
   have HC:=a6 (qV B (q ++ [i]).length a c _ W hr hB (by omega))
   have hl:(q ++ [i]).length=q.length+1:=by simp
   have hq:q.length <= 1000000:=by omega
   rw [hl]at HC⊢
   have h1:((q.length:Int)+1) - 1=(q.length:Int):=by omega
   clear hr hw hbs hl hn
   go_enter Tryz.func191,Tryz.ntmps191
   go_wp2_with fail
   refine HC.o.mono ?_
   rintro e w1 ⟨v,rfl,hown,hbel⟩
   obtain⟨a',c',rfl, -⟩:=cK hown (by intro u hu;obtain⟨z, -,rfl⟩:=List.mem_map.1 hu;rfl)
   obtain⟨g,rfl,hg⟩:=A6 hown (by simp)
   have hcell:=pV hown q.length (.int .i64 i) (by simp)
   have hfz:=hown.frozenAt q.length
   have hle:q.length+1 <= c':=by
    rcases hown.2 with⟨h,_⟩ | ⟨g',cap,cur,h,_,_,h2,_⟩
    . cases h
    . injection h with _ _ h;omega
   have Hown:=a6 hown;have Hbel:=a6 hbel
   clear HC hown hbel
   have hset:∀z:Int,((q ++ [i]).map (Value.int .i64)).set q.length (.int .i64 z)=(q ++ [z]).map (Value.int .i64):=fun z=>by
    rw [List.map_append,List.set_append_right _ _ (by simp)];simp
   have Hset:=a6 hset
   clear hset
   rcases hd with rfl | rfl
   . by_cases hm:i=9223372036854775807
     . have hR:R=([],8):=by rw [HBS.o,if_pos (.inl ⟨by decide,hm⟩)]
       subst hR
       have hb1:(i == 9223372036854775807)=true:=by simpa using hm
       go_wp2_with fail
       go_ret2
       exact⟨Hbel.o,_,rfl,World.ownsRow_nil _ _ _ _⟩
     . have hR:R=(q ++ [i+1],0):=by rw [HBS.o,if_neg (by omega)]
       subst hR
       have hb1:(i == 9223372036854775807)=false:=by simpa using hm
       have hw1:IntKind.i64.wrap (i+1)=i+1:=by rw [IntKind.wrap_i64];omega
       go_wp2_with fail
       go_ret2
       have h:=(Hown.o.stored q.length (.int .i64 (i+1))).1
       rw [Hset.o]at h
       refine⟨Hbel.o.setCell (p:=⟨g,q.length,none⟩) hg _,_,rfl, ?_⟩
       rw [List.length_append,List.length_singleton]
       exact h
   . by_cases hm:i <= 0
     . have hR:R=([],8):=by rw [HBS.o,if_pos (.inr ⟨by decide,hm⟩)]
       subst hR
       have hb1:decide (i <= 0)=true:=by simpa using hm
       go_wp2_with fail
       go_ret2
       exact⟨Hbel.o,_,rfl,World.ownsRow_nil _ _ _ _⟩
     . have hR:R=(q ++ [i+ -1],0):=by rw [HBS.o,if_neg (by omega)]
       subst hR
       have hb1:decide (i <= 0)=false:=by simpa using hm
       have hw1:IntKind.i64.wrap (i+ -1)=i+ -1:=by rw [IntKind.wrap_i64];omega
       go_wp2_with fail
       go_ret2
       have h:=(Hown.o.stored q.length (.int .i64 (i+ -1))).1
       rw [Hset.o]at h
       refine⟨Hbel.o.setCell (p:=⟨g,q.length,none⟩) hg _,_,rfl, ?_⟩
       rw [List.length_append,List.length_singleton]
       exact h
theorem g_A (p:List Int) (a:Option Addr) (c:Nat) (B:Nat) (W:World) (hr:RowA W B 1 a p.length c (p.map (Value.int .i64))) (hB:B <= W.heap.size) (hn:p.length <= 1000000) (hw:∀z∈p, -9223372036854775807 <= z/\z <= 9223372036854775807):
 Calls Tryz.prog 131 #[.slice a p.length c] W (e_f W (sX p (-1))):=by
 have HC:=a6 (j_W p (-1) a c B W hr hB hn (.inr rfl) hw)
 generalize sX p (-1)=R at HC⊢
 obtain⟨R1,R2⟩:=R
 clear hr hw
 go_enter Tryz.func131,Tryz.ntmps131
 go_wp2_with fail
 refine HC.o.mono ?_
 rintro e w1 ⟨hb,v,rfl,ho⟩
 have Hb:=a6 hb;have Ho:=a6 ho
 clear HC hb ho
 go_wp2_with fail
 go_ret2
 exact⟨Hb.o,_,rfl,Ho.o⟩
def E2 (p:List Int):List Int×Int:=if p= [] then ([],6) else (p.dropLast,0)
theorem f_a (p:List Int) (a:Option Addr) (c:Nat) (B:Nat) (W:World) (hr:RowA W B 1 a p.length c (p.map (Value.int .i64))) (hB:B <= W.heap.size) (hn:p.length <= 1000000):
 Calls Tryz.prog 129 #[.slice a p.length c] W (e_f W (E2 p)):=by
 rcases List.eq_nil_or_concat p with rfl | ⟨q,i,rfl⟩
 . have hb:E2 []=([],6):=rfl
   rw [hb]
   clear hr hb
   go_enter Tryz.func129,Tryz.ntmps129
   go_wp2_with fail
   go_ret2
   exact⟨a7,_,rfl,World.ownsRow_nil _ _ _ _⟩
 . rw [List.concat_eq_append]at *
   have hbs:E2 (q ++ [i])=(q,0):=by unfold E2;rw [if_neg (by simp),m9]
   rw [hbs]
   have hle:=hr.le
   have hmx:=hr.max
   unfold maxLen at hmx
   obtain⟨pb,po,rfl,hpb, -,hq⟩:=e_e hr
   have hl:(q ++ [i]).length=q.length+1:=by simp
   have HC:=a6 (qV B q.length (some ⟨pb,po,none⟩) c _ W hq hB (by omega))
   rw [hl]at hle⊢
   have h1:((q.length:Int)+1) - 1=(q.length:Int):=by omega
   have h2:(q.length:Int) <= (c:Int):=by omega
   clear hr hbs hl hq
   go_enter Tryz.func129,Tryz.ntmps129
   go_wp2_with fail
   refine HC.o.mono ?_
   rintro e w1 ⟨v,rfl,hown,hbel⟩
   have Hown:=a6 hown;have Hbel:=a6 hbel
   clear HC hown hbel
   go_wp2_with fail
   go_ret2
   exact⟨Hbel.o,_,rfl,Hown.o⟩
theorem m_W (q p:List Int) (a a':Option Addr) (c c' B:Nat) (w:World) (hr:RowA w B 1 a q.length c (q.map (Value.int .i64))) (hr':RowA w B 1 a' p.length c' (p.map (Value.int .i64))):
 Calls Tryz.prog 196 #[.slice a q.length c, .slice a' p.length c'] w fun e w'=>e= .returned (.bool (B6 q p))/\mX w w':=by
 have HC:=a6 (h_B q p a a' c c' B w hr hr')
 have hkle:=FJ q p
 have hx:B6 q p=(decide (eZ q p+1=q.length) && (decide (eZ q p < p.length) && decide (q.getD (eZ q p) 0 < p.getD (eZ q p) 0))):=rfl
 have hql:q.length <= 9223372036854775807:=by have h1:=hr.le;have h2:=hr.max;unfold maxLen at h2;omega
 generalize eZ q p=k at HC hkle hx
 have Hx:=a6 hx
 generalize B6 q p=R at Hx⊢
 clear hx
 by_cases h1:k+1=q.length
 . have hb1:((k:Int) == (q.length:Int) - 1)=true:=by simp;omega
   by_cases h2:k < p.length
   . have hb2:decide ((k:Int) < p.length)=true:=by simp;omega
     have hkq:k < q.length:=by omega
     obtain⟨b,o,rfl,hb,hc⟩:=hr.int_at k hkq
     obtain⟨b',o',rfl,hb',hc'⟩:=hr'.int_at k h2
     have x0:=hc k hkq;have x1:=hc' k h2
     have hki:(k:Int) < q.length:=by omega
     have hki2:(k:Int) < p.length:=by omega
     have hR:Hid (R=decide (q.getD k 0 < p.getD k 0)):=by show _=_;rw [Hx.o];simp [h1,h2]
     clear hr hr' hc hc' Hx
     generalize q.getD k 0=x at x0 hR
     generalize p.getD k 0=y at x1 hR
     have Hh:=a6 h1
     clear h1
     go_enter Tryz.func196,Tryz.ntmps196
     go_wp2_with fail
     refine HC.o.mono ?_
     rintro e w1 ⟨rfl,n1,rfl⟩
     clear HC
     go_wp2_with fail
     go_quiet (fail)
     go_wp2_with fail
     go_ret
     exact⟨by rw [hR.o];rfl,by first | exact j6 _ _ _ | exact jX _ _⟩
   . have hb2:decide ((k:Int) < p.length)=false:=by simp;omega
     have hR:Hid (R=false):=by show _=_;rw [Hx.o];simp [h2]
     have Hh:=a6 h1
     clear hr hr' Hx h1
     go_enter Tryz.func196,Tryz.ntmps196
     go_wp2_with fail
     refine HC.o.mono ?_
     rintro e w1 ⟨rfl,n1,rfl⟩
     clear HC
     go_wp2_with fail
     go_quiet (fail)
     go_wp2_with fail
     go_ret
     exact⟨by rw [hR.o];rfl,by first | exact j6 _ _ _ | exact jX _ _⟩
 . have hb1:((k:Int) == (q.length:Int) - 1)=false:=by simp;omega
   have hR:Hid (R=false):=by show _=_;rw [Hx.o];simp [h1]
   clear hr hr' Hx
   go_enter Tryz.func196,Tryz.ntmps196
   go_wp2_with fail
   refine HC.o.mono ?_
   rintro e w1 ⟨rfl,n1,rfl⟩
   clear HC
   go_wp2_with fail
   go_quiet (fail)
   go_wp2_with fail
   go_ret
   exact⟨by rw [hR.o];rfl,by first | exact j6 _ _ _ | exact jX _ _⟩
theorem c_m {w w1 w2:World} (h:mX w w1) (k:mX w1 w2):mX w w2:=by
 obtain⟨n,rfl⟩:=h;obtain⟨m,rfl⟩:=k;exact j6 _ _ _
theorem zQ {w w':World} {B sz n c:Nat} {a:Option Addr} {cs:List Value} (h:RowA w B sz a n c cs) (hd:mX w w'):RowA w' B sz a n c cs:=h.keep (hd.below B) (a8)
theorem c_n (q p:List Int) (a a':Option Addr) (c c' B:Nat) (w:World) (hr:RowA w B 1 a q.length c (q.map (Value.int .i64))) (hr':RowA w B 1 a' p.length c' (p.map (Value.int .i64))):
 Calls Tryz.prog 141 #[.slice a q.length c, .slice a' p.length c'] w fun e w'=>e= .returned (.int .i64 (cJ q p:Nat))/\mX w w':=by
 have HS:=a6 (a_i q p a a' c c' B w hr hr')
 have HA:=a6 (fun(w1:World) (h:mX w w1)=>h_C q p a a' c c' B w1 (zQ hr h) (zQ hr' h))
 have HL:=a6 (fun(w1:World) (h:mX w w1)=>m_W q p a a' c c' B w1 (zQ hr h) (zQ hr' h))
 have hx:cJ q p=if q= [] then 0 else if q=p then 3 else if jK q p then 2 else if B6 q p then 1 else 0:=rfl
 have Hx:=a6 hx
 generalize cJ q p=R at Hx⊢
 have hq0:q.length=0 ↔ q= []:=List.length_eq_zero_iff
 have hql:q.length <= 9223372036854775807:=by have h1:=hr.le;have h2:=hr.max;unfold maxLen at h2;omega
 generalize jK q p=A at HA Hx
 generalize B6 q p=L at HL Hx
 clear hr hr' hx
 by_cases h0:q.length=0
 . have hR:R=0:=by rw [Hx.o,if_pos (hq0.1 h0)]
   subst hR
   rw [h0]
   clear h0 hq0 Hx HS HA HL
   go_enter Tryz.func141,Tryz.ntmps141
   go_wp2_with fail
   go_ret
   exact⟨rfl,C2 _⟩
 . have hb0:((q.length:Int) == 0)=false:=by simpa using h0
   have hne:q≠ []:=fun e=>h0 (hq0.2 e)
   have hx2:R=if q=p then 3 else if A then 2 else if L then 1 else 0:=by rw [Hx.o,if_neg hne]
   have Hx2:=a6 hx2
   clear Hx h0 hq0 hne hx2
   by_cases h1:q=p
   . have hd:decide (q=p)=true:=by simpa using h1
     rw [hd]at HS
     have hR:R=3:=by rw [Hx2.o,if_pos h1]
     clear Hx2 h1 hd HA HL
     go_enter Tryz.func141,Tryz.ntmps141
     go_wp2_with fail
     refine HS.o.mono ?_
     rintro e w1 ⟨rfl,hd⟩
     have Hd:=a6 hd
     clear HS hd
     subst hR
     go_wp2_with fail
     go_ret
     exact⟨rfl,Hd.o⟩
   . have hd:decide (q=p)=false:=by simpa using h1
     rw [hd]at HS
     have hx3:R=if A then 2 else if L then 1 else 0:=by rw [Hx2.o,if_neg h1]
     have Hx3:=a6 hx3
     clear Hx2 h1 hd hx3
     go_enter Tryz.func141,Tryz.ntmps141
     go_wp2_with fail
     refine HS.o.mono ?_
     rintro e w1 ⟨rfl,hd⟩
     have Hd:=a6 hd
     clear HS hd
     go_wp2_with fail
     refine(HA.o w1 Hd.o).mono ?_
     rintro e w2 ⟨rfl,hd2⟩
     have Hd2:=a6 (c_m Hd.o hd2)
     clear HA hd2
     cases A with
     | true=>
       have hR:R=2:=by rw [Hx3.o];rfl
       clear Hx3
       subst hR
       go_wp2_with fail
       go_ret
       exact⟨rfl,Hd2.o⟩
     | false=>
       have hx4:R=if L then 1 else 0:=by rw [Hx3.o];rfl
       have Hx4:=a6 hx4
       clear Hx3 hx4
       go_wp2_with fail
       refine(HL.o w2 Hd2.o).mono ?_
       rintro e w3 ⟨rfl,hd3⟩
       have Hd3:=a6 (c_m Hd2.o hd3)
       clear HL hd3
       cases L with
       | true=>
         have hR:R=1:=by rw [Hx4.o];rfl
         clear Hx4
         subst hR
         go_wp2_with fail
         go_ret
         exact⟨rfl,Hd3.o⟩
       | false=>
         have hR:R=0:=by rw [Hx4.o];rfl
         clear Hx4
         subst hR
         go_wp2_with fail
         go_ret
         exact⟨rfl,Hd3.o⟩
theorem c_o {q p:List Int} (h:cJ q p≠0):q.length - 1 < p.length/\0 < q.length:=by
 unfold cJ at h
 split at h
 . exact absurd rfl h
 . rename_i hq
   have hpos:=List.length_pos_iff.2 hq
   split at h
   . rename_i e;subst e;omega
   . split at h
     . rename_i ha
       unfold jK at ha
       simp only [Bool.and_eq_true,decide_eq_true_eq]at ha
       omega
     . split at h
       . rename_i hl
         unfold B6 at hl
         simp only [Bool.and_eq_true,decide_eq_true_eq]at hl
         omega
       . exact absurd rfl h
abbrev m_z (W:World) (zs:List Int) (e:Ending) (w':World):Prop:=rK W 3 1 zs.length (zs.map (Value.int .i64)) e w'
theorem b_0 (p:List Int) (k:Nat) (d:Int):(dV p k d).length=p.length:=by simp [dV]
theorem e_g (p:List Int) (k:Nat) (d:Int) (a:Option Addr) (c B:Nat) (W:World) (hr:RowA W B 1 a p.length c (p.map (Value.int .i64))) (hB:B <= W.heap.size) (hn:p.length <= 1000000) (hk:k < p.length) (hw: -9223372036854775807 <= p.getD k 0+d/\p.getD k 0+d <= 9223372036854775807):
 Calls Tryz.prog 143 #[.slice a p.length c, .int .i64 k, .int .i64 d] W (m_z W (dV p k d)):=by
 have HC:=a6 (qV B p.length a c _ W hr hB (by omega))
 have hset:(p.map (Value.int .i64)).set k (.int .i64 (p.getD k 0+d))=(dV p k d).map (Value.int .i64):=by unfold dV;rw [List.map_set]
 have Hset:=a6 hset
 have Hlen:=a6 (b_0 p k d)
 have hki:(k:Int) < p.length:=by omega
 have hat:(p.map (Value.int .i64))[k]? =some (.int .i64 (p.getD k 0)):=by simp [List.getD,List.getElem?_eq_getElem hk]
 generalize dV p k d=S at Hset Hlen⊢
 generalize p.getD k 0=x at hset Hset hw hat
 have hw1:IntKind.i64.wrap (x+d)=x+d:=by rw [IntKind.wrap_i64];omega
 clear hr hset
 go_enter Tryz.func143,Tryz.ntmps143
 go_wp2_with fail
 refine HC.o.mono ?_
 rintro e w1 ⟨v,rfl,hown,hbel⟩
 obtain⟨a',c',rfl, -⟩:=cK hown (by intro u hu;obtain⟨z, -,rfl⟩:=List.mem_map.1 hu;rfl)
 obtain⟨g,rfl,hg⟩:=A6 hown (by intro e;rw [e]at hat;cases hat)
 have hcell:=pV hown k _ hat
 have hfz:=hown.frozenAt k
 have Hown:=a6 hown;have Hbel:=a6 hbel
 clear HC hown hbel hat
 go_wp2_with fail
 go_ret
 have h:=(Hown.o.stored k (.int .i64 (x+d))).1
 rw [Hset.o]at h
 refine⟨_,rfl, ?_,Hbel.o.setCell (p:=⟨g,k,none⟩) hg _⟩
 rw [Hlen.o]
 exact h
theorem CX (p q:List Int) (a a':Option Addr) (c c' B:Nat) (W:World) (hr:RowA W B 1 a p.length c (p.map (Value.int .i64))) (hr':RowA W B 1 a' q.length c' (q.map (Value.int .i64))) (hB:B <= W.heap.size) (hn:p.length <= 1000000) (hn':q.length <= 1000000) (hw:∀z∈p, -1 <= z/\z <= 9000000000000):
 Calls Tryz.prog 142 #[.slice a p.length c, .slice a' q.length c'] W (m_z W (eJ p q)):=by
 have HS:=a6 (c_n q p a' a c' c B W hr' hr)
 have hx:eJ p q=if cJ q p=0 then p else dV p (q.length - 1) 1:=rfl
 have hk:cJ q p≠0 ->q.length - 1 < p.length/\0 < q.length:=fun h=>c_o h
 have HC:=a6 (fun(w1:World) (h:mX W w1)=>qV B p.length a c _ w1 (zQ hr h) (by have:=(h.below W.heap.size).size;omega) (by omega))
 have HSh:=a6 (fun(w1:World) (h:mX W w1) (hk:q.length - 1 < p.length)=>e_g p (q.length - 1) 1 a c B w1 (zQ hr h) (by have:=(h.below W.heap.size).size;omega) hn hk (by
  have hm:p.getD (q.length - 1) 0∈p:=by rw [fJ hk];exact List.getElem_mem hk
  have:=hw _ hm;omega))
 generalize cJ q p=s at HS hx hk
 clear hr hr' hw
 by_cases hs:s=0
 . subst hs
   rw [if_pos rfl]at hx
   rw [hx]
   clear hx hk HSh
   go_enter Tryz.func142,Tryz.ntmps142
   go_wp2_with fail
   refine HS.o.mono ?_
   rintro e w1 ⟨rfl,hd⟩
   have HC1:=a6 (HC.o w1 hd)
   have Hd:=a6 hd
   clear HS HC hd
   go_wp2_with fail
   refine HC1.o.mono ?_
   rintro e w2 ⟨v,rfl,hown,hbel⟩
   have Hb:=a6 ((Hd.o.below W.heap.size).trans (hbel.mono (Hd.o.below W.heap.size).size))
   have Ho:=a6 (lK hown (Hd.o.below W.heap.size).size)
   clear HC1 hown hbel
   go_wp2_with fail
   go_ret
   exact⟨_,rfl,Ho.o,Hb.o⟩
 . rw [if_neg hs]at hx
   rw [hx]
   obtain⟨hk1,hk2⟩:=hk hs
   have hb:((s:Int) == 0)=false:=by simpa using hs
   have hq1:((q.length:Int) - 1)=((q.length - 1:Nat):Int):=by omega
   generalize dV p (q.length - 1) 1=S at HSh⊢
   generalize q.length - 1=m at HSh hq1 hk1
   have Hq1:=a6 hq1
   clear hx hs hk HC
   go_enter Tryz.func142,Tryz.ntmps142
   go_wp2_with fail
   refine HS.o.mono ?_
   rintro e w1 ⟨rfl,hd⟩
   have HC1:=a6 (HSh.o w1 hd hk1)
   have Hd:=a6 hd
   clear HS HSh hd
   go_wp2_with fail
   refine HC1.o.mono ?_
   rintro e w2 ⟨v,rfl,hown,hbel⟩
   have Hb:=a6 ((Hd.o.below W.heap.size).trans (hbel.mono (Hd.o.below W.heap.size).size))
   have Ho:=a6 (lK hown (Hd.o.below W.heap.size).size)
   clear HC1 hown hbel
   go_wp2_with fail
   go_ret
   exact⟨_,rfl,Ho.o,Hb.o⟩
def j_X (W:World) (e:Ending) (w':World):Prop:=Below W.heap.size W w'/\∃a c b,e= .returned (.tuple #[.slice a 0 c, .bool b])
theorem f_b (p:List Int) (h:p≠ []):cJ p []=0:=by
 unfold cJ
 rw [if_neg h,if_neg h]
 cases p with
 | nil=>exact absurd rfl h
 | cons z zs=>simp [jK,B6]
theorem d_9 (d:List Int):eJ [] d= []:=by
 unfold eJ dV
 split <;> rfl
theorem l_M (p d:List Int) (kd pos:Int) (pa ta:Option Addr) (pc tc:Nat) (v4 v5 v6 v7 v8 v9 v10 v11 v12 v13 v14 v15 v16 v17 v18 v19 v20:Value) (W:World) (hk:kd=1∨kd=2∨kd=3∨kd=4∨kd=5)
 (hp:RowA W W.heap.size 1 pa p.length pc (p.map (Value.int .i64))) (hd:RowA W W.heap.size 1 ta d.length tc (d.map (Value.int .i64))) (hpl:p.length <= 1000000) (hdl:d.length <= 1000000) (hne:p≠ []):
 Calls Tryz.prog 69 #[.slice none 0 0, .agg #[.int .i64 kd, .slice pa p.length pc, .slice ta d.length tc, .int .i64 pos,v4,v5,v6,v7,v8,v9,v10,v11,v12,v13,v14,v15,v16,v17,v18,v19,v20]] W (j_X W):=by
 obtain⟨w0,hw0⟩:∃w0,w0=W.alloc (Obj.cells #[.int .i64 kd, .slice pa p.length pc, .slice ta d.length tc, .int .i64 pos,v4,v5,v6,v7,v8,v9,v10,v11,v12,v13,v14,v15,v16,v17,v18,v19,v20] 55):=⟨_,rfl⟩
 have hb0:Below W.heap.size W w0:=by rw [hw0];exact aX _ _
 have hA:At w0 W.heap.size [.int .i64 kd, .slice pa p.length pc, .slice ta d.length tc, .int .i64 pos,v4,v5,v6,v7,v8,v9,v10,v11,v12,v13,v14,v15,v16,v17,v18,v19,v20] 55:=by rw [hw0];exact At.fresh W _ _
 have HN:=a6 (fun(w1:World)=>DY [] none 0 0 w1 (RowA.empty _ _ _) (Nat.zero_le _) (by simp))
 have HP:=a6 (fun(w1:World) (hb:Below w0.heap.size w0 w1)=>DY p pa pc W.heap.size w1 (hp.keep (hb0.trans (hb.mono hb0.size)) (a8)) (hb0.trans (hb.mono hb0.size)).size (by omega))
 have HD:=a6 (fun(w1:World) (hb:Below w0.heap.size w0 w1)=>DY d ta tc W.heap.size w1 (hd.keep (hb0.trans (hb.mono hb0.size)) (a8)) (hb0.trans (hb.mono hb0.size)).size (by omega))
 have HZ:=a6 (fun(w1:World) (q:Option Addr) (hp:RowA w1 w1.heap.size 1 q 1 1 [.int .i64 pos])=>DY [pos] q 1 w1.heap.size w1 hp (a8) (by simp))
 have HT:=a6 (fun(w1:World) (hb:Below w0.heap.size w0 w1)=>c_n p [] pa none pc 0 W.heap.size w1 (hp.keep (hb0.trans (hb.mono hb0.size)) (a8)) (RowA.empty _ _ _))
 rw [f_b p hne]at HT
 have hz0:((0:Nat):Int)=0:=rfl
 rw [hz0]at HT
 have HI1:=a6 (fun(w1:World) (hb:Below w0.heap.size w0 w1)=>CX [] p none pa 0 pc W.heap.size w1 (RowA.empty _ _ _) (hp.keep (hb0.trans (hb.mono hb0.size)) (a8)) (hb0.trans (hb.mono hb0.size)).size (by simp) hpl (by simp))
 have HI2:=a6 (fun(w1:World) (hb:Below w0.heap.size w0 w1)=>CX [] d none ta 0 tc W.heap.size w1 (RowA.empty _ _ _) (hd.keep (hb0.trans (hb.mono hb0.size)) (a8)) (hb0.trans (hb.mono hb0.size)).size (by simp) hdl (by simp))
 rw [d_9]at HI1 HI2
 have HC:=a6 (fun(w1:World)=>qV 0 0 none 0 [] w1 (RowA.empty _ _ _) (Nat.zero_le _) (by omega))
 have e0:bQ []=true:=rfl
 rw [e0]at HN
 obtain⟨q,i,hqi⟩:∃q i,p=q ++ [i]:=by
  rcases List.eq_nil_or_concat p with rfl | ⟨q,i,h⟩
  . exact absurd rfl hne
  . exact⟨q,i,by rw [h,List.concat_eq_append]⟩
 have hpx:=hp
 rw [hqi]at hpx
 obtain⟨pb,po,hpa,hpb,hpi, -⟩:=e_e hpx
 have hpll:p.length=q.length+1:=by rw [hqi];simp
 have hHpi:∀w1,Below w0.heap.size w0 w1 ->w1.cell? ⟨pb,po+q.length,none⟩=some (.int .i64 i):=fun w1 hb=>((hb0.trans (hb.mono hb0.size)).cell (p:=⟨pb,po+q.length,none⟩) hpb).trans hpi
 have hpcl:=hp.le
 have hpmx:=hp.max
 unfold maxLen at hpmx
 rw [hpll]at hpcl
 have HPi:=a6 hHpi;have HPa:=a6 hpa
 have HA:=a6 hA;have Hb0:=a6 hb0;have Hw0:=a6 hw0;have Hll:=a6 hpll
 have c1:=hA.cell 1 rfl;have cl:=hA.lt
 clear hp hd hpx hb0 hA hw0 hne hqi hpi hHpi hpa e0 hpll
 unfold j_X
 go_enter Tryz.func69,Tryz.ntmps69
 go_upto_region 1 with fail
 rw [<- Hw0.o]
 clear Hw0
 go_wp2_with fail
 refine(HN.o w0).mono ?_
 rintro e w1 ⟨rfl,hbel⟩
 have hA1:=HA.o.kept hbel
 have d1:=hA1.cell 1 rfl;have dl:=hA1.lt
 have Hb1:=a6 hbel
 clear hbel hA1 c1 cl HN
 go_wp2_with fail
 refine(HP.o w1 Hb1.o).mono ?_
 generalize bQ p=s1
 rintro e w2 ⟨rfl,hbel⟩
 have Hb2:=a6 (b5 Hb1.o hbel)
 clear hbel HP d1 dl
 cases s1 with
 | false=>
   have HbW:=a6 (Hb0.o.trans (Hb2.o.mono Hb0.o.size))
   clear HD HZ HT HI1 HI2 HC HA HPi
   go_wp2_with fail
   go_ret2
   exact⟨HbW.o,none,0,false,rfl⟩
 | true=>
 have hA2:=HA.o.kept Hb2.o
 have f2:=hA2.cell 2 rfl;have fl:=hA2.lt
 clear hA2
 go_wp2_with fail
 refine(HD.o w2 Hb2.o).mono ?_
 generalize bQ d=s2
 rintro e w3 ⟨rfl,hbel⟩
 have Hb3:=a6 (b5 Hb2.o hbel)
 clear hbel HD f2 fl
 cases s2 with
 | false=>
   have HbW:=a6 (Hb0.o.trans (Hb3.o.mono Hb0.o.size))
   clear HZ HT HI1 HI2 HC HA HPi
   go_wp2_with fail
   go_ret2
   exact⟨HbW.o,none,0,false,rfl⟩
 | true=>
 have hA3:=HA.o.kept Hb3.o
 have g3:=hA3.cell 3 rfl;have gl:=hA3.lt
 clear hA3
 go_wp2_with fail
 refine(HZ.o _ _ (BJ w3 (.int .i64 pos) 3 _ rfl (by simp))).mono ?_
 generalize bQ [pos]=s3
 rintro e w4 ⟨rfl,hbel⟩
 have Hb4:=a6 (b5 (Hb3.o.trans ((aX w3 (Obj.cells #[Value.int .i64 pos] 3)).mono Hb3.o.size)) hbel)
 clear hbel g3 gl HZ
 cases s3 with
 | false=>
   have HbW:=a6 (Hb0.o.trans (Hb4.o.mono Hb0.o.size))
   clear HT HI1 HI2 HC HA HPi
   go_wp2_with fail
   go_ret2
   exact⟨HbW.o,none,0,false,rfl⟩
 | true=>
 have hA4:=HA.o.kept Hb4.o
 have k1:=hA4.cell 1 rfl;have kl:=hA4.lt
 clear hA4
 go_wp2_with fail
 refine(HT.o w4 Hb4.o).mono ?_
 rintro e w5 ⟨rfl,hdr⟩
 have Hb5:=a6 (b5 Hb4.o (hdr.below _))
 have hA5:=HA.o.kept Hb5.o
 have m0:=hA5.cell 0 rfl;have m2:=hA5.cell 2 rfl;have m3:=hA5.cell 3 rfl;have ml:=hA5.lt
 have mi:=HPi.o w5 Hb5.o
 have Hll2:=Hll.o
 have HPa2:=HPa.o
 subst HPa2
 clear hdr HT hA5 k1 kl HPi
 have HbW:=a6 (Hb0.o.trans (Hb5.o.mono Hb0.o.size))
 have hq0:decide ((q.length:Int) < 0)=false:=by simp
 have hqw:IntKind.i64.wrap ((q.length:Int)+1 - 1)=(q.length:Int):=by rw [IntKind.wrap_i64];omega
 rw [Hll2]at HI1
 clear Hll
 rw [Hll2]
 rcases hk with rfl | rfl | rfl | rfl | rfl
 . have HI:=a6 (HI1.o w5 Hb5.o)
   clear HI1 HI2 HC HA
   go_wp2_with fail
   refine HI.o.mono ?_
   rintro e w6 ⟨v,rfl,hown,hbel⟩
   obtain⟨va,vc,rfl, -⟩:=cK hown (by intro u hu;cases hu)
   have HbF:=a6 (HbW.o.trans (hbel.mono HbW.o.size))
   clear HI hown hbel
   go_wp2_with fail
   go_ret2
   exact⟨HbF.o,va,vc,true,rfl⟩
 . clear HI1 HI2 HA
   go_wp2_with fail
   refine(HC.o w5).mono ?_
   rintro e w6 ⟨v,rfl,hown,hbel⟩
   obtain⟨va,vc,rfl, -⟩:=cK hown (by intro u hu;cases hu)
   have HbF:=a6 (HbW.o.trans (hbel.mono HbW.o.size))
   clear HC hown hbel
   go_wp2_with fail
   go_ret2
   exact⟨HbF.o,va,vc,true,rfl⟩
 . clear HI1 HI2 HA
   by_cases hi0:i=0
   . have hib:(i == 0)=true:=by simpa using hi0
     go_wp2_with fail
     go_ret2
     exact⟨HbW.o,none,0,false,rfl⟩
   . have hib:(i == 0)=false:=by simpa using hi0
     go_wp2_with fail
     refine(HC.o w5).mono ?_
     rintro e w6 ⟨v,rfl,hown,hbel⟩
     obtain⟨va,vc,rfl, -⟩:=cK hown (by intro u hu;cases hu)
     have HbF:=a6 (HbW.o.trans (hbel.mono HbW.o.size))
     clear HC hown hbel
     go_wp2_with fail
     go_ret2
     exact⟨HbF.o,va,vc,true,rfl⟩
 . clear HI1 HI2 HA
   go_upto_region 25 with fail
   go_quiet (fail)
   go_wp2_with fail
   refine(HC.o _).mono ?_
   rintro e w6 ⟨v,rfl,hown,hbel⟩
   obtain⟨va,vc,rfl, -⟩:=cK hown (by intro u hu;cases hu)
   have HbF:=a6 (HbW.o.trans (((below_drewN (Below.refl w5.heap.size w5) _).trans (hbel.mono (Below.size (B:=w5.heap.size) (below_drewN (Below.refl w5.heap.size w5) _)))).mono HbW.o.size))
   clear HC hown hbel
   go_wp2_with fail
   go_ret2
   exact⟨HbF.o,va,vc,true,rfl⟩
 . have HI:=a6 (HI2.o w5 Hb5.o)
   clear HI1 HI2 HC HA
   go_wp2_with fail
   refine HI.o.mono ?_
   rintro e w6 ⟨v,rfl,hown,hbel⟩
   obtain⟨va,vc,rfl, -⟩:=cK hown (by intro u hu;cases hu)
   have HbF:=a6 (HbW.o.trans (hbel.mono HbW.o.size))
   clear HI hown hbel
   go_wp2_with fail
   go_ret2
   exact⟨HbF.o,va,vc,true,rfl⟩
theorem n_G (x y:Int) (b:Nat) (W:World) (h0:W.cell? ⟨b,0,none⟩=some (.int .i64 x)) (h1:W.cell? ⟨b,1,none⟩=some (.int .i64 y)):
 Calls Tryz.prog 234 #[.slice (some ⟨b,0,none⟩) 2 2] W (fun e w'=>e= .returned (.int .i64 (if x=0 then y else x))/\w'=W):=by
 obtain⟨z,hz⟩:∃z,z=if x=0 then y else x:=⟨_,rfl⟩
 rw [<- hz]
 have Hz:=a6 hz
 clear hz
 go_enter Tryz.func234,Tryz.ntmps234
 go_wp2_with fail
 go_loopg [8,5] 2 (fun g i _ wr=>wr=W/\((i= .int .i64 0/\g=2)∨ (i= .int .i64 1/\g=1/\x=0)∨ (i= .int .i64 2/\g=0/\x=0/\y=0)))
 case atStart=>exact⟨rfl, .inl ⟨rfl,rfl⟩⟩
 case round=>
  obtain⟨rfl,⟨rfl,rfl⟩ | ⟨rfl,rfl,hx⟩ | ⟨rfl,rfl,hx,hy⟩⟩:=hrel
  . by_cases hx:x=0
    . have hxb:(x != 0)=false:=by simpa using hx
      go_wp2_with fail
      go_roundg 1
      case measure=>omega
      case rel=>exact⟨rfl, .inr (.inl ⟨rfl,rfl,hx⟩)⟩
    . have hxb:(x != 0)=true:=by simpa using hx
      have Hr:=a6 (show z=x by rw [Hz.o,if_neg hx])
      go_wp2_with fail
      go_ret
      exact⟨cY Hr.o.symm,rfl⟩
  . by_cases hy:y=0
    . have hyb:(y != 0)=false:=by simpa using hy
      go_wp2_with fail
      go_roundg 0
      case measure=>omega
      case rel=>exact⟨rfl, .inr (.inr ⟨rfl,rfl,hx,hy⟩)⟩
    . have hyb:(y != 0)=true:=by simpa using hy
      have Hr:=a6 (show z=y by rw [Hz.o,if_pos hx])
      clear hx
      go_wp2_with fail
      go_ret
      exact⟨cY Hr.o.symm,rfl⟩
  . have Hr:=a6 (show z=0 by rw [Hz.o,if_pos hx,hy])
    clear hx hy
    go_wp2_with fail
    go_ret
    exact⟨cY Hr.o.symm,rfl⟩
theorem m_X:∀args w,(callFunc 234 args).run Tryz.prog w= .ok (.enter 234 args) w:=by intro args w;kernel_rfl
theorem i_i:∀args w,(callFunc 199 args).run Tryz.prog w= .ok (.enter 199 args) w:=by intro args w;kernel_rfl
theorem i_j:∀args w,(callFunc 235 args).run Tryz.prog w= .ok (.enter 235 args) w:=by intro args w;kernel_rfl
def d_v (p q:List Int) (i j:Int):Int:=if nZ p q=0 then wQ i j else nZ p q
theorem l_N (p q:List Int) (i j:Int) (a a':Option Addr) (c c':Nat) (W:World) (hp:RowA W W.heap.size 1 a p.length c (p.map (Value.int .i64))) (hq:RowA W W.heap.size 1 a' q.length c' (q.map (Value.int .i64))):
 Calls Tryz.prog 178 #[.agg #[.slice a p.length c, .int .i64 i], .agg #[.slice a' q.length c', .int .i64 j]] W (fun e w'=>e= .returned (.int .i64 (d_v p q i j))/\Below W.heap.size W w'):=by
 obtain⟨w0,hw0⟩:∃w0,w0=(W.alloc (Obj.cells #[.slice a p.length c, .int .i64 i] 49)).alloc (Obj.cells #[.slice a' q.length c', .int .i64 j] 49):=⟨_,rfl⟩
 have hb0:Below W.heap.size W w0:=by rw [hw0];exact(aX _ _).alloc (by simp) _
 have hA:At w0 W.heap.size [.slice a p.length c, .int .i64 i] 49:=by rw [hw0];exact(At.fresh W _ _).alloc _
 have hB:At w0 (W.heap.size+1) [.slice a' q.length c', .int .i64 j] 49:=by rw [hw0];exact At.second W _ _ _
 have HC:=a6 (fun(w':World) (hb:Below w0.heap.size w0 w')=>j_u p q a a' c c' W.heap.size w' (hp.keep (hb0.trans (hb.mono hb0.size)) (a8)) (hq.keep (hb0.trans (hb.mono hb0.size)) (a8)))
 have HI:=a6 (fun(w':World)=>j_s i j w')
 have HR:Hid (d_v p q i j=if nZ p q=0 then wQ i j else nZ p q):=a6 rfl
 generalize d_v p q i j=R at HR⊢
 generalize nZ p q=x at HC HR
 generalize wQ i j=y at HI HR
 have HO:=a6 (fun(w':World) (b:Nat) h0 h1=>n_G x y b w' h0 h1)
 rw [<- HR.o]at HO
 have HS0:=a6 (fun(w':World) (hb:Below w0.heap.size w0 w')=>(show (w'.cell? ⟨W.heap.size,0,none⟩=some (.slice a p.length c)/\w'.cell? ⟨W.heap.size,1,none⟩=some (.int .i64 i))/\(w'.cell? ⟨W.heap.size+1,0,none⟩=some (.slice a' q.length c')/\w'.cell? ⟨W.heap.size+1,1,none⟩=some (.int .i64 j))from⟨⟨(hA.kept hb).cell 0 rfl,(hA.kept hb).cell 1 rfl⟩,(hB.kept hb).cell 0 rfl,(hB.kept hb).cell 1 rfl⟩))
 have Hb0:=a6 hb0;have Hw0:=a6 hw0
 clear hp hq hA hB hw0 hb0
 go_enter Tryz.func178,Tryz.ntmps178
 go_upto_region 1 with fail
 rw [<- Hw0.o]
 clear Hw0
 go_region_held3 (fun w'=>(w'.cell? ⟨W.heap.size,0,none⟩=some (.slice a p.length c)/\w'.cell? ⟨W.heap.size,1,none⟩=some (.int .i64 i))/\(w'.cell? ⟨W.heap.size+1,0,none⟩=some (.slice a' q.length c')/\w'.cell? ⟨W.heap.size+1,1,none⟩=some (.int .i64 j))) (refine HS0.o _ (by((repeat (first | with_reducible exact a7 | with_reducible refine Below.drew ?_ | with_reducible refine Below.alloc ?_ ?_ _ | with_reducible refine Below.setCell ?_ ?_ _)) <;> (first | with_reducible exact a8 | (simp;done) | (simp;omega) | omega))))
  (first
  | (refine b9 rfl 199 _ _ rfl i_i [.slice a p.length c, .slice a' q.length c'] ?_ _ (HC.o _ (by((repeat (first | with_reducible exact a7 | with_reducible refine Below.drew ?_ | with_reducible refine Below.alloc ?_ ?_ _ | with_reducible refine Below.setCell ?_ ?_ _)) <;> (first | with_reducible exact a8 | (simp;done) | (simp;omega) | omega)))) ?_
     . go_simp
     rintro e w1 ⟨rfl,rfl⟩
     refine⟨_,rfl, ?_⟩)
  | (refine b9 rfl 235 _ _ rfl i_j [.int .i64 i, .int .i64 j] ?_ _ (HI.o _) ?_
     . go_simp
     rintro e w1 ⟨rfl,rfl⟩
     refine⟨_,rfl, ?_⟩)
  | (refine b9 rfl 234 _ _ rfl m_X [.slice (some ⟨w0.heap.size,0,none⟩) 2 2] ?_ _ (HO.o _ w0.heap.size ?_ ?_) ?_
     . go_simp
     . go_simp
     . go_simp
     rintro e w1 ⟨rfl,rfl⟩
     refine⟨_,rfl, ?_⟩))
 all_goals
  go_wp2_with fail
  go_ret
  exact⟨rfl,Hb0.o.trans (Below.mono (B:=w0.heap.size) (by((repeat (first | with_reducible exact a7 | with_reducible refine Below.drew ?_ | with_reducible refine Below.alloc ?_ ?_ _ | with_reducible refine Below.setCell ?_ ?_ _)) <;> (first | with_reducible exact a8 | (simp;done) | (simp;omega) | omega))) Hb0.o.size)⟩
theorem g_B (p q:List Int) (i j:Int):(d_v p q i j == 0)=(decide (p=q) && decide (i=j)):=by
 unfold d_v
 by_cases h:p=q
 . subst h
   rw [KX,if_pos rfl]
   by_cases h2:i=j
   . subst h2;simp [wQ]
   . have:=mt KV.1 h2
     simp [h2,this]
 . have h2:nZ p q≠0:=fun e=>h (e_6 e)
   rw [if_neg h2]
   simp [h,h2]
theorem f_c (p q:List Int) (i j:Int) (a a':Option Addr) (c c':Nat) (W:World) (hp:RowA W W.heap.size 1 a p.length c (p.map (Value.int .i64))) (hq:RowA W W.heap.size 1 a' q.length c' (q.map (Value.int .i64))):
 Calls Tryz.prog 117 #[.agg #[.slice a p.length c, .int .i64 i], .agg #[.slice a' q.length c', .int .i64 j]] W (fun e w'=>e= .returned (.bool (decide (p=q) && decide (i=j)))/\Below W.heap.size W w'):=by
 obtain⟨w0,hw0⟩:∃w0,w0=(W.alloc (Obj.cells #[.slice a p.length c, .int .i64 i] 49)).alloc (Obj.cells #[.slice a' q.length c', .int .i64 j] 49):=⟨_,rfl⟩
 have hb0:Below W.heap.size W w0:=by rw [hw0];exact(aX _ _).alloc (by simp) _
 have hA:At w0 W.heap.size [.slice a p.length c, .int .i64 i] 49:=by rw [hw0];exact(At.fresh W _ _).alloc _
 have hB:At w0 (W.heap.size+1) [.slice a' q.length c', .int .i64 j] 49:=by rw [hw0];exact At.second W _ _ _
 have HC:=a6 (l_N p q i j a a' c c' w0 (hp.keep hb0 hb0.size) (hq.keep hb0 hb0.size))
 have HZ:=a6 (g_B p q i j)
 generalize d_v p q i j=R at HC HZ
 have y0:=hA.cell 0 rfl;have y1:=hA.cell 1 rfl;have z0:=hB.cell 0 rfl;have z1:=hB.cell 1 rfl
 have Hb0:=a6 hb0;have Hw0:=a6 hw0
 clear hp hq hA hB hw0 hb0
 go_enter Tryz.func117,Tryz.ntmps117
 go_upto_region 1 with fail
 rw [<- Hw0.o]
 clear Hw0
 go_wp2_with fail
 refine HC.o.mono ?_
 rintro e w1 ⟨rfl,hbel⟩
 have Hb1:=a6 (Hb0.o.trans (hbel.mono Hb0.o.size))
 clear hbel HC y0 y1 z0 z1
 go_wp2_with fail
 go_ret
 exact⟨b7 HZ.o,Hb1.o⟩
abbrev IK:Value:= .agg #[.bool false, .slice none 0 0, .int .i64 0, .slice none 0 0, .int .i64 0]
theorem g_C (W:World):
 Calls Tryz.prog 63 #[IK,IK] W (fun e w'=>e= .returned (.bool true)/\Below W.heap.size W w'):=by
 obtain⟨w0,hw0⟩:∃w0,w0=(W.alloc (Obj.cells #[.bool false, .slice none 0 0, .int .i64 0, .slice none 0 0, .int .i64 0] 53)).alloc (Obj.cells #[.bool false, .slice none 0 0, .int .i64 0, .slice none 0 0, .int .i64 0] 53):=⟨_,rfl⟩
 have hb0:Below W.heap.size W w0:=by rw [hw0];exact(aX _ _).alloc (by simp) _
 have hA:At w0 W.heap.size [.bool false, .slice none 0 0, .int .i64 0, .slice none 0 0, .int .i64 0] 53:=by rw [hw0];exact(At.fresh W _ _).alloc _
 have hB:At w0 (W.heap.size+1) [.bool false, .slice none 0 0, .int .i64 0, .slice none 0 0, .int .i64 0] 53:=by rw [hw0];exact At.second W _ _ _
 have HC:=a6 (fun(w':World)=>f_c [] [] 0 0 none none 0 0 w' (RowA.empty _ _ _) (RowA.empty _ _ _))
 have y0:=hA.cell 0 rfl;have y1:=hA.cell 1 rfl;have y2:=hA.cell 2 rfl
 have z0:=hB.cell 0 rfl;have z1:=hB.cell 1 rfl;have z2:=hB.cell 2 rfl
 have HA:=a6 hA;have HB:=a6 hB
 have Hb0:=a6 hb0;have Hw0:=a6 hw0
 clear hA hB hw0 hb0
 go_enter Tryz.func63,Tryz.ntmps63
 go_upto_region 1 with fail
 rw [<- Hw0.o]
 clear Hw0
 go_wp2_with fail
 refine(HC.o w0).mono ?_
 rintro e w1 ⟨rfl,hbel⟩
 have hA1:=HA.o.kept hbel;have hB1:=HB.o.kept hbel
 have k3:=hA1.cell 3 rfl;have k4:=hA1.cell 4 rfl;have l3:=hB1.cell 3 rfl;have l4:=hB1.cell 4 rfl
 have Hb1:=a6 (Hb0.o.trans (hbel.mono Hb0.o.size))
 clear hbel y0 y1 y2 z0 z1 z2 hA1 hB1
 go_wp2_with fail
 refine(HC.o w1).mono ?_
 rintro e w2 ⟨rfl,hbel⟩
 have Hb2:=a6 (Hb1.o.trans (hbel.mono Hb1.o.size))
 clear hbel k3 k4 l3 l4
 go_wp2_with fail
 go_ret
 exact⟨b7 rfl,Hb2.o⟩
theorem f_d (v:Value) (n:aK) (W:World) (hv:bY W W.heap.size n v):
 Calls Tryz.prog 64 #[v,IK] W (fun e w'=>e= .returned (.int .i64 0)/\Below W.heap.size W w'):=by
 obtain⟨csn,rfl,hc⟩:=hv
 obtain⟨l,a1,n1,c1,a2,n2,c2,a3,n3,c3,rfl⟩:=hc.form
 obtain⟨w0,hw0⟩:∃w0,w0=(W.alloc (Obj.cells #[.bool l, .slice a1 n1 c1, .slice a2 n2 c2, .slice a3 n3 c3] 35)).alloc (Obj.cells #[.bool false, .slice none 0 0, .int .i64 0, .slice none 0 0, .int .i64 0] 53):=⟨_,rfl⟩
 have hb0:Below W.heap.size W w0:=by rw [hw0];exact(aX _ _).alloc (by simp) _
 have hB:At w0 (W.heap.size+1) [.bool false, .slice none 0 0, .int .i64 0, .slice none 0 0, .int .i64 0] 53:=by rw [hw0];exact At.second W _ _ _
 have HC:=a6 (fun(w':World)=>f_c [] [] 0 0 none none 0 0 w' (RowA.empty _ _ _) (RowA.empty _ _ _))
 have z0:=hB.cell 0 rfl;have z1:=hB.cell 1 rfl;have z2:=hB.cell 2 rfl;have z3:=hB.cell 3 rfl;have z4:=hB.cell 4 rfl
 have HB:=a6 hB
 have Hb0:=a6 hb0;have Hw0:=a6 hw0
 clear hB hw0 hb0 hc
 go_enter Tryz.func64,Tryz.ntmps64
 go_upto_region 1 with fail
 rw [<- Hw0.o]
 clear Hw0
 go_wp2_with fail
 refine(HC.o w0).mono ?_
 rintro e w1 ⟨rfl,hbel⟩
 have hB1:=HB.o.kept hbel
 have l1:=hB1.cell 1 rfl;have l2:=hB1.cell 2 rfl
 have Hb1:=a6 (Hb0.o.trans (hbel.mono Hb0.o.size))
 clear hbel z0 z1 z2 z3 z4 hB1
 go_wp2_with fail
 refine(HC.o w1).mono ?_
 rintro e w2 ⟨rfl,hbel⟩
 have Hb2:=a6 (Hb1.o.trans (hbel.mono Hb1.o.size))
 clear hbel l1 l2
 go_wp2_with fail
 go_ret
 exact⟨rfl,Hb2.o⟩
theorem i_k:(Tryz.prog.info? 140).map (fun i=>(i.zero,i.size,i.bytes))=some (some (.agg #[.string ⟨#[]⟩, .int .i64 0, .string ⟨#[]⟩]),3,40):=by kernel_rfl
theorem g_D (B n:Nat) (a:Option Addr) (cap:Nat) (cs:List Value) (w:World) (hr:RowA w B 3 a n cap cs) (hB:B <= w.heap.size) (hn:n <= 100000000):
 Calls Tryz.prog 107 #[.slice a n cap] w (rK w 140 3 n cs):=by
 have hel:=fun(w:World)=>Lib.run_eql_slice_nil w (P:=Tryz.prog) 25 140 a n cap 0 0 Tryz.underlying25
 cases ha:a with
 | none=>
   subst ha
   obtain rfl:=hr.nil rfl
   obtain rfl:n=0:=by have:=hr.le;omega
   have hcs:cs= []:=List.eq_nil_of_length_eq_zero (by simpa using hr.len)
   subst hcs
   go_enter Tryz.func107,Tryz.ntmps107
   go_wp2_with fail
   go_ret
   exact⟨_,rfl,World.ownsRow_nil _ _ _ _,a7⟩
 | some ad=>
   subst ha
   go_enter Tryz.func107,Tryz.ntmps107
   go_wp2_with (at_builtin;refine nY rfl _ _ 25 rfl w.heap.size 140 (.agg #[.string ⟨#[]⟩, .int .i64 0, .string ⟨#[]⟩]) 3 40 Tryz.underlying25 i_k rfl (by decide) _ 0 [] rfl ?hown _ n cap B cs rfl ?hr ?h63 ?hb ?hbase ?_)
   case hown=>exact World.ownsRow_lit w #[] 0 (a8) (Nat.zero_le _) rfl
   case hr=>exact hr.keep ((a7).alloc hB _) (a8)
   case h63=>unfold maxLen;omega
   case hb=>omega
   case hbase=>simp
   intro v' w1 hown hgrow
   have Ho:=a6 hown;have Hg:=a6 hgrow;clear hown hgrow hel hr
   go_wp2_with fail
   go_ret
   refine⟨v',rfl,by simpa using Ho.o,((a7).alloc (a8) _).grown Hg.o (by simp) ?_⟩
   simp [Value.ownBlock]
theorem _root_.Go.Redl.SchemaV.open {w:World} {B:Nat} {s:b8} {v:Value} (h:SchemaV w B s v):
 ∃ a c css ea ec o0 o1 o2 o3 o4 o5,v= .agg #[.slice a s.rules.length c,aV s.els.type, .int .i64 s.els.text.1,aV s.els.text.2, .int .i64 s.els.other.1,aV s.els.other.2, .slice ea s.els.kids.length ec, .int .i64 s.els.fill,aV s.els.fillT, .int .i64 o0, .int .i64 o1, .int .i64 o2, .int .i64 o3, .int .i64 o4, .int .i64 o5, .int .i64 s.cap]/\
   RowA w B 8 a s.rules.length c css/\g8 w B s.rules css/\RowA w B 3 ea s.els.kids.length ec (dY s.els.kids)/\s.order= [o0,o1,o2,o3,o4,o5]:=by
 obtain⟨cs,rfl,a,c,css,es,rfl,h1,h2,⟨ea,ec,rfl,h3⟩,h4⟩:=h
 match ho:s.order,h4 with
 | [o0,o1,o2,o3,o4,o5],_=>exact⟨a,c,css,ea,ec,o0,o1,o2,o3,o4,o5,rfl,h1,h2,h3,rfl⟩
theorem h_I {w:World} {B n cap:Nat} {a:Option Addr} {rs:List bJ} {css:List Value} (h:RowA w B 8 a n cap css) (hr:g8 w B rs css) (k:Nat) (hk:k < rs.length):
 ∃ b off ra rc,a=some ⟨b,off,none⟩/\b < B/\RowA w B 3 ra rs[k].kids.length rc (dY rs[k].kids)/\w.cell? ⟨b,off+k * 8,none⟩=some (aV rs[k].type)/\w.cell? ⟨b,off+k * 8+1,none⟩=some (.int .i64 rs[k].text.1)/\
   w.cell? ⟨b,off+k * 8+2,none⟩=some (aV rs[k].text.2)/\w.cell? ⟨b,off+k * 8+3,none⟩=some (.int .i64 rs[k].other.1)/\w.cell? ⟨b,off+k * 8+4,none⟩=some (aV rs[k].other.2)/\w.cell? ⟨b,off+k * 8+5,none⟩=some (.slice ra rs[k].kids.length rc)/\
   w.cell? ⟨b,off+k * 8+6,none⟩=some (.int .i64 rs[k].fill)/\w.cell? ⟨b,off+k * 8+7,none⟩=some (aV rs[k].fillT):=by
 obtain⟨b,off,ra,rc,h1,h2,h3,h4⟩:=h.rule_at hr k hk
 exact⟨b,off,ra,rc,h1,h2,h3,h4 0 _ rfl,h4 1 _ rfl,h4 2 _ rfl,h4 3 _ rfl,h4 4 _ rfl,h4 5 _ rfl,h4 6 _ rfl,h4 7 _ rfl⟩
theorem f_e {s:b8} {k:List UInt8} {j:Nat} (hj:j < s.rules.length) (h:s.rules[j].type=k) (hb:∀i (hi:i < j),(s.rules[i]'(by omega)).type≠k):bV s k=s.rules[j]:=by
 unfold bV
 rw [b_X (q:=fun r=>decide (r.type=k)) hj (by simpa using h) (fun i hi=>by simpa using hb i hi)]
 rfl
theorem f_f {s:b8} {k:List UInt8} (hb:∀i (hi:i < s.rules.length),s.rules[i].type≠k):bV s k=s.els:=by
 unfold bV
 rw [a_O (fun i hi=>by simpa using hb i hi)]
 rfl
theorem GY (s:b8) (k:List UInt8):bV s k∈s.rules∨bV s k=s.els:=by
 unfold bV
 cases h:s.rules.find? (fun r=>decide (r.type=k))with
 | none=>exact .inr rfl
 | some r=>exact .inl (List.mem_of_find?_eq_some h)
theorem L0 (s:b8) (k:List UInt8):(bV s k).wt <= s.wt:=by
 unfold b8.wt
 rcases GY s k with h | h
 . have:=DX h;omega
 . rw [h];omega
theorem GZ (r:bJ):3 * r.kids.length <= r.wt:=by
 have:=b_d r.kids
 unfold bJ.wt;omega
theorem i_l (ty:List UInt8) (td:Int) (tt:List UInt8) (od:Int) (ot:List UInt8) (sl:Option Addr) (sn sc:Nat) (fl:Int) (ft k:List UInt8) (N:Nat) (W:World) (hN:W.cell? ⟨N,0,none⟩=some (aV k)):
 Calls Tryz.prog 106 #[.agg #[aV ty, .int .i64 td,aV tt, .int .i64 od,aV ot, .slice sl sn sc, .int .i64 fl,aV ft], .pointer (some ⟨N,0,none⟩)] W fun e w'=>e= .returned (.bool (decide (ty=k)))/\Below W.heap.size W w':=by
 have hlt:=World.block_lt_of_cell? W _ hN
 have Hb:=a6 (aX W (Obj.cells #[aV ty, .int .i64 td,aV tt, .int .i64 od,aV ot, .slice sl sn sc, .int .i64 fl,aV ft] 27))
 go_enter Tryz.func106,Tryz.ntmps106
 go_wp2_with fail
 go_ret
 exact⟨b7 (e_4 _ _),Hb.o⟩
theorem f_g:∀args w,(callFunc 106 args).run Tryz.prog w= .ok (.enter 106 args) w:=by intro args w;kernel_rfl
abbrev n_H (W:World) (r:bJ) (e:Ending) (w':World):Prop:=
 ∃a c,e= .returned (.agg #[aV r.type, .int .i64 r.text.1,aV r.text.2, .int .i64 r.other.1,aV r.other.2, .slice a r.kids.length c, .int .i64 r.fill,aV r.fillT])/\RowQ w' (fun b=>W.heap.size <= b) 3 a r.kids.length c (dY r.kids)/\Below W.heap.size W w'
theorem a_t (s:b8) (v:Value) (k:List UInt8) (W:World) (hw:s.wt <= 100000000) (hv:SchemaV W W.heap.size s v):
 Calls Tryz.prog 53 #[v,aV k] W (n_H W (bV s k)):=by
 have hs1:=fun(j:Nat) (hj:j < s.rules.length) h hb=>f_e (s:=s) (k:=k) (j:=j) hj h hb
 have hs2:=fun hb=>f_f (s:=s) (k:=k) hb
 have hRw:(bV s k).kids.length <= 100000000:=by have:=GZ (bV s k);have:=L0 s k;omega
 obtain⟨R,hR⟩:∃R,R=bV s k:=⟨_,rfl⟩
 rw [<- hR]at hs1 hs2 hRw⊢
 have hrl:s.rules.length <= 100000000:=by have:=pJ s.rules;unfold b8.wt at hw;omega
 obtain⟨a,c,css,ea,ec,o0,o1,o2,o3,o4,o5,rfl,h1,h2,h3, -⟩:=hv.open
 obtain⟨rs,⟨ty,⟨td,tt⟩,⟨od,ot⟩,kids,fill,ft⟩,order,scap⟩:=s
 simp only at hs1 hs2 hrl h1 h2 h3⊢
 obtain⟨w0,hw0⟩:∃w0,w0=((((W.alloc (Obj.cells #[.slice a rs.length c,aV ty, .int .i64 td,aV tt, .int .i64 od,aV ot, .slice ea kids.length ec, .int .i64 fill,aV ft, .int .i64 o0, .int .i64 o1, .int .i64 o2, .int .i64 o3, .int .i64 o4, .int .i64 o5, .int .i64 scap] 30)).alloc (Obj.cells #[aV k] 9)).alloc (Obj.cells #[aV [], .int .i64 0,aV [], .int .i64 0,aV [], .slice none 0 0, .int .i64 0,aV []] 27)).alloc (Obj.cells #[aV ty, .int .i64 td,aV tt, .int .i64 od,aV ot, .slice ea kids.length ec, .int .i64 fill,aV ft] 27)):=⟨_,rfl⟩
 have hb0:Below W.heap.size W w0:=by rw [hw0];exact g_9 _ _ _ _ _
 have hA:At w0 W.heap.size [.slice a rs.length c,aV ty, .int .i64 td,aV tt, .int .i64 od,aV ot, .slice ea kids.length ec, .int .i64 fill,aV ft, .int .i64 o0, .int .i64 o1, .int .i64 o2, .int .i64 o3, .int .i64 o4, .int .i64 o5, .int .i64 scap] 30:=by rw [hw0];exact(((At.fresh W _ _).alloc _).alloc _).alloc _
 have hK:At w0 (W.heap.size+1) [aV k] 9:=by rw [hw0];exact((At.second W _ _ _).alloc _).alloc _
 have hX:At w0 (W.heap.size+1+1) [aV [], .int .i64 0,aV [], .int .i64 0,aV [], .slice none 0 0, .int .i64 0,aV []] 27:=by rw [hw0];exact(At.third W _ _ _ _).alloc _
 have hY:At w0 (W.heap.size+1+1+1) [aV ty, .int .i64 td,aV tt, .int .i64 od,aV ot, .slice ea kids.length ec, .int .i64 fill,aV ft] 27:=by rw [hw0];exact At.fourth W _ _ _ _ _
 have hr0:=h1.keep hb0 hb0.size;have hc0:=g8.keep hb0 hb0.size h2
 have hgd:∀j (hj:j < rs.length),(rs.map (·.type)).getD j []=rs[j].type:=fun j hj=>by simp [List.getD,List.getElem?_eq_getElem hj]
 have HI:=a6 (e_N rs.length a c 106 #[.pointer (some ⟨W.heap.size+1,0,none⟩)] (fun j=>decide ((rs.map (·.type)).getD j []=k)) w0 hrl f_g (fun j W' hj hb=>by
  obtain⟨b,off,ra,rc,ha, -, -,g0,g1,g2,g3,g4,g5,g6,g7⟩:=h_I (hr0.keep hb hb.size) (g8.keep hb hb.size hc0) j hj
  refine⟨b,off,_,_,_,_,_,_,_,_,ha,g0,g1,g2,g3,g4,g5,g6,g7, ?_⟩
  rw [hgd j hj]
  exact i_l _ _ _ _ _ _ _ _ _ _ _ _ W' ((hK.kept hb).cell 0 rfl)))
 have Hr:=a6 h1;have Hc:=a6 h2;have H3:=a6 h3;have Hb0:=a6 hb0;have HA:=a6 hA;have HX:=a6 hX;have HY:=a6 hY
 have Hs1:=a6 hs1;have Hs2:=a6 hs2;have Hgd:=a6 hgd
 have Hw0:=a6 hw0
 obtain⟨⟨x0,x1,x2,x3,x4,x5,x6,x7,x8,x9,x10,x11,x12,x13,x14,x15⟩, -,xl⟩:=hA.f16
 obtain⟨⟨y0,y1,y2,y3,y4,y5,y6,y7⟩,yf,yl⟩:=hY.f8
 have hcl:W.heap.size <= W.heap.size+1+1:=by omega
 have hcl2:W.heap.size <= W.heap.size+1+1+1:=by omega
 clear hv hs1 hs2 hR h1 h2 h3 hw0 hb0 hA hK hX hY hr0 hc0 hgd hw
 go_enter Tryz.func53,Tryz.ntmps53
 go_upto_region 2 with fail
 rw [<- Hw0.o]
 clear Hw0
 go_wp2_with fail
 refine HI.o.mono ?_
 rintro e w1 ⟨rfl,hbel⟩
 have Hb1:=a6 (Hb0.o.trans (hbel.mono Hb0.o.size))
 have HA1:=a6 (HA.o.kept hbel);have HX1:=a6 (HX.o.kept hbel);have HY1:=a6 (HY.o.kept hbel)
 clear hbel HI x0 x1 x2 x3 x4 x5 x6 x7 x8 x9 x10 x11 x12 x13 x14 x15 y0 y1 y2 y3 y4 y5 y6 y7 yf HA HX HY
 obtain⟨⟨x0,x1,x2,x3,x4,x5,x6,x7,x8,x9,x10,x11,x12,x13,x14,x15⟩, -,xl⟩:=HA1.o.f16
 obtain⟨⟨y0,y1,y2,y3,y4,y5,y6,y7⟩,yf,yl⟩:=HY1.o.f8
 obtain⟨z,hz⟩:∃z,z=rX (fun j=>decide ((rs.map (·.type)).getD j []=k)) rs.length:=⟨_,rfl⟩
 rw [<- hz]
 have Hz:=a6 hz
 clear hz
 go_upto_if 14 with fail
 go_cut [] (fun wx=>∃ra rc,At wx (W.heap.size+1+1+1) [aV R.type, .int .i64 R.text.1,aV R.text.2, .int .i64 R.other.1,aV R.other.2, .slice ra R.kids.length rc, .int .i64 R.fill,aV R.fillT] 27/\
  At wx (W.heap.size+1+1) [aV [], .int .i64 0,aV [], .int .i64 0,aV [], .slice none 0 0, .int .i64 0,aV []] 27/\RowA wx W.heap.size 3 ra R.kids.length rc (dY R.kids)/\Below W.heap.size W wx)
 case first=>
  rcases kQ (fun j=>decide ((rs.map (·.type)).getD j []=k)) rs.length with⟨j,hj,hp,hmin,he⟩ | ⟨hall,he⟩
  . have hze:z=(j:Int):=Hz.o.trans he
    subst hze
    have HG:=a6 (Hs1.o j hj (by have h:=of_decide_eq_true hp;rw [Hgd.o j hj]at h;exact h) (fun i hi=>by have h:=of_decide_eq_false (hmin i hi);rw [Hgd.o i (by omega)]at h;exact h))
    have hji:(j:Int) < rs.length:=by omega
    obtain⟨b,off,ra,rc,rfl, -,hrr,g0,g1,g2,g3,g4,g5,g6,g7⟩:=h_I (Hr.o.keep Hb1.o (a8)) (g8.keep Hb1.o (a8) Hc.o) j hj
    have Hrr:=a6 hrr
    generalize rs[j]=q at g0 g1 g2 g3 g4 g5 g6 g7 HG Hrr
    clear he hmin hp hrr Hz
    go_wp2_with fail
    go_meet
    case rel=>
     rw [HG.o]
     exact⟨ra,rc,HY1.o.s8 _ _ _ _ _ _ _ _,HX1.o.n8 (by omega) _ _ _ _ _ _ _ _,Hrr.o.keep (a_h (a7) hcl2 _ _ _ _ _ _ _ _) (a8),a_h Hb1.o hcl2 _ _ _ _ _ _ _ _⟩
  . have hze:z= -1:=Hz.o.trans he
    subst hze
    have HG:=a6 (Hs2.o (fun i hi=>by have h:=of_decide_eq_false (hall i hi);rw [Hgd.o i hi]at h;exact h))
    clear he hall Hz
    go_wp2_with fail
    go_meet
    case rel=>
     rw [HG.o]
     exact⟨ea,ec,HY1.o,HX1.o,H3.o.keep Hb1.o (a8),Hb1.o⟩
 case rest=>
  obtain⟨ra,rc,hy,hx,hrr,hb⟩:=hcut
  have HY2:=a6 hy;have HX2:=a6 hx;have Hb2:=a6 hb
  have hlt2:=hy.lt
  have HC:=a6 (g_D W.heap.size R.kids.length ra rc (dY R.kids) wc hrr hb.size hRw)
  clear x0 x1 x2 x3 x4 x5 x6 x7 x8 x9 x10 x11 x12 x13 x14 x15 y0 y1 y2 y3 y4 y5 y6 y7 yf hy hx hrr hb HA1 HX1 HY1 Hs1 Hs2 Hz Hgd
  obtain⟨⟨y0,y1,y2,y3,y4,y5,y6,y7⟩,yf,yl⟩:=HY2.o.f8
  go_wp2_with fail
  refine HC.o.mono ?_
  rintro e w2 ⟨v2,rfl,hown,hbel⟩
  obtain⟨ka,kc,rfl,hq⟩:=oK hown (d_5 _)
  have Hq:=a6 hq
  have Hb3:=a6 (Hb2.o.trans (hbel.mono Hb2.o.size))
  have HY3:=a6 (HY2.o.kept hbel);have HX3:=a6 (HX2.o.kept hbel)
  clear hbel hown hq HC y0 y1 y2 y3 y4 y5 y6 y7 yf HY2 HX2
  obtain⟨⟨y0,y1,y2,y3,y4,y5,y6,y7⟩,yf,yl⟩:=HY3.o.f8
  obtain⟨⟨z0,z1,z2,z3,z4,z5,z6,z7⟩,zf,zl⟩:=HX3.o.f8
  go_wp2_with fail
  refine bodyPost_ret (v:= .agg #[aV R.type, .int .i64 R.text.1,aV R.text.2, .int .i64 R.other.1,aV R.other.2, .slice ka R.kids.length kc, .int .i64 R.fill,aV R.fillT]) (by simp [results,Tryz.results53,go_sem,z0,z1,z2,z3,z4,z5,z6,z7]) rfl ?_
  have hn3:¬ (wc.heap.size <= W.heap.size+1+1+1):=by omega
  have hn2:¬ (wc.heap.size <= W.heap.size+1+1):=by omega
  exact⟨ka,kc,rfl,(l_j (aY Hq.o hn3) hn2 _ _ _ _ _ _ _ _).keep (a8) (fun _ _ _=>rfl) (fun b hb _=>aJ Hb2.o.size hb),a_h (Hb3.o.setCell (p:=⟨W.heap.size+1+1+1,5,none⟩) hcl2 _) hcl _ _ _ _ _ _ _ _⟩
theorem m_Y {a b:List UInt8} (h:a≠b):(a == b)=false:=by simp [h]
theorem h_J (a b:Int):(a == b)=decide (a=b):=by by_cases h:a=b <;> simp [h]
theorem i_m {w:World} {B cap:Nat} {a:Option Addr} {ks:List aK} {css:List Value} (h:RowA w B 4 a ks.length cap css) (hk:dQ w B ks css) (i:Nat) (hi:i < ks.length):
 ∃ b off ap cp at_ ct ak ck,a=some ⟨b,off,none⟩/\b < B/\bY w B ks[i] (.agg #[.bool (aZ ks[i]), .slice ap (cV ks[i]).length cp, .slice at_ (gJ ks[i]).length ct, .slice ak (aQ ks[i]).length ck])/\RowA w B 2 ap (cV ks[i]).length cp (bK (cV ks[i]))/\
   w.cell? ⟨b,off+i * 4,none⟩=some (.bool (aZ ks[i]))/\w.cell? ⟨b,off+i * 4+1,none⟩=some (.slice ap (cV ks[i]).length cp)/\w.cell? ⟨b,off+i * 4+2,none⟩=some (.slice at_ (gJ ks[i]).length ct)/\w.cell? ⟨b,off+i * 4+3,none⟩=some (.slice ak (aQ ks[i]).length ck):=by
 obtain⟨b,off,l',a1,n1,c1,a2,n2,c2,a3,n3,c3,ha,hb,hnc,g0,g1,g2,g3⟩:=h.kid_at hk i hi
 generalize ks[i]=q at hnc⊢
 obtain⟨l,ps,t,ks'⟩:=q
 have hnv:bY w B (.mk l ps t ks') (.agg #[.bool l', .slice a1 n1 c1, .slice a2 n2 c2, .slice a3 n3 c3]):=⟨_,rfl,hnc⟩
 obtain⟨ap,cp,at_,ct,ak,ck,css',hv,h2, -, -, -⟩:=hnv.open
 simp only [Value.agg.injEq,Array.mk.injEq,List.cons.injEq,Value.bool.injEq,Value.slice.injEq,and_true]at hv
 obtain⟨rfl,⟨rfl,rfl,rfl⟩,⟨rfl,rfl,rfl⟩,⟨rfl,rfl,rfl⟩⟩:=hv
 exact⟨b,off,_,_,_,_,_,_,ha,hb,hnv,h2,g0,g1,g2,g3⟩
theorem u_9 {ks:List aK} {i:Nat} (hi:i < ks.length):cX ks i=ks[i]:=by simp [cX,List.getD,List.getElem?_eq_getElem hi]
def m4 (l:List A7):List Value:=l.flatMap oV
theorem N1 (l:List A7):(m4 l).length=l.length * 2:=by
 induction l with
 | nil=>rfl
 | cons p l ih=>simp only [m4,oV,List.flatMap_cons,List.length_append,List.length_cons,List.length_nil]at *;omega
theorem d_w:∀ (l:List A7) (i:Nat) (hi:i < l.length),(m4 l)[i * 2]? =some (.int .i64 l[i].1)/\(m4 l)[i * 2+1]? =some (aV l[i].2)
 | [],i,hi=>absurd hi (by simp)
 | p::l,0,hi=>by simp [m4,oV]
 | p::l,i+1,hi=>by
   have h:=d_w l i (by simpa using hi)
   have e:m4 (p::l)= .int .i64 p.1::aV p.2::m4 l:=by simp [m4,oV]
   rw [e,show (i+1) * 2=i * 2+1+1 by omega]
   simpa using h
theorem g_E {w:World} {B n cap:Nat} {a:Option Addr} {l:List A7} (h:RowA w B 2 a n cap (m4 l)) (k:Nat) (hk:k < l.length):
 ∃b off,a=some ⟨b,off,none⟩/\b < B/\w.cell? ⟨b,off+k * 2,none⟩=some (.int .i64 l[k].1)/\w.cell? ⟨b,off+k * 2+1,none⟩=some (aV l[k].2):=by
 obtain⟨h1,h2⟩:=d_w l k hk
 obtain⟨b,off,ha,hb,hc⟩:=h.some_ (by intro e;rw [e]at h1;simp at h1)
 exact⟨b,off,ha,hb,hc _ _ h1,by have:=hc _ _ h2;rwa [<- Nat.add_assoc]at this⟩
def JK (l:List A7) (d:Int):Int:=rX (fun i=>decide ((l.getD i (0, [])).1=d)) l.length
def a_u (W:World) (at_:Int) (m:Nat) (e:Ending) (w':World):Prop:= ∃k:Int,e= .returned (.tuple #[.int .i64 at_, .int .i64 k])/\(0 <= at_ ->k=m)/\Below W.heap.size W w'
theorem j_Y (x:Int) (t:List UInt8) (d:Int) (N:Nat) (W:World) (hN:W.cell? ⟨N,0,none⟩=some (.int .i64 d)):
 Calls Tryz.prog 202 #[.agg #[.int .i64 x,aV t], .pointer (some ⟨N,0,none⟩)] W fun e w'=>e= .returned (.bool (decide (x=d)))/\Below W.heap.size W w':=by
 have hlt:=World.block_lt_of_cell? W _ hN
 have Hb:=a6 (aX W (Obj.cells #[.int .i64 x,aV t] 24))
 go_enter Tryz.func202,Tryz.ntmps202
 go_wp2_with fail
 go_ret
 exact⟨b7 (h_J _ _),Hb.o⟩
theorem g_F:∀args w,(callFunc 202 args).run Tryz.prog w= .ok (.enter 202 args) w:=by intro args w;kernel_rfl
theorem l_O (e0 e1 e2 e3 e4 e5 e6 e7 e8 e9 e10 e11:Value) (aa:Option Addr) (ac:Nat) (l:List A7) (d:Int) (W:World) (hr:RowA W W.heap.size 2 aa l.length ac (m4 l)) (hn:l.length <= 100000000):
 Calls Tryz.prog 149 #[.agg #[e0,e1,e2,e3,e4,e5,e6,e7,e8,e9,e10,e11, .slice aa l.length ac], .int .i64 d] W (a_u W (JK l d) (if d=4 then a_P l (JK l d).toNat else 1)):=by
 obtain⟨mz,hmz⟩:∃mz,mz=(if d=4 then a_P l (JK l d).toNat else 1):=⟨_,rfl⟩
 rw [<- hmz]
 obtain⟨w0,hw0⟩:∃w0,w0=(W.alloc (Obj.cells #[e0,e1,e2,e3,e4,e5,e6,e7,e8,e9,e10,e11, .slice aa l.length ac] 118)).alloc (Obj.cells #[.int .i64 d] 3):=⟨_,rfl⟩
 have hb0:Below W.heap.size W w0:=by rw [hw0];exact i8 _ _ _
 have hA:At w0 W.heap.size [e0,e1,e2,e3,e4,e5,e6,e7,e8,e9,e10,e11, .slice aa l.length ac] 118:=by rw [hw0];exact(At.fresh W _ _).alloc _
 have hX:At w0 (W.heap.size+1) [.int .i64 d] 3:=by rw [hw0];exact At.second W _ _ _
 have hr0:=hr.keep hb0 hb0.size
 have hgd:∀j (hj:j < l.length),l.getD j (0, [])=l[j]:=fun j hj=>by simp [List.getD,List.getElem?_eq_getElem hj]
 have HI:=a6 (l_i l.length aa ac 202 #[.pointer (some ⟨W.heap.size+1,0,none⟩)] (fun j=>decide ((l.getD j (0, [])).1=d)) w0 hn g_F (fun j W' hj hb=>by
  obtain⟨b,off,ha, -,h0,h1⟩:=g_E (hr0.keep hb hb.size) j hj
  refine⟨b,off,_,_,ha,h0,h1, ?_⟩
  rw [hgd j hj]
  exact j_Y l[j].1 l[j].2 d _ W' ((hX.kept hb).cell 0 rfl)))
 have Hcs:=a6 (kQ (fun j=>decide ((l.getD j (0, [])).1=d)) l.length)
 have hdo:JK l d=rX (fun j=>decide ((l.getD j (0, [])).1=d)) l.length:=rfl
 rw [<- hdo]at HI Hcs
 generalize JK l d=z at HI Hcs hmz⊢
 have Hmz:=a6 hmz
 clear hmz
 have Hr:=a6 hr0;have Hb0:=a6 hb0;have HA:=a6 hA;have HX:=a6 hX;have Hw0:=a6 hw0;have Hgd:=a6 hgd
 have x12:=hA.cell 12 rfl
 have xl:=hA.lt
 clear hdo hw0 hb0 hA hX hr0 hr hgd
 go_enter Tryz.func149,Tryz.ntmps149
 go_upto_region 1 with fail
 rw [<- Hw0.o]
 clear Hw0
 go_wp2_with fail
 refine HI.o.mono ?_
 rintro e w1 ⟨rfl,hbel⟩
 have Hb1:=a6 (Hb0.o.trans (hbel.mono Hb0.o.size))
 have Hr1:=a6 (Hr.o.keep hbel hbel.size)
 have y12:=(HA.o.kept hbel).cell 12 rfl
 have yl:=(HA.o.kept hbel).lt
 have z0:=(HX.o.kept hbel).cell 0 rfl
 have zl:=(HX.o.kept hbel).lt
 clear hbel HI x12 xl HA HX Hr Hb0
 rcases Hcs.o with⟨j,hj,hp, -,he⟩ | ⟨-,he⟩
 . subst he
   have hnl:decide ((j:Int) < 0)=false:=by simp
   clear hp Hcs
   by_cases h4:d=4
   . subst h4
     obtain⟨b,off,rfl,hb,g0,g1⟩:=g_E Hr1.o j hj
     have hji:(j:Int) < l.length:=by omega
     have Hg0:=a6 g0;have Hg1:=a6 g1
     clear g0 g1
     go_wp2_with fail
     go_loopg [5] (l.length - 1) (fun g m wr=>∃mm:Nat,m= .int .i64 mm/\1 <= mm/\j+mm <= l.length/\mm+g=l.length/\(∀q (hq:q < mm) (hl:j+q < l.length),l[j+q]=l[j])/\Below w1.heap.size w1 wr)
     case atStart=>
      refine⟨1,rfl,by omega,by omega,by omega,fun q hq hl=> ?_,a7⟩
      obtain rfl:q=0:=by omega
      rfl
     case round=>
      obtain⟨mm,rfl,h1,hjm,hg,hal,hbr⟩:=hrel
      have Hal:=a6 hal;have Hbr:=a6 hbr
      have y12':=(hbr.cell (by exact yl)).trans y12
      have g0:=(hbr.cell (by exact hb)).trans Hg0.o
      have g1:=(hbr.cell (by exact hb)).trans Hg1.o
      have yl':=Nat.lt_of_lt_of_le yl hbr.size
      have HbF:=a6 (Hb1.o.trans (hbr.mono Hb1.o.size))
      have hwr:IntKind.i64.wrap ((j:Int)+(mm:Int))=((j+mm:Nat):Int):=by rw [show (j:Int)+(mm:Int)=((j+mm:Nat):Int)by omega];exact IntWalk.i64_in _ (by omega)
      clear hal hbr y12 z0 zl yl
      by_cases hlt:j+mm < l.length
      . have h5I:((j+mm:Nat):Int) < (l.length:Int):=by omega
        have h4I:(j:Int)+(mm:Int) < (l.length:Int):=by omega
        obtain⟨b',off',hbe, -,k0,k1⟩:=g_E (Hr1.o.keep Hbr.o Hbr.o.size) (j+mm) hlt
        injection hbe with hbe;injection hbe with e1 e2;subst e1;subst e2
        by_cases hx:l[j+mm].1=l[j].1
        . by_cases hy:l[j+mm].2=l[j].2
          . have hxy:l[j+mm]=l[j]:=Prod.ext hx hy
            have Hal2:=a6 (show ∀q (hq:q < mm+1) (hl:j+q < l.length),l[j+q]=l[j]from fun q hq hl=>by
             rcases Nat.lt_or_ge q mm with h | h
             . exact Hal.o q h hl
             . obtain rfl:q=mm:=by omega
               exact hxy)
            rw [hxy]at k0 k1
            generalize l[j]=B at g0 g1 k0 k1
            clear hx hy hxy
            go_wp2_with fail
            go_quiet (fail)
            go_wp2_with fail
            go_roundg (l.length - (mm+1))
            case measure=>omega
            case rel=>exact⟨mm+1,by go_num,by omega,by omega,by omega,Hal2.o,below_drewN Hbr.o _⟩
          . have Hm:=a6 (e_3 hj h1 hjm (fun q hq=>Hal.o q hq (by omega)) (fun h e=>hy (congrArg Prod.snd e)))
            have hb2:=m_Y hy
            rw [hx]at k0
            generalize l[j+mm].2=A2 at k1 hb2
            generalize l[j]=B at g0 g1 k0 hb2
            clear hx hy
            go_wp2_with fail
            go_quiet (fail)
            go_wp2_with fail
            go_ret2
            exact⟨_,rfl,fun _=>by rw [Hmz.o];simp [Hm.o],below_drewN HbF.o _⟩
        . have Hm:=a6 (e_3 hj h1 hjm (fun q hq=>Hal.o q hq (by omega)) (fun h e=>hx (congrArg Prod.fst e)))
          have hb1:(l[j+mm].1 == l[j].1)=false:=by simpa using hx
          generalize l[j+mm]=A at k0 k1 hb1
          generalize l[j]=B at g0 g1 hb1
          clear hx
          go_wp2_with fail
          go_quiet (fail)
          go_wp2_with fail
          go_ret2
          exact⟨_,rfl,fun _=>by rw [Hmz.o];simp [Hm.o],below_drewN HbF.o _⟩
      . have h4I:decide ((j:Int)+(mm:Int) < (l.length:Int))=false:=by simp;omega
        have Hm:=a6 (e_3 hj h1 hjm (fun q hq=>Hal.o q hq (by omega)) (fun h e=>hlt h))
        go_wp2_with fail
        go_quiet (fail)
        go_wp2_with fail
        go_ret2
        exact⟨_,rfl,fun _=>by rw [Hmz.o];simp [Hm.o],below_drewN HbF.o _⟩
   . have hd4:(d != 4)=true:=by simpa using h4
     go_wp2_with fail
     go_ret2
     exact⟨_,rfl,fun _=>by rw [Hmz.o,if_neg h4];rfl,Hb1.o⟩
 . subst he
   clear Hcs
   go_wp2_with fail
   go_ret2
   exact⟨_,rfl,fun h=>by omega,Hb1.o⟩
end Go.Proofs.YtmadpclcmjahoaaGreatDoor
