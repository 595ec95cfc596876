/- Parts of the proof: 8. -/
import Derived.Test.YtmadpclcmjahoaaGreatDoorFN7
import Derived.Test.YtmadpclcmjahoaaGreatDoorFN4
import Derived.Shelf.Strings.SlTrimAscii
import Derived.Test.YtmadpclcmjahoaaGreatDoorProg
import Derived.Test.YtmadpclcmjahoaaGreatDoorFN1
import Derived.Test.YtmadpclcmjahoaaGreatDoorFN2
import Derived.Laws.Cover1
import Derived.Lib.SlTrimSet
import Derived.Laws.BytesArg
import Derived.Deep.RegionWith
import Derived.Test.YtmadpclcmjahoaaGreatDoorFN3
import Derived.Test.YtmadpclcmjahoaaGreatDoorFN6
set_option linter.unusedVariables false
set_option linter.unusedSimpArgs false
set_option maxHeartbeats 8000000
set_option maxRecDepth 100000
namespace Go.Proofs.YtmadpclcmjahoaaGreatDoor
open Go.RowKit Go.Redl
def AJ (z:Int):Bool:=decide (z < 0) || decide (1048576 < z)
def bQ (l:List Int):Bool:=l.all fun z=> !AJ z
theorem l_u (n:Nat) (a:Option Addr) (cap cb:Nat) (caps:Array Value) (pred:Nat ->Bool) (W:World) (hn:n <= 100000000) (hcb:∀args w,(callFunc cb args).run Tryz.prog w= .ok (.enter cb args) w)
 (H:∀ (k:Nat) (W':World),k < n ->Below W.heap.size W W' ->∃b off c0,a=some ⟨b,off,none⟩/\W'.cell? ⟨b,off+k,none⟩=some c0/\Calls Tryz.prog cb (#[c0] ++ caps) W' fun e w'=>e= .returned (.bool (pred k))/\Below W'.heap.size W' w'):
 Calls Tryz.prog 245 #[.slice a n cap, .func (.func cb) #[] caps] W fun e w'=>e= .returned (.int .i64 (rX pred n))/\Below W.heap.size W w':=by
 have HH:=a6 H
 clear H
 go_enter Tryz.func245,Tryz.ntmps245
 go_wp2_with fail
 go_loopg [8] n (fun g i wr=>∃k:Nat,k+g=n/\i= .int .i64 k/\(∀j,j < k ->pred j=false)/\Below W.heap.size W wr)
 case atStart=>exact⟨0,by omega,rfl,by intro j hj;omega,a7⟩
 case round=>
  obtain⟨k,hg,rfl,hb,hbr⟩:=hrel
  have Hbr:=a6 hbr;have Hb:=a6 hb
  by_cases hlt:k < n
  . obtain ⟨b,off,c0,rfl,h0,hC⟩:=HH.o k wr hlt hbr
    have hlti:(k:Int) < n:=by omega
    clear hb hbr HH
    cases hp:pred k with
    | true=>
      rw [hp]at hC
      have HC:=a6 hC
      have Hr:=a6 (qQ hlt hp Hb.o)
      clear hC hp
      go_wp2_with fail
      refine HC.o.mono ?_
      rintro e w1 ⟨rfl,hbel⟩
      have Hb1:=a6 (Hbr.o.trans (hbel.mono Hbr.o.size))
      clear hbel HC
      go_wp2_with fail
      go_ret
      exact⟨cY Hr.o.symm,Hb1.o⟩
    | false=>
      rw [hp]at hC
      have HC:=a6 hC
      have Hr:=a6 (show ∀j,j < k+1 ->pred j=false from fun j hj=>by
       rcases Nat.lt_or_ge j k with h | h
       . exact Hb.o j h
       . obtain rfl:j=k:=by omega
         exact hp)
      clear hC hp
      go_wp2_with fail
      refine HC.o.mono ?_
      rintro e w1 ⟨rfl,hbel⟩
      have Hb1:=a6 (Hbr.o.trans (hbel.mono Hbr.o.size))
      clear hbel HC
      go_wp2_with fail
      go_roundg (gk - 1)
      case measure=>omega
      case rel=>exact⟨k+1,by omega,by go_num,Hr.o,Hb1.o⟩
  . obtain rfl:k=n:=by omega
    have Hr:=a6 (oX hb)
    clear hb hbr HH
    go_wp2_with fail
    go_ret
    exact⟨cY Hr.o.symm,Hbr.o⟩
theorem g_i:∀args w,(callFunc 195 args).run Tryz.prog w= .ok (.enter 195 args) w:=by intro args w;kernel_rfl
theorem j_D (z:Int) (W:World):Calls Tryz.prog 195 #[.int .i64 z] W fun e w'=>e= .returned (.bool (AJ z))/\Below W.heap.size W w':=by
 unfold AJ
 by_cases h:z < 0
 . have H:=a6 h
   go_enter Tryz.func195,Tryz.ntmps195
   go_wp2_with fail
   go_ret
   exact⟨b7 (by simp [H.o]),a7⟩
 . have H:=a6 h
   have hd:decide (z < 0)=false:=decide_eq_false h
   go_enter Tryz.func195,Tryz.ntmps195
   go_wp2_with fail
   go_ret
   exact⟨b7 (by simp [H.o]),a7⟩
theorem e_W (l:List Int):decide (0 <= rX (fun k=>AJ (l.getD k 0)) l.length)= !bQ l:=by
 unfold bQ
 rcases kQ (fun k=>AJ (l.getD k 0)) l.length with⟨k,hk,h1, -,he⟩ | ⟨h1,he⟩
 . rw [he]
   have:l.all (fun z=> !AJ z)=false:=by
    rw [List.all_eq_false]
    refine⟨l[k],List.getElem_mem hk, ?_⟩
    rw [fJ hk]at h1
    simp [h1]
   rw [this];simp
 . rw [he]
   have:l.all (fun z=> !AJ z)=true:=by
    rw [List.all_eq_true]
    intro z hz
    obtain⟨k,hk,rfl⟩:=List.mem_iff_getElem.1 hz
    have:=h1 k hk
    rw [fJ hk]at this
    simp [this]
   rw [this];rfl
theorem l_v (xs:List Int) (a:Option Addr) (cap B:Nat) (W:World) (hr:RowA W B 1 a xs.length cap (xs.map (Value.int .i64))) (hB:B <= W.heap.size) (hn:xs.length <= 100000000):
 Calls Tryz.prog 194 #[.slice a xs.length cap, .func (.func 195) #[] #[]] W fun e w'=>e= .returned (.bool (!bQ xs))/\Below W.heap.size W w':=by
 have HI:=a6 (l_u xs.length a cap 195 #[] (fun k=>AJ (xs.getD k 0)) W hn g_i fun k W' hk hb=>by
  obtain⟨b,off,rfl,hlt,hc⟩:=hr.int_at k hk
  exact⟨b,off, .int .i64 (xs.getD k 0),rfl,(hb.cell (by exact Nat.lt_of_lt_of_le hlt hB)).trans (hc k hk),j_D _ W'⟩)
 have Hd:=a6 (e_W xs)
 generalize rX (fun k=>AJ (xs.getD k 0)) xs.length=z at HI Hd
 clear hr
 go_enter Tryz.func194,Tryz.ntmps194
 go_wp2_with fail
 refine HI.o.mono ?_
 rintro e w1 ⟨rfl,hbel⟩
 have Hb:=a6 hbel
 clear hbel HI
 go_wp2_with fail
 go_ret
 exact⟨b7 Hd.o,Hb.o⟩
theorem DY (xs:List Int) (a:Option Addr) (cap B:Nat) (W:World) (hr:RowA W B 1 a xs.length cap (xs.map (Value.int .i64))) (hB:B <= W.heap.size) (hn:xs.length <= 100000000):
 Calls Tryz.prog 140 #[.slice a xs.length cap] W fun e w'=>e= .returned (.bool (bQ xs))/\Below W.heap.size W w':=by
 have HI:=a6 (l_v xs a cap B W hr hB hn)
 clear hr
 generalize bQ xs=z at HI⊢
 go_enter Tryz.func140,Tryz.ntmps140
 go_wp2_with fail
 refine HI.o.mono ?_
 rintro e w1 ⟨rfl,hbel⟩
 have Hb:=a6 hbel
 clear hbel HI
 go_wp2_with fail
 go_ret
 exact⟨b7 (by simp),Hb.o⟩
end Go.Proofs.YtmadpclcmjahoaaGreatDoor
namespace Go.Proofs
open Go.Shelf
def Tryz.lays160_ren:Go.Shelf.Ren:=⟨fun | 160=>164 | 232=>217 | 231=>216 | 227=>218 | 234=>220 | 233=>219 | 236=>222 | 235=>221 | 228=>254 | 271=>257 | 151=>256 | 197=>255 | 120=>276 | 152=>275 | 260=>274 | 137=>290 | 119=>172 | 224=>291 | 225=>292 | 217=>297 | 266=>299 | n=>n,fun | 9=>9 | 4=>4 | 3=>3 | 5=>5 | 117=>248 | 116=>247 | 0=>0 | 124=>251 | 21=>21 | 105=>284 | 46=>195 | 119=>310 | 139=>313 | 138=>312 | n=>n,fun | 3=>0 | 4=>1 | n=>n⟩
theorem Tryz.lays160:Go.Proofs.Lays.n160 Tryz.prog Tryz.lays160_ren:={
 mixed:=by kernel_rfl
 f119:=Tryz.func172.trans (congrArg some (by kernel_rfl))
 f120:=Tryz.func276.trans (congrArg some (by kernel_rfl))
 f137:=Tryz.func290.trans (congrArg some (by kernel_rfl))
 f151:=Tryz.func256.trans (congrArg some (by kernel_rfl))
 f152:=Tryz.func275.trans (congrArg some (by kernel_rfl))
 f160:=Tryz.func164.trans (congrArg some (by kernel_rfl))
 f197:=Tryz.func255.trans (congrArg some (by kernel_rfl))
 f217:=Tryz.func297.trans (congrArg some (by kernel_rfl))
 f224:=Tryz.func291.trans (congrArg some (by kernel_rfl))
 f225:=Tryz.func292.trans (congrArg some (by kernel_rfl))
 f227:=Tryz.func218.trans (congrArg some (by kernel_rfl))
 f228:=Tryz.func254.trans (congrArg some (by kernel_rfl))
 f231:=Tryz.func216.trans (congrArg some (by kernel_rfl))
 f232:=Tryz.func217.trans (congrArg some (by kernel_rfl))
 f233:=Tryz.func219.trans (congrArg some (by kernel_rfl))
 f234:=Tryz.func220.trans (congrArg some (by kernel_rfl))
 f235:=Tryz.func221.trans (congrArg some (by kernel_rfl))
 f236:=Tryz.func222.trans (congrArg some (by kernel_rfl))
 f260:=Tryz.func274.trans (congrArg some (by kernel_rfl))
 f266:=Tryz.func299.trans (congrArg some (by kernel_rfl))
 f271:=Tryz.func257.trans (congrArg some (by kernel_rfl))
 t0:=Tryz.underlying0
 a0:=Tryz.isAgg0
 z0:=Tryz.sizeOf0
 v0:=Tryz.zeroValue0
 t3:=Tryz.underlying3
 a3:=Tryz.isAgg3
 z3:=Tryz.sizeOf3
 v3:=Tryz.zeroValue3
 t4:=Tryz.underlying4
 a4:=Tryz.isAgg4
 z4:=Tryz.sizeOf4
 v4:=Tryz.zeroValue4
 t5:=Tryz.underlying5
 a5:=Tryz.isAgg5
 z5:=Tryz.sizeOf5
 v5:=Tryz.zeroValue5
 t9:=Tryz.underlying9
 a9:=Tryz.isAgg9
 z9:=Tryz.sizeOf9
 v9:=Tryz.zeroValue9
 t21:=Tryz.underlying21
 a21:=Tryz.isAgg21
 z21:=Tryz.sizeOf21
 v21:=Tryz.zeroValue21
 t46:=Tryz.underlying195
 a46:=Tryz.isAgg195
 z46:=Tryz.sizeOf195
 v46:=Tryz.zeroValue195
 t105:=Tryz.underlying284
 a105:=Tryz.isAgg284
 z105:=Tryz.sizeOf284
 v105:=Tryz.zeroValue284
 t116:=Tryz.underlying247
 a116:=Tryz.isAgg247
 z116:=Tryz.sizeOf247
 t117:=Tryz.underlying248
 a117:=Tryz.isAgg248
 z117:=Tryz.sizeOf248
 v117:=Tryz.zeroValue248
 t119:=Tryz.underlying310
 a119:=Tryz.isAgg310
 z119:=Tryz.sizeOf310
 t124:=Tryz.underlying251
 a124:=Tryz.isAgg251
 z124:=Tryz.sizeOf251
 v124:=Tryz.zeroValue251
 t138:=Tryz.underlying312
 a138:=Tryz.isAgg312
 z138:=Tryz.sizeOf312
 v138:=Tryz.zeroValue312
 t139:=Tryz.underlying313
 a139:=Tryz.isAgg313
 z139:=Tryz.sizeOf313
 v139:=Tryz.zeroValue313
 g3:=by kernel_rfl
 g4:=by kernel_rfl }
open Go.RowKit in
theorem Tryz.strings_Trim_set (s cutset:ByteArray) (w:World) (hs:s.size <= 9223372036854775807) (hcs:cutset.size < 4294967281) (hascii:∀ (j:Nat) b,cutset.data.toList[j]? =some b ->b.toNat < 128):
 Calls Tryz.prog 164 #[.string s, .string cutset] w fun e w'=>e= .returned (.string ⟨(Lib.trimS s.data.toList cutset.data.toList).toArray⟩)/\Below w.heap.size w w':=Any.strings_Trim_laid Tryz.lays160 (by kernel_rfl) s cutset w hs hcs hascii
end Go.Proofs
namespace Go.Proofs.YtmadpclcmjahoaaGreatDoor
open Go.RowKit Go.Redl
def e_X (c:UInt8):Bool:=decide (97 <= c.toNat/\c.toNat <= 122)
def J4 (c:UInt8):Bool:=e_X c || decide (48 <= c.toNat/\c.toNat <= 57) || c == 45
def d_8 (s:List UInt8):Bool:=decide (1 <= s.length/\s.length <= 16) && s.all e_X
def b_D (s:List UInt8):Bool:=decide (s.length <= 32) && s.all J4
def leB (a b:List UInt8):Bool:=Op.bytesLess a b || a == b
def u_4:List UInt8 ->List eK ->Int
 | _, []=>0
 | last,p::ps=>if d_8 p.1 && b_D p.2 then (if leB p.1 last then 1 else u_4 p.1 ps) else 3
def pY (ps:List eK):Int:=if 16 < ps.length then 2 else u_4 [] ps
def c_7 (ps:List eK) (k:Nat):List UInt8:=match k with | 0=> [] | k+1=>(ps.getD k ([], [])).1
theorem e_8 {ps:List eK} {k:Nat} (h:k < ps.length):u_4 (c_7 ps k) (ps.drop k)=if d_8 ps[k].1 && b_D ps[k].2 then (if leB ps[k].1 (c_7 ps k) then 1 else u_4 (c_7 ps (k+1)) (ps.drop (k+1))) else 3:=by
 conv=>lhs;rw [List.drop_eq_getElem_cons h]
 simp only [u_4]
 rw [show c_7 ps (k+1)=ps[k].1 by show (ps.getD k ([], [])).1=_;rw [fJ h]]
theorem e_Y {ps:List eK} {l:List UInt8}:u_4 l (ps.drop ps.length)=0:=by simp [u_4]
def D6 (l:Bool) (ps:List eK) (t:List Int) (m:Nat):Int:=if pY ps≠0 then pY ps else if (l && decide (0 < m)) || (!l && decide (0 < t.length)) then 7 else LZ t
mutual
def eQ:aK ->Int
 | .mk l ps t ks=>if D6 l ps t ks.length≠0 then D6 l ps t ks.length else J5 ks
def J5:List aK ->Int
 | []=>0
 | k::ks=>if eQ k≠0 then eQ k else J5 ks
end
mutual
def iY:aK ->Nat
 | .mk _ _ t ks=>1+t.length+l8 ks
def l8:List aK ->Nat
 | []=>0
 | k::ks=>iY k+l8 ks
end
mutual
theorem c_8:∀n:aK,iY n <= n.wt
 | .mk l ps t ks=>by have:=e_Z ks;simp only [iY,aK.wt];omega
theorem e_Z:∀ks:List aK,l8 ks <= dX ks
 | []=>by simp [l8,dX]
 | k::ks=>by have:=c_8 k;have:=e_Z ks;simp only [l8,dX];omega
end
theorem sV (a b:List aK):l8 (a ++ b)=l8 a+l8 b:=by
 induction a with
 | nil=>simp [l8]
 | cons k ks ih=>simp only [List.cons_append,l8,ih];omega
theorem e_9 (ps:List eK) (k:Nat):gX (ps.take k) <= gX ps:=by
 induction ps generalizing k with
 | nil=>simp
 | cons p ps ih=>
   cases k with
   | zero=>simp [gX]
   | succ k=>have:=ih k;simp only [List.take_succ_cons,gX];omega
theorem EK {α :Type} {p: α ->Bool}:∀ {l:List α},(∀x∈l.dropWhile p,p x=true) ->∀x∈l,p x=true
 | [],_=>by simp
 | a ::l,h=>by
   cases ha:p a with
   | true=>
     rw [List.dropWhile_cons_of_pos ha]at h
     intro x hx
     rcases List.mem_cons.1 hx with rfl | hx
     . exact ha
     . exact EK h x hx
   | false=>
     rw [List.dropWhile_cons_of_neg (by simp [ha])]at h
     have:=h a (by simp)
     rw [ha]at this;cases this
theorem J6 {α :Type} {p: α ->Bool}:∀ {l:List α},(∀x∈l,p x=true) ->l.dropWhile p= []
 | [],_=>rfl
 | a::l,h=>by
   rw [List.dropWhile_cons_of_pos (h a (by simp))]
   exact J6 fun x hx=>h x (by simp [hx])
theorem j_E (l cs:List UInt8):Lib.trimS l cs= [] ↔ l.all (cs.contains ·)=true:=by
 unfold Lib.trimS Lib.trimLeftS Lib.trimRightS
 rw [List.all_eq_true]
 constructor
 . intro h
   have h1:∀x∈ (l.reverse.dropWhile (cs.contains ·)).reverse,cs.contains x=true:=EK (by rw [h];simp)
   have h2:∀x∈l.reverse,cs.contains x=true:=EK fun x hx=>h1 x (List.mem_reverse.2 hx)
   exact fun x hx=>h2 x (by simpa using hx)
 . intro h
   rw [J6 (l:=l.reverse) fun x hx=>h x (by simpa using hx)]
   rfl
def g_j:List UInt8:= [97,98,99,100,101,102,103,104,105,106,107,108,109,110,111,112,113,114,115,116,117,118,119,120,121,122]
def e_a:List UInt8:= [97,98,99,100,101,102,103,104,105,106,107,108,109,110,111,112,113,114,115,116,117,118,119,120,121,122,48,49,50,51,52,53,54,55,56,57,45]
theorem l_w (c:UInt8):g_j.contains c=e_X c:=by
 have h:∀n:Fin 256,g_j.contains (UInt8.ofNat n.1)=e_X (UInt8.ofNat n.1):=by decide+kernel
 have:=h ⟨c.toNat,c.toNat_lt⟩
 simpa using this
theorem h_E (c:UInt8):e_a.contains c=J4 c:=by
 have h:∀n:Fin 256,e_a.contains (UInt8.ofNat n.1)=J4 (UInt8.ofNat n.1):=by decide+kernel
 have:=h ⟨c.toNat,c.toNat_lt⟩
 simpa using this
theorem l_x {s cs:List UInt8} {p:UInt8 ->Bool} (h:∀c,cs.contains c=p c):s.all (cs.contains ·)=s.all p:=by
 congr 1;funext c;exact h c
theorem g_k (s cs:List UInt8) (p:UInt8 ->Bool) (hp:∀c,cs.contains c=p c) (hc:cs.length <= 1000) (ha:cs.all (fun b=>decide (b.toNat < 128))=true) (w:World) (hn:s.length <= 1000000000):
 (s.all p=true ->Calls Tryz.prog 164 #[.string ⟨s.toArray⟩, .string ⟨cs.toArray⟩] w fun e w'=>e= .returned (.string ⟨#[]⟩)/\Below w.heap.size w w')/\
 (s.all p=false ->∃y ys,Calls Tryz.prog 164 #[.string ⟨s.toArray⟩, .string ⟨cs.toArray⟩] w fun e w'=>e= .returned (.string ⟨(y::ys).toArray⟩)/\Below w.heap.size w w'):=by
 have h:=Tryz.strings_Trim_set ⟨s.toArray⟩ ⟨cs.toArray⟩ w (by show s.length <= _;omega) (by show cs.length < _;omega) (fun j b hj=>by
  rw [List.all_eq_true]at ha
  have:b∈cs:=List.mem_of_getElem? (by simpa using hj)
  simpa using ha b this)
 have h0:=j_E s cs
 rw [l_x hp]at h0
 constructor
 . intro hs
   have:Lib.trimS (⟨s.toArray⟩:ByteArray).data.toList (⟨cs.toArray⟩:ByteArray).data.toList= []:=by simpa using h0.2 hs
   rw [this]at h
   exact h
 . intro hs
   have hne:Lib.trimS (⟨s.toArray⟩:ByteArray).data.toList (⟨cs.toArray⟩:ByteArray).data.toList≠ []:=by
    intro he
    have:=h0.1 (by simpa using he)
    rw [hs]at this;cases this
   obtain⟨y,ys,hy⟩:=List.exists_cons_of_ne_nil hne
   rw [hy]at h
   exact⟨y,ys,h⟩
theorem n_w (s:List UInt8) (w:World) (hn:s.length <= 1000000000):
 Calls Tryz.prog 168 #[.string ⟨s.toArray⟩] w fun e w'=>e= .returned (.bool (d_8 s))/\Below w.heap.size w w':=by
 have Hk:Hid (d_8 s=(decide (1 <= s.length/\s.length <= 16) && s.all e_X)):=rfl
 obtain⟨hT,hF⟩:=g_k s g_j e_X l_w (by decide) (by decide+kernel) w hn
 have HT:=a6 hT;have HF:=a6 hF
 clear hT hF
 cases s with
 | nil=>
   go_enter Tryz.func168,Tryz.ntmps168
   go_wp2_with fail
   go_ret
   exact⟨b7 (by rw [Hk.o];rfl),a7⟩
 | cons c r=>
   have hsz:(⟨(c::r).toArray⟩:ByteArray).size=r.length+1:=rfl
   have hne:((⟨(c::r).toArray⟩:ByteArray).toList.isEmpty)=false:=by rw [ByteArray.toList_mk];rfl
   have hne2:(!(⟨(c::r).toArray⟩:ByteArray).toList.isEmpty)=true:=by rw [ByteArray.toList_mk];rfl
   obtain⟨S,hS⟩:∃S,S=(⟨(c::r).toArray⟩:ByteArray):=⟨_,rfl⟩
   rw [<- hS]at hsz hne hne2 HT HF⊢
   by_cases h16:16 < r.length+1
   . have Hz:Hid (d_8 (c::r)=false):=by
      show d_8 _=false
      rw [Hk.o,decide_eq_false (by simp only [List.length_cons];omega)];rfl
     clear hS HT HF
     go_enter Tryz.func168,Tryz.ntmps168
     go_wp2_with fail
     go_ret
     exact⟨b7 Hz.o.symm,a7⟩
   . have Hk2:Hid (d_8 (c::r)=(c::r).all e_X):=by
      show d_8 _=_
      rw [Hk.o,decide_eq_true (by simp only [List.length_cons];omega)];simp
     cases hall:(c::r).all e_X with
     | true=>
       have HC:=a6 (HT.o hall)
       rw [hall]at Hk2
       clear hS HT HF hall
       go_enter Tryz.func168,Tryz.ntmps168
       go_wp2_with fail
       refine HC.o.mono ?_
       rintro e w1 ⟨rfl,hb⟩
       have Hb:=a6 hb
       clear hb
       go_wp2_with fail
       go_ret
       exact⟨b7 Hk2.o.symm,Hb.o⟩
     | false=>
       obtain⟨y,ys,hC⟩:=HF.o hall
       have HC:=a6 hC
       rw [hall]at Hk2
       have hn2:((⟨(y::ys).toArray⟩:ByteArray).toList.isEmpty)=false:=by rw [ByteArray.toList_mk];rfl
       clear hS HT HF hall hC
       go_enter Tryz.func168,Tryz.ntmps168
       go_wp2_with fail
       refine HC.o.mono ?_
       rintro e w1 ⟨rfl,hb⟩
       have Hb:=a6 hb
       clear hb
       go_wp2_with fail
       go_ret
       exact⟨b7 Hk2.o.symm,Hb.o⟩
theorem n_x (s:List UInt8) (w:World) (hn:s.length <= 1000000000):
 Calls Tryz.prog 169 #[.string ⟨s.toArray⟩] w fun e w'=>e= .returned (.bool (b_D s))/\Below w.heap.size w w':=by
 have Hk:Hid (b_D s=(decide (s.length <= 32) && s.all J4)):=rfl
 obtain⟨hT,hF⟩:=g_k s e_a J4 h_E (by decide) (by decide+kernel) w hn
 have HT:=a6 hT;have HF:=a6 hF
 have hsz:(⟨s.toArray⟩:ByteArray).size=s.length:=rfl
 clear hT hF
 obtain⟨S,hS⟩:∃S,S=(⟨s.toArray⟩:ByteArray):=⟨_,rfl⟩
 rw [<- hS]at hsz HT HF⊢
 clear hS
 by_cases h32:32 < s.length
 . have Hz:Hid (b_D s=false):=by
    show b_D _=false
    rw [Hk.o,decide_eq_false (by omega)];rfl
   clear HT HF
   go_enter Tryz.func169,Tryz.ntmps169
   go_wp2_with fail
   go_ret
   exact⟨b7 Hz.o.symm,a7⟩
 . have Hk2:Hid (b_D s=s.all J4):=by
    show b_D _=_
    rw [Hk.o,decide_eq_true (by omega)];simp
   cases hall:s.all J4 with
   | true=>
     have HC:=a6 (HT.o hall)
     rw [hall]at Hk2
     clear HT HF hall
     go_enter Tryz.func169,Tryz.ntmps169
     go_wp2_with fail
     refine HC.o.mono ?_
     rintro e w1 ⟨rfl,hb⟩
     have Hb:=a6 hb
     clear hb
     go_wp2_with fail
     go_ret
     exact⟨b7 Hk2.o.symm,Hb.o⟩
   | false=>
     obtain⟨y,ys,hC⟩:=HF.o hall
     have HC:=a6 hC
     rw [hall]at Hk2
     have hn2:((⟨(y::ys).toArray⟩:ByteArray).toList.isEmpty)=false:=by rw [ByteArray.toList_mk];rfl
     clear HT HF hall hC
     go_enter Tryz.func169,Tryz.ntmps169
     go_wp2_with fail
     refine HC.o.mono ?_
     rintro e w1 ⟨rfl,hb⟩
     have Hb:=a6 hb
     clear hb
     go_wp2_with fail
     go_ret
     exact⟨b7 Hk2.o.symm,Hb.o⟩
theorem g_l (l:Bool) (ps:List eK) (t:List Int) (m:Nat):D6 l ps t m=if pY ps≠0 then pY ps else if (l && decide (0 < m)) || (!l && decide (0 < t.length)) then 7 else LZ t:=rfl
theorem j_F (v:Value) (B:Nat) (ps:List eK) (w:World) (hv:∃a cap,v= .slice a ps.length cap/\RowA w B 2 a ps.length cap (bK ps)) (hB:B <= w.heap.size) (hn:gX ps <= 1000000000):
 Calls Tryz.prog 104 #[v] w fun e w'=>e= .returned (.int .i64 (pY ps))/\Below w.heap.size w w':=by
 obtain⟨a,cap,rfl,hr⟩:=hv
 have hm:=d_j hr
 by_cases h16:16 < ps.length
 . have He:Hid (pY ps=if 16 < ps.length then 2 else u_4 [] ps):=rfl
   go_enter Tryz.func104,Tryz.ntmps104
   go_wp2_with fail
   go_ret
   exact⟨cY (by rw [He.o,if_pos h16]),a7⟩
 . have He :Hid (pY ps=u_4 [] ps):=by
    show pY ps=_
    unfold pY;rw [if_neg h16]
   go_enter Tryz.func104,Tryz.ntmps104
   go_wp2_with fail
   go_loopw [3,11] (fun s i wr=>∃ (k:Nat) (q:List UInt8),k <= ps.length/\i= .int .i64 k/\s= .string ⟨q.toArray⟩/\q=c_7 ps k/\u_4 q (ps.drop k)=pY ps/\Below w.heap.size w wr) (fun _ i _=>ps.length - (intOf i).toNat)
   case atStart=>exact⟨0, [],Nat.zero_le _,rfl,rfl,rfl,by rw [He.o];rfl,a7⟩
   case round =>
    obtain⟨k,q,hk,rfl,rfl,hq,hp,hbel⟩:=hrel
    have hr2:=hr.keep (hbel.mono hB) (a8)
    have Hp:=a6 hp
    have Hb:=a6 hbel
    have Hq:=a6 hq
    clear hp hbel hq
    by_cases hlt:k < ps.length
    . have Hstep:=a6 (e_8 hlt)
      rw [<- Hq.o]at Hstep
      obtain⟨b,off,rfl,hb,hc0,hc1⟩:=hr2.prop_at k hlt
      have hmem:=b_9 (List.getElem_mem hlt)
      have HK:=a6 (n_w ps[k].1)
      have HV:=a6 (n_x ps[k].2)
      have hla:Hid (c_7 ps (k+1)=ps[k].1):=by show (ps.getD k ([], [])).1=_;rw [fJ hlt]
      generalize ps[k]=p at hc0 hc1 hmem HK HV Hstep hla
      obtain⟨p1,p2⟩:=p
      simp only at hc0 hc1 hmem HK HV Hstep hla
      have hl1:p1.length <= 1000000000:=by omega
      have hl2:p2.length <= 1000000000:=by omega
      have HK1:=fun W=>a6 (HK.o W hl1)
      have HV1:=fun W=>a6 (HV.o W hl2)
      clear HK HV hmem
      cases hkey:d_8 p1
      . simp only [hkey]at HK1
        go_wp2_with fail
        refine(HK1 _).o.mono ?_
        rintro e w1 ⟨rfl,hbel⟩
        have Hb1:=a6 (fV Hb.o (gZ (fY hbel)) (a8))
        clear hbel
        go_wp2_with fail
        go_ret
        exact⟨cY (by rw [<- Hp.o,Hstep.o,hkey];simp),Hb1.o⟩
      . simp only [hkey]at HK1
        cases hval:b_D p2
        . simp only [hval]at HV1
          go_wp2_with fail
          refine(HK1 _).o.mono ?_
          rintro e w1 ⟨rfl,hbel⟩
          obtain⟨x0,x1⟩:=yX (fY hbel)
          have Hb1:=a6 (fV Hb.o (gZ (fY hbel)) (a8))
          clear hbel
          go_wp2_with fail
          refine(HV1 _).o.mono ?_
          rintro e w2 ⟨rfl,hbel⟩
          have Hb2:=a6 (fV Hb1.o hbel (a8))
          clear hbel x0 x1
          go_wp2_with fail
          go_ret
          exact⟨cY (by rw [<- Hp.o,Hstep.o,hkey,hval];simp),Hb2.o⟩
        . simp only [hval]at HV1
          have Hkv:Hid (pY ps=if leB p1 q=true then 1 else u_4 (c_7 ps (k+1)) (ps.drop (k+1))):=by
           show pY ps=_
           rw [<- Hp.o,Hstep.o,hkey,hval];simp
          have Hle:Hid (leB p1 q=(Op.bytesLess p1 q || p1 == q)):=rfl
          clear hkey hval
          cases hx:Op.bytesLess p1 q
          . cases hy:(p1 == q)
            . have Hlb:Hid (leB p1 q=false):=by show leB p1 q=false;rw [Hle.o,hx,hy];rfl
              go_wp2_with fail
              refine(HK1 _).o.mono ?_
              rintro e w1 ⟨rfl,hbel⟩
              obtain⟨x0,x1⟩:=yX (fY hbel)
              have Hb1:=a6 (fV Hb.o (gZ (fY hbel)) (a8))
              have Hbx:=a6 (fY hbel)
              clear hbel
              go_wp2_with fail
              refine(HV1 _).o.mono ?_
              rintro e w2 ⟨rfl,hbel⟩
              obtain⟨y0,y1⟩:=yX (fV Hbx.o hbel (by simp))
              have Hb2:=a6 (fV Hb1.o hbel (a8))
              clear hbel x0 x1
              go_wp2_with fail
              go_roundw
              case rel=>exact⟨k+1,p1,by omega,by go_num,rfl,hla.o.symm,by rw [Hkv.o,hla.o,Hlb.o];simp,Hb2.o⟩
              case measure=>simp [intOf];omega
            . have Hlb:Hid (leB p1 q=true):=by show leB p1 q=true;rw [Hle.o,hx,hy];rfl
              go_wp2_with fail
              refine(HK1 _).o.mono ?_
              rintro e w1 ⟨rfl,hbel⟩
              obtain⟨x0,x1⟩:=yX (fY hbel)
              have Hb1:=a6 (fV Hb.o (gZ (fY hbel)) (a8))
              have Hbx:=a6 (fY hbel)
              clear hbel
              go_wp2_with fail
              refine(HV1 _).o.mono ?_
              rintro e w2 ⟨rfl,hbel⟩
              obtain⟨y0,y1⟩:=yX (fV Hbx.o hbel (by simp))
              have Hb2:=a6 (fV Hb1.o hbel (a8))
              clear hbel x0 x1
              go_wp2_with fail
              go_ret
              exact⟨cY (by rw [Hkv.o,Hlb.o];simp),Hb2.o⟩
          . have Hlb:Hid (leB p1 q=true):=by show leB p1 q=true;rw [Hle.o,hx];rfl
            go_wp2_with fail
            refine(HK1 _).o.mono ?_
            rintro e w1 ⟨rfl,hbel⟩
            obtain⟨x0,x1⟩:=yX (fY hbel)
            have Hb1:=a6 (fV Hb.o (gZ (fY hbel)) (a8))
            have Hbx:=a6 (fY hbel)
            clear hbel
            go_wp2_with fail
            refine(HV1 _).o.mono ?_
            rintro e w2 ⟨rfl,hbel⟩
            obtain⟨y0,y1⟩:=yX (fV Hbx.o hbel (by simp))
            have Hb2:=a6 (fV Hb1.o hbel (a8))
            clear hbel x0 x1
            go_wp2_with fail
            go_ret
            exact⟨cY (by rw [Hkv.o,Hlb.o];simp),Hb2.o⟩
    . obtain rfl:k=ps.length:=by omega
      go_wp2_with fail
      go_ret
      exact⟨cY (by rw [<- Hp.o,e_Y]),Hb.o⟩
theorem n_y (l:Bool) (ps:List eK) (t:List Int) (ks:List aK) (v:Value) (B:Nat) (w:World) (hB:B <= w.heap.size) (hn:(aK.mk l ps t ks).wt <= 100000000) (hv:bY w B (.mk l ps t ks) v):
 Calls Tryz.prog 52 #[v] w fun e w'=>e= .returned (.int .i64 (D6 l ps t ks.length))/\Below w.heap.size w w':=by
 obtain⟨ap,cp,at_,ct,ak,ck,css,rfl,hp,ht,hk,hc⟩:=hv.open
 have hwt:1+gX ps+t.length+dX ks=(aK.mk l ps t ks).wt:=rfl
 have hw4:gX ps <= 1000000000:=by omega
 have hkl:=fX ks
 have htl:t.length <= 100000000:=by omega
 have hkl2:ks.length <= 100000000:=by omega
 have hB0:=((Below.refl w.heap.size w).alloc (a8) (Obj.cells #[.bool l, .slice ap ps.length cp, .slice at_ t.length ct, .slice ak ks.length ck] 35))
 have HP:=a6 (j_F (.slice ap ps.length cp) w.heap.size ps (w.alloc (Obj.cells #[.bool l, .slice ap ps.length cp, .slice at_ t.length ct, .slice ak ks.length ck] 35)) ⟨ap,cp,rfl,hp.keep (hB0.mono hB) hB⟩ (by simp) hw4)
 have HT:=fun W (hW:Below w.heap.size w W)=>a6 (l_g _ _ t W (ht.keep (hW.mono hB) (a8)))
 have Ho:=a6 (g_l l ps t ks.length)
 clear hv hp ht hwt hn hB0 hk hc
 by_cases hpe:pY ps≠0
 . have Hr:Hid (D6 l ps t ks.length=pY ps):=by
    show D6 l ps t ks.length=_
    rw [Ho.o,if_pos hpe]
   have hne:(pY ps != 0)=true:=by simpa using hpe
   clear hpe
   go_enter Tryz.func52,Tryz.ntmps52
   go_wp2_with fail
   refine HP.o.mono ?_
   rintro e w1 ⟨rfl,hbel⟩
   have Hb:=a6 (gZ (fY hbel))
   clear hbel HP
   go_wp2_with fail
   go_ret
   exact⟨cY Hr.o.symm,Hb.o⟩
 . have hpe:pY ps=0:=by simpa using hpe
   rw [hpe]at HP
   cases hbad:(l && decide (0 < ks.length)) || (!l && decide (0 < t.length))with
   | true=>
     have Hr:Hid (D6 l ps t ks.length=7):=by
      show D6 l ps t ks.length=_
      rw [Ho.o,hpe,hbad];rfl
     clear hpe
     cases l with
     | true=>
       have hb2:0 < ks.length:=by simpa using hbad
       clear hbad
       go_enter Tryz.func52,Tryz.ntmps52
       go_wp2_with fail
       refine HP.o.mono ?_
       rintro e w1 ⟨rfl,hbel⟩
       obtain⟨x0,x1,x2,x3⟩:=F5 (fY hbel)
       have Hb:=a6 (gZ (fY hbel))
       clear hbel HP
       go_wp2_with fail
       go_ret
       exact⟨cY Hr.o.symm,Hb.o⟩
     | false=>
       have hb2:0 < t.length:=by simpa using hbad
       clear hbad
       go_enter Tryz.func52,Tryz.ntmps52
       go_wp2_with fail
       refine HP.o.mono ?_
       rintro e w1 ⟨rfl,hbel⟩
       obtain⟨x0,x1,x2,x3⟩:=F5 (fY hbel)
       have Hb:=a6 (gZ (fY hbel))
       clear hbel HP
       go_wp2_with fail
       go_ret
       exact⟨cY Hr.o.symm,Hb.o⟩
   | false=>
     have Hr:Hid (D6 l ps t ks.length=LZ t):=by
      show D6 l ps t ks.length=_
      rw [Ho.o,hpe,hbad];rfl
     clear hpe
     cases l with
     | true=>
       have hb2:ks.length <= 0:=by simp at hbad;simp [hbad]
       clear hbad
       go_enter Tryz.func52,Tryz.ntmps52
       go_wp2_with fail
       refine HP.o.mono ?_
       rintro e w1 ⟨rfl,hbel⟩
       obtain⟨x0,x1,x2,x3⟩:=F5 (fY hbel)
       have Hb:=a6 (gZ (fY hbel))
       clear hbel HP
       go_wp2_with fail
       refine(HT _ Hb.o).o.mono ?_
       rintro e w2 ⟨rfl,rfl⟩
       go_wp2_with fail
       go_ret
       exact⟨cY Hr.o.symm,Hb.o⟩
     | false=>
       have hb2:t.length <= 0:=by simp at hbad;simp [hbad]
       clear hbad
       go_enter Tryz.func52,Tryz.ntmps52
       go_wp2_with fail
       refine HP.o.mono ?_
       rintro e w1 ⟨rfl,hbel⟩
       obtain⟨x0,x1,x2,x3⟩:=F5 (fY hbel)
       have Hb:=a6 (gZ (fY hbel))
       clear hbel HP
       go_wp2_with fail
       refine(HT _ Hb.o).o.mono ?_
       rintro e w2 ⟨rfl,rfl⟩
       go_wp2_with fail
       go_ret
       exact⟨cY Hr.o.symm,Hb.o⟩
section
variable {S : Type} (go : aK -> Bool) (st : aK -> S -> S)
mutual
def o9:aK ->S ->Bool×S
 | .mk l ps t ks,s=>if go (.mk l ps t ks) then rY ks (st (.mk l ps t ks) s) else (false,st (.mk l ps t ks) s)
def rY:List aK ->S ->Bool×S
 | [],s=>(true,s)
 | k::ks,s=>if (o9 k s).1 then rY ks (o9 k s).2 else (false,(o9 k s).2)
end
theorem g_m {ks:List aK} {k:Nat} {s:S} (h:k < ks.length):rY go st (ks.drop k) s=if (o9 go st ks[k] s).1 then rY go st (ks.drop (k+1)) (o9 go st ks[k] s).2 else (false,(o9 go st ks[k] s).2):=by
 conv=>lhs;rw [List.drop_eq_getElem_cons h]
 simp only [rY]
end
def l_y {S:Type} (Φ :S ->World ->Prop) (bad:TypeId ->Bool) (B cb:Nat) (caps:Array Value) (go:aK ->Bool) (st:aK ->S ->S) (M:Nat):Prop:=
 ∀ (n:aK) (v:Value) (s:S) (W:World),n.wt <= M ->bY W B n v ->B <= W.heap.size -> Φ s W ->
   Calls Tryz.prog cb (#[v] ++ caps) W fun e w'=>e= .returned (.bool (go n))/\ Φ (st n s) w'/\j9 bad B W w'
def IJ (W:World) (tb eb cb:Nat) (caps:Array Value):Prop:=
 W.heap[tb]? =some (Obj.cells #[.func (.func cb) #[] caps] 94 (0,0))/\W.heap[eb]? =some (Obj.cells #[.func (.func 102) #[] #[.pointer (some ⟨tb,0,none⟩), .pointer (some ⟨eb,0,none⟩)]] 94 (0,0))
theorem IJ.keep {W W':World} {tb eb cb B:Nat} {caps:Array Value} {bad:TypeId ->Bool} (h:IJ W tb eb cb caps) (hs:j9 bad B W W') (hb:bad 94=false):IJ W' tb eb cb caps:=
 ⟨hs.block _ _ _ _ h.1 hb,hs.block _ _ _ _ h.2 hb⟩
theorem IJ.cells {W:World} {tb eb cb:Nat} {caps:Array Value} (h:IJ W tb eb cb caps):
 W.cell? ⟨tb,0,none⟩=some (.func (.func cb) #[] caps)/\W.cell? ⟨eb,0,none⟩=some (.func (.func 102) #[] #[.pointer (some ⟨tb,0,none⟩), .pointer (some ⟨eb,0,none⟩)])/\tb < W.heap.size/\eb < W.heap.size:=
 ⟨by rw [cell_of_row _ _ _ _ _ _ h.1];rfl,by rw [cell_of_row _ _ _ _ _ _ h.2];rfl,(Array.getElem?_eq_some_iff.1 h.1).1,(Array.getElem?_eq_some_iff.1 h.2).1⟩
def d_o {S:Type} (Φ :S ->World ->Prop) (bad:TypeId ->Bool) (B:Nat) (W:World) (b:Bool) (s:S) (e:Ending) (w':World):Prop:=e= .returned (.bool b)/\ Φ s w'/\j9 bad B W w'
def n_z {S:Type} (Φ :S ->World ->Prop) (bad:TypeId ->Bool) (B:Nat) (W:World) (b:Bool) (s:S) (e:Ending) (w':World):Prop:= ∃i:Int,e= .returned (.int .i64 i)/\decide (0 <= i)= !b/\ Φ s w'/\j9 bad B W w'
section
variable {S : Type} {Φ : S -> World -> Prop} {bad : TypeId -> Bool} {B tb eb cb : Nat} {caps : Array Value} {go : aK -> Bool} {st : aK -> S -> S} {M : Nat}
theorem n_A (hΦ :∀s W W', Φ s W ->Below W.heap.size W W' -> Φ s W') (hbad:bad 94=false) (q:aK) (v:Value) (s:S) (W:World) (hE:IJ W tb eb cb caps) (hv:bY W B q v) (hB:B <= W.heap.size) (hs: Φ s W)
 (hC:∀W',bY W' B q v ->B <= W'.heap.size ->IJ W' tb eb cb caps -> Φ s W' ->Calls Tryz.prog 102 #[v, .pointer (some ⟨tb,0,none⟩), .pointer (some ⟨eb,0,none⟩)] W' (d_o Φ bad B W' (o9 go st q s).1 (o9 go st q s).2)):
 Calls Tryz.prog 103 #[v, .pointer (some ⟨eb,0,none⟩)] W (d_o Φ bad B W (!(o9 go st q s).1) (o9 go st q s).2):=by
 have hv0:=hv
 obtain⟨l,ps,t,ks⟩:=q
 obtain⟨ap,cp,at_,ct,ak,ck,css,rfl, -, -, -, -⟩:=hv0.open
 generalize aK.mk l ps t ks=q at hv hC⊢
 generalize o9 go st q s=r at hC⊢
 obtain⟨b,s'⟩:=r
 have hS0:j9 bad B W (W.alloc (Obj.cells #[.bool l, .slice ap ps.length cp, .slice at_ t.length ct, .slice ak ks.length ck] 35)):=(j9.refl hB).alloc hB _
 have HC:=a6 (hC _ (hv.keep hS0.below (a8)) (aJ hB hS0.size) (hE.keep hS0 hbad) (hΦ _ _ _ hs ((a7).alloc (a8) _)))
 obtain⟨e1,e2,l1,l2⟩:=hE.cells
 have HS0:=a6 hS0
 clear hC hv0 hv hE hs hS0 e1
 go_enter Tryz.func103,Tryz.ntmps103
 go_wp2_with fail
 refine HC.o.mono ?_
 rintro e w1 ⟨rfl,hφ,hsp⟩
 have Hφ :=a6 hφ
 have HS:=a6 (HS0.o.trans hsp)
 clear hφ hsp HC
 go_wp2_with fail
 go_ret
 exact⟨rfl,Hφ.out,HS.o⟩
theorem i_e (ks:List aK) (a:Option Addr) (cap:Nat) (css:List Value) (s:S) (W:World) (hE:IJ W tb eb cb caps) (hbad:bad 94=false) (hr:RowA W B 4 a ks.length cap css) (hk:dQ W B ks css) (hB:B <= W.heap.size) (hs: Φ s W)
 (hC:∀ (q:aK) (v:Value) (s:S) (W':World),q∈ks ->bY W' B q v ->B <= W'.heap.size ->IJ W' tb eb cb caps -> Φ s W' ->Calls Tryz.prog 103 #[v, .pointer (some ⟨eb,0,none⟩)] W' (d_o Φ bad B W' (!(o9 go st q s).1) (o9 go st q s).2)):
 Calls Tryz.prog 160 #[.slice a ks.length cap, .func (.func 103) #[] #[.pointer (some ⟨eb,0,none⟩)]] W (n_z Φ bad B W (rY go st ks s).1 (rY go st ks s).2):=by
 have HC:=a6 hC;have HE:=a6 hE
 have hm:=d_j hr
 have Hst:=fun(s':S) (W':World) (h: Φ s' W')=>h
 have Hs:=a6 hs
 obtain⟨R,hR⟩:∃R,R=rY go st ks s:=⟨_,rfl⟩
 rw [<- hR]
 have HR:=a6 hR
 clear hC hE hs Hst hR
 go_enter Tryz.func160,Tryz.ntmps160
 go_wp2_with fail
 go_loopw [8] (fun i wr=>∃ (k:Nat) (s':S),k <= ks.length/\i= .int .i64 k/\rY go st (ks.drop k) s'=R/\ Φ s' wr/\j9 bad B W wr) (fun i _=>ks.length - (intOf i).toNat)
 case atStart=>exact⟨0,s,Nat.zero_le _,rfl,HR.o.symm,Hs.o,j9.refl hB⟩
 case round=>
  obtain⟨k,s',hkn,rfl,hke,hφ,hsp⟩:=hrel
  have hr2:=hr.keep hsp.below (a8)
  have hc2:=dQ.keep hsp.below (a8) ks css hk
  have Hke:=a6 hke;have Hφ :=a6 hφ;have Hsp:=a6 hsp
  clear hke hφ hsp
  by_cases hlt:k < ks.length
  . have Hss:=a6 (g_m go st (s:=s') hlt)
    have hmem:=List.getElem_mem hlt
    obtain⟨b,off,l',a1,n1,c1,a2,n2,c2,a3,n3,c3,rfl,hb,hnc,g0,g1,g2,g3⟩:=hr2.kid_at hc2 k hlt
    generalize ks[k]=q at hnc hmem Hss
    have HC1:=a6 (HC.o q (.agg #[.bool l', .slice a1 n1 c1, .slice a2 n2 c2, .slice a3 n3 c3]) s' wr hmem ⟨_,rfl,hnc⟩ (aJ hB Hsp.o.size) (HE.o.keep Hsp.o hbad) Hφ.out)
    have he:∀args w,(callFunc 103 args).run Tryz.prog w= .ok (.enter 103 args) w:=by intro args w;kernel_rfl
    generalize o9 go st q s'=r at HC1 Hss
    obtain⟨b',s2⟩:=r
    clear hmem hnc hr2 hc2
    cases b' with
    | true=>
      have HR2:Hid (rY go st (ks.drop (k+1)) s2=R):=by
       show rY go st _ _=R
       rw [<- Hke.o,Hss.o];rfl
      go_wp2_with fail
      refine HC1.o.mono ?_
      rintro e w1 ⟨rfl,hφ,hsp⟩
      have Hφ2:=a6 hφ;have Hsp2:=a6 (Hsp.o.trans hsp)
      clear hφ hsp
      go_wp2_with fail
      go_roundw
      case rel=>exact⟨k+1,s2,by omega,by go_num,HR2.o,Hφ2.o,Hsp2.o⟩
      case measure=>simp [intOf];omega
    | false=>
      have HR2:Hid ((false,s2)=R):=by
       show _=R
       rw [<- Hke.o,Hss.o];rfl
      go_wp2_with fail
      refine HC1.o.mono ?_
      rintro e w1 ⟨rfl,hφ,hsp⟩
      have Hφ2:=a6 hφ;have Hsp2:=a6 (Hsp.o.trans hsp)
      clear hφ hsp
      go_wp2_with fail
      go_ret
      refine⟨(k:Int),rfl, ?_, ?_,Hsp2.o⟩
      . rw [<- HR2.o];simp
      . rw [<- HR2.o];exact Hφ2.o
  . obtain rfl:k=ks.length:=by omega
    have HR2:Hid ((true,s')=R):=by
     show _=R
     rw [<- Hke.o,List.drop_length];rfl
    go_wp2_with fail
    go_ret
    refine⟨-1,rfl, ?_, ?_,Hsp.o⟩
    . rw [<- HR2.o];rfl
    . rw [<- HR2.o];exact Hφ.out
theorem i_f (a:Option Addr) (n cap:Nat) (b:Bool) (s':S) (W:World) (f:Value)
 (hC:Calls Tryz.prog 160 #[.slice a n cap,f] W (n_z Φ bad B W b s')):
 Calls Tryz.prog 84 #[.slice a n cap,f] W (d_o Φ bad B W (!b) s'):=by
 have HC:=a6 hC
 clear hC
 go_enter Tryz.func84,Tryz.ntmps84
 go_wp2_with fail
 refine HC.o.mono ?_
 rintro e w1 ⟨i,rfl,hi,hφ,hsp⟩
 have Hφ :=a6 hφ;have Hsp:=a6 hsp;have Hi:=a6 hi
 clear hφ hsp hi HC
 go_wp2_with fail
 go_ret
 exact⟨b7 Hi.o,Hφ.out,Hsp.o⟩
theorem m_Q (hΦ :∀s W W', Φ s W ->Below W.heap.size W W' -> Φ s W') (hb1:bad 94=false) (hb2:bad 35=false) (hcb:∀args w,(callFunc cb args).run Tryz.prog w= .ok (.enter cb args) w) (hA:l_y Φ bad B cb caps go st M) (m:Nat):
 ∀ (n:aK) (v:Value) (s:S) (W:World),n.wt <= m ->n.wt <= M ->bY W B n v ->B <= W.heap.size ->IJ W tb eb cb caps -> Φ s W ->
   Calls Tryz.prog 102 #[v, .pointer (some ⟨tb,0,none⟩), .pointer (some ⟨eb,0,none⟩)] W (d_o Φ bad B W (o9 go st n s).1 (o9 go st n s).2):=by
 induction m with
 | zero=>intro n v s W hm;have:=G5 n;omega
 | succ m ih=>
   intro n v s W hm hM hv hB hE hs
   have IH:=a6 ih
   have hv0:=hv
   obtain⟨l,ps,t,ks⟩:=n
   obtain⟨ap,cp,at_,ct,ak,ck,css,rfl,hp,ht,hk,hc⟩:=hv0.open
   have hwt:1+gX ps+t.length+dX ks=(aK.mk l ps t ks).wt:=rfl
   have hw3:∀q∈ks,q.wt <= m/\q.wt <= M:=fun q hq=>by have:=iK hq;omega
   have Hw3:=a6 hw3
   have hR:Hid (o9 go st (.mk l ps t ks) s=if go (.mk l ps t ks) then rY go st ks (st (.mk l ps t ks) s) else (false,st (.mk l ps t ks) s)):=rfl
   have hS0:j9 bad B W (W.alloc (Obj.cells #[.bool l, .slice ap ps.length cp, .slice at_ t.length ct, .slice ak ks.length ck] 35)):=(j9.refl hB).alloc hB _
   have HA:=a6 (hA (.mk l ps t ks) _ s _ hM (hv.keep hS0.below (a8)) (aJ hB hS0.size) (hΦ _ _ _ hs ((a7).alloc (a8) _)))
   obtain⟨e1,e2,l1,l2⟩:=hE.cells
   have HS0:=a6 hS0;have HE:=a6 hE
   have Hk:=a6 hk;have Hc:=a6 hc
   generalize st (.mk l ps t ks) s=s1 at HA hR
   obtain⟨R,hRR⟩:∃R,R=o9 go st (.mk l ps t ks) s:=⟨_,rfl⟩
   rw [<- hRR]
   have HR:Hid (R=if go (.mk l ps t ks) then rY go st ks s1 else (false,s1)):=by
    show R=_
    rw [hRR,hR.o]
   clear hv0 hv hE hs hS0 hp ht hk hc hwt hw3 hm hM hR hRR ih hA
   cases hgo:go (.mk l ps t ks)with
   | false=>
     rw [hgo]at HA HR
     go_enter Tryz.func102,Tryz.ntmps102
     go_wp2_with fail
     refine HA.o.mono ?_
     rintro e w1 ⟨rfl,hφ,hsp⟩
     have Hφ :=a6 hφ;have HS:=a6 (HS0.o.trans hsp)
     clear hφ hsp HA
     go_wp2_with fail
     go_ret
     refine⟨?_, ?_,HS.o⟩
     . rw [HR.o];rfl
     . rw [HR.o];exact Hφ.out
   | true=>
     rw [hgo]at HA HR
     have HK:=fun(w1:World) (hφ : Φ s1 w1) (hs:j9 bad B W w1)=>a6 (i_f _ _ _ _ _ _ _ (i_e (go:=go) (st:=st) ks ak ck css s1 w1 (HE.o.keep hs hb1) hb1 (Hk.o.keep hs.below (a8)) (dQ.keep hs.below (a8) ks css Hc.o) (aJ hB hs.size) hφ
      (fun q v s W' hq hv hB' hE' hφ'=>n_A hΦ hb1 q v s W' hE' hv hB' hφ' (fun W2 hv2 hB2 hE2 hφ2=>IH.o q v s W2 (Hw3.o q hq).1 (Hw3.o q hq).2 hv2 hB2 hE2 hφ2))))
     have HR2:Hid (R=rY go st ks s1):=by
      show R=_
      rw [HR.o];rfl
     generalize rY go st ks s1=r at HK HR2
     obtain⟨b,s2⟩:=r
     clear HR Hw3 IH Hk Hc HE
     have hmf:∀ (fn:Fn) (first cap:Array Value) (w:World),(Instr.makeFunc fn first cap).run Tryz.prog w= .ok (.func fn first cap) w:=fun _ _ _ _=>rfl
     go_enter Tryz.func102,Tryz.ntmps102
     go_wp2_with fail
     refine HA.o.mono ?_
     rintro e w1 ⟨rfl,hφ,hsp⟩
     obtain⟨x0,x1,x2,x3⟩:=hsp.box4 hb2
     have HS:=a6 (HS0.o.trans hsp)
     have HK1:=HK w1 hφ HS.o
     clear hφ hsp HA HK
     go_wp2_with fail
     refine HK1.o.mono ?_
     rintro e w2 ⟨rfl,hφ,hsp⟩
     have Hφ :=a6 hφ;have HS2:=a6 (HS.o.trans hsp)
     clear hφ hsp HK1 x0 x1 x2 x3
     cases b <;> (
      go_wp2_with fail
      go_ret
      refine⟨?_, ?_,HS2.o⟩
      . rw [HR2.o];rfl
      . rw [HR2.o];exact Hφ.out)
end
theorem l_z (W:World) (o:Obj) (cb:Nat) (caps:Array Value):IJ (((W.alloc o).alloc (Obj.cells #[.func (.func cb) #[] caps] 94)).alloc (Obj.cells #[.func (.func 102) #[] #[.pointer (some ⟨W.heap.size+1,0,none⟩), .pointer (some ⟨W.heap.size+1+1,0,none⟩)]] 94))
 (W.heap.size+1) (W.heap.size+1+1) cb caps:=by
 constructor
 . rw [Below.heap_alloc _ _ _ (by simp)]
   have h:=heap_alloc_new (W.alloc o) (Obj.cells #[.func (.func cb) #[] caps] 94)
   simpa using h
 . have h:=heap_alloc_new ((W.alloc o).alloc (Obj.cells #[.func (.func cb) #[] caps] 94)) (Obj.cells #[.func (.func 102) #[] #[.pointer (some ⟨W.heap.size+1,0,none⟩), .pointer (some ⟨W.heap.size+1+1,0,none⟩)]] 94)
   simpa using h
theorem J7 (W:World) (o1 o2 o3:Obj):Below W.heap.size W (((W.alloc o1).alloc o2).alloc o3):=
 (((a7).alloc (a8) o1).alloc (by simp) o2).alloc (by simp;omega) o3
section
variable {S : Type} {Φ : S -> World -> Prop} {bad : TypeId -> Bool} {B cb : Nat} {caps : Array Value} {go : aK -> Bool} {st : aK -> S -> S} {M : Nat}
theorem j_G (hΦ :∀s W W', Φ s W ->Below W.heap.size W W' -> Φ s W') (hb1:bad 94=false) (hb2:bad 35=false) (hcb:∀args w,(callFunc cb args).run Tryz.prog w= .ok (.enter cb args) w) (hA:l_y Φ bad B cb caps go st M)
 (n:aK) (v:Value) (s:S) (W:World) (hM:n.wt <= M) (hv:bY W B n v) (hB:B <= W.heap.size) (hs: Φ s W):
   Calls Tryz.prog 50 #[v, .func (.func cb) #[] caps] W (d_o Φ bad B W (o9 go st n s).1 (o9 go st n s).2):=by
 have hv0:=hv
 obtain⟨l,ps,t,ks⟩:=n
 obtain⟨ap,cp,at_,ct,ak,ck,css,rfl, -, -, -, -⟩:=hv0.open
 generalize aK.mk l ps t ks=n at hv hM⊢
 have HE:=fun(tb eb:Nat) (W':World) (hE:IJ W' tb eb cb caps) (hW:Below W.heap.size W W')=>a6 (m_Q (tb:=tb) (eb:=eb) hΦ hb1 hb2 hcb hA _ n _ s W' (a8) hM (hv.keep (hW.mono hB) (a8)) (aJ hB hW.size) hE (hΦ _ _ _ hs hW))
 have HS:=fun(W' w':World) (hW:Below W.heap.size W W') (hS:j9 bad B W' w')=>(j9.of_below (bad:=bad) hW hB).trans hS
 generalize o9 go st n s=r at HE⊢
 obtain⟨b,s'⟩:=r
 have HE:=a6 HE
 have HS:=a6 HS
 have hmf:∀ (fn:Fn) (first cap:Array Value) (w:World),(Instr.makeFunc fn first cap).run Tryz.prog w= .ok (.func fn first cap) w:=fun _ _ _ _=>rfl
 have hst:=fun(W:World) (a:Addr) (fn:Fn) (first cap:Array Value) (m:Mode)=>run_store Tryz.prog W a (.func fn first cap) m rfl
 clear hv0 hv hA hs hM
 go_enter Tryz.func50,Tryz.ntmps50
 go_wp2_with fail
 refine(HE.o _ _ _ (l_z W _ cb caps) (J7 _ _ _ _)).o.mono ?_
 rintro e w1 ⟨rfl,hφ,hsp⟩
 have Hφ :=a6 hφ;have HSp:=a6 (HS.o _ _ (J7 _ _ _ _) hsp)
 clear hφ hsp
 go_wp2_with fail
 go_ret
 exact⟨rfl,Hφ.out,HSp.o⟩
end
def C9 (T:TypeId) (b:Nat) (x:Int) (W:World):Prop:=W.heap[b]? =some (Obj.cells #[.int .i64 x] T (0,0))
theorem C9.keep {T:TypeId} {b:Nat} {x:Int} {W W':World} (h:C9 T b x W) (hb:Below W.heap.size W W'):C9 T b x W':=by
 unfold C9 at *
 rw [hb.block b (Array.getElem?_eq_some_iff.1 h).1];exact h
theorem C9.cell {T:TypeId} {b:Nat} {x:Int} {W:World} (h:C9 T b x W):W.cell? ⟨b,0,none⟩=some (.int .i64 x)/\W.frozen? ⟨b,0,none⟩=false/\b < W.heap.size:=by
 unfold C9 at h
 exact⟨by rw [cell_of_row _ _ _ _ _ _ h];rfl,by simp [World.frozen?,h],(Array.getElem?_eq_some_iff.1 h).1⟩
theorem C9.set_ {T:TypeId} {b:Nat} {x y:Int} {W:World} (h:C9 T b x W):C9 T b y (W.setCell ⟨b,0,none⟩ (.int .i64 y)):=by
 unfold C9 at *
 simp [World.setCell,Array.getElem?_modify,h]
def j_H (b:Nat) (s:Nat) (W:World):Prop:= ∃x:Int,x=wrap64 (s:Int)/\C9 3 b x W
def g_n:aK ->Nat
 | .mk _ _ t _=>t.length
def j_I (T:TypeId):Bool:=T == 3
theorem g_o (a b:Int):wrap64 (wrap64 a+b)=wrap64 (a+b):=by
 unfold wrap64;omega
def e_b:aK ->Bool:=fun _=>true
def g_p (n:aK) (s:Nat):Nat:=s+(1+g_n n)
theorem l_A (b B M:Nat) (hBb:B <= b) (hM:M <= 1000000000):l_y (j_H b) j_I B 101 #[.pointer (some ⟨b,0,none⟩)] e_b g_p M:=by
 intro n v s W hn hv hB hs
 have hv0:=hv
 obtain⟨l,ps,t,ks⟩:=n
 obtain⟨ap,cp,at_,ct,ak,ck,css,rfl, -, -, -, -⟩:=hv0.open
 have hwt:1+gX ps+t.length+dX ks=(aK.mk l ps t ks).wt:=rfl
 have htl:t.length <= 1000000000:=by omega
 obtain⟨x,hx,hc⟩:=hs
 obtain⟨c1,c2,c3⟩:=hc.cell
 have Hx:=a6 hx
 have Hc:=a6 hc
 have Hst:Hid (g_n (.mk l ps t ks)=t.length):=rfl
 clear hv0 hv hx hc hwt hn
 show Calls Tryz.prog 101 #[_,_] W _
 go_enter Tryz.func101,Tryz.ntmps101
 go_wp2_with fail
 go_ret
 refine⟨rfl,⟨_, ?_,(Hc.o.set_).keep ((a7).alloc (a8) _)⟩, ?_⟩
 . show _=wrap64 ((s+(1+g_n (.mk l ps t ks)):Nat):Int)
   rw [Hst.o,Hx.o,g_o,Int.natCast_add,Int.natCast_add];rfl
 . exact((j9.refl hB).setCell Hc.o rfl hBb _).alloc hB _
def j_J (T:TypeId):Bool:=T == 39
def n_B:aK ->Int
 | .mk l ps t ks=>D6 l ps t ks.length
def a_n (n:aK):Bool:=n_B n == 0
def a_o (n:aK) (_:Int):Int:=n_B n
theorem n_C (b B M:Nat) (hBb:B <= b) (hM:M <= 100000000):l_y (C9 39 b) j_J B 51 #[.pointer (some ⟨b,0,none⟩)] a_n a_o M:=by
 intro n v s W hn hv hB hs
 have hv0:=hv
 obtain⟨l,ps,t,ks⟩:=n
 obtain⟨ap,cp,at_,ct,ak,ck,css,rfl, -, -, -, -⟩:=hv0.open
 have hW1:Below W.heap.size W (W.alloc (Obj.cells #[.bool l, .slice ap ps.length cp, .slice at_ t.length ct, .slice ak ks.length ck] 35)):=(a7).alloc (a8) _
 have HO:=a6 (n_y l ps t ks _ B _ (aJ hB hW1.size) (by omega) (hv.keep (hW1.mono hB) (a8)))
 have Hst:Hid (a_n (.mk l ps t ks)=(D6 l ps t ks.length == 0)):=rfl
 have Hst2:Hid (a_o (.mk l ps t ks) s=D6 l ps t ks.length):=rfl
 have HW1:=a6 hW1
 have Hs:=a6 hs
 generalize aK.mk l ps t ks=n at Hst Hst2⊢
 show Calls Tryz.prog 51 #[.agg #[.bool l, .slice ap ps.length cp, .slice at_ t.length ct, .slice ak ks.length ck], .pointer (some ⟨b,0,none⟩)] W _
 rw [Hst.o,Hst2.o]
 generalize D6 l ps t ks.length=x at HO⊢
 clear hv0 hv hn hs hW1
 by_cases hx:x=0
 . subst hx
   go_enter Tryz.func51,Tryz.ntmps51
   go_wp2_with fail
   refine HO.o.mono ?_
   rintro e w1 ⟨rfl,hbel⟩
   have Hb:=a6 (fV HW1.o hbel (a8))
   have Hc:=a6 (Hs.o.keep Hb.o)
   obtain⟨c1,c2,c3⟩:=Hc.o.cell
   clear hbel HO
   go_wp2_with fail
   go_ret
   exact⟨rfl,Hc.o.set_,(j9.of_below Hb.o hB).setCell Hc.o rfl hBb _⟩
 . have hxb:(x == 0)=false:=by simpa using hx
   have Hxb:=a6 hxb
   clear hx
   go_enter Tryz.func51,Tryz.ntmps51
   go_wp2_with fail
   refine HO.o.mono ?_
   rintro e w1 ⟨rfl,hbel⟩
   have Hb:=a6 (fV HW1.o hbel (a8))
   have Hc:=a6 (Hs.o.keep Hb.o)
   obtain⟨c1,c2,c3⟩:=Hc.o.cell
   clear hbel HO
   go_wp2_with fail
   go_ret
   exact⟨b7 Hxb.o.symm,Hc.o.set_,(j9.of_below Hb.o hB).setCell Hc.o rfl hBb _⟩
theorem f_0 {S:Type} (go:aK ->Bool) (st:aK ->S ->S) (l:Bool) (ps:List eK) (t:List Int) (ks:List aK) (s:S):o9 go st (.mk l ps t ks) s=if go (.mk l ps t ks) then rY go st ks (st (.mk l ps t ks) s) else (false,st (.mk l ps t ks) s):=by
 rw [o9]
theorem c_9 {S:Type} (go:aK ->Bool) (st:aK ->S ->S) (k:aK) (ks:List aK) (s:S):rY go st (k::ks) s=if (o9 go st k s).1 then rY go st ks (o9 go st k s).2 else (false,(o9 go st k s).2):=by
 rw [rY]
mutual
theorem c_a:∀ (n:aK) (s:Nat),o9 e_b g_p n s=(true,s+iY n)
 | .mk l ps t ks,s=>by
   have hg:e_b (.mk l ps t ks)=true:=rfl
   rw [f_0,hg,if_pos rfl,c_b ks]
   have:iY (.mk l ps t ks)=1+t.length+l8 ks:=by rw [iY]
   rw [this]
   show (true,s+(1+t.length)+l8 ks)=_
   congr 1;omega
theorem c_b:∀ (ks:List aK) (s:Nat),rY e_b g_p ks s=(true,s+l8 ks)
 | [],s=>by simp [rY,l8]
 | k::ks,s=>by
   rw [c_9,c_a k,if_pos rfl,c_b ks]
   have:l8 (k::ks)=iY k+l8 ks:=by rw [l8]
   rw [this]
   congr 1;omega
end
theorem f_1 (l:Bool) (ps:List eK) (t:List Int) (ks:List aK):eQ (.mk l ps t ks)=if D6 l ps t ks.length≠0 then D6 l ps t ks.length else J5 ks:=by rw [eQ]
theorem c_c (k:aK) (ks:List aK):J5 (k::ks)=if eQ k≠0 then eQ k else J5 ks:=by rw [J5]
mutual
theorem b_l:∀ (n:aK) (s:Int),o9 a_n a_o n s=(eQ n == 0,eQ n)
 | .mk l ps t ks,s=>by
   have hg:a_n (.mk l ps t ks)=(D6 l ps t ks.length == 0):=rfl
   have hs:a_o (.mk l ps t ks) s=D6 l ps t ks.length:=rfl
   rw [f_0,hg,hs,f_1]
   by_cases h:D6 l ps t ks.length=0
   . rw [h];simp [b_m ks]
   . rw [if_neg (by simpa using h),if_pos h]
     simp [h]
theorem b_m:∀ (ks:List aK),rY a_n a_o ks 0=(J5 ks == 0,J5 ks)
 | []=>by rw [rY,J5];rfl
 | k ::ks=>by
   rw [c_9,b_l k,c_c]
   by_cases h:eQ k=0
   . rw [h];simp [b_m ks]
   . rw [if_neg (by simpa using h),if_pos h]
     simp [h]
end
theorem l_B (n:aK) (v:Value) (B:Nat) (W:World) (hn:n.wt <= 100000000) (hv:bY W B n v) (hB:B <= W.heap.size):
 Calls Tryz.prog 49 #[v] W fun e w'=>e= .returned (.int .i64 (iY n))/\Below W.heap.size W w':=by
 have hv0:=hv
 obtain⟨l,ps,t,ks⟩:=n
 obtain⟨ap,cp,at_,ct,ak,ck,css,rfl, -, -, -, -⟩:=hv0.open
 have hsz:=c_8 (.mk l ps t ks)
 generalize aK.mk l ps t ks=n at hv hn hsz⊢
 have hW1:Below W.heap.size W (W.alloc (Obj.cells #[.bool l, .slice ap ps.length cp, .slice at_ t.length ct, .slice ak ks.length ck] 35)):=(a7).alloc (a8) _
 have hW2:=hW1.alloc (o:=Obj.cells #[.int .i64 0] 3) (by simp)
 have hv2:=hv.keep (hW2.mono hB) hB
 have hc0:j_H (W.heap.size+1) 0 ((W.alloc (Obj.cells #[.bool l, .slice ap ps.length cp, .slice at_ t.length ct, .slice ak ks.length ck] 35)).alloc (Obj.cells #[.int .i64 0] 3)):=by
  refine⟨0,(IntWalk.wrap64_in 0 (by omega)).symm, ?_⟩
  have h:=heap_alloc_new (W.alloc (Obj.cells #[.bool l, .slice ap ps.length cp, .slice at_ t.length ct, .slice ak ks.length ck] 35)) (Obj.cells #[.int .i64 0] 3)
  simpa [C9]using h
 have HW:=a6 (j_G (Φ :=j_H (W.heap.size+1)) (bad:=j_I) (M:=100000000) (fun s W W' h hb=>by obtain⟨x,h1,h2⟩:=h;exact⟨x,h1,h2.keep hb⟩) rfl rfl (by intro args w;kernel_rfl)
  (l_A (W.heap.size+1) W.heap.size 100000000 (by omega) (by omega)) n _ 0 _ hn hv2 hW2.size hc0)
 rw [c_a,Nat.zero_add]at HW
 have hw0:wrap64 (iY n:Int)=iY n:=IntWalk.wrap64_in _ (by omega)
 have Hw0:=a6 hw0
 have hmf:∀ (fn:Fn) (first cap:Array Value) (w:World),(Instr.makeFunc fn first cap).run Tryz.prog w= .ok (.func fn first cap) w:=fun _ _ _ _=>rfl
 have HW2:=a6 hW2
 clear hv0 hv hsz hW1 hv2 hc0 hn hw0 hW2
 go_enter Tryz.func49,Tryz.ntmps49
 go_wp2_with fail
 refine HW.o.mono ?_
 rintro e w1 ⟨rfl,⟨x,hx,hc⟩,hsp⟩
 rw [Hw0.o]at hx
 subst hx
 obtain⟨c1,c2,c3⟩:=hc.cell
 have Hb:=a6 (HW2.o.trans hsp.below)
 clear hc hsp HW
 go_wp2_with fail
 go_ret
 exact⟨rfl,Hb.o⟩
theorem c_d (n:aK) (v:Value) (B:Nat) (W:World) (hn:n.wt <= 1048576) (hv:bY W B n v) (hB:B <= W.heap.size):
 Calls Tryz.prog 11 #[v] W fun e w'=>e= .returned (.int .i64 (eQ n))/\Below W.heap.size W w':=by
 have hv0:=hv
 obtain⟨l,ps,t,ks⟩:=n
 obtain⟨ap,cp,at_,ct,ak,ck,css,rfl, -, -, -, -⟩:=hv0.open
 have hsz:=c_8 (.mk l ps t ks)
 generalize aK.mk l ps t ks=n at hv hn hsz⊢
 have hW1:Below W.heap.size W (W.alloc (Obj.cells #[.bool l, .slice ap ps.length cp, .slice at_ t.length ct, .slice ak ks.length ck] 35)):=(a7).alloc (a8) _
 have HS:=a6 (l_B n _ B _ (by omega) (hv.keep (hW1.mono hB) (a8)) (aJ hB hW1.size))
 have hs2:iY n <= 1048576:=by omega
 have HK:=fun(w1:World) (hb:Below W.heap.size W w1)=>a6 (j_G (Φ :=C9 39 w1.heap.size) (bad:=j_J) (M:=100000000) (fun s W W' h hb=>h.keep hb) rfl rfl (by intro args w;kernel_rfl)
  (n_C w1.heap.size w1.heap.size 100000000 (by omega) (by omega)) n _ 0 (w1.alloc (Obj.cells #[.int .i64 0] 39)) (by omega) (hv.keep ((hb.alloc hb.size _).mono hB) (aJ hB hb.size)) (by simp) (heap_alloc_new w1 _))
 simp only [b_l]at HK
 have hmf:∀ (fn:Fn) (first cap:Array Value) (w:World),(Instr.makeFunc fn first cap).run Tryz.prog w= .ok (.func fn first cap) w:=fun _ _ _ _=>rfl
 clear hv0 hv hsz hW1 hn
 go_enter Tryz.func11,Tryz.ntmps11
 go_wp2_with fail
 refine HS.o.mono ?_
 rintro e w1 ⟨rfl,hbel⟩
 obtain⟨x0,x1,x2,x3⟩:=F5 (fY hbel)
 have Hb1:=a6 (gZ (fY hbel))
 have hsz1:W.heap.size < w1.heap.size:=by have:=(fY hbel).size;simp at this;omega
 have HK1:=HK w1 Hb1.o
 clear hbel HS HK
 go_wp2_with fail
 refine HK1.o.mono ?_
 rintro e w2 ⟨rfl,hc,hsp⟩
 obtain⟨c1,c2,c3⟩:=hc.cell
 have Hb2:=a6 (Hb1.o.trans (((Below.refl w1.heap.size w1).alloc (a8) (Obj.cells #[.int .i64 0] 39)).trans hsp.below |>.mono Hb1.o.size))
 clear hc hsp HK1 x0 x1 x2 x3
 go_wp2_with fail
 go_ret
 exact⟨rfl,Hb2.o⟩
abbrev PtD:=List Int×Int
structure l_C where
 is:Bool
 an:PtD
 fo:PtD
abbrev b_H:l_C:=⟨false,([],0),([],0)⟩
structure yK where
 kind:Int
 path:List Int
 dest:List Int
 pos:Int
 node:aK
 old:List eK
 new:List eK
 text:List Int
 fr:l_C
 into:l_C
abbrev j7.full (o:j7):yK:=⟨o.kind,o.path,o.dest,o.pos,o.node,o.old, [], [],b_H,b_H⟩
def setKids:aK ->List aK ->aK
 | .mk l ps t _,ks=> .mk l ps t ks
def xZ (ks:List aK) (i:Nat) (m:aK):List aK:=ks.take i ++ m::ks.drop i
abbrev iJ (p:List Int):Int:=p.getLastD 0
def FK (n:aK) (p:List Int) (m:aK):aK×Int:=
 if p= [] then (bZ,6) else match kK n p.dropLast with
 | none=>(bZ,5)
 | some k=>if aZ k then (bZ,7) else if iJ p < 0∨ ((aQ k).length:Int) < iJ p then (bZ,8) else (gY n p.dropLast (setKids k (xZ (aQ k) (iJ p).toNat m)),0)
def B4 (n:aK) (p:List Int):aK×aK×Int:=
 if p= [] then (bZ,bZ,6) else match kK n p,kK n p.dropLast with
 | some m,some k=>(gY n p.dropLast (setKids k ((aQ k).eraseIdx (iJ p).toNat)),m,0)
 | _,_=>(bZ,bZ,5)
def j_K (n:aK) (p:List Int) (m:aK):aK×Int:=match kK n p with
 | none=>(bZ,5)
 | some _=>(gY n p m,0)
def BQ (n:aK):Nat:=if aZ n then (gJ n).length else (aQ n).length
def j5 (p:List Int):List Int:=p.dropLast ++ [iJ p - 1]
def pQ:aK ->aK ->aK
 | .mk l ps t ks, .mk _ _ t' ks'=> .mk l ps (t ++ t') (ks ++ ks')
def b_I (rest k:aK) (o:yK):aK×Int:=
 if o.path= []∨iJ o.path <= 0 then (bZ,8) else match kK rest (j5 o.path)with
 | none=>(bZ,5)
 | some into=>if aZ into≠aZ k then (bZ,7) else if (BQ into:Int)≠o.pos then (bZ,8) else if cV k≠o.old then (bZ,9) else (gY rest (j5 o.path) (pQ into k),0)
def u_7 (n:aK) (o:yK):aK×Int:=
 if o.kind=1 then (if eQ o.node≠0 then (bZ,eQ o.node) else FK n o.path o.node)
 else if (B4 n o.path).2.2≠0 then (bZ,(B4 n o.path).2.2)
 else if o.kind=2 then (if wV (B4 n o.path).2.1 o.node then ((B4 n o.path).1,0) else (bZ,9))
 else if o.kind=3 then b_I (B4 n o.path).1 (B4 n o.path).2.1 o
 else FK (B4 n o.path).1 o.dest (B4 n o.path).2.1
def CJ (k:Int):Option (List UInt8):=
 if k=1∨k=2 then some [112,110] else if k=3 then some [112,97,111] else if k=4 then some [112,97,119] else if k=5 then some [112,116]
 else if k=6 then some [112,111,119] else if k=7∨k=8 then some [112,97,120] else if k=9 then some [115] else none
abbrev g_q (s:l_C):Bool:= !s.is && (decide (s.an=([],0)) && decide (s.fo=([],0)))
def g_r (o:yK):List UInt8:=
 (if 0 < o.path.length then [112] else []) ++ (if 0 < o.dest.length then [116] else []) ++ (if o.pos≠0 then [97] else []) ++ (if !wV o.node bZ then [110] else []) ++
 (if 0 < o.old.length then [111] else []) ++ (if 0 < o.new.length then [119] else []) ++ (if 0 < o.text.length then [120] else []) ++ (if !g_q o.fr then [115] else []) ++ (if !g_q o.into then [115] else [])
def DZ (o:yK):Int:=match CJ o.kind with
 | none=>1
 | some fs=>if (g_r o).all (fun f=>decide (f∈fs)) then 0 else 1
def lQ (n:aK) (o:yK):aK×Int:=
 if eQ n≠0 then (bZ,eQ n) else if aZ n then (bZ,7) else if DZ o≠0 then (bZ,DZ o) else u_7 n o
def B6 (q p:List Int):Bool:=decide (eZ q p+1=q.length) && (decide (eZ q p < p.length) && decide (q.getD (eZ q p) 0 < p.getD (eZ q p) 0))
def cJ (q p:List Int):Nat:=if q= [] then 0 else if q=p then 3 else if jK q p then 2 else if B6 q p then 1 else 0
def dV (p:List Int) (k:Nat) (d:Int):List Int:=p.set k (p.getD k 0+d)
def eJ (p q:List Int):List Int:=if cJ q p=0 then p else dV p (q.length - 1) 1
def kY (p:List Int) (o:yK):Option (List Int):=
 if !(bQ p && (bQ o.path && (bQ o.dest && !AJ o.pos))) then none
 else if o.path= [] then some p
 else if o.kind=1 then some (eJ p o.path)
 else if o.kind=2 then (if cJ o.path p=2∨cJ o.path p=3 then none else if cJ o.path p=1 then some (dV p (o.path.length - 1) (-1)) else some p)
 else if o.kind=3 then (if iJ o.path=0 then none else if cJ o.path p=2 then some (dV (dV p o.path.length o.pos) (o.path.length - 1) (-1))
  else if cJ o.path p=3∨cJ o.path p=1 then some (dV p (o.path.length - 1) (-1)) else some p)
 else if o.kind=4 then (if cJ o.path p=2/\o.pos <= p.getD o.path.length 0 then some (dV (dV p o.path.length (-o.pos)) (o.path.length - 1) 1) else if cJ o.path p=1 then some (dV p (o.path.length - 1) 1) else some p)
 else if o.kind=5 then (if cJ o.path p=3∨cJ o.path p=2 then some (o.dest ++ p.drop o.path.length) else some (eJ (if cJ o.path p=1 then dV p (o.path.length - 1) (-1) else p) o.dest))
 else some p
end Go.Proofs.YtmadpclcmjahoaaGreatDoor
