/- A part of the proof. -/
import Derived.Test.YtbhbeakhognieaaGreatDoorVj
import Derived.Test.YtbhbeakhognieaaGreatDoorVm
import Derived.Shelf.Strconv.Itoa4
import Derived.Shelf.Small.Wraps
import Derived.Lib.AppendIntMem
import Derived.Lib.ItoaLen
import Derived.Lib.LaidTab
import Derived.MakeChecks
import Derived.Test.YtbhbeakhognieaaGreatDoorTie
import Derived.Test.YtbhbeakhognieaaGreatDoorCards
import Derived.LaidMore
import Derived.SevenTiedAt
import Derived.LaidHandle
set_option linter.all false
set_option maxRecDepth 100000
set_option maxHeartbeats 8000000
open Option renaming bind_some → U, map_some → yd
open List renaming map_map → J, range_succ → y3, all_eq_true → y5, length_append → y9, map_cons → yf, mem_cons_self → yh, flatten_cons → yi, getElem?_eq_some_iff → yk, getElem?_map → yl, getElem?_eq_getElem → yn, map_congr_left → yo, mem_cons_of_mem → yr, length_map → yv, length_cons → yz, drop_zero → yC, drop_eq_nil_of_le → yD, drop_eq_getElem_cons → yI
open Int renaming toNat_lt → y4
open Nat renaming le_refl → y6, zero_add → yb, le_trans → yp
open Bool renaming and_eq_true → y7
open Array renaming toArray_toList → yE
namespace Go.Proofs.YtbhbeakhognieaaGreatDoor
open Go
section
open Go Go.Shelf Go.RowKit
def fL:Go.Shelf.Ren:=⟨fun | 171=>50 | 243=>89 | 246=>90 | 283=>132 | 284=>133 | 285=>134 | 286=>135 | 129=>171 | 317=>170 | 318=>172 | 319=>173 | 320=>174 | 337=>188 | 338=>189 | 173=>52 | 121=>53 | 214=>91 | n=>n,fun | 3=>3 | 9=>9 | 2=>2 | 4=>4 | 171=>178 | 0=>0 | 53=>179 | 37=>133 | 5=>5 | 173=>182 | 212=>204 | 51=>205 | 20=>20 | 213=>206 | 46=>207 | 232=>227 | 233=>228 | n=>n,fun | 17=>0 | 18=>2 | 19=>3 | n=>n⟩
theorem JY:Lays.n171 Tryz.prog fL:={ mixed:=by kernel_rfl,f129:=Tryz.func171.trans (congrArg some (by kernel_rfl)),f171:=Tryz.func50.trans (congrArg some (by kernel_rfl)),f243:=Tryz.func89.trans (congrArg some (by kernel_rfl)),f246:=Tryz.func90.trans (congrArg some (by kernel_rfl)),f283:=Tryz.func132.trans (congrArg some (by kernel_rfl)),f284:=Tryz.func133.trans (congrArg some (by kernel_rfl)),f285:=Tryz.func134.trans (congrArg some (by kernel_rfl)),f286:=Tryz.func135.trans (congrArg some (by kernel_rfl)),f317:=Tryz.func170.trans (congrArg some (by kernel_rfl)),f318:=Tryz.func172.trans (congrArg some (by kernel_rfl)),f319:=Tryz.func173.trans (congrArg some (by kernel_rfl)),f320:=Tryz.func174.trans (congrArg some (by kernel_rfl)),f337:=Tryz.func188.trans (congrArg some (by kernel_rfl)),f338:=Tryz.func189.trans (congrArg some (by kernel_rfl)),t0:=Tryz.underlying0,a0:=Tryz.isAgg0,z0:=Tryz.sizeOf0,v0:=Tryz.zeroValue0,t2:=Tryz.underlying2,a2:=Tryz.isAgg2,z2:=Tryz.sizeOf2,v2:=Tryz.zeroValue2,t3:=Tryz.underlying3,a3:=Tryz.isAgg3,z3:=Tryz.sizeOf3,v3:=Tryz.zeroValue3,t4:=Tryz.underlying4,a4:=Tryz.isAgg4,z4:=Tryz.sizeOf4,v4:=Tryz.zeroValue4,t5:=Tryz.underlying5,a5:=Tryz.isAgg5,z5:=Tryz.sizeOf5,v5:=Tryz.zeroValue5,t9:=Tryz.underlying9,a9:=Tryz.isAgg9,z9:=Tryz.sizeOf9,v9:=Tryz.zeroValue9,t20:=Tryz.underlying20,a20:=Tryz.isAgg20,z20:=Tryz.sizeOf20,v20:=Tryz.zeroValue20,t37:=Tryz.underlying133,a37:=Tryz.isAgg133,z37:=Tryz.sizeOf133,v37:=Tryz.zeroValue133,t46:=Tryz.underlying207,a46:=Tryz.isAgg207,z46:=Tryz.sizeOf207,v46:=Tryz.zeroValue207,t51:=Tryz.underlying205,a51:=Tryz.isAgg205,z51:=Tryz.sizeOf205,v51:=Tryz.zeroValue205,t53:=Tryz.underlying179,a53:=Tryz.isAgg179,z53:=Tryz.sizeOf179,v53:=Tryz.zeroValue179,t171:=Tryz.underlying178,a171:=Tryz.isAgg178,z171:=Tryz.sizeOf178,v171:=Tryz.zeroValue178,t173:=Tryz.underlying182,a173:=Tryz.isAgg182,z173:=Tryz.sizeOf182,v173:=Tryz.zeroValue182,t212:=Tryz.underlying204,a212:=Tryz.isAgg204,z212:=Tryz.sizeOf204,v212:=Tryz.zeroValue204,t213:=Tryz.underlying206,a213:=Tryz.isAgg206,z213:=Tryz.sizeOf206,t232:=Tryz.underlying227,a232:=Tryz.isAgg227,z232:=Tryz.sizeOf227,v232:=Tryz.zeroValue227,t233:=Tryz.underlying228,a233:=Tryz.isAgg228,z233:=Tryz.sizeOf228,v233:=Tryz.zeroValue228,g17:=by kernel_rfl,g18:=by kernel_rfl,g19:=by kernel_rfl }
theorem fl173:Lays.n173 Tryz.prog fL:={ JY with f173:=Tryz.func52.trans (congrArg some (by kernel_rfl)) }
theorem p7:LaysM.n171 Tryz.prog fL:={ JY with i0:=by kernel_rfl,i2:=by kernel_rfl,i3:=by kernel_rfl,i4:=by kernel_rfl,i5:=by kernel_rfl,i9:=by kernel_rfl,i20:=by kernel_rfl,i37:=by kernel_rfl,i46:=by kernel_rfl,i51:=by kernel_rfl,i53:=by kernel_rfl,i171:=by kernel_rfl,i173:=by kernel_rfl,i212:=by kernel_rfl,i232:=by kernel_rfl,i233:=by kernel_rfl,m17:=by kernel_rfl,m18:=by kernel_rfl,m19:=by kernel_rfl }
theorem fm173:LaysM.n173 Tryz.prog fL:={ p7,fl173 with  }
theorem fl121:Lays.n121 Tryz.prog fL:={ JY with f121:=Tryz.func53.trans (congrArg some (by kernel_rfl)),f214:=Tryz.func91.trans (congrArg some (by kernel_rfl)) }
def tab0 (W:World):UI:={ L8 with
 lo:=W.heap.size
 wd:=fun w=>Below W.heap.size W w
 wdl:=fun h=>h.size
 wdk:=fun h hK hH=>h.trans (hK.below_of h.size hH) }
def jR (W:World):OB:=(tab0 W).of
def QQ (W:World):Prop:=Lib.TabIs Tryz.prog W "internal/strconv.uint64pow10" .u64 Lib.pow10Tab
theorem P0 {W w:World} (h:QQ W) (hb:Below W.heap.size W w):Lib.TabIs Tryz.prog w "internal/strconv.uint64pow10" .u64 Lib.pow10Tab:=Lib.tabBelow_of_tabIs h w hb
def dA (n:Int):ByteArray:=⟨(Lib.itoa n).toArray⟩
section
variable {W:World} (hT:QQ W) {n:Int} (h0:-9223372036854775808<=n) (h1:n<=9223372036854775807)
include W hT n h0 h1
theorem uT:EA Tryz.prog (jR W) 50 [.int .i64 n] none (.str (dA n),none):=by
 refine (EA.of rfl).2 ⟨enters_of Tryz.func50 (by kernel_rfl) rfl,?_⟩;intro av w vs ub ka;simp only [jC] at ka;obtain ⟨u,us,rfl,hu,rfl⟩:=ka;rw [cA] at hu;subst hu;refine (show Calls Tryz.prog 50 _ _ _ from Any.strconv_Itoa p7 n h0 h1 w (P0 hT ub.1.1)).mono ?_;rintro e w' ⟨rfl,k,os,rfl⟩;exact ⟨_,rfl,rfl,Lib.below_grow _ w (y6 _) k os⟩
theorem KQ:EA Tryz.prog (jR W) 52 [.int .i64 n,.int .i64 10] none (.str (dA n),none):=by
 refine (EA.of rfl).2 ⟨enters_of Tryz.func52 (by kernel_rfl) rfl,?_⟩;intro av w vs ub ka;simp only [jC] at ka;obtain ⟨u,us,rfl,hu,u2,aq,rfl,ug,rfl⟩:=ka;rw [cA] at hu ug;subst hu;subst ug;refine (show Calls Tryz.prog 52 _ _ _ from Any.strconv_FormatInt_10 fm173 n h0 h1 w (P0 hT ub.1.1)).mono ?_;rintro e w' ⟨rfl,k,os,rfl⟩;exact ⟨_,rfl,rfl,Lib.below_grow _ w (y6 _) k os⟩
end
def M4 (b:Bool):ByteArray:=⟨(Lib.formatBool b).toArray⟩
theorem WP {O:OB} {b:Bool}:EA Tryz.prog O 53 [.bool b] none (.str (M4 b),none):=by
 refine (EA.of rfl).2 ⟨enters_of Tryz.func53 (by kernel_rfl) rfl,?_⟩;intro av w vs ub ka;simp only [jC] at ka;obtain ⟨u,us,rfl,hu,rfl⟩:=ka;rw [AA] at hu;subst hu;refine (show Calls Tryz.prog 53 _ _ _ from Any.strconv_FormatBool fl121 b w).mono ?_;rintro e w' ⟨rfl,rfl⟩;exact ⟨_,rfl,rfl,Below.refl _ _⟩
def ZR (f:Nat):List AV->Option AV->Option RV
 | [.int .i64 n],none=>if f=50/\-9223372036854775808<=n/\n<=9223372036854775807 then some (.str (dA n),none) else none
 | [.int .i64 n,.int .i64 m],none=>if f=52/\m=10/\-9223372036854775808<=n/\n<=9223372036854775807 then some (.str (dA n),none) else none
 | [.bool b],none=>if f=53 then some (.str (M4 b),none) else none
 | _,_=>none
def KY:OA:=fun f args S=>match pA f args S with
 | some r=>some r
 | none=>ZR f args S
theorem iQ (f:Nat) (args:List AV) (S:Option AV) (r:RV) (h:pA f args S=some r):KY f args S=some r:=by
 unfold KY;rw [h]
theorem u5 {W:World} (hT:QQ W) (f:FuncId) (args:List AV) (S:Option AV) (r:RV) (h:KY f args S=some r):EA Tryz.prog (jR W) f args S r:=by
 unfold KY at h;split at h
 ·rename_i he;injection h with h;subst h;exact JW f args S _ he
 ·unfold ZR at h;split at h
  ·split at h
   ·rename_i hc;injection h with h;subst h;obtain ⟨rfl,h0,h1⟩:=hc;exact uT hT h0 h1
   ·cases h
  ·split at h
   ·rename_i hc;injection h with h;subst h;obtain ⟨rfl,rfl,h0,h1⟩:=hc;exact KQ hT h0 h1
   ·cases h
  ·split at h
   ·rename_i hc;injection h with h;subst h;subst hc;exact WP
   ·cases h
  ·cases h
theorem eX {n:Int} (h0:0<=n) (h1:n<100):dA n=⟨(if n<10 then [UInt8.ofNat (48 + n.toNat)] else [UInt8.ofNat (48 + n.toNat / 10),UInt8.ofNat (48 + n.toNat % 10)]).toArray⟩:=by
 have e:Lib.itoa n=Lib.decDigits n.toNat:=by unfold Lib.itoa; rw [if_neg (by omega)]
 unfold dA;rw [e];congr 2;by_cases h:n<10
 ·rw [if_pos h,Lib.decDigits_one (by omega)]
 ·rw [if_neg h,Lib.decDigits_two (by omega) (by omega)]
abbrev nC (f:Nat) (args:List AV) (v:AV):Prop:=cP RA KY f args none=some (v,none)
theorem ev_F {f:Nat} {args:List AV} {v:AV} (h:evE f args v):nC f args v:=FR iQ h
theorem gA {n:Int} (h:qH n):nC 50 [.int .i64 n] (.str (dA n)):=by
 refine pO rfl ?_;obtain ⟨h0,h1⟩:=h;show (match XV [.int .i64 n] with | some r=>some r | none=>ZR 50 [.int .i64 n] none)=_;unfold XV;dsimp only;by_cases hc:0<=n/\n<100
 ·rw [if_pos hc,eX hc.1 hc.2]
 ·rw [if_neg hc];unfold ZR;exact if_pos ⟨rfl,h0,h1⟩
theorem iG {n:Int} (h:qH n):nC 52 [.int .i64 n,.int .i64 10] (.str (dA n)):=by
 refine pO rfl ?_;show ZR 52 [.int .i64 n,.int .i64 10] none=_;unfold ZR;exact if_pos ⟨rfl,rfl,h.1,h.2⟩
theorem gL (b:Bool):nC 53 [.bool b] (.str (M4 b)):=by
 refine pO rfl ?_;show ZR 53 [.bool b] none=_;unfold ZR;exact if_pos rfl
theorem BC {l:List (List AV)} {s:ByteArray} {xs:List (List UInt8)} (hx:wN l=some xs) (hl:l.length<=1000) (au:(cC s.data.toList xs).length<=140737488355328):nC 54 [.sl false l,.str s] (.str ⟨(cC s.data.toList xs).toArray⟩):=by
 refine pO rfl (iQ _ _ _ _ ?_);show jnE [.sl false l,.str s]=_;unfold jnE;dsimp only;rw [hx,U,if_pos ⟨hl,au⟩]
end
structure TE where
 kind:Int
 ty:Int
 id:Int
 name:ByteArray
 mem:uN
 sym:XX
 low:Int
 high:Int
 max:Int
 opn:Bool
 key:Int
 elem:Int
def TB (e:TE):List AV:=[.int .i64 e.kind,.int .i64 e.ty,.int .i64 e.id,.str e.name]++tB e.mem++dB e.sym++[.int .i64 e.low,.int .i64 e.high,.int .i64 e.max,.bool e.opn,.int .i64 e.key,.int .i64 e.elem]
def uN.zero:uN:=⟨0,⟨#[]⟩,0,false,false,.zero⟩
def TE.zero:TE:=⟨0,0,0,⟨#[]⟩,.zero,⟨0,⟨#[]⟩⟩,0,0,0,false,0,0⟩
theorem iB (lp:B6) (b:C) (k:Ex->tA->Option RV) (j:Nat) (s:tA):qK lp b k (.exit j) s=k (.exit j) s:=rfl
theorem iA {n:Int} (h:qH n):(dA n).size<=21:=by
 have:=Lib.itoa_length_le n h.1 h.2;simpa [dA,ByteArray.size] using this
theorem SV (b:Bool):(M4 b).size<=21:=by cases b <;> decide
structure RI (e:TE):Prop where
 ty:qH e.ty
 id:qH e.id
 mi:qH e.mem.id
 mt:qH e.mem.ty
 si:qH e.sym.id
 lo:qH e.low
 hi:qH e.high
 mx:qH e.max
 ky:qH e.key
 el:qH e.elem
 nm:e.name.size<=140737488351232
 mn:e.mem.name.size<=140737488351232
 sn:e.sym.name.size<=140737488351232
section
variable (e:TE) (hr:RI e)
include e hr
theorem pfmt1 (hk:e.kind=1) (hc:e.mem.crit=false) (hd:e.mem.has=false):nC 25 [.agg (TB e)] (.str ⟨(cC [32] [[97,100,100],(dA e.ty).data.toList,(dA e.mem.id).data.toList,e.mem.name.data.toList,(dA e.mem.ty).data.toList]).toArray⟩):=by
 have h1:=gA hr.ty;have l1:=iA hr.ty;have h2:=gA hr.mi;have l2:=iA hr.mi;have l3:=hr.mn;have h4:=gA hr.mt;have l4:=iA hr.mt;have hj:=BC (l:=[[.str ⟨#[97,100,100]⟩],[.str (dA e.ty)],[.str (dA e.mem.id)],[.str e.mem.name],[.str (dA e.mem.ty)]]) (s:=⟨#[32]⟩) (xs:=[[97,100,100],(dA e.ty).data.toList,(dA e.mem.id).data.toList,e.mem.name.data.toList,(dA e.mem.ty).data.toList]) rfl (by simp) (by simp [cC]; omega);clear l1 l2 l3 l4;unfold nC at hj h1 h2 h4;have r3:TA 16 3=true:=rfl;have r4:TA 16 4=true:=rfl;have r5:TA 16 5=true:=rfl;have w1:IntKind.i64.wrap 1=1:=rfl;have w2:IntKind.i64.wrap 2=2:=rfl;refine mA wA rfl rfl ?_;simp [wA,-U,-y4,-J,y3,iB,KB,XB,QB,lA,bA,AV.plain,AV.scal,TB,tB,dB,w1,w2,hk,hc,hd,hj,h1,h2,h4,r3,r4,r5]
theorem d9 (hk:e.kind=1) (hc:e.mem.crit=false) (hd:e.mem.has=true):nC 25 [.agg (TB e)] (.str ⟨(cC [32] [[97,100,100],(dA e.ty).data.toList,(dA e.mem.id).data.toList,e.mem.name.data.toList,(dA e.mem.ty).data.toList,[100,101,102,97,117,108,116]]).toArray⟩):=by
 have h1:=gA hr.ty;have l1:=iA hr.ty;have h2:=gA hr.mi;have l2:=iA hr.mi;have l3:=hr.mn;have h4:=gA hr.mt;have l4:=iA hr.mt;have hj:=BC (l:=[[.str ⟨#[97,100,100]⟩],[.str (dA e.ty)],[.str (dA e.mem.id)],[.str e.mem.name],[.str (dA e.mem.ty)],[.str ⟨#[100,101,102,97,117,108,116]⟩]]) (s:=⟨#[32]⟩) (xs:=[[97,100,100],(dA e.ty).data.toList,(dA e.mem.id).data.toList,e.mem.name.data.toList,(dA e.mem.ty).data.toList,[100,101,102,97,117,108,116]]) rfl (by simp) (by simp [cC]; omega);clear l1 l2 l3 l4;unfold nC at hj h1 h2 h4;have r3:TA 16 3=true:=rfl;have r4:TA 16 4=true:=rfl;have r5:TA 16 5=true:=rfl;have r6:TA 16 6=true:=rfl;have w1:IntKind.i64.wrap 1=1:=rfl;have w2:IntKind.i64.wrap 2=2:=rfl;refine mA wA rfl rfl ?_;simp [wA,-U,-y4,-J,y3,iB,KB,XB,QB,lA,bA,AV.plain,AV.scal,TB,tB,dB,w1,w2,hk,hc,hd,hj,h1,h2,h4,r3,r4,r5,r6]
theorem s9 (hk:e.kind=1) (hc:e.mem.crit=true) (hd:e.mem.has=false):nC 25 [.agg (TB e)] (.str ⟨(cC [32] [[97,100,100],(dA e.ty).data.toList,(dA e.mem.id).data.toList,e.mem.name.data.toList,(dA e.mem.ty).data.toList,[99,114,105,116,105,99,97,108]]).toArray⟩):=by
 have h1:=gA hr.ty;have l1:=iA hr.ty;have h2:=gA hr.mi;have l2:=iA hr.mi;have l3:=hr.mn;have h4:=gA hr.mt;have l4:=iA hr.mt;have hj:=BC (l:=[[.str ⟨#[97,100,100]⟩],[.str (dA e.ty)],[.str (dA e.mem.id)],[.str e.mem.name],[.str (dA e.mem.ty)],[.str ⟨#[99,114,105,116,105,99,97,108]⟩]]) (s:=⟨#[32]⟩) (xs:=[[97,100,100],(dA e.ty).data.toList,(dA e.mem.id).data.toList,e.mem.name.data.toList,(dA e.mem.ty).data.toList,[99,114,105,116,105,99,97,108]]) rfl (by simp) (by simp [cC]; omega);clear l1 l2 l3 l4;unfold nC at hj h1 h2 h4;have r3:TA 16 3=true:=rfl;have r4:TA 16 4=true:=rfl;have r5:TA 16 5=true:=rfl;have r6:TA 16 6=true:=rfl;have w1:IntKind.i64.wrap 1=1:=rfl;have w2:IntKind.i64.wrap 2=2:=rfl;refine mA wA rfl rfl ?_;simp [wA,-U,-y4,-J,y3,iB,KB,XB,QB,lA,bA,AV.plain,AV.scal,TB,tB,dB,w1,w2,hk,hc,hd,hj,h1,h2,h4,r3,r4,r5,r6]
theorem b6 (hk:e.kind=1) (hc:e.mem.crit=true) (hd:e.mem.has=true):nC 25 [.agg (TB e)] (.str ⟨(cC [32] [[97,100,100],(dA e.ty).data.toList,(dA e.mem.id).data.toList,e.mem.name.data.toList,(dA e.mem.ty).data.toList,[99,114,105,116,105,99,97,108],[100,101,102,97,117,108,116]]).toArray⟩):=by
 have h1:=gA hr.ty;have l1:=iA hr.ty;have h2:=gA hr.mi;have l2:=iA hr.mi;have l3:=hr.mn;have h4:=gA hr.mt;have l4:=iA hr.mt;have hj:=BC (l:=[[.str ⟨#[97,100,100]⟩],[.str (dA e.ty)],[.str (dA e.mem.id)],[.str e.mem.name],[.str (dA e.mem.ty)],[.str ⟨#[99,114,105,116,105,99,97,108]⟩],[.str ⟨#[100,101,102,97,117,108,116]⟩]]) (s:=⟨#[32]⟩) (xs:=[[97,100,100],(dA e.ty).data.toList,(dA e.mem.id).data.toList,e.mem.name.data.toList,(dA e.mem.ty).data.toList,[99,114,105,116,105,99,97,108],[100,101,102,97,117,108,116]]) rfl (by simp) (by simp [cC]; omega);clear l1 l2 l3 l4;unfold nC at hj h1 h2 h4;have r3:TA 16 3=true:=rfl;have r4:TA 16 4=true:=rfl;have r5:TA 16 5=true:=rfl;have r6:TA 16 6=true:=rfl;have r7:TA 16 7=true:=rfl;have w1:IntKind.i64.wrap 1=1:=rfl;have w2:IntKind.i64.wrap 2=2:=rfl;refine mA wA rfl rfl ?_;simp [wA,-U,-y4,-J,y3,iB,KB,XB,QB,lA,bA,AV.plain,AV.scal,TB,tB,dB,w1,w2,hk,hc,hd,hj,h1,h2,h4,r3,r4,r5,r6,r7]
theorem pfmt3 (hk:e.kind=3) (hc:e.mem.crit=false) (hd:e.mem.has=false):nC 25 [.agg (TB e)] (.str ⟨(cC [32] [[109,101,109,98,101,114],(dA e.ty).data.toList,(dA e.mem.id).data.toList,e.mem.name.data.toList,(dA e.mem.ty).data.toList]).toArray⟩):=by
 have h1:=gA hr.ty;have l1:=iA hr.ty;have h2:=gA hr.mi;have l2:=iA hr.mi;have l3:=hr.mn;have h4:=gA hr.mt;have l4:=iA hr.mt;have hj:=BC (l:=[[.str ⟨#[109,101,109,98,101,114]⟩],[.str (dA e.ty)],[.str (dA e.mem.id)],[.str e.mem.name],[.str (dA e.mem.ty)]]) (s:=⟨#[32]⟩) (xs:=[[109,101,109,98,101,114],(dA e.ty).data.toList,(dA e.mem.id).data.toList,e.mem.name.data.toList,(dA e.mem.ty).data.toList]) rfl (by simp) (by simp [cC]; omega);clear l1 l2 l3 l4;unfold nC at hj h1 h2 h4;have r3:TA 16 3=true:=rfl;have r4:TA 16 4=true:=rfl;have r5:TA 16 5=true:=rfl;have w1:IntKind.i64.wrap 1=1:=rfl;have w2:IntKind.i64.wrap 2=2:=rfl;refine mA wA rfl rfl ?_;simp [wA,-U,-y4,-J,y3,iB,KB,XB,QB,lA,bA,AV.plain,AV.scal,TB,tB,dB,w1,w2,hk,hc,hd,hj,h1,h2,h4,r3,r4,r5]
theorem g9 (hk:e.kind=3) (hc:e.mem.crit=false) (hd:e.mem.has=true):nC 25 [.agg (TB e)] (.str ⟨(cC [32] [[109,101,109,98,101,114],(dA e.ty).data.toList,(dA e.mem.id).data.toList,e.mem.name.data.toList,(dA e.mem.ty).data.toList,[100,101,102,97,117,108,116]]).toArray⟩):=by
 have h1:=gA hr.ty;have l1:=iA hr.ty;have h2:=gA hr.mi;have l2:=iA hr.mi;have l3:=hr.mn;have h4:=gA hr.mt;have l4:=iA hr.mt;have hj:=BC (l:=[[.str ⟨#[109,101,109,98,101,114]⟩],[.str (dA e.ty)],[.str (dA e.mem.id)],[.str e.mem.name],[.str (dA e.mem.ty)],[.str ⟨#[100,101,102,97,117,108,116]⟩]]) (s:=⟨#[32]⟩) (xs:=[[109,101,109,98,101,114],(dA e.ty).data.toList,(dA e.mem.id).data.toList,e.mem.name.data.toList,(dA e.mem.ty).data.toList,[100,101,102,97,117,108,116]]) rfl (by simp) (by simp [cC]; omega);clear l1 l2 l3 l4;unfold nC at hj h1 h2 h4;have r3:TA 16 3=true:=rfl;have r4:TA 16 4=true:=rfl;have r5:TA 16 5=true:=rfl;have r6:TA 16 6=true:=rfl;have w1:IntKind.i64.wrap 1=1:=rfl;have w2:IntKind.i64.wrap 2=2:=rfl;refine mA wA rfl rfl ?_;simp [wA,-U,-y4,-J,y3,iB,KB,XB,QB,lA,bA,AV.plain,AV.scal,TB,tB,dB,w1,w2,hk,hc,hd,hj,h1,h2,h4,r3,r4,r5,r6]
theorem f9 (hk:e.kind=3) (hc:e.mem.crit=true) (hd:e.mem.has=false):nC 25 [.agg (TB e)] (.str ⟨(cC [32] [[109,101,109,98,101,114],(dA e.ty).data.toList,(dA e.mem.id).data.toList,e.mem.name.data.toList,(dA e.mem.ty).data.toList,[99,114,105,116,105,99,97,108]]).toArray⟩):=by
 have h1:=gA hr.ty;have l1:=iA hr.ty;have h2:=gA hr.mi;have l2:=iA hr.mi;have l3:=hr.mn;have h4:=gA hr.mt;have l4:=iA hr.mt;have hj:=BC (l:=[[.str ⟨#[109,101,109,98,101,114]⟩],[.str (dA e.ty)],[.str (dA e.mem.id)],[.str e.mem.name],[.str (dA e.mem.ty)],[.str ⟨#[99,114,105,116,105,99,97,108]⟩]]) (s:=⟨#[32]⟩) (xs:=[[109,101,109,98,101,114],(dA e.ty).data.toList,(dA e.mem.id).data.toList,e.mem.name.data.toList,(dA e.mem.ty).data.toList,[99,114,105,116,105,99,97,108]]) rfl (by simp) (by simp [cC]; omega);clear l1 l2 l3 l4;unfold nC at hj h1 h2 h4;have r3:TA 16 3=true:=rfl;have r4:TA 16 4=true:=rfl;have r5:TA 16 5=true:=rfl;have r6:TA 16 6=true:=rfl;have w1:IntKind.i64.wrap 1=1:=rfl;have w2:IntKind.i64.wrap 2=2:=rfl;refine mA wA rfl rfl ?_;simp [wA,-U,-y4,-J,y3,iB,KB,XB,QB,lA,bA,AV.plain,AV.scal,TB,tB,dB,w1,w2,hk,hc,hd,hj,h1,h2,h4,r3,r4,r5,r6]
theorem m6 (hk:e.kind=3) (hc:e.mem.crit=true) (hd:e.mem.has=true):nC 25 [.agg (TB e)] (.str ⟨(cC [32] [[109,101,109,98,101,114],(dA e.ty).data.toList,(dA e.mem.id).data.toList,e.mem.name.data.toList,(dA e.mem.ty).data.toList,[99,114,105,116,105,99,97,108],[100,101,102,97,117,108,116]]).toArray⟩):=by
 have h1:=gA hr.ty;have l1:=iA hr.ty;have h2:=gA hr.mi;have l2:=iA hr.mi;have l3:=hr.mn;have h4:=gA hr.mt;have l4:=iA hr.mt;have hj:=BC (l:=[[.str ⟨#[109,101,109,98,101,114]⟩],[.str (dA e.ty)],[.str (dA e.mem.id)],[.str e.mem.name],[.str (dA e.mem.ty)],[.str ⟨#[99,114,105,116,105,99,97,108]⟩],[.str ⟨#[100,101,102,97,117,108,116]⟩]]) (s:=⟨#[32]⟩) (xs:=[[109,101,109,98,101,114],(dA e.ty).data.toList,(dA e.mem.id).data.toList,e.mem.name.data.toList,(dA e.mem.ty).data.toList,[99,114,105,116,105,99,97,108],[100,101,102,97,117,108,116]]) rfl (by simp) (by simp [cC]; omega);clear l1 l2 l3 l4;unfold nC at hj h1 h2 h4;have r3:TA 16 3=true:=rfl;have r4:TA 16 4=true:=rfl;have r5:TA 16 5=true:=rfl;have r6:TA 16 6=true:=rfl;have r7:TA 16 7=true:=rfl;have w1:IntKind.i64.wrap 1=1:=rfl;have w2:IntKind.i64.wrap 2=2:=rfl;refine mA wA rfl rfl ?_;simp [wA,-U,-y4,-J,y3,iB,KB,XB,QB,lA,bA,AV.plain,AV.scal,TB,tB,dB,w1,w2,hk,hc,hd,hj,h1,h2,h4,r3,r4,r5,r6,r7]
theorem pfmt2 (hk:e.kind=2):nC 25 [.agg (TB e)] (.str ⟨(cC [32] [[114,101,109,111,118,101],(dA e.ty).data.toList,(dA e.id).data.toList]).toArray⟩):=by
 have h1:=gA hr.ty;have l1:=iA hr.ty;have h2:=gA hr.id;have l2:=iA hr.id;have hj:=BC (l:=[[.str ⟨#[114,101,109,111,118,101]⟩],[.str (dA e.ty)],[.str (dA e.id)]]) (s:=⟨#[32]⟩) (xs:=[[114,101,109,111,118,101],(dA e.ty).data.toList,(dA e.id).data.toList]) rfl (by simp) (by simp [cC]; omega);clear l1 l2;unfold nC at hj h1 h2;have r3:TA 16 3=true:=rfl;have w1:IntKind.i64.wrap 1=1:=rfl;have w2:IntKind.i64.wrap 2=2:=rfl;refine mA wA rfl rfl ?_;simp [wA,-U,-y4,-J,y3,iB,KB,XB,QB,lA,bA,AV.plain,AV.scal,TB,tB,dB,w1,w2,hk,hj,h1,h2,r3];refine mJ SA rfl rfl ?_;simp [SA,-U,-y4,-J,y3,gE,iB,KB,XB,QB,lA,bA,AV.plain,AV.scal,TB,tB,dB,w1,w2,hk,hj,h1,h2,r3];refine zB (b:=aA) ?_;simp [aA,-U,-y4,-J,y3,iB,KB,XB,QB,lA,bA,AV.plain,AV.scal,TB,tB,dB,w1,w2,hk,hj,h1,h2,r3];refine zB (b:=aA) ?_;simp [aA,-U,-y4,-J,y3,iB,KB,XB,QB,lA,bA,AV.plain,AV.scal,TB,tB,dB,w1,w2,hk,hj,h1,h2,r3]
theorem pfmt5 (hk:e.kind=5):nC 25 [.agg (TB e)] (.str ⟨(cC [32] [[100,114,111,112],(dA e.ty).data.toList,(dA e.id).data.toList]).toArray⟩):=by
 have h1:=gA hr.ty;have l1:=iA hr.ty;have h2:=gA hr.id;have l2:=iA hr.id;have hj:=BC (l:=[[.str ⟨#[100,114,111,112]⟩],[.str (dA e.ty)],[.str (dA e.id)]]) (s:=⟨#[32]⟩) (xs:=[[100,114,111,112],(dA e.ty).data.toList,(dA e.id).data.toList]) rfl (by simp) (by simp [cC]; omega);clear l1 l2;unfold nC at hj h1 h2;have r3:TA 16 3=true:=rfl;have w1:IntKind.i64.wrap 1=1:=rfl;have w2:IntKind.i64.wrap 2=2:=rfl;refine mA wA rfl rfl ?_;simp [wA,-U,-y4,-J,y3,iB,KB,XB,QB,lA,bA,AV.plain,AV.scal,TB,tB,dB,w1,w2,hk,hj,h1,h2,r3];refine mJ SA rfl rfl ?_;simp [SA,-U,-y4,-J,y3,gE,iB,KB,XB,QB,lA,bA,AV.plain,AV.scal,TB,tB,dB,w1,w2,hk,hj,h1,h2,r3];refine zB (b:=aA) ?_;simp [aA,-U,-y4,-J,y3,iB,KB,XB,QB,lA,bA,AV.plain,AV.scal,TB,tB,dB,w1,w2,hk,hj,h1,h2,r3];refine zB (b:=aA) ?_;simp [aA,-U,-y4,-J,y3,iB,KB,XB,QB,lA,bA,AV.plain,AV.scal,TB,tB,dB,w1,w2,hk,hj,h1,h2,r3]
theorem pfmt4 (hk:e.kind=4):nC 25 [.agg (TB e)] (.str ⟨(cC [32] [[115,121,109,98,111,108],(dA e.ty).data.toList,(dA e.sym.id).data.toList,e.sym.name.data.toList]).toArray⟩):=by
 have h1:=gA hr.ty;have l1:=iA hr.ty;have h2:=gA hr.si;have l2:=iA hr.si;have l3:=hr.sn;have hj:=BC (l:=[[.str ⟨#[115,121,109,98,111,108]⟩],[.str (dA e.ty)],[.str (dA e.sym.id)],[.str e.sym.name]]) (s:=⟨#[32]⟩) (xs:=[[115,121,109,98,111,108],(dA e.ty).data.toList,(dA e.sym.id).data.toList,e.sym.name.data.toList]) rfl (by simp) (by simp [cC]; omega);clear l1 l2 l3;unfold nC at hj h1 h2;have r3:TA 16 3=true:=rfl;have r4:TA 16 4=true:=rfl;have w1:IntKind.i64.wrap 1=1:=rfl;have w2:IntKind.i64.wrap 2=2:=rfl;refine mA wA rfl rfl ?_;simp [wA,-U,-y4,-J,y3,iB,KB,XB,QB,lA,bA,AV.plain,AV.scal,TB,tB,dB,w1,w2,hk,hj,h1,h2,r3,r4];refine mJ SA rfl rfl ?_;simp [SA,-U,-y4,-J,y3,gE,iB,KB,XB,QB,lA,bA,AV.plain,AV.scal,TB,tB,dB,w1,w2,hk,hj,h1,h2,r3,r4];refine zB (b:=aA) ?_;simp [aA,-U,-y4,-J,y3,iB,KB,XB,QB,lA,bA,AV.plain,AV.scal,TB,tB,dB,w1,w2,hk,hj,h1,h2,r3,r4];refine zB (b:=aA) ?_;simp [aA,-U,-y4,-J,y3,iB,KB,XB,QB,lA,bA,AV.plain,AV.scal,TB,tB,dB,w1,w2,hk,hj,h1,h2,r3,r4]
theorem pfmt6 (hk:e.kind=6):nC 25 [.agg (TB e)] (.str ⟨(cC [32] [[110,97,109,101],(dA e.ty).data.toList,e.name.data.toList]).toArray⟩):=by
 have h1:=gA hr.ty;have l1:=iA hr.ty;have l2:=hr.nm;have hj:=BC (l:=[[.str ⟨#[110,97,109,101]⟩],[.str (dA e.ty)],[.str e.name]]) (s:=⟨#[32]⟩) (xs:=[[110,97,109,101],(dA e.ty).data.toList,e.name.data.toList]) rfl (by simp) (by simp [cC]; omega);clear l1 l2;unfold nC at hj h1;have r3:TA 16 3=true:=rfl;have w1:IntKind.i64.wrap 1=1:=rfl;have w2:IntKind.i64.wrap 2=2:=rfl;refine mA wA rfl rfl ?_;simp [wA,-U,-y4,-J,y3,iB,KB,XB,QB,lA,bA,AV.plain,AV.scal,TB,tB,dB,w1,w2,hk,hj,h1,r3]
theorem pfmt7 (hk:e.kind=7):nC 25 [.agg (TB e)] (.str ⟨(cC [32] [[98,111,117,110,100,115],(dA e.ty).data.toList,(dA e.low).data.toList,(dA e.high).data.toList,(dA e.max).data.toList]).toArray⟩):=by
 have h1:=gA hr.ty;have l1:=iA hr.ty;have h2:=iG hr.lo;have l2:=iA hr.lo;have h3:=iG hr.hi;have l3:=iA hr.hi;have h4:=gA hr.mx;have l4:=iA hr.mx;have hj:=BC (l:=[[.str ⟨#[98,111,117,110,100,115]⟩],[.str (dA e.ty)],[.str (dA e.low)],[.str (dA e.high)],[.str (dA e.max)]]) (s:=⟨#[32]⟩) (xs:=[[98,111,117,110,100,115],(dA e.ty).data.toList,(dA e.low).data.toList,(dA e.high).data.toList,(dA e.max).data.toList]) rfl (by simp) (by simp [cC]; omega);clear l1 l2 l3 l4;unfold nC at hj h1 h2 h3 h4;have r3:TA 16 3=true:=rfl;have r4:TA 16 4=true:=rfl;have r5:TA 16 5=true:=rfl;have w1:IntKind.i64.wrap 1=1:=rfl;have w2:IntKind.i64.wrap 2=2:=rfl;refine mA wA rfl rfl ?_;simp [wA,-U,-y4,-J,y3,iB,KB,XB,QB,lA,bA,AV.plain,AV.scal,TB,tB,dB,w1,w2,hk,hj,h1,h2,h3,h4,r3,r4,r5]
theorem pfmt8 (hk:e.kind=8):nC 25 [.agg (TB e)] (.str ⟨(cC [32] [[111,112,101,110],(dA e.ty).data.toList,(M4 e.opn).data.toList]).toArray⟩):=by
 have h1:=gA hr.ty;have l1:=iA hr.ty;have h2:=gL e.opn;have l2:=SV e.opn;have hj:=BC (l:=[[.str ⟨#[111,112,101,110]⟩],[.str (dA e.ty)],[.str (M4 e.opn)]]) (s:=⟨#[32]⟩) (xs:=[[111,112,101,110],(dA e.ty).data.toList,(M4 e.opn).data.toList]) rfl (by simp) (by simp [cC]; omega);clear l1 l2;unfold nC at hj h1 h2;have r3:TA 16 3=true:=rfl;have w1:IntKind.i64.wrap 1=1:=rfl;have w2:IntKind.i64.wrap 2=2:=rfl;refine mA wA rfl rfl ?_;simp [wA,-U,-y4,-J,y3,iB,KB,XB,QB,lA,bA,AV.plain,AV.scal,TB,tB,dB,w1,w2,hk,hj,h1,h2,r3]
theorem pfmt9 (hk:e.kind=9):nC 25 [.agg (TB e)] (.str ⟨(cC [32] [[117,115,101,115],(dA e.ty).data.toList,(dA e.key).data.toList,(dA e.elem).data.toList]).toArray⟩):=by
 have h1:=gA hr.ty;have l1:=iA hr.ty;have h2:=gA hr.ky;have l2:=iA hr.ky;have h3:=gA hr.el;have l3:=iA hr.el;have hj:=BC (l:=[[.str ⟨#[117,115,101,115]⟩],[.str (dA e.ty)],[.str (dA e.key)],[.str (dA e.elem)]]) (s:=⟨#[32]⟩) (xs:=[[117,115,101,115],(dA e.ty).data.toList,(dA e.key).data.toList,(dA e.elem).data.toList]) rfl (by simp) (by simp [cC]; omega);clear l1 l2 l3;unfold nC at hj h1 h2 h3;have r3:TA 16 3=true:=rfl;have r4:TA 16 4=true:=rfl;have w1:IntKind.i64.wrap 1=1:=rfl;have w2:IntKind.i64.wrap 2=2:=rfl;refine mA wA rfl rfl ?_;simp [wA,-U,-y4,-J,y3,iB,KB,XB,QB,lA,bA,AV.plain,AV.scal,TB,tB,dB,w1,w2,hk,hj,h1,h2,h3,r3,r4];refine mJ SA rfl rfl ?_;simp [SA,-U,-y4,-J,y3,gE,iB,KB,XB,QB,lA,bA,AV.plain,AV.scal,TB,tB,dB,w1,w2,hk,hj,h1,h2,h3,r3,r4];refine zB (b:=aA) ?_;simp [aA,-U,-y4,-J,y3,iB,KB,XB,QB,lA,bA,AV.plain,AV.scal,TB,tB,dB,w1,w2,hk,hj,h1,h2,h3,r3,r4];refine zB (b:=aA) ?_;simp [aA,-U,-y4,-J,y3,iB,KB,XB,QB,lA,bA,AV.plain,AV.scal,TB,tB,dB,w1,w2,hk,hj,h1,h2,h3,r3,r4];refine zB (b:=aA) ?_;simp [aA,-U,-y4,-J,y3,iB,KB,XB,QB,lA,bA,AV.plain,AV.scal,TB,tB,dB,w1,w2,hk,hj,h1,h2,h3,r3,r4]
theorem pfmt0 (hk:∀ k:Int,1<=k->k<=9->¬ e.kind=k):nC 25 [.agg (TB e)] (.str ⟨(cC [32] [[117,110,107,110,111,119,110],(dA e.ty).data.toList]).toArray⟩):=by
 have h1:=gA hr.ty;have l1:=iA hr.ty;have hj:=BC (l:=[[.str ⟨#[117,110,107,110,111,119,110]⟩],[.str (dA e.ty)]]) (s:=⟨#[32]⟩) (xs:=[[117,110,107,110,111,119,110],(dA e.ty).data.toList]) rfl (by simp) (by simp [cC]; omega);clear l1;unfold nC at hj h1;have w1:IntKind.i64.wrap 1=1:=rfl;have w2:IntKind.i64.wrap 2=2:=rfl;have k1:=hk 1 (by decide) (by decide);have k2:=hk 2 (by decide) (by decide);have k3:=hk 3 (by decide) (by decide);have k4:=hk 4 (by decide) (by decide);have k5:=hk 5 (by decide) (by decide);have k6:=hk 6 (by decide) (by decide);have k7:=hk 7 (by decide) (by decide);have k8:=hk 8 (by decide) (by decide);have k9:=hk 9 (by decide) (by decide);clear hk;refine mA wA rfl rfl ?_;simp [wA,-U,-y4,-J,y3,iB,KB,XB,QB,lA,bA,AV.plain,AV.scal,TB,tB,dB,w1,w2,k1,k2,k3,k4,k5,k6,k7,k8,k9,hj,h1]
end
theorem WC {a b:ByteArray} (h:a.data.toList=b.data.toList):a=b:=ByteArray.ext (Array.ext' h)
theorem rA (l:Array UInt8):(ByteArray.mk l).size=l.size:=rfl
section
variable (e:TE) (hr:RI e)
include e hr
theorem rfmt1 (hk:e.kind=1) (hc:e.mem.crit=false) (hd:e.mem.has=false):nC 26 [.agg (TB e)] (.str ⟨(cC [32] [[97,100,100],(dA e.ty).data.toList,(dA e.mem.id).data.toList,e.mem.name.data.toList,(dA e.mem.ty).data.toList]).toArray⟩):=by
 have h1:=gA hr.ty;have l1:=iA hr.ty;have h2:=gA hr.mi;have l2:=iA hr.mi;have l3:=hr.mn;have h4:=gA hr.mt;have l4:=iA hr.mt;have c1:((⟨#[97,100,100]⟩:ByteArray)++⟨#[32]⟩).size + ((dA e.ty):ByteArray).size<=9223372036854775807:=by simp [rA]; omega
 have c2:((⟨#[97,100,100]⟩:ByteArray)++⟨#[32]⟩++(dA e.ty)).size + (⟨#[32]⟩:ByteArray).size<=9223372036854775807:=by simp [rA]; omega
 have c3:((⟨#[97,100,100]⟩:ByteArray)++⟨#[32]⟩++(dA e.ty)++⟨#[32]⟩).size + ((dA e.mem.id):ByteArray).size<=9223372036854775807:=by simp [rA]; omega
 have c4:((⟨#[97,100,100]⟩:ByteArray)++⟨#[32]⟩++(dA e.ty)++⟨#[32]⟩++(dA e.mem.id)).size + (⟨#[32]⟩:ByteArray).size<=9223372036854775807:=by simp [rA]; omega
 have c5:((⟨#[97,100,100]⟩:ByteArray)++⟨#[32]⟩++(dA e.ty)++⟨#[32]⟩++(dA e.mem.id)++⟨#[32]⟩).size + (e.mem.name:ByteArray).size<=9223372036854775807:=by simp [rA]; omega
 have c6:((⟨#[97,100,100]⟩:ByteArray)++⟨#[32]⟩++(dA e.ty)++⟨#[32]⟩++(dA e.mem.id)++⟨#[32]⟩++e.mem.name).size + (⟨#[32]⟩:ByteArray).size<=9223372036854775807:=by simp [rA]; omega
 have c7:((⟨#[97,100,100]⟩:ByteArray)++⟨#[32]⟩++(dA e.ty)++⟨#[32]⟩++(dA e.mem.id)++⟨#[32]⟩++e.mem.name++⟨#[32]⟩).size + ((dA e.mem.ty):ByteArray).size<=9223372036854775807:=by simp [rA]; omega
 clear l1 l2 l3 l4;simp [rA] at c1;simp [rA] at c2;simp [rA] at c3;simp [rA] at c4;simp [rA] at c5;simp [rA] at c6;simp [rA] at c7;unfold nC at h1 h2 h4;refine mA eA rfl rfl ?_;simp [eA,-U,-y4,-J,y3,rA,lA,bA,AV.plain,AV.scal,TB,tB,dB,hk,hc,hd,h1,h2,h4,c1,c2,c3,c4,c5,c6,c7]
 all_goals (apply WC; simp [cC])
theorem T9 (hk:e.kind=1) (hc:e.mem.crit=false) (hd:e.mem.has=true):nC 26 [.agg (TB e)] (.str ⟨(cC [32] [[97,100,100],(dA e.ty).data.toList,(dA e.mem.id).data.toList,e.mem.name.data.toList,(dA e.mem.ty).data.toList,[100,101,102,97,117,108,116]]).toArray⟩):=by
 have h1:=gA hr.ty;have l1:=iA hr.ty;have h2:=gA hr.mi;have l2:=iA hr.mi;have l3:=hr.mn;have h4:=gA hr.mt;have l4:=iA hr.mt;have c1:((⟨#[97,100,100]⟩:ByteArray)++⟨#[32]⟩).size + ((dA e.ty):ByteArray).size<=9223372036854775807:=by simp [rA]; omega
 have c2:((⟨#[97,100,100]⟩:ByteArray)++⟨#[32]⟩++(dA e.ty)).size + (⟨#[32]⟩:ByteArray).size<=9223372036854775807:=by simp [rA]; omega
 have c3:((⟨#[97,100,100]⟩:ByteArray)++⟨#[32]⟩++(dA e.ty)++⟨#[32]⟩).size + ((dA e.mem.id):ByteArray).size<=9223372036854775807:=by simp [rA]; omega
 have c4:((⟨#[97,100,100]⟩:ByteArray)++⟨#[32]⟩++(dA e.ty)++⟨#[32]⟩++(dA e.mem.id)).size + (⟨#[32]⟩:ByteArray).size<=9223372036854775807:=by simp [rA]; omega
 have c5:((⟨#[97,100,100]⟩:ByteArray)++⟨#[32]⟩++(dA e.ty)++⟨#[32]⟩++(dA e.mem.id)++⟨#[32]⟩).size + (e.mem.name:ByteArray).size<=9223372036854775807:=by simp [rA]; omega
 have c6:((⟨#[97,100,100]⟩:ByteArray)++⟨#[32]⟩++(dA e.ty)++⟨#[32]⟩++(dA e.mem.id)++⟨#[32]⟩++e.mem.name).size + (⟨#[32]⟩:ByteArray).size<=9223372036854775807:=by simp [rA]; omega
 have c7:((⟨#[97,100,100]⟩:ByteArray)++⟨#[32]⟩++(dA e.ty)++⟨#[32]⟩++(dA e.mem.id)++⟨#[32]⟩++e.mem.name++⟨#[32]⟩).size + ((dA e.mem.ty):ByteArray).size<=9223372036854775807:=by simp [rA]; omega
 have c8:((⟨#[97,100,100]⟩:ByteArray)++⟨#[32]⟩++(dA e.ty)++⟨#[32]⟩++(dA e.mem.id)++⟨#[32]⟩++e.mem.name++⟨#[32]⟩++(dA e.mem.ty)).size + (⟨#[32,100,101,102,97,117,108,116]⟩:ByteArray).size<=9223372036854775807:=by simp [rA]; omega
 clear l1 l2 l3 l4;simp [rA] at c1;simp [rA] at c2;simp [rA] at c3;simp [rA] at c4;simp [rA] at c5;simp [rA] at c6;simp [rA] at c7;simp [rA] at c8;unfold nC at h1 h2 h4;refine mA eA rfl rfl ?_;simp [eA,-U,-y4,-J,y3,rA,lA,bA,AV.plain,AV.scal,TB,tB,dB,hk,hc,hd,h1,h2,h4,c1,c2,c3,c4,c5,c6,c7,c8]
 all_goals (apply WC; simp [cC])
theorem R9 (hk:e.kind=1) (hc:e.mem.crit=true) (hd:e.mem.has=false):nC 26 [.agg (TB e)] (.str ⟨(cC [32] [[97,100,100],(dA e.ty).data.toList,(dA e.mem.id).data.toList,e.mem.name.data.toList,(dA e.mem.ty).data.toList,[99,114,105,116,105,99,97,108]]).toArray⟩):=by
 have h1:=gA hr.ty;have l1:=iA hr.ty;have h2:=gA hr.mi;have l2:=iA hr.mi;have l3:=hr.mn;have h4:=gA hr.mt;have l4:=iA hr.mt;have c1:((⟨#[97,100,100]⟩:ByteArray)++⟨#[32]⟩).size + ((dA e.ty):ByteArray).size<=9223372036854775807:=by simp [rA]; omega
 have c2:((⟨#[97,100,100]⟩:ByteArray)++⟨#[32]⟩++(dA e.ty)).size + (⟨#[32]⟩:ByteArray).size<=9223372036854775807:=by simp [rA]; omega
 have c3:((⟨#[97,100,100]⟩:ByteArray)++⟨#[32]⟩++(dA e.ty)++⟨#[32]⟩).size + ((dA e.mem.id):ByteArray).size<=9223372036854775807:=by simp [rA]; omega
 have c4:((⟨#[97,100,100]⟩:ByteArray)++⟨#[32]⟩++(dA e.ty)++⟨#[32]⟩++(dA e.mem.id)).size + (⟨#[32]⟩:ByteArray).size<=9223372036854775807:=by simp [rA]; omega
 have c5:((⟨#[97,100,100]⟩:ByteArray)++⟨#[32]⟩++(dA e.ty)++⟨#[32]⟩++(dA e.mem.id)++⟨#[32]⟩).size + (e.mem.name:ByteArray).size<=9223372036854775807:=by simp [rA]; omega
 have c6:((⟨#[97,100,100]⟩:ByteArray)++⟨#[32]⟩++(dA e.ty)++⟨#[32]⟩++(dA e.mem.id)++⟨#[32]⟩++e.mem.name).size + (⟨#[32]⟩:ByteArray).size<=9223372036854775807:=by simp [rA]; omega
 have c7:((⟨#[97,100,100]⟩:ByteArray)++⟨#[32]⟩++(dA e.ty)++⟨#[32]⟩++(dA e.mem.id)++⟨#[32]⟩++e.mem.name++⟨#[32]⟩).size + ((dA e.mem.ty):ByteArray).size<=9223372036854775807:=by simp [rA]; omega
 have c8:((⟨#[97,100,100]⟩:ByteArray)++⟨#[32]⟩++(dA e.ty)++⟨#[32]⟩++(dA e.mem.id)++⟨#[32]⟩++e.mem.name++⟨#[32]⟩++(dA e.mem.ty)).size + (⟨#[32,99,114,105,116,105,99,97,108]⟩:ByteArray).size<=9223372036854775807:=by simp [rA]; omega
 clear l1 l2 l3 l4;simp [rA] at c1;simp [rA] at c2;simp [rA] at c3;simp [rA] at c4;simp [rA] at c5;simp [rA] at c6;simp [rA] at c7;simp [rA] at c8;unfold nC at h1 h2 h4;refine mA eA rfl rfl ?_;simp [eA,-U,-y4,-J,y3,rA,lA,bA,AV.plain,AV.scal,TB,tB,dB,hk,hc,hd,h1,h2,h4,c1,c2,c3,c4,c5,c6,c7,c8]
 all_goals (apply WC; simp [cC])
theorem T6 (hk:e.kind=1) (hc:e.mem.crit=true) (hd:e.mem.has=true):nC 26 [.agg (TB e)] (.str ⟨(cC [32] [[97,100,100],(dA e.ty).data.toList,(dA e.mem.id).data.toList,e.mem.name.data.toList,(dA e.mem.ty).data.toList,[99,114,105,116,105,99,97,108],[100,101,102,97,117,108,116]]).toArray⟩):=by
 have h1:=gA hr.ty;have l1:=iA hr.ty;have h2:=gA hr.mi;have l2:=iA hr.mi;have l3:=hr.mn;have h4:=gA hr.mt;have l4:=iA hr.mt;have c1:((⟨#[97,100,100]⟩:ByteArray)++⟨#[32]⟩).size + ((dA e.ty):ByteArray).size<=9223372036854775807:=by simp [rA]; omega
 have c2:((⟨#[97,100,100]⟩:ByteArray)++⟨#[32]⟩++(dA e.ty)).size + (⟨#[32]⟩:ByteArray).size<=9223372036854775807:=by simp [rA]; omega
 have c3:((⟨#[97,100,100]⟩:ByteArray)++⟨#[32]⟩++(dA e.ty)++⟨#[32]⟩).size + ((dA e.mem.id):ByteArray).size<=9223372036854775807:=by simp [rA]; omega
 have c4:((⟨#[97,100,100]⟩:ByteArray)++⟨#[32]⟩++(dA e.ty)++⟨#[32]⟩++(dA e.mem.id)).size + (⟨#[32]⟩:ByteArray).size<=9223372036854775807:=by simp [rA]; omega
 have c5:((⟨#[97,100,100]⟩:ByteArray)++⟨#[32]⟩++(dA e.ty)++⟨#[32]⟩++(dA e.mem.id)++⟨#[32]⟩).size + (e.mem.name:ByteArray).size<=9223372036854775807:=by simp [rA]; omega
 have c6:((⟨#[97,100,100]⟩:ByteArray)++⟨#[32]⟩++(dA e.ty)++⟨#[32]⟩++(dA e.mem.id)++⟨#[32]⟩++e.mem.name).size + (⟨#[32]⟩:ByteArray).size<=9223372036854775807:=by simp [rA]; omega
 have c7:((⟨#[97,100,100]⟩:ByteArray)++⟨#[32]⟩++(dA e.ty)++⟨#[32]⟩++(dA e.mem.id)++⟨#[32]⟩++e.mem.name++⟨#[32]⟩).size + ((dA e.mem.ty):ByteArray).size<=9223372036854775807:=by simp [rA]; omega
 have c8:((⟨#[97,100,100]⟩:ByteArray)++⟨#[32]⟩++(dA e.ty)++⟨#[32]⟩++(dA e.mem.id)++⟨#[32]⟩++e.mem.name++⟨#[32]⟩++(dA e.mem.ty)).size + (⟨#[32,99,114,105,116,105,99,97,108]⟩:ByteArray).size<=9223372036854775807:=by simp [rA]; omega
 have c9:((⟨#[97,100,100]⟩:ByteArray)++⟨#[32]⟩++(dA e.ty)++⟨#[32]⟩++(dA e.mem.id)++⟨#[32]⟩++e.mem.name++⟨#[32]⟩++(dA e.mem.ty)++⟨#[32,99,114,105,116,105,99,97,108]⟩).size + (⟨#[32,100,101,102,97,117,108,116]⟩:ByteArray).size<=9223372036854775807:=by simp [rA]; omega
 clear l1 l2 l3 l4;simp [rA] at c1;simp [rA] at c2;simp [rA] at c3;simp [rA] at c4;simp [rA] at c5;simp [rA] at c6;simp [rA] at c7;simp [rA] at c8;simp [rA] at c9;unfold nC at h1 h2 h4;refine mA eA rfl rfl ?_;simp [eA,-U,-y4,-J,y3,rA,lA,bA,AV.plain,AV.scal,TB,tB,dB,hk,hc,hd,h1,h2,h4,c1,c2,c3,c4,c5,c6,c7,c8,c9]
 all_goals (apply WC; simp [cC])
theorem rfmt3 (hk:e.kind=3) (hc:e.mem.crit=false) (hd:e.mem.has=false):nC 26 [.agg (TB e)] (.str ⟨(cC [32] [[109,101,109,98,101,114],(dA e.ty).data.toList,(dA e.mem.id).data.toList,e.mem.name.data.toList,(dA e.mem.ty).data.toList]).toArray⟩):=by
 have h1:=gA hr.ty;have l1:=iA hr.ty;have h2:=gA hr.mi;have l2:=iA hr.mi;have l3:=hr.mn;have h4:=gA hr.mt;have l4:=iA hr.mt;have c1:((⟨#[109,101,109,98,101,114]⟩:ByteArray)++⟨#[32]⟩).size + ((dA e.ty):ByteArray).size<=9223372036854775807:=by simp [rA]; omega
 have c2:((⟨#[109,101,109,98,101,114]⟩:ByteArray)++⟨#[32]⟩++(dA e.ty)).size + (⟨#[32]⟩:ByteArray).size<=9223372036854775807:=by simp [rA]; omega
 have c3:((⟨#[109,101,109,98,101,114]⟩:ByteArray)++⟨#[32]⟩++(dA e.ty)++⟨#[32]⟩).size + ((dA e.mem.id):ByteArray).size<=9223372036854775807:=by simp [rA]; omega
 have c4:((⟨#[109,101,109,98,101,114]⟩:ByteArray)++⟨#[32]⟩++(dA e.ty)++⟨#[32]⟩++(dA e.mem.id)).size + (⟨#[32]⟩:ByteArray).size<=9223372036854775807:=by simp [rA]; omega
 have c5:((⟨#[109,101,109,98,101,114]⟩:ByteArray)++⟨#[32]⟩++(dA e.ty)++⟨#[32]⟩++(dA e.mem.id)++⟨#[32]⟩).size + (e.mem.name:ByteArray).size<=9223372036854775807:=by simp [rA]; omega
 have c6:((⟨#[109,101,109,98,101,114]⟩:ByteArray)++⟨#[32]⟩++(dA e.ty)++⟨#[32]⟩++(dA e.mem.id)++⟨#[32]⟩++e.mem.name).size + (⟨#[32]⟩:ByteArray).size<=9223372036854775807:=by simp [rA]; omega
 have c7:((⟨#[109,101,109,98,101,114]⟩:ByteArray)++⟨#[32]⟩++(dA e.ty)++⟨#[32]⟩++(dA e.mem.id)++⟨#[32]⟩++e.mem.name++⟨#[32]⟩).size + ((dA e.mem.ty):ByteArray).size<=9223372036854775807:=by simp [rA]; omega
 clear l1 l2 l3 l4;simp [rA] at c1;simp [rA] at c2;simp [rA] at c3;simp [rA] at c4;simp [rA] at c5;simp [rA] at c6;simp [rA] at c7;unfold nC at h1 h2 h4;refine mA eA rfl rfl ?_;simp [eA,-U,-y4,-J,y3,rA,lA,bA,AV.plain,AV.scal,TB,tB,dB,hk,hc,hd,h1,h2,h4,c1,c2,c3,c4,c5,c6,c7]
 all_goals (apply WC; simp [cC])
theorem I9 (hk:e.kind=3) (hc:e.mem.crit=false) (hd:e.mem.has=true):nC 26 [.agg (TB e)] (.str ⟨(cC [32] [[109,101,109,98,101,114],(dA e.ty).data.toList,(dA e.mem.id).data.toList,e.mem.name.data.toList,(dA e.mem.ty).data.toList,[100,101,102,97,117,108,116]]).toArray⟩):=by
 have h1:=gA hr.ty;have l1:=iA hr.ty;have h2:=gA hr.mi;have l2:=iA hr.mi;have l3:=hr.mn;have h4:=gA hr.mt;have l4:=iA hr.mt;have c1:((⟨#[109,101,109,98,101,114]⟩:ByteArray)++⟨#[32]⟩).size + ((dA e.ty):ByteArray).size<=9223372036854775807:=by simp [rA]; omega
 have c2:((⟨#[109,101,109,98,101,114]⟩:ByteArray)++⟨#[32]⟩++(dA e.ty)).size + (⟨#[32]⟩:ByteArray).size<=9223372036854775807:=by simp [rA]; omega
 have c3:((⟨#[109,101,109,98,101,114]⟩:ByteArray)++⟨#[32]⟩++(dA e.ty)++⟨#[32]⟩).size + ((dA e.mem.id):ByteArray).size<=9223372036854775807:=by simp [rA]; omega
 have c4:((⟨#[109,101,109,98,101,114]⟩:ByteArray)++⟨#[32]⟩++(dA e.ty)++⟨#[32]⟩++(dA e.mem.id)).size + (⟨#[32]⟩:ByteArray).size<=9223372036854775807:=by simp [rA]; omega
 have c5:((⟨#[109,101,109,98,101,114]⟩:ByteArray)++⟨#[32]⟩++(dA e.ty)++⟨#[32]⟩++(dA e.mem.id)++⟨#[32]⟩).size + (e.mem.name:ByteArray).size<=9223372036854775807:=by simp [rA]; omega
 have c6:((⟨#[109,101,109,98,101,114]⟩:ByteArray)++⟨#[32]⟩++(dA e.ty)++⟨#[32]⟩++(dA e.mem.id)++⟨#[32]⟩++e.mem.name).size + (⟨#[32]⟩:ByteArray).size<=9223372036854775807:=by simp [rA]; omega
 have c7:((⟨#[109,101,109,98,101,114]⟩:ByteArray)++⟨#[32]⟩++(dA e.ty)++⟨#[32]⟩++(dA e.mem.id)++⟨#[32]⟩++e.mem.name++⟨#[32]⟩).size + ((dA e.mem.ty):ByteArray).size<=9223372036854775807:=by simp [rA]; omega
 have c8:((⟨#[109,101,109,98,101,114]⟩:ByteArray)++⟨#[32]⟩++(dA e.ty)++⟨#[32]⟩++(dA e.mem.id)++⟨#[32]⟩++e.mem.name++⟨#[32]⟩++(dA e.mem.ty)).size + (⟨#[32,100,101,102,97,117,108,116]⟩:ByteArray).size<=9223372036854775807:=by simp [rA]; omega
 clear l1 l2 l3 l4;simp [rA] at c1;simp [rA] at c2;simp [rA] at c3;simp [rA] at c4;simp [rA] at c5;simp [rA] at c6;simp [rA] at c7;simp [rA] at c8;unfold nC at h1 h2 h4;refine mA eA rfl rfl ?_;simp [eA,-U,-y4,-J,y3,rA,lA,bA,AV.plain,AV.scal,TB,tB,dB,hk,hc,hd,h1,h2,h4,c1,c2,c3,c4,c5,c6,c7,c8]
 all_goals (apply WC; simp [cC])
theorem U9 (hk:e.kind=3) (hc:e.mem.crit=true) (hd:e.mem.has=false):nC 26 [.agg (TB e)] (.str ⟨(cC [32] [[109,101,109,98,101,114],(dA e.ty).data.toList,(dA e.mem.id).data.toList,e.mem.name.data.toList,(dA e.mem.ty).data.toList,[99,114,105,116,105,99,97,108]]).toArray⟩):=by
 have h1:=gA hr.ty;have l1:=iA hr.ty;have h2:=gA hr.mi;have l2:=iA hr.mi;have l3:=hr.mn;have h4:=gA hr.mt;have l4:=iA hr.mt;have c1:((⟨#[109,101,109,98,101,114]⟩:ByteArray)++⟨#[32]⟩).size + ((dA e.ty):ByteArray).size<=9223372036854775807:=by simp [rA]; omega
 have c2:((⟨#[109,101,109,98,101,114]⟩:ByteArray)++⟨#[32]⟩++(dA e.ty)).size + (⟨#[32]⟩:ByteArray).size<=9223372036854775807:=by simp [rA]; omega
 have c3:((⟨#[109,101,109,98,101,114]⟩:ByteArray)++⟨#[32]⟩++(dA e.ty)++⟨#[32]⟩).size + ((dA e.mem.id):ByteArray).size<=9223372036854775807:=by simp [rA]; omega
 have c4:((⟨#[109,101,109,98,101,114]⟩:ByteArray)++⟨#[32]⟩++(dA e.ty)++⟨#[32]⟩++(dA e.mem.id)).size + (⟨#[32]⟩:ByteArray).size<=9223372036854775807:=by simp [rA]; omega
 have c5:((⟨#[109,101,109,98,101,114]⟩:ByteArray)++⟨#[32]⟩++(dA e.ty)++⟨#[32]⟩++(dA e.mem.id)++⟨#[32]⟩).size + (e.mem.name:ByteArray).size<=9223372036854775807:=by simp [rA]; omega
 have c6:((⟨#[109,101,109,98,101,114]⟩:ByteArray)++⟨#[32]⟩++(dA e.ty)++⟨#[32]⟩++(dA e.mem.id)++⟨#[32]⟩++e.mem.name).size + (⟨#[32]⟩:ByteArray).size<=9223372036854775807:=by simp [rA]; omega
 have c7:((⟨#[109,101,109,98,101,114]⟩:ByteArray)++⟨#[32]⟩++(dA e.ty)++⟨#[32]⟩++(dA e.mem.id)++⟨#[32]⟩++e.mem.name++⟨#[32]⟩).size + ((dA e.mem.ty):ByteArray).size<=9223372036854775807:=by simp [rA]; omega
 have c8:((⟨#[109,101,109,98,101,114]⟩:ByteArray)++⟨#[32]⟩++(dA e.ty)++⟨#[32]⟩++(dA e.mem.id)++⟨#[32]⟩++e.mem.name++⟨#[32]⟩++(dA e.mem.ty)).size + (⟨#[32,99,114,105,116,105,99,97,108]⟩:ByteArray).size<=9223372036854775807:=by simp [rA]; omega
 clear l1 l2 l3 l4;simp [rA] at c1;simp [rA] at c2;simp [rA] at c3;simp [rA] at c4;simp [rA] at c5;simp [rA] at c6;simp [rA] at c7;simp [rA] at c8;unfold nC at h1 h2 h4;refine mA eA rfl rfl ?_;simp [eA,-U,-y4,-J,y3,rA,lA,bA,AV.plain,AV.scal,TB,tB,dB,hk,hc,hd,h1,h2,h4,c1,c2,c3,c4,c5,c6,c7,c8]
 all_goals (apply WC; simp [cC])
theorem U6 (hk:e.kind=3) (hc:e.mem.crit=true) (hd:e.mem.has=true):nC 26 [.agg (TB e)] (.str ⟨(cC [32] [[109,101,109,98,101,114],(dA e.ty).data.toList,(dA e.mem.id).data.toList,e.mem.name.data.toList,(dA e.mem.ty).data.toList,[99,114,105,116,105,99,97,108],[100,101,102,97,117,108,116]]).toArray⟩):=by
 have h1:=gA hr.ty;have l1:=iA hr.ty;have h2:=gA hr.mi;have l2:=iA hr.mi;have l3:=hr.mn;have h4:=gA hr.mt;have l4:=iA hr.mt;have c1:((⟨#[109,101,109,98,101,114]⟩:ByteArray)++⟨#[32]⟩).size + ((dA e.ty):ByteArray).size<=9223372036854775807:=by simp [rA]; omega
 have c2:((⟨#[109,101,109,98,101,114]⟩:ByteArray)++⟨#[32]⟩++(dA e.ty)).size + (⟨#[32]⟩:ByteArray).size<=9223372036854775807:=by simp [rA]; omega
 have c3:((⟨#[109,101,109,98,101,114]⟩:ByteArray)++⟨#[32]⟩++(dA e.ty)++⟨#[32]⟩).size + ((dA e.mem.id):ByteArray).size<=9223372036854775807:=by simp [rA]; omega
 have c4:((⟨#[109,101,109,98,101,114]⟩:ByteArray)++⟨#[32]⟩++(dA e.ty)++⟨#[32]⟩++(dA e.mem.id)).size + (⟨#[32]⟩:ByteArray).size<=9223372036854775807:=by simp [rA]; omega
 have c5:((⟨#[109,101,109,98,101,114]⟩:ByteArray)++⟨#[32]⟩++(dA e.ty)++⟨#[32]⟩++(dA e.mem.id)++⟨#[32]⟩).size + (e.mem.name:ByteArray).size<=9223372036854775807:=by simp [rA]; omega
 have c6:((⟨#[109,101,109,98,101,114]⟩:ByteArray)++⟨#[32]⟩++(dA e.ty)++⟨#[32]⟩++(dA e.mem.id)++⟨#[32]⟩++e.mem.name).size + (⟨#[32]⟩:ByteArray).size<=9223372036854775807:=by simp [rA]; omega
 have c7:((⟨#[109,101,109,98,101,114]⟩:ByteArray)++⟨#[32]⟩++(dA e.ty)++⟨#[32]⟩++(dA e.mem.id)++⟨#[32]⟩++e.mem.name++⟨#[32]⟩).size + ((dA e.mem.ty):ByteArray).size<=9223372036854775807:=by simp [rA]; omega
 have c8:((⟨#[109,101,109,98,101,114]⟩:ByteArray)++⟨#[32]⟩++(dA e.ty)++⟨#[32]⟩++(dA e.mem.id)++⟨#[32]⟩++e.mem.name++⟨#[32]⟩++(dA e.mem.ty)).size + (⟨#[32,99,114,105,116,105,99,97,108]⟩:ByteArray).size<=9223372036854775807:=by simp [rA]; omega
 have c9:((⟨#[109,101,109,98,101,114]⟩:ByteArray)++⟨#[32]⟩++(dA e.ty)++⟨#[32]⟩++(dA e.mem.id)++⟨#[32]⟩++e.mem.name++⟨#[32]⟩++(dA e.mem.ty)++⟨#[32,99,114,105,116,105,99,97,108]⟩).size + (⟨#[32,100,101,102,97,117,108,116]⟩:ByteArray).size<=9223372036854775807:=by simp [rA]; omega
 clear l1 l2 l3 l4;simp [rA] at c1;simp [rA] at c2;simp [rA] at c3;simp [rA] at c4;simp [rA] at c5;simp [rA] at c6;simp [rA] at c7;simp [rA] at c8;simp [rA] at c9;unfold nC at h1 h2 h4;refine mA eA rfl rfl ?_;simp [eA,-U,-y4,-J,y3,rA,lA,bA,AV.plain,AV.scal,TB,tB,dB,hk,hc,hd,h1,h2,h4,c1,c2,c3,c4,c5,c6,c7,c8,c9]
 all_goals (apply WC; simp [cC])
theorem rfmt2 (hk:e.kind=2):nC 26 [.agg (TB e)] (.str ⟨(cC [32] [[114,101,109,111,118,101],(dA e.ty).data.toList,(dA e.id).data.toList]).toArray⟩):=by
 have h1:=gA hr.ty;have l1:=iA hr.ty;have h2:=gA hr.id;have l2:=iA hr.id;have c1:((⟨#[114,101,109,111,118,101]⟩:ByteArray)++⟨#[32]⟩).size + ((dA e.ty):ByteArray).size<=9223372036854775807:=by simp [rA]; omega
 have c2:((⟨#[114,101,109,111,118,101]⟩:ByteArray)++⟨#[32]⟩++(dA e.ty)).size + (⟨#[32]⟩:ByteArray).size<=9223372036854775807:=by simp [rA]; omega
 have c3:((⟨#[114,101,109,111,118,101]⟩:ByteArray)++⟨#[32]⟩++(dA e.ty)++⟨#[32]⟩).size + ((dA e.id):ByteArray).size<=9223372036854775807:=by simp [rA]; omega
 clear l1 l2;simp [rA] at c1;simp [rA] at c2;simp [rA] at c3;unfold nC at h1 h2;refine mA eA rfl rfl ?_;simp [eA,-U,-y4,-J,y3,rA,lA,bA,AV.plain,AV.scal,TB,tB,dB,hk,h1,h2,c1,c2,c3]
 all_goals (apply WC; simp [cC])
theorem rfmt5 (hk:e.kind=5):nC 26 [.agg (TB e)] (.str ⟨(cC [32] [[100,114,111,112],(dA e.ty).data.toList,(dA e.id).data.toList]).toArray⟩):=by
 have h1:=gA hr.ty;have l1:=iA hr.ty;have h2:=gA hr.id;have l2:=iA hr.id;have c1:((⟨#[100,114,111,112]⟩:ByteArray)++⟨#[32]⟩).size + ((dA e.ty):ByteArray).size<=9223372036854775807:=by simp [rA]; omega
 have c2:((⟨#[100,114,111,112]⟩:ByteArray)++⟨#[32]⟩++(dA e.ty)).size + (⟨#[32]⟩:ByteArray).size<=9223372036854775807:=by simp [rA]; omega
 have c3:((⟨#[100,114,111,112]⟩:ByteArray)++⟨#[32]⟩++(dA e.ty)++⟨#[32]⟩).size + ((dA e.id):ByteArray).size<=9223372036854775807:=by simp [rA]; omega
 clear l1 l2;simp [rA] at c1;simp [rA] at c2;simp [rA] at c3;unfold nC at h1 h2;refine mA eA rfl rfl ?_;simp [eA,-U,-y4,-J,y3,rA,lA,bA,AV.plain,AV.scal,TB,tB,dB,hk,h1,h2,c1,c2,c3]
 all_goals (apply WC; simp [cC])
theorem rfmt4 (hk:e.kind=4):nC 26 [.agg (TB e)] (.str ⟨(cC [32] [[115,121,109,98,111,108],(dA e.ty).data.toList,(dA e.sym.id).data.toList,e.sym.name.data.toList]).toArray⟩):=by
 have h1:=gA hr.ty;have l1:=iA hr.ty;have h2:=gA hr.si;have l2:=iA hr.si;have l3:=hr.sn;have c1:((⟨#[115,121,109,98,111,108]⟩:ByteArray)++⟨#[32]⟩).size + ((dA e.ty):ByteArray).size<=9223372036854775807:=by simp [rA]; omega
 have c2:((⟨#[115,121,109,98,111,108]⟩:ByteArray)++⟨#[32]⟩++(dA e.ty)).size + (⟨#[32]⟩:ByteArray).size<=9223372036854775807:=by simp [rA]; omega
 have c3:((⟨#[115,121,109,98,111,108]⟩:ByteArray)++⟨#[32]⟩++(dA e.ty)++⟨#[32]⟩).size + ((dA e.sym.id):ByteArray).size<=9223372036854775807:=by simp [rA]; omega
 have c4:((⟨#[115,121,109,98,111,108]⟩:ByteArray)++⟨#[32]⟩++(dA e.ty)++⟨#[32]⟩++(dA e.sym.id)).size + (⟨#[32]⟩:ByteArray).size<=9223372036854775807:=by simp [rA]; omega
 have c5:((⟨#[115,121,109,98,111,108]⟩:ByteArray)++⟨#[32]⟩++(dA e.ty)++⟨#[32]⟩++(dA e.sym.id)++⟨#[32]⟩).size + (e.sym.name:ByteArray).size<=9223372036854775807:=by simp [rA]; omega
 clear l1 l2 l3;simp [rA] at c1;simp [rA] at c2;simp [rA] at c3;simp [rA] at c4;simp [rA] at c5;unfold nC at h1 h2;refine mA eA rfl rfl ?_;simp [eA,-U,-y4,-J,y3,rA,lA,bA,AV.plain,AV.scal,TB,tB,dB,hk,h1,h2,c1,c2,c3,c4,c5]
 all_goals (apply WC; simp [cC])
theorem rfmt6 (hk:e.kind=6):nC 26 [.agg (TB e)] (.str ⟨(cC [32] [[110,97,109,101],(dA e.ty).data.toList,e.name.data.toList]).toArray⟩):=by
 have h1:=gA hr.ty;have l1:=iA hr.ty;have l2:=hr.nm;have c1:((⟨#[110,97,109,101]⟩:ByteArray)++⟨#[32]⟩).size + ((dA e.ty):ByteArray).size<=9223372036854775807:=by simp [rA]; omega
 have c2:((⟨#[110,97,109,101]⟩:ByteArray)++⟨#[32]⟩++(dA e.ty)).size + (⟨#[32]⟩:ByteArray).size<=9223372036854775807:=by simp [rA]; omega
 have c3:((⟨#[110,97,109,101]⟩:ByteArray)++⟨#[32]⟩++(dA e.ty)++⟨#[32]⟩).size + (e.name:ByteArray).size<=9223372036854775807:=by simp [rA]; omega
 clear l1 l2;simp [rA] at c1;simp [rA] at c2;simp [rA] at c3;unfold nC at h1;refine mA eA rfl rfl ?_;simp [eA,-U,-y4,-J,y3,rA,lA,bA,AV.plain,AV.scal,TB,tB,dB,hk,h1,c1,c2,c3]
 all_goals (apply WC; simp [cC])
theorem rfmt7 (hk:e.kind=7):nC 26 [.agg (TB e)] (.str ⟨(cC [32] [[98,111,117,110,100,115],(dA e.ty).data.toList,(dA e.low).data.toList,(dA e.high).data.toList,(dA e.max).data.toList]).toArray⟩):=by
 have h1:=gA hr.ty;have l1:=iA hr.ty;have h2:=iG hr.lo;have l2:=iA hr.lo;have h3:=iG hr.hi;have l3:=iA hr.hi;have h4:=gA hr.mx;have l4:=iA hr.mx;have c1:((⟨#[98,111,117,110,100,115]⟩:ByteArray)++⟨#[32]⟩).size + ((dA e.ty):ByteArray).size<=9223372036854775807:=by simp [rA]; omega
 have c2:((⟨#[98,111,117,110,100,115]⟩:ByteArray)++⟨#[32]⟩++(dA e.ty)).size + (⟨#[32]⟩:ByteArray).size<=9223372036854775807:=by simp [rA]; omega
 have c3:((⟨#[98,111,117,110,100,115]⟩:ByteArray)++⟨#[32]⟩++(dA e.ty)++⟨#[32]⟩).size + ((dA e.low):ByteArray).size<=9223372036854775807:=by simp [rA]; omega
 have c4:((⟨#[98,111,117,110,100,115]⟩:ByteArray)++⟨#[32]⟩++(dA e.ty)++⟨#[32]⟩++(dA e.low)).size + (⟨#[32]⟩:ByteArray).size<=9223372036854775807:=by simp [rA]; omega
 have c5:((⟨#[98,111,117,110,100,115]⟩:ByteArray)++⟨#[32]⟩++(dA e.ty)++⟨#[32]⟩++(dA e.low)++⟨#[32]⟩).size + ((dA e.high):ByteArray).size<=9223372036854775807:=by simp [rA]; omega
 have c6:((⟨#[98,111,117,110,100,115]⟩:ByteArray)++⟨#[32]⟩++(dA e.ty)++⟨#[32]⟩++(dA e.low)++⟨#[32]⟩++(dA e.high)).size + (⟨#[32]⟩:ByteArray).size<=9223372036854775807:=by simp [rA]; omega
 have c7:((⟨#[98,111,117,110,100,115]⟩:ByteArray)++⟨#[32]⟩++(dA e.ty)++⟨#[32]⟩++(dA e.low)++⟨#[32]⟩++(dA e.high)++⟨#[32]⟩).size + ((dA e.max):ByteArray).size<=9223372036854775807:=by simp [rA]; omega
 clear l1 l2 l3 l4;simp [rA] at c1;simp [rA] at c2;simp [rA] at c3;simp [rA] at c4;simp [rA] at c5;simp [rA] at c6;simp [rA] at c7;unfold nC at h1 h2 h3 h4;refine mA eA rfl rfl ?_;simp [eA,-U,-y4,-J,y3,rA,lA,bA,AV.plain,AV.scal,TB,tB,dB,hk,h1,h2,h3,h4,c1,c2,c3,c4,c5,c6,c7]
 all_goals (apply WC; simp [cC])
theorem rfmt8 (hk:e.kind=8):nC 26 [.agg (TB e)] (.str ⟨(cC [32] [[111,112,101,110],(dA e.ty).data.toList,(M4 e.opn).data.toList]).toArray⟩):=by
 have h1:=gA hr.ty;have l1:=iA hr.ty;have h2:=gL e.opn;have l2:=SV e.opn;have c1:((⟨#[111,112,101,110]⟩:ByteArray)++⟨#[32]⟩).size + ((dA e.ty):ByteArray).size<=9223372036854775807:=by simp [rA]; omega
 have c2:((⟨#[111,112,101,110]⟩:ByteArray)++⟨#[32]⟩++(dA e.ty)).size + (⟨#[32]⟩:ByteArray).size<=9223372036854775807:=by simp [rA]; omega
 have c3:((⟨#[111,112,101,110]⟩:ByteArray)++⟨#[32]⟩++(dA e.ty)++⟨#[32]⟩).size + ((M4 e.opn):ByteArray).size<=9223372036854775807:=by simp [rA]; omega
 clear l1 l2;simp [rA] at c1;simp [rA] at c2;simp [rA] at c3;unfold nC at h1 h2;refine mA eA rfl rfl ?_;simp [eA,-U,-y4,-J,y3,rA,lA,bA,AV.plain,AV.scal,TB,tB,dB,hk,h1,h2,c1,c2,c3]
 all_goals (apply WC; simp [cC])
theorem rfmt9 (hk:e.kind=9):nC 26 [.agg (TB e)] (.str ⟨(cC [32] [[117,115,101,115],(dA e.ty).data.toList,(dA e.key).data.toList,(dA e.elem).data.toList]).toArray⟩):=by
 have h1:=gA hr.ty;have l1:=iA hr.ty;have h2:=gA hr.ky;have l2:=iA hr.ky;have h3:=gA hr.el;have l3:=iA hr.el;have c1:((⟨#[117,115,101,115]⟩:ByteArray)++⟨#[32]⟩).size + ((dA e.ty):ByteArray).size<=9223372036854775807:=by simp [rA]; omega
 have c2:((⟨#[117,115,101,115]⟩:ByteArray)++⟨#[32]⟩++(dA e.ty)).size + (⟨#[32]⟩:ByteArray).size<=9223372036854775807:=by simp [rA]; omega
 have c3:((⟨#[117,115,101,115]⟩:ByteArray)++⟨#[32]⟩++(dA e.ty)++⟨#[32]⟩).size + ((dA e.key):ByteArray).size<=9223372036854775807:=by simp [rA]; omega
 have c4:((⟨#[117,115,101,115]⟩:ByteArray)++⟨#[32]⟩++(dA e.ty)++⟨#[32]⟩++(dA e.key)).size + (⟨#[32]⟩:ByteArray).size<=9223372036854775807:=by simp [rA]; omega
 have c5:((⟨#[117,115,101,115]⟩:ByteArray)++⟨#[32]⟩++(dA e.ty)++⟨#[32]⟩++(dA e.key)++⟨#[32]⟩).size + ((dA e.elem):ByteArray).size<=9223372036854775807:=by simp [rA]; omega
 clear l1 l2 l3;simp [rA] at c1;simp [rA] at c2;simp [rA] at c3;simp [rA] at c4;simp [rA] at c5;unfold nC at h1 h2 h3;refine mA eA rfl rfl ?_;simp [eA,-U,-y4,-J,y3,rA,lA,bA,AV.plain,AV.scal,TB,tB,dB,hk,h1,h2,h3,c1,c2,c3,c4,c5]
 all_goals (apply WC; simp [cC])
theorem rfmt0 (hk:e.kind<1\/9<e.kind):nC 26 [.agg (TB e)] (.str ⟨(cC [32] [[117,110,107,110,111,119,110],(dA e.ty).data.toList]).toArray⟩):=by
 have h1:=gA hr.ty;have l1:=iA hr.ty;have c1:((⟨#[117,110,107,110,111,119,110]⟩:ByteArray)++⟨#[32]⟩).size + ((dA e.ty):ByteArray).size<=9223372036854775807:=by simp [rA]; omega
 clear l1;simp [rA] at c1;unfold nC at h1;refine mA eA rfl rfl ?_;by_cases k0:e.kind<1
 ·have k1:¬ 9<e.kind:=by omega
  simp [eA,-U,-y4,-J,y3,rA,lA,bA,AV.plain,AV.scal,TB,tB,dB,k0,k1,h1,c1]
  all_goals (apply WC; simp [cC])
 ·have k1:9<e.kind:=by omega
  simp [eA,-U,-y4,-J,y3,rA,lA,bA,AV.plain,AV.scal,TB,tB,dB,k0,k1,h1,c1]
  all_goals (apply WC; simp [cC])
end
section
section
variable {α:Type} (f:α->Int)
def ascK (l:List α):Prop:=l.Pairwise fun a b=>f a<f b
variable {f}
end
def ZE.bare (t:ZE):ZE:={ t with sn:=false,mn:=false }
def ascT (t:ZE):Prop:=ascK uN.id t.mems/\ascK XX.id t.syms
def M6 (L:List ZE):List ZE:=L.map ZE.bare
end
def OutA (L:List TE) (v:qA):Prop:=(L=[]/\v=⟨.sl true [],.ex⟩)\/(L≠[]/\v.v=.sl false (L.map TB)/\∃ k,v.a=.own k 52)

def edsA (L:List TE):AV:=.sl L.isEmpty (L.map TB)
theorem OutA.val {L:List TE} {v:qA} (h:OutA L v):v.v=edsA L:=by
 rcases h with ⟨rfl,h⟩ | ⟨h0,h,_⟩
 ·rw [h]; rfl
 ·rw [h,edsA];cases L with
  | nil=>exact absurd rfl h0
  | cons=>rfl
def T7 (L:List TE) (s:tA):Prop:=(L=[]/\s.env 7=⟨.sl true [],.ex⟩)\/(L≠[]/\∃ d N,30<=d/\1<N/\N<s.next/\(s.env 7).v=.ref d N 25 0 L.length L.length/\s.mem d N=some (lA (L.map TB)))
theorem T7.of {L:List TE} {s s':tA} (h:T7 L s) (h7:s'.env 7=s.env 7) (hn:s.next<=s'.next) (hm:∀ d N,30<=d->N<s.next->s'.mem d N=s.mem d N):T7 L s':=by
 rcases h with ⟨h0,h⟩ | ⟨h0,d,N,h1,h2,h3,h4,h5⟩
 ·exact .inl ⟨h0,h7.trans h⟩
 ·exact .inr ⟨h0,d,N,h1,h2,Nat.lt_of_lt_of_le h3 hn,by rw [h7]; exact h4,(hm d N h1 h3).trans h5⟩



section
section
variable {z:Nat}
theorem TR:∀ {B:List (List qA)},(∀ b∈B,b.length=z)->∀ {i:Nat} {b:List qA},B[i]?=some b->(B.flatten.drop (i * z)).take z=b/\i * z + z<=B.flatten.length
 | [],_,i,b,h=>by cases h
 | c :: B,hB,i,b,h=>by
  have hc:=hB c (yh ..);cases i with
  | zero =>
   have:c=b:=by simpa using h
   subst this;rw [yi,Nat.zero_mul,yC,List.take_append_of_le_length (by omega),List.take_of_length_le (by omega)];exact ⟨rfl,by rw [y9]; omega⟩
  | succ i =>
   have h':B[i]?=some b:=by simpa using h
   obtain ⟨h1,h2⟩:=TR (fun b hb=>hB b (yr _ hb)) h';rw [yi,List.drop_append,List.drop_of_length_le (by rw [hc,Nat.add_mul]; omega),List.nil_append,hc,show (i + 1) * z - z=i * z from by rw [Nat.add_mul]; omega];exact ⟨h1,by rw [y9,Nat.add_mul]; omega⟩
end
def lO (t:ZE) (w:qA × qA):List qA:=[⟨.int .i64 t.kind,.no⟩,⟨.str t.name,.no⟩,⟨.int .i64 t.low,.no⟩,⟨.int .i64 t.high,.no⟩,⟨.int .i64 t.max,.no⟩,w.1,w.2,⟨.int .i64 t.key,.no⟩,⟨.int .i64 t.elem,.no⟩,⟨.bool t.opn,.no⟩]
def d1 (L:List ZE) (W:List (qA × qA)):List (List qA):=List.zipWith lO L W
def xP (L:List ZE) (W:List (qA × qA)):List qA:=(d1 L W).flatten
theorem jW (L:List ZE) (W:List (qA × qA)):∀ b∈d1 L W,b.length=10:=fun b hb=>by
 obtain ⟨i,hi,rfl⟩:=List.mem_iff_getElem.1 hb;simp [d1,lO]
def KS:List Nat:=[26,34,68,89,148,169]
def sD (mem:Nat->Nat->Option (List qA)) (nx:Nat) (x:qA) (z:Nat) (l:List (List AV)):Prop :=
 (l=[]/\∃ b,x=⟨.sl b [],.ex⟩)\/∃ t n,x=⟨.ref t n z 0 l.length l.length,.no⟩/\t∈KS/\n<nx/\mem t n=some (lA l)
def J8 (x:qA):List (Nat × Nat):=match x.v with
 | .ref t n _ _ _ _=>[(t,n)]
 | _=>[]
def nmW (w:qA × qA):List (Nat × Nat):=J8 w.1++J8 w.2
structure o1 (L:List ZE) (W:List (qA × qA)) (N0 nx:Nat) (V0:AV) (mem:Nat->Nat->Option (List qA)):Prop where
 len:W.length=L.length
 v0:(L=[]/\∃ b,V0=.sl b [])\/(L≠[]/\V0=.ref 9 N0 10 0 L.length L.length/\mem 9 N0=some (xP L W)/\N0<nx)
 cell:∀ (i:Nat) (t:ZE) (w:qA × qA),L[i]?=some t->W[i]?=some w->sD mem nx w.1 2 (t.syms.map dB)/\sD mem nx w.2 13 (t.mems.map tB)
 nd:(W.flatMap nmW).Nodup
def gS:AV->Bool
 | .ptr t _ _ | .ref t _ _ _ _ _ | .mp t _=>!KS.contains t
 | .agg _ | .tup _ | .fn ..=>false
 | _=>true
def d6:AV->Bool
 | .agg cs=>cs.all gS
 | v=>gS v
def okV:AV->Bool
 | .agg cs=>cs.all gS
 | .tup vs=>vs.all d6
 | .fn _ vs=>vs.all gS
 | v=>gS v
theorem cM {t n:Nat} (ht:t∈KS) {v:AV} (h:gS v=true):v.kill0 t n=v:=by
 have hn:∀ t',(!KS.contains t')=true->¬ (t'=t/\n=n):=fun t' h' e=>by
  rw [e.1] at h';simp [List.contains_iff_mem,ht] at h'
 cases v <;> simp only [gS] at h <;> simp only [AV.kill0]
 all_goals rw [if_neg]
 all_goals intro e; exact hn _ h ⟨e.1,rfl⟩
theorem QK {t n:Nat} (ht:t∈KS):∀ {l:List AV},l.all gS=true->l.map (AV.kill0 t n)=l
 | [],_=>rfl
 | v :: r,h=>by
  rw [List.all_cons,y7] at h;rw [yf,cM ht h.1,QK ht h.2]
theorem kX {t n:Nat} (ht:t∈KS) {v:AV} (h:d6 v=true):v.kill1 t n=v:=by
 cases v <;> simp only [d6] at h <;> simp only [AV.kill1]
 all_goals first | exact cM ht h | (rw [QK ht h])
theorem MO {t n:Nat} (ht:t∈KS):∀ {l:List AV},l.all d6=true->l.map (AV.kill1 t n)=l
 | [],_=>rfl
 | v :: r,h=>by
  rw [List.all_cons,y7] at h;rw [yf,kX ht h.1,MO ht h.2]
theorem jS {t n:Nat} (ht:t∈KS) {v:AV} (h:okV v=true):v.kill t n=v:=by
 cases v <;> simp only [okV] at h <;> simp only [AV.kill]
 all_goals first | exact cM ht h | (rw [QK ht h]) | (rw [MO ht h])
structure AQ (N0:Nat) (s0 s:tA):Prop where
 gh:∀ j,okV (s0.gh j).v=true->s.gh j=s0.gh j
 mem:∀ t n r,n<s0.next->t ∉ KS->¬ (t=9/\n=N0)->s0.mem t n=some r->(∀ x∈r,okV x.v=true)->s.mem t n=some r
 next:s0.next<=s.next
theorem AQ.set {N0:Nat} {s0:tA} {env:Nat->qA} {mem:Nat->Nat->Option (List qA)} {nx uf:Nat} {obj:Nat->Nat->Option AV} {gh:Nat->qA} (h:AQ N0 s0 ⟨env,mem,nx,obj,gh⟩) {t n:Nat} {r:List qA} (hn:s0.next<=n\/t∈KS\/(t=9/\n=N0)) (hx:nx<=uf) {env':Nat->qA}:AQ N0 s0 ⟨env',KP mem t n r,uf,obj,gh⟩ :=
 ⟨h.gh,fun t' n' r' hl hk h9 he hr=>by
  show KP mem t n r t' n'=_;rw [jO,if_neg (fun e=>by
   rw [e.1] at hk h9;rw [e.2] at hl h9;rcases hn with hn | hn | hn
   ·omega
   ·exact hk hn
   ·exact h9 hn)]
  exact h.mem t' n' r' hl hk h9 he hr,yp h.next hx⟩
theorem AQ.env {N0:Nat} {s0:tA} {env:Nat->qA} {mem:Nat->Nat->Option (List qA)} {nx uf:Nat} {obj:Nat->Nat->Option AV} {gh:Nat->qA} (h:AQ N0 s0 ⟨env,mem,nx,obj,gh⟩) (hx:nx<=uf) {env':Nat->qA}:AQ N0 s0 ⟨env',mem,uf,obj,gh⟩ :=
 ⟨h.gh,h.mem,yp h.next hx⟩
theorem AQ.kill {N0:Nat} {s0:tA} {env:Nat->qA} {mem:Nat->Nat->Option (List qA)} {nx uf:Nat} {obj:Nat->Nat->Option AV} {gh:Nat->qA} (h:AQ N0 s0 ⟨env,mem,nx,obj,gh⟩) {t n:Nat} (ht:t∈KS) (hx:nx<=uf) {env':Nat->qA}:AQ N0 s0 ⟨env',LO t n mem,uf,obj,JO t n gh⟩ :=
 ⟨fun j hl=>by
  show (gh j).kill t n=_;have e:gh j=s0.gh j:=h.gh j hl;rw [e];show (⟨(s0.gh j).v.kill t n,(s0.gh j).a⟩:qA)=s0.gh j;rw [jS ht hl],fun t' n' r' hl hk h9 he hr=>by
  show LO t n mem t' n'=_;rw [lL,if_neg (fun e:t'=t/\n'=n=>hk (e.1 ▸ ht))];have hm:mem t' n'=some r':=h.mem t' n' r' hl hk h9 he hr;rw [hm];have:r'.map (qA.kill t n)=r'.map id:=yo fun x hx=>by
   show (⟨x.v.kill t n,x.a⟩:qA)=x;rw [jS ht (hr x hx)]
  rw [List.map_id] at this;exact congrArg some this,yp h.next hx⟩
theorem AQ.trans {N0:Nat} {s0 s1 s2:tA} (h1:AQ N0 s0 s1) (h2:AQ N0 s1 s2):AQ N0 s0 s2 :=
 ⟨fun j h=>by rw [h2.gh j (by rw [h1.gh j h]; exact h),h1.gh j h],fun t n r hl hk h9 hm hr=>h2.mem t n r (Nat.lt_of_lt_of_le hl h1.next) hk h9 (h1.mem t n r hl hk h9 hm hr) hr,yp h1.next h2.next⟩
end
theorem sD.up {mem kj:Nat->Nat->Option (List qA)} {nx uf:Nat} {x:qA} {z:Nat} {l:List (List AV)} (h:sD mem nx x z l) (hm:∀ t n,t∈KS->n<nx->kj t n=mem t n) (hx:nx<=uf):sD kj uf x z l:=by
 rcases h with h | ⟨t,n,h1,h2,h3,h4⟩
 ·exact .inl h
 ·exact .inr ⟨t,n,h1,h2,by omega,by rw [hm t n h2 h3]; exact h4⟩
theorem ZY (l:List XX):xH (l.map dB)=true:=nN _ _ fun _=>rfl
theorem LY (l:List uN):xH (l.map tB)=true:=nN _ _ fun _=>rfl
def T8 (P:List uN) (s:tA):Prop:=(P=[]/\(s.env 7).v=.sl true [])\/∃ N,P≠[]/\(s.env 7).v=.ref 41 N 13 0 P.length P.length/\s.mem 41 N=some (lA (P.map tB))/\N<s.next
theorem T8.of {P:List uN} {s s':tA} (h:T8 P s) (h7:(s'.env 7).v=(s.env 7).v) (hm:s'.mem=s.mem) (hn:s.next<=s'.next):T8 P s':=by
 rcases h with ⟨h1,h2⟩ | ⟨N,h1,h2,h3,h4⟩
 ·exact .inl ⟨h1,h7.trans h2⟩
 ·exact .inr ⟨N,h1,h7.trans h2,by rw [hm]; exact h3,Nat.lt_of_lt_of_le h4 hn⟩
structure Plm (k:Nat) (N0 n3 n5:Nat) (z:Int) (l:List uN) (s:tA):Prop where
 m5:∃ a,s.mem 5 n5=some [⟨.ptr 9 N0 (k * 10),a⟩]
 m9:∃ R tn nn,s.mem 9 N0=some R/\(l≠[]->R[k * 10 + 6]?=some ⟨.ref tn nn 13 0 l.length l.length,.no⟩/\s.mem tn nn=some (lA (l.map tB)))
 m3:∃ R,s.mem 3 n3=some R/\R[4]?=some ⟨.int .i64 z,.no⟩
theorem Plm.of {k N0 n3 n5:Nat} {z:Int} {l:List uN} {s s':tA} (h:Plm k N0 n3 n5 z l s) (hm:s'.mem=s.mem):Plm k N0 n3 n5 z l s':=⟨by rw [hm]; exact h.m5,by rw [hm]; exact h.m9,by rw [hm]; exact h.m3⟩
structure Pls (k:Nat) (N0 n3 n5:Nat) (z:Int) (l:List XX) (s:tA):Prop where
 m5:∃ a,s.mem 5 n5=some [⟨.ptr 9 N0 (k * 10),a⟩]
 m9:∃ R tn nn,s.mem 9 N0=some R/\(l≠[]->R[k * 10 + 5]?=some ⟨.ref tn nn 2 0 l.length l.length,.no⟩/\s.mem tn nn=some (lA (l.map dB)))
 m3:∃ R,s.mem 3 n3=some R/\R[17]?=some ⟨.int .i64 z,.no⟩
theorem Pls.of {k N0 n3 n5:Nat} {z:Int} {l:List XX} {s s':tA} (h:Pls k N0 n3 n5 z l s) (hm:s'.mem=s.mem):Pls k N0 n3 n5 z l s':=⟨by rw [hm]; exact h.m5,by rw [hm]; exact h.m9,by rw [hm]; exact h.m3⟩

structure RaI (t:ZE) (e:TE) (R2 R3:List qA) (s:tA):Prop where
 e2:(s.env 2).v=.ptr 2 1 0
 e3:(s.env 3).v=.ptr 3 1 0
 m2:s.mem 2 1=some R2
 m3:s.mem 3 1=some R3
 t0:R2[0]?=some ⟨.int .i64 t.kind,.no⟩
 tt:bC true 10 0 R2=some ⟨.agg (dH t),.no⟩
 d0:R3[0]?=some ⟨.int .i64 e.kind,.no⟩
 d2:R3[2]?=some ⟨.int .i64 e.id,.no⟩
 d4:R3[4]?=some ⟨.int .i64 e.mem.id,.no⟩
theorem RaI.of {t:ZE} {e:TE} {R2 R3:List qA} {s s':tA} (h:RaI t e R2 R3 s) (h2:(s'.env 2).v=(s.env 2).v) (h3:(s'.env 3).v=(s.env 3).v) (hm:s'.mem=s.mem):RaI t e R2 R3 s' :=
 ⟨h2.trans h.e2,h3.trans h.e3,by rw [hm]; exact h.m2,by rw [hm]; exact h.m3,h.t0,h.tt,h.d0,h.d2,h.d4⟩
def P9 (P:List XX) (s:tA):Prop:=(P=[]/\(s.env 7).v=.sl true [])\/∃ N,P≠[]/\(s.env 7).v=.ref 41 N 2 0 P.length P.length/\s.mem 41 N=some (lA (P.map dB))/\N<s.next
theorem P9.of {P:List XX} {s s':tA} (h:P9 P s) (h7:(s'.env 7).v=(s.env 7).v) (hm:s'.mem=s.mem) (hn:s.next<=s'.next):P9 P s':=by
 rcases h with ⟨h1,h2⟩ | ⟨N,h1,h2,h3,h4⟩
 ·exact .inl ⟨h1,h7.trans h2⟩
 ·exact .inr ⟨N,h1,h7.trans h2,by rw [hm]; exact h3,Nat.lt_of_lt_of_le h4 hn⟩


structure KX (MP:uN->Prop) (n:Nat) (B:List ZE):Prop where
 asc:∀ t∈B,ascT t
 len:∀ t∈B,t.mems.length<=n/\t.syms.length<=n
 mem:∀ t∈B,∀ m∈t.mems,MP m
theorem KX.up {MP:uN->Prop} {n n':Nat} {B:List ZE} (h:KX MP n B) (hn:n<=n'):KX MP n' B :=
 ⟨h.asc,fun t ht=>by have:=h.len t ht; omega,h.mem⟩
theorem KX.un {MP:uN->Prop} {n:Nat} {L:List ZE} (h:KX MP n (M6 L)):KX MP n L :=
 ⟨fun t ht=>h.asc t.bare (List.mem_map_of_mem ht),fun t ht=>h.len t.bare (List.mem_map_of_mem ht),fun t ht=>h.mem t.bare (List.mem_map_of_mem ht)⟩
theorem KX.bare {MP:uN->Prop} {n:Nat} {L:List ZE} (h:KX MP n L):KX MP n (M6 L):=by
 refine ⟨fun u hu=>?_,fun u hu=>?_,fun u hu=>?_⟩
 all_goals obtain ⟨t,ht,rfl⟩:=List.mem_map.1 hu
 ·exact h.asc t ht
 ·exact h.len t ht
 ·exact h.mem t ht
theorem sD.nm {mem:Nat->Nat->Option (List qA)} {nx:Nat} {x:qA} {z:Nat} {l:List (List AV)} (h:sD mem nx x z l):∀ p∈J8 x,p.1∈KS/\p.2<nx:=by
 intro p hp;rcases h with ⟨_,b,rfl⟩ | ⟨t,n,rfl,h1,h2,_⟩
 ·simp [J8] at hp
 ·simp [J8] at hp;subst hp;exact ⟨h1,h2⟩
theorem o1.nm {L:List ZE} {W:List (qA × qA)} {N0 nx:Nat} {V0:AV} {mem:Nat->Nat->Option (List qA)} (h:o1 L W N0 nx V0 mem) {j:Nat} {w:qA × qA} (hw:W[j]?=some w):∀ p∈nmW w,p.1∈KS/\p.2<nx:=by
 intro p hp;obtain ⟨t,ht⟩:∃ t,L[j]?=some t:=⟨_,yn (by have:=(yk.1 hw).1; have:=h.len; omega)⟩;obtain ⟨c1,c2⟩:=h.cell j t w ht hw;rcases List.mem_append.1 hp with hp | hp
 ·exact c1.nm p hp
 ·exact c2.nm p hp
def killW (t n:Nat) (w:qA × qA):qA × qA:=(w.1.kill t n,w.2.kill t n)
theorem sD.kill {mem:Nat->Nat->Option (List qA)} {nx:Nat} {x:qA} {z:Nat} {l:List (List AV)} (h:sD mem nx x z l) {t n:Nat} (hn:(t,n) ∉ J8 x):x.kill t n=x:=by
 rcases h with ⟨_,b,rfl⟩ | ⟨t',n',rfl,_,_,_⟩
 ·rfl
 ·simp only [J8,List.mem_singleton,Prod.mk.injEq] at hn;simp only [qA.kill,AV.kill,AV.kill0];rw [if_neg (fun e=>hn ⟨e.1.symm,e.2.symm⟩)]
theorem sD.frz {mem:Nat->Nat->Option (List qA)} {nx:Nat} {x:qA} {z:Nat} {l:List (List AV)} (h:sD mem nx x z l) (he:UA z l=true) (hf:xH l=true):∃ (b:Bool) (tn nn:Nat),(l≠[]->tn∈KS)/\(l≠[]->nn<nx)/\(b=true->l=[])/\∀ s:tA,(tn∈KS->nn<nx->s.mem tn nn=mem tn nn)->AV.frz0 s x.v=.sl b l:=by
 rcases h with ⟨rfl,b,rfl⟩ | ⟨t,n,rfl,h1,h2,h3⟩
 ·exact ⟨b,0,0,fun h=>absurd rfl h,fun h=>absurd rfl h,fun _=>rfl,fun s _=>rfl⟩
 ·refine ⟨false,t,n,fun _=>h1,fun _=>h2,fun h=>(by cases h),fun s hs=>?_⟩;simp only [AV.frz0];rw [hs h1 h2,h3,U,nQ he hf]
theorem o1.up {L:List ZE} {W:List (qA × qA)} {N0 nx uf:Nat} {V0:AV} {mem:Nat->Nat->Option (List qA)} (h:o1 L W N0 nx V0 mem) (hx:nx<=uf):o1 L W N0 uf V0 mem :=
 ⟨h.len,h.v0.imp_right fun ⟨h1,h2,h3,h4⟩=>⟨h1,h2,h3,by omega⟩,fun i t w ht hw=>let ⟨c1,c2⟩:=h.cell i t w ht hw; ⟨c1.up (fun _ _ _ _=>rfl) hx,c2.up (fun _ _ _ _=>rfl) hx⟩,h.nd⟩
section
variable {N0:Nat} {s0:tA} {env:Nat->qA} {mem:Nat->Nat->Option (List qA)} {nx uf:Nat} {obj:Nat->Nat->Option AV} {gh:Nat->qA} (h:AQ N0 s0 ⟨env,mem,nx,obj,gh⟩)
include N0 s0 env mem nx uf obj gh h
theorem AQ.fresh {row N:Nat} {r R:List qA} (h1:row∈KS) (hx:nx<=uf) {env':Nat->qA} {dq:Nat->Nat->Option AV}:AQ N0 s0 ⟨env',KP (KP mem row N r) 9 N0 R,uf,dq,gh⟩ :=
 have q:=(h.set (env':=env) (n:=N) (r:=r) (.inr (.inl h1)) (y6 _)).set (env':=env') (r:=R) (.inr (.inr ⟨rfl,rfl⟩)) hx
 ⟨q.gh,q.mem,q.next⟩
theorem AQ.swap {row N tm nm:Nat} {r R:List qA} (h0:tm∈KS) (h1:row∈KS) (hx:nx<=uf) {env':Nat->qA} {dq:Nat->Nat->Option AV}:AQ N0 s0 ⟨env',KP (KP (LO tm nm mem) row N r) 9 N0 R,uf,dq,JO tm nm gh⟩ :=
 have q:=((h.kill (env':=env) (n:=nm) h0 (y6 _)).set (env':=env) (n:=N) (r:=r) (.inr (.inl h1)) (y6 _)).set (env':=env') (r:=R) (.inr (.inr ⟨rfl,rfl⟩)) hx
 ⟨q.gh,q.mem,q.next⟩
end

theorem o1.mono {L:List ZE} {W:List (qA × qA)} {N0 nx uf:Nat} {V0:AV} {mem kj:Nat->Nat->Option (List qA)} (h:o1 L W N0 nx V0 mem) (h9:kj 9 N0=mem 9 N0) (hm:∀ t n,t∈KS->n<nx->kj t n=mem t n) (hx:nx<=uf):o1 L W N0 uf V0 kj :=
 ⟨h.len,h.v0.imp_right fun ⟨h1,h2,h3,h4⟩=>⟨h1,h2,by rw [h9]; exact h3,by omega⟩,fun i t w ht hw=>let ⟨c1,c2⟩:=h.cell i t w ht hw; ⟨c1.up hm hx,c2.up hm hx⟩,h.nd⟩

def a6 (x:qA):Bool:=match x.v with
 | .sl b _=>b
 | _=>false
def frzT (t:ZE) (w:qA × qA):ZE:={ t with sn:=a6 w.1,mn:=a6 w.2 }
def p5 (L:List ZE) (W:List (qA × qA)):List ZE:=List.zipWith frzT L W
theorem sD.frz1 {mem:Nat->Nat->Option (List qA)} {nx:Nat} {x:qA} {z:Nat} {l:List (List AV)} (h:sD mem nx x z l) (he:UA z l=true) (hf:xH l=true) {s:tA} (hs:s.mem=mem):AV.frz1 s x.v=.sl (a6 x) l:=by
 rcases h with ⟨rfl,b,rfl⟩ | ⟨t,n,rfl,h1,h2,h3⟩
 ·rfl
 ·simp only [AV.frz1,a6,hs,h3,U,nQ he hf]
theorem OW {mem:Nat->Nat->Option (List qA)} {nx:Nat} {t:ZE} {w:qA × qA} (c5:sD mem nx w.1 2 (t.syms.map dB)) (c6:sD mem nx w.2 13 (t.mems.map tB)) {s:tA} (hs:s.mem=mem):((lO t w).map (·.v)).map (AV.frz1 s)=dH (frzT t w):=by
 have h5:=c5.frz1 (C4 _) (ZY _) hs;have h6:=c6.frz1 (X4 _) (LY _) hs;simp only [lO,yf,List.map_nil,h5,h6];rfl
theorem W9 {L:List ZE} {W:List (qA × qA)} (hl:W.length=L.length):SF (xP L W) 10 0 L.length=some ((d1 L W).map fun b=>b.map (·.v)):=by
 have im:(d1 L W).length=L.length:=by unfold d1; rw [List.length_zipWith]; omega
 have da:(xP L W).length=L.length * 10:=by
  have:∀ (B:List (List qA)),(∀ b∈B,b.length=10)->B.flatten.length=B.length * 10:=by
   intro B
   induction B with
   | nil=>intro _; rfl
   | cons b B ih=>intro h; rw [yi,y9,h b (yh ..),ih fun c hc=>h c (yr _ hc),yz]; omega
  unfold xP;rw [this _ (jW L W),im]
 unfold SF;rw [if_pos (by omega)];congr 1;refine List.ext_getElem? fun i=>?_
 rw [yl,yl];by_cases hi:i<L.length
 ·obtain ⟨b,hb⟩:∃ b,(d1 L W)[i]?=some b:=⟨_,yn (by omega)⟩;rw [List.getElem?_range hi,hb];simp only [yd,yb];rw [show xP L W=(d1 L W).flatten from rfl,(TR (jW L W) hb).1]
 ·rw [List.getElem?_eq_none (by simpa using hi),List.getElem?_eq_none (by omega)];rfl
theorem XY {s:tA} {v:AV} (h:v.free0=true):AV.frz1 s v=v:=by
 cases v <;> first | rfl | (simp [AV.free0] at h)
theorem o1.frz {L:List ZE} {W:List (qA × qA)} {N0 nx:Nat} {V0:AV} {mem:Nat->Nat->Option (List qA)} (h:o1 L W N0 nx V0 mem):∃ b:Bool,∀ s:tA,s.mem=mem->AV.frz0 s V0=.sl b ((p5 L W).map dH):=by
 rcases h.v0 with ⟨h1,b,h2⟩ | ⟨h1,h2,h3,h4⟩
 ·refine ⟨b,fun s _=>?_⟩;subst h1;rw [h2];rfl
 ·refine ⟨false,fun s hs=>?_⟩;have bj:=W9 h.len;have hB:((d1 L W).map fun b=>b.map (·.v)).map (fun c=>c.map (AV.frz1 s))=(p5 L W).map dH:=by
   refine List.ext_getElem? fun i=>?_
   rw [yl,yl,yl];unfold d1 p5;rw [List.getElem?_zipWith,List.getElem?_zipWith];cases ht:L[i]? with
   | none=>rfl
   | some t =>
    cases hw:W[i]? with
    | none=>rfl
    | some w =>
     obtain ⟨c5,c6⟩:=h.cell i t w ht hw;simp only [yd];rw [OW c5 c6 hs]
  have rc:(((p5 L W).map dH).flatten.all AV.free0)=true:=by
   rw [y5];intro v hv;obtain ⟨c,hc,hvc⟩:=List.mem_flatten.1 hv;obtain ⟨t,_,rfl⟩:=List.mem_map.1 hc;have:(dH t).all AV.free0=true:=rfl;exact y5.1 this v hvc
  rw [h2];simp only [AV.frz0,hs,h3,U];cases fo:bA (xP L W) 10 0 L.length with
  | some l =>
   simp only;unfold bA at fo;split at fo
   ·rename_i hc;injection fo with fo;unfold SF at bj;rw [if_pos hc.1] at bj;injection bj with bj;rw [<- fo,bj,<- hB];congr 1;rw [J];refine yo fun b hb=>?_
    simp only [Function.comp];have:(b.map (·.v)).map (AV.frz1 s)=(b.map (·.v)).map id:=yo fun v hv=>by
     obtain ⟨x,hx,rfl⟩:=List.mem_map.1 hv;have ry:x∈xP L W:=List.mem_flatten.2 ⟨b,hb,hx⟩;exact XY (y5.1 hc.2 x ry)
    rw [this,List.map_id]
   ·cases fo
  | none =>
   simp only;unfold gO;rw [bj,U,hB,if_pos rc]

def nT (m:uN):ZE:=⟨0,⟨#[]⟩,0,0,0,true,[],false,[m],0,0,false⟩
def QP (e:TE):Bool:=q5 ⟨false,[nT e.mem]⟩&&!decide (100<IntKind.i64.wrap ((e.name.size:Int) + e.sym.name.size))
def tQ (l:List TE):Bool:=!decide (20<l.length)&&l.all QP
theorem Z4 {rv:RV} {nl:Bool} {l:List TE} (hl:l.length<=20) (sa:∀ e∈l,e.mem.ok) (s:tA) (e0:(s.env 0).v=.sl nl (l.map TB)) (e3:(s.env 3).v=.int .i64 0) (k:Ex->tA->Option RV)
  (hk:∀ s':tA,l.all QP=true->k (.exit 0) s'=some rv) (hr:∀ s':tA,l.all QP=false->(s'.env 2).v=.bool false->k .ret s'=some rv):cR RA kC GB s k=some rv:=by
 refine QJ l.length (fun i s=>(s.env 0).v=.sl nl (l.map TB)/\(s.env 3).v=.int .i64 i/\(l.drop i).all QP=l.all QP)
  (fun e s=>(e=.exit 0/\l.all QP=true)\/(e=.ret/\l.all QP=false/\(s.env 2).v=.bool false)) (fun i hi s k h ih hk=>?_) _ _ ⟨e0,e3,rfl⟩ (fun e s h=>?_)
 ·obtain ⟨e0,e3,hs⟩:=h;have ru:(l.map TB).length=l.length:=yv _;refine zB ?_;by_cases eb:i<l.length
  ·have fc:(i:Int)<l.length:=by omega
   have hw:=RQ (i:=i);have g1:(l.map TB)[i]?=some (TB l[i]):=by rw [yl,yn eb]; rfl
   have hm:=sa _ (List.getElem_mem eb);have ih':=ih eb;rw [yI eb,List.all_cons] at hs;generalize l[i]=x at *
   have hx:=e8 ⟨false,[nT x.mem]⟩ ⟨by simp,fun t ht=>by simp at ht; subst ht; exact ⟨by simp [nT],by simp [nT],fun m pc=>by simp [nT] at pc; subst pc; exact hm⟩⟩;generalize hF:q5 ⟨false,[nT x.mem]⟩=F at *
   simp only [N4,A6,yf,List.map_nil,dH,nT,tB] at hx;simp only [TB,tB,dB,List.cons_append,List.nil_append] at g1;have cq:QP x=(F&&!decide (100<IntKind.i64.wrap ((x.name.size:Int) + x.sym.name.size))):=by unfold QP; rw [hF]
   cases F with
   | false =>
    rw [cq,Bool.false_and,Bool.false_and] at hs;simp [GB,-U,-y4,-J,y3,e0,e3,fc,hw,ru,g1,hx];exact hk _ _ (.inr ⟨rfl,hs.symm,by simp⟩)
   | true =>
    by_cases zl:100<IntKind.i64.wrap ((x.name.size:Int) + x.sym.name.size)
    ·rw [cq,decide_eq_true zl,Bool.true_and,Bool.not_true,Bool.false_and] at hs;simp [GB,-U,-y4,-J,y3,e0,e3,fc,hw,ru,g1,hx,zl];exact hk _ _ (.inr ⟨rfl,hs.symm,by simp⟩)
    ·rw [cq,decide_eq_false zl,Bool.true_and,Bool.not_false,Bool.true_and] at hs;simp [GB,-U,-y4,-J,y3,e0,e3,fc,hw,ru,g1,hx,zl];refine ih' _ ⟨?_,?_,hs⟩
     all_goals simp [e0]
  ·have fc:¬ (i:Int)<l.length:=by omega
   rw [yD (by omega),List.all_nil] at hs;simp [GB,-U,-y4,-J,y3,e0,e3,fc,ru];exact hk _ _ (.inl ⟨rfl,hs.symm⟩)
 ·rcases h with ⟨rfl,h⟩ | ⟨rfl,h1,h2⟩
  ·exact hk _ h
  ·exact hr _ h1 h2
theorem L4 (nl:Bool) (l:List TE) (hl:l.length<=9223372036854775807) (sa:∀ e∈l,e.mem.ok):N4 13 [.sl nl (l.map TB)] (.bool (tQ l)):=by
 refine GQ (c:=bE) rfl rfl ?_;have h1:(l.map TB).length=l.length:=yv _;unfold tQ;by_cases h:20<l.length
 ·have h':(20:Int)<l.length:=by omega
  generalize l.map TB=ma at *
  simp [bE,-U,-y4,-J,y3,h1,h,h']
 ·have h':¬ (20:Int)<l.length:=by omega
  have q:=fun s=>Z4 (rv:=(.bool (tQ l),none)) (nl:=nl) (l:=l) (by omega) sa s
  have hf:tQ l=l.all QP:=by unfold tQ; simp [h]
  rw [hf] at q;generalize hma:l.map TB=ma at *
  simp [bE,-U,-y4,-J,y3,h1,h,h'];refine q _ (by simp) (by simp) _ (fun s' h=>?_) (fun s' h e2=>?_)
  ·simp [-U,-y4,-J,y3,h,-y5]
  ·simp [-U,-y4,-J,y3,h,e2,-y5]
theorem KX.nil {MP:uN->Prop} {n:Nat}:KX MP n []:=⟨fun _ h=>by simp at h,fun _ h=>by simp at h,fun _ h=>by simp at h⟩
theorem o5 (e:TE) (hr:RI e):∃ x,nC 25 [.agg (TB e)] (.str x)/\nC 26 [.agg (TB e)] (.str x):=by
 by_cases h1:e.kind=1
 ·cases hc:e.mem.crit <;> cases hd:e.mem.has
  ·exact ⟨_,pfmt1 e hr h1 hc hd,rfmt1 e hr h1 hc hd⟩
  ·exact ⟨_,d9 e hr h1 hc hd,T9 e hr h1 hc hd⟩
  ·exact ⟨_,s9 e hr h1 hc hd,R9 e hr h1 hc hd⟩
  ·exact ⟨_,b6 e hr h1 hc hd,T6 e hr h1 hc hd⟩
 by_cases h3:e.kind=3
 ·cases hc:e.mem.crit <;> cases hd:e.mem.has
  ·exact ⟨_,pfmt3 e hr h3 hc hd,rfmt3 e hr h3 hc hd⟩
  ·exact ⟨_,g9 e hr h3 hc hd,I9 e hr h3 hc hd⟩
  ·exact ⟨_,f9 e hr h3 hc hd,U9 e hr h3 hc hd⟩
  ·exact ⟨_,m6 e hr h3 hc hd,U6 e hr h3 hc hd⟩
 by_cases h2:e.kind=2
 ·exact ⟨_,pfmt2 e hr h2,rfmt2 e hr h2⟩
 by_cases h4:e.kind=4
 ·exact ⟨_,pfmt4 e hr h4,rfmt4 e hr h4⟩
 by_cases h5:e.kind=5
 ·exact ⟨_,pfmt5 e hr h5,rfmt5 e hr h5⟩
 by_cases h6:e.kind=6
 ·exact ⟨_,pfmt6 e hr h6,rfmt6 e hr h6⟩
 by_cases h7:e.kind=7
 ·exact ⟨_,pfmt7 e hr h7,rfmt7 e hr h7⟩
 by_cases h8:e.kind=8
 ·exact ⟨_,pfmt8 e hr h8,rfmt8 e hr h8⟩
 by_cases h9:e.kind=9
 ·exact ⟨_,pfmt9 e hr h9,rfmt9 e hr h9⟩
 ·exact ⟨_,pfmt0 e hr (fun k k0 k1=>by omega),rfmt0 e hr (by omega)⟩
theorem ON (e:TE) (hr:RI e) (hm:e.mem.ok):nC 7 [.agg (TB e)] (.bool true):=by
 have jz:=ev_F LS;have hf:=ev_F (ev_W (L4 false [e] (by simp) fun x hx=>by rw [List.mem_singleton.1 hx]; exact hm));obtain ⟨x,h1,h2⟩:=o5 e hr;simp only [nC,yf,List.map_nil] at jz hf h1 h2;refine mA PB rfl rfl ?_;simp [TB,tB,dB] at hf h1 h2;generalize tQ [e]=z at *
 cases z <;> simp [PB,-U,-y4,-J,y3,TB,tB,dB,jz,hf,h1,h2]


section
open Go Go.RowKit Go.ChangeShapes Go.WideShapes
theorem BL {H:Type} {P:Program} {m:Nat}:∀ {ts us:List TypeId} {ds gs:List (DataW H)},m∈DataW.weightsEach P ts ds->ts.length=ds.length->m∈DataW.weightsEach P (ts++us) (ds++gs)
 | [],_,[],_,h,_=>by simp [DataW.weightsEach] at h
 | [],_,_ :: _,_,_,h=>by simp at h
 | _ :: _,_,[],_,_,h=>by simp at h
 | t :: ts,us,d :: ds,gs,h,hl=>by
  simp only [DataW.weightsEach,List.mem_append,List.cons_append] at h ⊢;rcases h with h | h
  ·exact .inl h
  ·exact .inr (BL h (by simpa using hl))
theorem jT {α:Type} {P:List AV->Prop} {f:α->List AV} {p:α->Prop} (h:∀ x,P x->∃ o,x=f o/\p o):∀ els:List (List AV),(∀ x∈els,P x)->∃ L:List α,els=L.map f/\∀ o∈L,p o
 | [],_=>⟨[],rfl,fun _ h=>by cases h⟩
 | x :: r,hx=>by
  obtain ⟨L,h1,h2⟩:=jT h r fun y hy=>hx y (yr _ hy)
  obtain ⟨o,h3,h4⟩:=h x (hx x yh);refine ⟨o :: L,by rw [h1,h3]; rfl,fun y hy=>?_⟩;rcases List.mem_cons.1 hy with rfl | hy
  ·exact h4
  ·exact h2 y hy
theorem E9:reachBytes=140737488351232:=rfl
def schTs:List TypeId:=[24,22,68,65,50,66,48,46,43,44,102,3,2,4,9]
theorem NY {n:Int} (h:(Lit.int .i64 n).wf=true):qH n:=by
 simp only [Lit.wf,y7,decide_eq_true_eq] at h;have h1:IntKind.i64.min=-9223372036854775808:=rfl;have h2:IntKind.i64.max=9223372036854775807:=rfl;exact ⟨by omega,by omega⟩
section
variable {n:Nat} {a:List AV}
include n a
theorem zI (h:SE Tryz.prog n 3 a):∃ x,a=[.int .i64 x]/\qH x:=by
 cases n with
 | zero=>exact h.elim
 | succ n =>
  simp only [SE,Tryz.underlying3] at h;obtain ⟨x,rfl,hx⟩:=h;exact ⟨x,rfl,NY hx⟩
theorem zR (h:SE Tryz.prog n 2 a):∃ x,a=[.int .i64 x]/\qH x:=by
 cases n with
 | zero=>exact h.elim
 | succ n =>
  simp only [SE,Tryz.underlying2] at h;obtain ⟨x,rfl,hx⟩:=h;exact ⟨x,rfl,NY hx⟩
theorem kW (h:SE Tryz.prog n 4 a):∃ x,a=[.bool x]:=by
 cases n with
 | zero=>exact h.elim
 | succ n =>
  simp only [SE,Tryz.underlying4] at h;exact h
theorem n7 (h:SE Tryz.prog n 9 a):∃ x,a=[.str x]/\x.size<=9223372036854775807:=by
 cases n with
 | zero=>exact h.elim
 | succ n =>
  simp only [SE,Tryz.underlying9] at h;obtain ⟨x,rfl,hx,_⟩:=h;exact ⟨x,rfl,hx⟩
theorem tyRaw (h:SE Tryz.prog n 102 a):∃ r:B9,a=pR r/\True:=by
 cases n with
 | zero=>exact h.elim
 | succ n =>
  simp only [SE,Tryz.underlying102,II] at h;obtain ⟨_,_,rfl,_,h1,_,_,rfl,_,h2,rfl⟩:=h;obtain ⟨x1,rfl,_⟩:=zI h1;obtain ⟨x2,rfl,_⟩:=n7 h2;exact ⟨⟨x1,x2⟩,rfl,trivial⟩
end
theorem lY:Tryz.prog.bytesOf 102=24:=by kernel_rfl
theorem zY:Tryz.prog.bytesOf 46=120:=by kernel_rfl
theorem K9 {n:Nat} {a:List AV} (h:SE Tryz.prog n 44 a):∃ nl,∃ l:List B9,a=[AV.sl nl (l.map pR)]/\l.length * 24<=reachBytes/\(nl=true->l=[]):=by
 cases n with
 | zero=>exact h.elim
 | succ n =>
  simp only [SE,Tryz.underlying44,lY] at h;obtain ⟨nl,els,rfl,_,h2,h3,h4⟩:=h;obtain ⟨L,rfl,_⟩:=jT (P:=fun x=>SE Tryz.prog n 102 x) (fun x hx=>tyRaw hx) els (fun x hx=>(h4 x hx).2);exact ⟨nl,L,rfl,by simpa using h2,fun e=>by simpa using h3 e⟩
theorem m7:∀ (n:Nat) {a:List AV},SE Tryz.prog n 46 a->∃ v:Vl,a=AH v/\v.ok/\v.lay
 | 0,_,h=>h.elim
 | n + 1,a,h=>by
  simp only [SE,Tryz.underlying46,II] at h;obtain ⟨_,_,rfl,_,h1,_,_,rfl,_,h2,_,_,rfl,_,h3,_,_,rfl,_,h4,_,_,rfl,_,h5,_,_,rfl,_,h6,_,_,rfl,_,h7,_,_,rfl,_,h8,rfl⟩:=h;obtain ⟨x1,rfl,_⟩:=zI h1;obtain ⟨x2,rfl⟩:=kW h2;obtain ⟨x3,rfl,u3⟩:=zR h3;obtain ⟨x4,rfl,u4⟩:=n7 h4;obtain ⟨x5,rfl,_⟩:=zI h5;obtain ⟨rn,rs,rfl,lr,nr⟩:=K9 h8;have vals:∀ {a:List AV},SE Tryz.prog n 43 a->∃ nl,∃ l:List Vl,a=[.sl nl (l.map AH)]/\l.length * 120<=reachBytes/\(nl=true->l=[])/\∀ v∈l,v.ok/\v.lay:=fun {a} h=>by
   cases n with
   | zero=>exact h.elim
   | succ m =>
    simp only [SE,Tryz.underlying43,zY] at h;obtain ⟨nl,els,rfl,_,h2,h3,h4⟩:=h;obtain ⟨L,rfl,hL⟩:=jT (P:=fun x=>SE Tryz.prog m 46 x) (fun x hx=>m7 m hx) els (fun x hx=>(h4 x hx).2);exact ⟨nl,L,rfl,by simpa using h2,(fun e=>by simpa using h3 e),hL⟩
  obtain ⟨kn,ks,rfl,lk,nk,hk⟩:=vals h6;obtain ⟨xn,xs,rfl,lx,nx,hx⟩:=vals h7;have hr:=E9;rw [hr] at lk lx lr;refine ⟨.mk x1 x2 x3 x4 x5 kn ks xn xs rn rs,?_,?_,?_⟩
  ·rw [WE]; rfl
  ·rw [Vl.ok_def];exact ⟨(by show ks.length<=_; omega),(by show xs.length<=_; omega),(by show rs.length<=_; omega),u4,fun v hv=>(hk v hv).1,fun v hv=>(hx v hv).1⟩
  ·rw [Vl.lay_def];exact ⟨nk,nx,nr,lk,lx,lr,fun v hv=>(hk v hv).2,fun v hv=>(hx v hv).2⟩
end
section
open Go Go.RowKit Go.ChangeShapes Go.WideShapes
def UY:List TypeId:=25 :: 52 :: schTs
theorem MS:UY.all (MI Tryz.prog UY)=true:=by kernel_rfl
end
section
open Go Go.RowKit Go.ChangeShapes Go.WideShapes
theorem DT {n:Nat} {a:List AV} (h:SE Tryz.prog n 9 a):∃ x,a=[.str x]/\x.size<=9223372036854775807/\x.size<=140737488351232:=by
 cases n with
 | zero=>exact h.elim
 | succ n =>
  simp only [SE,Tryz.underlying9] at h;exact h
theorem L9 {n:Nat} {a:List AV} (h:SE Tryz.prog n 50 a):∃ r:XX,a=dB r/\qH r.id/\r.name.size<=140737488351232:=by
 cases n with
 | zero=>exact h.elim
 | succ n =>
  simp only [SE,Tryz.underlying50,II] at h;obtain ⟨_,_,rfl,_,h1,_,_,rfl,_,h2,rfl⟩:=h;obtain ⟨x1,rfl,u1⟩:=zI h1;obtain ⟨x2,rfl,_,u2⟩:=DT h2;exact ⟨⟨x1,x2⟩,rfl,u1,u2⟩
theorem J9 {n:Nat} {a:List AV} (h:SE Tryz.prog n 48 a):∃ m:uN,a=tB m/\m.ok/\qH m.id/\qH m.ty/\m.name.size<=140737488351232:=by
 cases n with
 | zero=>exact h.elim
 | succ n =>
  simp only [SE,Tryz.underlying48,II] at h;obtain ⟨_,_,rfl,_,h1,_,_,rfl,_,h2,_,_,rfl,_,h3,_,_,rfl,_,h4,_,_,rfl,_,h5,_,_,rfl,_,h6,rfl⟩:=h;obtain ⟨x1,rfl,u1⟩:=zI h1;obtain ⟨x2,rfl,u2,v2⟩:=DT h2;obtain ⟨x3,rfl,u3⟩:=zI h3;obtain ⟨x4,rfl⟩:=kW h4;obtain ⟨x5,rfl⟩:=kW h5;obtain ⟨v,rfl,h6,_⟩:=m7 _ h6;exact ⟨⟨x1,x2,x3,x4,x5,v⟩,by simp [tB,WE],⟨h6,u2⟩,u1,u3,v2⟩
theorem N7 {a:AV} (h:E1 Tryz.prog 52 a):∃ e:TE,a=.agg (TB e)/\RI e/\e.mem.ok:=by
 obtain ⟨n,⟨_,c,rfl,h⟩ | ⟨hw,_⟩⟩:=h
 ·cases n with
  | zero=>exact h.elim
  | succ n =>
   simp only [SE,Tryz.underlying52,II] at h;obtain ⟨_,_,rfl,_,h1,_,_,rfl,_,h2,_,_,rfl,_,h3,_,_,rfl,_,h4,_,_,rfl,_,h5,_,_,rfl,_,h6,_,_,rfl,_,h7,_,_,rfl,_,h8,_,_,rfl,_,h9,_,_,rfl,_,ov,_,_,rfl,_,sv,_,_,rfl,_,h12,rfl⟩:=h;obtain ⟨x1,rfl,_⟩:=zI h1;obtain ⟨x2,rfl,u2⟩:=zI h2;obtain ⟨x3,rfl,u3⟩:=zI h3;obtain ⟨x4,rfl,_,u4⟩:=DT h4;obtain ⟨m,rfl,hm,m1,m2,m3⟩:=J9 h5;obtain ⟨y,rfl,y1,y2⟩:=L9 h6;obtain ⟨x7,rfl,u7⟩:=zR h7;obtain ⟨x8,rfl,u8⟩:=zR h8;obtain ⟨x9,rfl,u9⟩:=zI h9;obtain ⟨x10,rfl⟩:=kW ov;obtain ⟨x11,rfl,u11⟩:=zI sv;obtain ⟨x12,rfl,u12⟩:=zI h12;exact ⟨⟨x1,x2,x3,x4,m,y,x7,x8,x9,x10,x11,x12⟩,rfl,⟨u2,u3,m1,m2,y1,u7,u8,u9,u11,u12,u4,m3,y2⟩,hm⟩
 ·have dh:nG Tryz.prog 52=true:=by kernel_rfl
  rw [dh] at hw;cases hw
set_option maxRecDepth 100000 in
theorem O0 {W:World} (h:laidMetH Tryz.prog Rows.evolveFormatRow.laid W):QQ W:=by
 have g0:(Tryz.prog).globalNamed "internal/strconv.uint64pow10"=some 0:=by kernel_rfl
 have ty:((Tryz.prog).globals[0]?).map (·.type)=some 204:=by kernel_rfl
 have e:(Rows.laid_internal_strconv_uint64pow10:DataW Unit)=Lib.tabData .u64 Lib.pow10Tab:=by kernel_rfl
 have hl:Rows.evolveFormatRow.laid=[("math/bits.deBruijn32tab",Rows.laid_math_bits_deBruijn32tab),("math/bits.deBruijn64tab",Rows.laid_math_bits_deBruijn64tab),("internal/strconv.uint64pow10",Rows.laid_internal_strconv_uint64pow10)]:=rfl;rw [MakeChecks.laidMetH_plain _ _ _ (by kernel_rfl),hl,e] at h;obtain ⟨ps,h,_⟩:=h;obtain ⟨_,_,_,_,_,_,_,_,_,_,h,_⟩:=h;obtain ⟨_,_,_,_,_,_,_,_,_,_,h,_⟩:=h;obtain ⟨g',t',cs,fuel,p,q,hg',ao,jy,hd,_,_⟩:=h;obtain rfl:=Option.some.inj (g0.symm.trans hg');obtain rfl:=Option.some.inj (ty.symm.trans ao);unfold QQ Lib.TabIs;rw [jy,<- Lib.cells_of_tab Tryz.underlying204 Tryz.underlying179 (by kernel_rfl) (by kernel_rfl) hd]
end
section
open Go Go.RowKit Go.ChangeShapes Go.WideShapes Go.ChangeAt
set_option maxRecDepth 100000 in
theorem pL (os:Os) (args:Array Value):laidMetH Tryz.prog Rows.evolveFormatRow.laid ((World.doorLaid Tryz.prog 4000 os).forCall (fun _ _=>0) ⟨#[],args,[]⟩).memory :=
 laidMetH_of_parts3 (fuel:=80) (laidMet_of_run' 80 (by kernel_rfl) (by kernel_rfl)) (by kernel_rfl) (by kernel_rfl)
set_option maxRecDepth 100000 in
theorem IJ (os:Os) (started:os.Started) (H:Type) (enc:TypeId × Value->H) :
  ReturnsInHanded {} Tryz.checked os 7 .any (fun w args=>(Rows.evolveFormatSpec.pre enc Tryz.prog Tryz.f7 Rows.evolveFormatRow.domain false w args/\laidMetH Tryz.prog Rows.evolveFormatRow.laid w)/\sizedMet enc Tryz.prog Tryz.f7 (OpenSpec.ofChange Rows.evolveFormatSpec) false w args) (Rows.evolveFormatSpec.post enc Tryz.prog Tryz.f7 false true false false):=by
 refine returnsInHanded_of_change_and (C:=Tryz.checked) (X:=fun w _=>laidMetH Tryz.prog Rows.evolveFormatRow.laid w) (fun _ _ _ hh h=>h.of_heap hh) own started (by kernel_rfl) Tryz.func7
  (ChangeSpec.witness_shaped (enc:=enc) (C:=Tryz.checked) (os:=os) (X:=fun w _=>laidMetH Tryz.prog Rows.evolveFormatRow.laid w) false (World.doorLaid Tryz.prog 4000 os) #[.agg #[.int .i64 0,.int .i64 0,.int .i64 0,.string ⟨#[]⟩,.int .i64 0,.string ⟨#[]⟩,.int .i64 0,.bool false,.bool false,.int .i64 0,.bool false,.int .i64 0,.string ⟨#[]⟩,.int .i64 0,.slice none 0 0,.slice none 0 0,.slice none 0 0,.int .i64 0,.string ⟨#[]⟩,.int .i64 0,.int .i64 0,.int .i64 0,.bool false,.int .i64 0,.int .i64 0]] 8 rfl (World.shaped_of_RefB (by kernel_rfl) (by kernel_rfl)) (by kernel_rfl) (by kernel_rfl) (by kernel_rfl) (pL os _)) ?_
 intro W base args ds gs before xt hW jm rb hL _;have wt:∀ (j:Nat) t v,Tryz.f7.params[j]?=some t->args[j]?=some v->Value.okWide Tryz.prog W .any base t v:=xt;have hW':=hW;obtain ⟨p,q,pg,hV,rfl,hfz,xr⟩:=hW;have hA:DataW.TrodAll enc Tryz.prog W 0 (fun _=>true) true Tryz.f7.params.toList args.toList ds p:=pg;rw [Tryz.params7] at hA wt;have io:DataW.TrodAll enc Tryz.prog W 0 (fun _=>true) true [52] args.toList ds p:=hA;have hd:∃ d0,ds=[d0]:=by
  obtain ⟨_,_,d0,_,_,_,_,rfl,_,_,r0⟩:=trodAll_cons io;obtain ⟨_,rfl,_⟩:=trodAll_nil r0;exact ⟨d0,rfl⟩
 obtain ⟨d0,rfl⟩:=hd;obtain ⟨xs,hx,ld⟩:=CX (T:=UY) MS io (fun j t v e e'=>wt j t v (by simpa using e) (by simpa using e')) (fun m hm=>of_decide_eq_true (y5.1 rb m (BL hm rfl))) (by kernel_rfl);simp only [FX] at ld;obtain ⟨a0,_,rfl,t0,rfl⟩:=ld;obtain ⟨e1,rfl,xx,hm1⟩:=N7 t0;obtain ⟨rfl,rfl⟩:=trodVars_none hV;have fr:=ON e1 xx hm1;have hC:=(DY P8 T1 (u5 (O0 hL)) fr).2 bW W args.toList ⟨⟨Below.refl _ _,fun _ h=>h.elim⟩,fun _ _ h=>h.elim⟩ hx;rw [yE] at hC;refine hC.mono fun e W' ⟨v,he,hv,hb⟩=>?_
 have rt:v=.bool true:=hv;subst he;subst rt;exact ⟨_,rfl,GP (pa:=p) (pv:=[]) hW' (fun _ _ _=>trodAll_cons_mk (shut_bool Tryz.underlying4 _) trodAll_mk0) (NP X5 hb io (by kernel_rfl)) rfl hb⟩
theorem PN:aZ Tryz.pinned.checked.prog 7 Tryz.f7 Rows.evolveFormatSpec Rows.evolveFormatRow=true:=by kernel_rfl
theorem AN:sZ Tryz.pinned.checked.prog 7 Tryz.f7 Rows.evolveFormatSpec Rows.evolveFormatRow=true:=by kernel_rfl
theorem SN:dZ Tryz.pinned.checked.prog 7 Tryz.f7 Rows.evolveFormatSpec Rows.evolveFormatRow=true:=by kernel_rfl
theorem DN:fZ Tryz.pinned.checked.prog 7 Tryz.f7 Rows.evolveFormatSpec Rows.evolveFormatRow=true:=by kernel_rfl
theorem FN:gZ Tryz.pinned.checked.prog 7 Tryz.f7 Rows.evolveFormatSpec Rows.evolveFormatRow=true:=by kernel_rfl
theorem GN:jZ Tryz.pinned.checked.prog 7 Tryz.f7 Rows.evolveFormatSpec Rows.evolveFormatRow=true:=by kernel_rfl
theorem JN:kZ Tryz.pinned.checked.prog 7 Tryz.f7 Rows.evolveFormatSpec Rows.evolveFormatRow=true:=by kernel_rfl
theorem zK:Rows.EvolveFormatSaid :=
 OpenClaim.holds_of_wide 7 Tryz.f7 rfl rfl rfl rfl rfl rfl rfl ⟨rfl,rfl,rfl,rfl,rfl⟩ rfl rfl rfl rfl rfl (by kernel_rfl) Tryz.func7 (tX PN AN SN DN FN GN JN)
  (of_decide_eq_true (by kernel_rfl)) (by unfold Func.isWrapper; first | (rw [if_pos (by decide +kernel)]; kernel_rfl) | (rw [if_neg (by decide +kernel)]; exact ⟨rfl,rfl⟩))
  (fun os started H enc _=>IJ os started H enc)
end
end Go.Proofs.YtbhbeakhognieaaGreatDoor
